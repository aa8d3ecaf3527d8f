/-
  Steps to: VolumesRefused No condition.
-/
import Derived.Test.YtkblhjdljaoghaaGreatDoorSome1
set_option maxRecDepth 100000
set_option linter.unusedSimpArgs false
set_option linter.unusedVariables false
open Go.Proofs.Tryz
namespace Go.Proofs.YtkblhjdljaoghaaGreatDoor
open Go.RowKit
variable{n m i j e g r:Nat}{t s p q:Int}{V:List Value}{B S:List UInt8}{T:TypeId}{L:List (Nat×Value)}{v u y:Value}{z:World}{l:List Int}{R:List Nat}{N:Act->World->Prop}{b c:Bool}{x:Operand}{o:List Oper}{K:Value->World->Prop}{C:Nat->Nat}{P:Program}{F:Nat->Bool}{a:Act}
variable{Γ:List Ai}{h:Hp}{A:Ai}
variable{D:Dsk}
section
section
variable{P:Program}{C:World->Prop}{o:Oper}{a:Act}{w z:World}{Γ:List Ai}{n:Nat}{ds:List Deferred}{L:List (Nat×Value)}{v:Value}{x y:Operand}{xt yt:TypeId}{f:FuncId}{args:List Operand}{vs:List Value}{tys:Array TypeId}
theorem P8{d:World}(h:Fr n ds L a)(g:o.op=.call {callee:=.value (.func f),args:=args.toArray,argTypes:=tys})(b:evs L args=some vs)(c:(callFunc f vs.toArray).run P w=.ok (.value v) d):(execOp a.eval o).run P w=.ok (.value v) d:=by
 unfold execOp;have e:=h.evs b;simp only[g,resolve,Act.eval,Deferred.ofValue,invoke];simp only[go_sem,AeZ,e,AeT,AeY,c];simpa using c
theorem Hb(e:o.op=.call {callee:=.value (.func f),args:=args.toArray,argTypes:=tys})(b:evs L args=some vs)(c:∀w,C w->(callFunc f vs.toArray).run P w=.ok (.value v) w):Av P C n ds L o v:=λa g w d=>P8 g e b (c w d)
theorem Rt(i:Nat){b p:Nat}{cs:List Value}{ty:TypeId}{u u0:Value}(H:Sep z Γ w)(hi:Γ[i]?=some (blk b cs ty))(hp:cs[p]?=some u0)(k:o.op=.call {callee:=.value (.func f),args:=args.toArray,argTypes:=tys})(c:evs L args=some vs)(m:u.oneCell'=true)
  (h:w.cell? ⟨b,p,none⟩=some u0->w.frozen? ⟨b,p,none⟩=false->(callFunc f vs.toArray).run P w=.ok (.value v) (w.setCell ⟨b,p,none⟩ u)){out:List Value}(d:cs.set p u=out):CA P n ds L o w (λv' w'=>v'=v/\Sep z (Γ.set i (blk b out ty)) w'):=λa j=>by
 have e:=H.blk i hi;refine ⟨v,_,P8 j k c (h (e.cel p hp) (e.free p)),Z,?_⟩;subst d;have g:w.heap[b]?=some (.cells cs.toArray ty (0,0)):=e;refine H.write i hi Z Z Z ?_ (λq hq=>?_)
 ·simp only[World.setCell]
  rw[AgE,if_pos Z,g];simp
 simp[World.setCell,AgE,AfV hq]
def NU(P:Program)(s d:TypeId):Bool:=match P.underlying s,P.underlying d with
 | some (.pointer t),some .unsafePointer=>(match P.info? t with|some i=> !(decide (i.size=0))|none=>false)
 | _,_=>false
theorem NV(g:o.op=.convert xt T x)(b:NU P xt T=true)(h:ev L x=some (.pointer (some ⟨m,j,none⟩)))(d:∀w,C w->FG m j u w):Av P C n ds L o (.pointer (some ⟨m,j,none⟩)):=λa f w e=>by
 unfold NU at b;split at b
 ·rename_i t hs k
  split at b
  ·rename_i i hi
   have c:(P.info? t).map (λi=>decide (i.size=0))=some false:=by rw[hi];simpa using b
   have:=run_convert_to_unsafe (P:=P) hs k c (d w e);simp only[execOp,g,f.ev h,Aex,this,Aet,AeC]
  cases b
 cases b
end

def Xr(P:Program)(f:FuncId)(args:List Value)(pre:List Ai)(post:Value->List Ai->Prop):Prop:=
 ∀z R u w,Sep z (pre++R) w->CallsD P f args.toArray u w (λe u' w'=>u'=u/\Ret (λv w'=>∃Γ',post v Γ'/\Sep z (Γ'++R) w') e w')
theorem NW{P:Program}{f:FuncId}{b:Func}{c:Code}{args:List Value}{u:FrameMode}{w:World}(o:P.funcs[f]?=some b)(k:b.body=some c)(n:Nat)(m:b.ntmps=n)(d:Nat.ble args.length n=true)
  (h:∀a,Fr n [] (first 0 args) a->c.wp P (Qp (Gh P b K) IJ (Gh P b K)) a w):CallsD P f args.toArray u w (λe u' w'=>u'=u/\Ret K e w'):=by
 refine callsD_of_wp o k (wp_mono (h _ (by rw[m];exact Fr.start args n (by simpa using d))) λe a w q=>?_)
 cases e with
 | normal=>obtain ⟨j,v,i,g⟩:=q;exact ⟨j,v,i,g⟩
 | ret=>obtain ⟨j,v,i,g⟩:=q;exact ⟨j,v,i,g⟩
 | exit id=>exact q.elim
 | goto l=>exact q.elim
 | panic ch=>exact q.elim
 | outgrown=>exact q.elim
def Jp(P:Program)(fn:Func)(R:Value->World->Prop)(a:Act)(w:World):Prop:=Leaves P fn a.tmps (Ret R) a.defers .returning w
theorem SU{P:Program}{f:FuncId}{b:Func}{c:Code}{args:List Value}{w:World}(j:P.funcs[f]?=some b)(g:b.body=some c)(n:Nat)(i:b.ntmps=n)(d:Nat.ble args.length n=true)
  (h:∀a,Fr n [] (first 0 args) a->c.wp P (Qp (Jp P b K) IJ (Jp P b K)) a w):Calls P f args.toArray w (Ret K):=by
 refine calls_of_wp_defers j g (wp_mono (h _ (by rw[i];exact Fr.start args n (by simpa using d))) λe a w q=>?_)
 cases e with
 | normal=>exact q
 | ret=>exact q
 | exit id=>exact q.elim
 | goto l=>exact q.elim
 | panic ch=>exact q.elim
 | outgrown=>exact q.elim
def dfr(f:FuncId)(vs:List Value):Deferred:= {target:=.fn (.func f) #[],args:=vs.toArray}
theorem GN{P:Program}{g:Func}{a:Array Value}{Rr:Ending->World->Prop}{ds:List Deferred}{z w:World}{Γ pre R':List Ai}{post:Value->List Ai->Prop}{f:FuncId}{vs:List Value}(h:∀w,(callFunc f vs.toArray).run P w=.ok (.enter f vs.toArray) w)
  (l:Xr P f vs pre post)(H:Sep z Γ w)(k:Nat)(c:List Nat)(d:Gj k c=true)(e:DJ Γ c++Γ.drop k=pre++R')(K:∀v b Γ',post v Γ'->Sep z (Γ'++R') b->Leaves P g a Rr ds .returning b):Leaves P g a Rr (dfr f vs::ds) .returning w:=by
 refine leaves_cons (f:=f) (args:=vs.toArray) O (by simp[invoke,go_sem,h]) ?_;refine CallsD.mono (l z R' .returning w (H.perm k c d e)) λe m b q=>?_;obtain ⟨rfl,q⟩:=q
 cases e with
 | returned v=>obtain ⟨Γ',i,j⟩:=q;exact K v b Γ' i j
 | panicked ch=>exact q.elim
 | outgrown=>exact q.elim
theorem Ac6{P:Program}{b:Func}{a:Array Value}{w:World}(c:b.results= #[])(h:K (.tuple #[]) w):Leaves P b a (Ret K) [] .returning w:=⟨.tuple #[],by simp[results,c,go_sem],h⟩
section
variable{P:Program}{ops:List Oper}{Q:Exit->Act->World->Prop}{w:World}{rest:List Oper}{o:Oper}{n:Nat}{ds:List Deferred}{L:List (Nat×Value)}{f:FuncId}{args:List Operand}{vs:List Value}{tys:Array TypeId}
theorem LR(g:BN ops L o.guard=true)(i:o.dst=none)(h:o.op=.defer {callee:=.value (.func f),args:=args.toArray,argTypes:=tys})(b:evs L args=some vs)
  (K:∀a',Fr n (dfr f vs::ds) L a'->wpList P ops.toArray Q rest a' w):∀a,Fr n ds L a->wpList P ops.toArray Q (o::rest) a w:=by
 intro a d;unfold wpList;rw[if_pos (wantL_ok d g)];left;have e:=d.evs b;have c:(execOp a.eval o).run P w=.ok (.defer (dfr f vs)) w:=by
  unfold execOp;simp only[h,resolve,Act.eval,Deferred.ofValue,AeZ,e];simp[go_sem,dfr]
 unfold Oper.wp;rw[c,Oper.upon_defer,i];exact K _ ⟨d.size,by show dfr f vs::a.defers=_;rw[d.defers],d.get⟩
theorem X3{z:World}{Γ pre R':List Ai}{post:Value->List Ai->Prop}{d:Nat}{x:Operand}{bs:List Value}(hw:BN ops L o.guard=true)(r:o.dst=some d)(j:Nat.blt d n=true)(t:o.op=.call {callee:=.value x,args:=args.toArray,argTypes:=tys})(y:ev L x=some (.func (.func f) bs.toArray #[]))(b:evs L args=some vs)(u:∀w,(callFunc f (bs++vs).toArray).run P w=.ok (.enter f (bs++vs).toArray) w)
  (hc:Cn P f (bs++vs) pre post)(H:Sep z Γ w)(k:Nat)(l:List Nat)(m:Gj k l=true)(e:DJ Γ l++Γ.drop k=pre++R')
  (K:∀v i Γ',post v Γ'->Sep z (Γ'++R') i->∀a',Fr n ds ((d,v)::L) a'->wpList P ops.toArray Q rest a' i):∀a,Fr n ds L a->wpList P ops.toArray Q (o::rest) a w:=by
 intro a h;unfold wpList;rw[if_pos (wantL_ok h hw)];left;have e1:=h.evs b;have e2:=h.ev y;have g:(execOp a.eval o).run P w=.ok (.enter f (bs++vs).toArray) w:=by
  unfold execOp;simp only[t,resolve,e2,Deferred.ofValue,invoke];simp only[go_sem,AeZ,e1,AeY];simpa using u w
 unfold Oper.wp;rw[g,AgP];exact Agx (hc.at H k l m e) λe i q=>by
  cases e with
  | returned v=>obtain ⟨Γ',p,s⟩:=q;simp only[r];exact K v i Γ' p s _ (h.put d v j)
  | panicked c=>exact q.elim
  | outgrown=>exact q.elim
end
end
section
section
variable{P:Program}{C:World->Prop}{o:Oper}{w z:World}{Γ:List Ai}{n:Nat}{ds:List Deferred}{L:List (Nat×Value)}{x y:Operand}
theorem DK{e:TypeId}{l:List IE}{zv:Value}(t:o.op=.lookup T x y true)(z:EP P T=some e)(c:(P.info? e).bind (·.zero)=some zv)(k:ev L x=some (.map (some m)))(v:ev L y=some (I s))
  (p:∀w,C w->w.heap[m]?=some (.map (l.map Cw).toArray j)):Av P C n ds L o (.tuple #[(CQ l s).getD zv,.bool (CR l s)]):=λa g w r=>by
 obtain ⟨kt,ik,h,f⟩:=D5 z;have d:(zeroValue e).run P w=.ok zv w:=by
  cases hi:P.info? e with
  | none=>rw[hi] at c;cases c
  | some i=>rw[hi] at c;simp[zeroValue,typeInfo,hi,show i.zero=some zv from c,go_sem]
 have u:(getObj m).run P w=.ok (.map (l.map Cw).toArray j) w:=by simp[getObj,Sem.run,p w r]
 have b:=Jj l s 0;simp only[execOp,t,g.ev k,g.ev v,Instr.lookup,Aex,run_underlying h,Aet,u,AeC,Eo f,Af2,EQ f]
 cases hf:fnd l s 0 with
 | none=>rw[hf] at b;simp[d,CR,<-b,Aex,AeC]
 | some q=>rw[hf] at b;simp[CR,<-b,AeC]
theorem Ru{e:TypeId}{zv:Value}(j:o.op=.lookup T x y true)(m:EP P T=some e)(c:(P.info? e).bind (·.zero)=some zv)(k:ev L x=some (.map none))(l:ev L y=some (I s)):Av P C n ds L o (.tuple #[zv,.bool false]):=λa f w p=>by
 obtain ⟨r,q,h,g⟩:=D5 m;have d:(zeroValue e).run P w=.ok zv w:=by
  cases hi:P.info? e with
  | none=>rw[hi] at c;cases c
  | some i=>rw[hi] at c;simp[zeroValue,typeInfo,hi,show i.zero=some zv from c,go_sem]
 have b:=EQ (P:=P) g [] s w;simp only[AfB,fnd] at b;simp only[execOp,j,f.ev k,f.ev l,Instr.lookup,Aex,run_underlying h,Aet,AeC,Eo g,b];simp[d,Aex,AeC]
theorem NX{t e:TypeId}{m clk:Nat}{l:List IE}(f:o.op=.call {callee:=.builtin .len,args:= #[x],argTypes:= #[t]})(i:EP P t=some e)(g:ev L x=some (.map (some m)))(h:∀w,C w->w.heap[m]?=some (.map (l.map Cw).toArray clk)):Av P C n ds L o (I l.length):=λa d w c=>by
 obtain ⟨p,j,b,k⟩:=D5 i;simp only[execOp,f,d.ev g,resolve,AeZ,AeM,AfB];simp[invoke,builtin,Builtin.len_,run_underlying b,goInt,go_sem,getObj,Sem.run,h w c]
theorem E7{k:IntKind}(q:o.op=.index T x y)(f:Jk P T=some m)(l:ev L x=some (.agg V.toArray))(v:V.length=m)(r:ev L y=some (.int k s))(c:s=j)(g:V[j]?=some u):Av P C n ds L o u:=λa h w _=>by
 obtain ⟨e,z,f,hi,p,t⟩:=KD f;subst c;have hj:j<V.length:=(Aee.1 g).1;have i:(0:Int)<=(j:Int)/\(j:Int)<(m:Int):=by omega
 have b:(part e V.toArray (j*1)).run P w=.ok u w:=by
  simp only[part,Aex,FN t,Aet,if_false,Afu,AeS,Afh,g,AeC]
 have d:(sizeOf e).run P w=.ok 1 w:=by simp[sizeOf,typeInfo,hi,p,go_sem]
 simp only[execOp,q,h.ev l,h.ev r,Instr.index,asIntOf,Aex,AeC,Aet,run_underlying f,if_pos i,Ae7,d,b]
theorem GO{c:Code}{R:Act->World->Prop}{X:Nat->Act->World->Prop}(m:Nat)(h:∀a,Fr n ds L a->Code.rounds P c (Qp N X R) m a w):∀a,Fr n ds L a->(Code.loop c).wp P (Qp N X R) a w:=λa b=>wp_loop_rounds m (h a b)
theorem X4{c:Code}{R:Act->World->Prop}{X:Nat->Act->World->Prop}(h:∀a,Fr n ds L a->c.wp P (Qp (λa w=>Code.rounds P c (Qp N X R) m a w) X R) a w):∀a,Fr n ds L a->Code.rounds P c (Qp N X R) (m+1) a w:=λa b=>by
 rw[rounds_succ];refine wp_mono (h a b) λe a w q=>?_;cases e<;>exact q
theorem DG{c:Code}{R:Act->World->Prop}{X:Nat->Act->World->Prop}(h:∀a,Fr n ds L a->BT P (λa w=>Code.rounds P c (Qp N X R) m a w) X R (.c c .fin) a w):∀a,Fr n ds L a->Code.rounds P c (Qp N X R) (m+1) a w:=X4 h
end
theorem Rv{P:Program}{b:Func}{n:Nat}{ds:List Deferred}{L:List (Nat×Value)}{w:World}(d:Fr n ds L a){rs:List ResultVar}(e:b.results=rs.toArray)(vs:List Value)(c:EO P L w rs vs)(f:G6 vs=v)(h:K v w):Leaves P b a.tmps (Ret K) [] .returning w:=⟨v,by rw[<-f];exact Hr d e c,h⟩
end
def BP(F:Nat->Bool):List Value:=(List.range 16).map λk=>u64 (bw F k)
theorem BA(F:Nat->Bool):(BP F).length=16:=by simp[BP]
theorem wsV_at(F:Nat->Bool)(a:n<16):(BP F)[n]?=some (u64 (bw F n)):=by simp[BP,a]
theorem wsV_one(F:Nat->Bool):∀u∈BP F,u.oneCell'=true:=λu h=>by
 simp only[BP,Aen] at h;obtain ⟨k,_,rfl⟩:=h;rfl
def Cz(n:Nat)(F D S:Nat->Bool):List Value:=.int .i64 n::(BP F++(BP D++(BP S++BP λ_=>false)))
abbrev alB(pa n:Nat)(F D S:Nat->Bool):Ai:=blk pa (Cz n F D S) 122
def BZ:Nat->Bool:=λ_=>false
theorem Ac7{D S:Nat->Bool}:(Cz n F D S)[0]?=some (I n):=rfl
theorem Nn{D S:Nat->Bool}(a:m<16):(Cz n F D S)[1+m]?=some (u64 (bw F m)):=by
 unfold Cz;rw[AgU,AeB,Aep (by rw[BA];exact a),wsV_at _ a]
theorem Xs{D S:Nat->Bool}(a:m<16):(Cz n F D S)[17+m]?=some (u64 (bw D m)):=by
 unfold Cz;rw[show 17+m=(16+m)+1 by omega,AeB,Aev (by rw[BA];omega),BA,show 16+m-16=m by omega,Aep (by rw[BA];exact a),wsV_at _ a]
theorem SV{c:Nat->Bool}{x:BitVec 64}(d:n<16)(h:∀j,j<16->(if n=j then x else bw F j)=bw c j):(BP F).take n++[u64 x]++(BP F).drop (n+1)=BP c:=by
 have f:=BA F;have e:=Afd (l:=BP F) (i:=n) (a:=u64 x);rw[if_pos U] at e;rw[Aek,List.singleton_append,<-e];refine Afs λj=>?_;rw[Afq];rcases Aeu j 16 with b|b
 ·rw[wsV_at c b,<-h j b]
  split
  ·rw[if_pos U]
  rw[wsV_at F b]
 rw[if_neg U,AeL U,AeL (by rw[BA];omega)]
theorem NY(a:Value)(l:List Value)(k:Nat)(u:Value):(a::l).take (1+k)++[u]++(a::l).drop (1+k+1)=a::(l.take k++[u]++l.drop (k+1)):=by
 rw[AgU 1 k];simp
theorem NZ{m:List Value}(a:n<V.length):(V++m).take n++[u]++(V++m).drop (n+1)=(V.take n++[u]++V.drop (n+1))++m:=by
 rw[Aew U,AeW U];simp
theorem UR(l m:List Value)(k:Nat)(u:Value):(l++m).take (l.length+k)++[u]++(l++m).drop (l.length+k+1)=l++(m.take k++[u]++m.drop (k+1)):=by
 rw[Ag1,Ae9,Aem U,AeN U];rw[show l.length+k-l.length=k by omega,show l.length+k+1-l.length=k+1 by omega];simp
theorem J7{b:Nat->Bool}{D S:Nat->Bool}{x:BitVec 64}(a:m<16)(h:∀j,j<16->(if m=j then x else bw F j)=bw b j):(Cz n F D S).take (1+m)++[u64 x]++(Cz n F D S).drop (1+m+1)=Cz n b D S:=by
 unfold Cz;rw[NY,NZ (by rw[BA];exact a),SV a h]
theorem N1{D D':Nat->Bool}{S:Nat->Bool}{x:BitVec 64}(a:m<16)(h:∀j,j<16->(if m=j then x else bw D j)=bw D' j):(Cz n F D S).take (17+m)++[u64 x]++(Cz n F D S).drop (17+m+1)=Cz n F D' S:=by
 have e:=UR (BP F) (BP D++(BP S++BP λ_=>false)) m (u64 x);rw[BA] at e;unfold Cz;rw[show 17+m=1+(16+m) by omega,NY,e,NZ (by rw[BA];exact a),SV a h]
theorem ED(n:Nat)(F D S:Nat->Bool):(Cz n F D S).length=65:=by simp[Cz,BA]
theorem Qb{D S:Nat->Bool}:BP F++BP D=((Cz n F D S).drop 1).take 32:=by
 have a:=BA F;have b:=BA D;unfold Cz;rw[List.drop_one,List.tail_cons,<-Aek,AeI (by simp[a,b])]
theorem X5{D S:Nat->Bool}:BP S++BP BZ=((Cz n F D S).drop 33).take 32:=by
 have a:=BA F;have b:=BA D;unfold Cz;rw[show (33:Nat)=32+1 from Z,Ae6,<-Aek (BP F),AfU (by simp[a,b]),Aem (by simp[BA])];rfl
theorem KP{S:Nat->Bool}:(Cz n F BZ S).take 33++(BP F++BP BZ)++(Cz n F BZ S).drop (33+(BP F++BP BZ).length)=Cz n F BZ F:=by
 have a:=BA F;have b:=BA BZ;have e:(Cz n F BZ S).drop (33+(BP F++BP BZ).length)=[]:=AeN (by simp[ED,a,b]);rw[e,AeY];unfold Cz;rw[show (33:Nat)=32+1 from Z,Ae8,<-Aek (BP F) (BP BZ) (BP S++_),AeI (by simp[BA])];simp only[AfD,Aek];rfl
theorem US{D S:Nat->Bool}:(Cz n F D S).take 1++(BP S++BP BZ)++(Cz n F D S).drop (1+(BP S++BP BZ).length)=Cz n S BZ S:=by
 have a:=BA F;have b:=BA D;have d:=BA S;have c:=BA BZ;rw[show 1+(BP S++BP BZ).length=32+1 by simp[d,c]];unfold Cz;rw[Ae6,<-Aek (BP F) (BP D),AfU (by simp[a,b])];simp only[Ae8,AfH,AfD,AeT,Aek]
theorem J8(h:∀u∈V,u.oneCell'=true):∀u∈V++BP F,u.oneCell'=true:=λu a=>by
 rcases Aes.1 a with q|q
 ·exact h u q
 exact wsV_one F u q
theorem bit_of(F:Nat->Bool)(p:Nat):(decide ((bw F (p/64))>>>(p%64)&&&1#64=1#64))=F p:=by
 rw[AaU];cases F p<;>simp
theorem Abd{w:World}(i:Nat)(H:Sep z Γ w)(a:Γ[i]?=some A)(h:∀h,A h->celH h n m v):FG n m v w:=H.cell i a h
def Gl(F:Nat->Bool)(p:Nat):Nat->Bool:=λq=>F q||decide (q=p)
def Dx(F:Nat->Bool)(p:Nat):Nat->Bool:=λq=>F q && !decide (q=p)
theorem X6(F:Nat->Bool)(p j:Nat):(if p/64=j then bw F (p/64)&&& ~~~Ei (p%64) else bw F j)=bw (Dx F p) j:=by
 rw[show Dx F p=λq=>F q && !decide (q=p) from Z,<-AaT];split
 ·rename_i e;rw[e]
 rfl
theorem Qc(F:Nat->Bool)(p j:Nat):(if p/64=j then bw F (p/64)|||Ei (p%64) else bw F j)=bw (Gl F p) j:=by
 rw[show Gl F p=λq=>F q||decide (q=p) from rfl,<-AaS];split
 ·rename_i e;rw[e]
 rfl
def Di(F G:Nat->Bool):Nat->Bool:=λq=>F q||G q
def EK(F G:Nat->Bool)(k:Nat):Nat->Bool:=λq=>if q<64*k then G q else F q
theorem Jq(F G:Nat->Bool)(k j:Nat):bw (EK F G k) j=if j<k then bw G j else bw F j:=by
 symm;refine KE λi hi=>?_;unfold EK;split
 ·rw[if_pos U,DV _ _ _ hi]
 rw[if_neg U,DV _ _ _ hi]
theorem Qd(F G:Nat->Bool)(k:Nat):∀j,j<16->(if k=j then bw G k else bw (EK F G k) j)=bw (EK F G (k+1)) j:=λj _=>by
 rw[Jq,Jq];split
 ·rename_i e;subst e;rw[if_pos U]
 by_cases h:j<k
 ·rw[if_pos h,if_pos U]
 rw[if_neg h,if_neg U]
theorem Qe(F G:Nat->Bool):EK F G 0=F:=by funext q;simp[EK]
theorem Abe(n:Nat)(F G D D' S:Nat->Bool):Cz n (EK F G 16) (EK D D' 16) S=Cz n G D' S:=by
 have h:∀F G:Nat->Bool,BP (EK F G 16)=BP G:=λF G=>by
  refine Afs λj=>?_;rcases Aeu j 16 with a|a
  ·rw[wsV_at _ a,wsV_at _ a,Jq,if_pos a]
  rw[AeL (by rw[BA];omega),AeL (by rw[BA];omega)]
 unfold Cz;rw[h,h]
theorem N4{D S:Nat->Bool}:BP F=((Cz n F D S).drop 1).take 16:=by
 unfold Cz;rw[List.drop_one,List.tail_cons,AeI (BA F)]
theorem Abf{D S:Nat->Bool}:BP D=((Cz n F D S).drop 17).take 16:=by
 unfold Cz;rw[show (17:Nat)=16+1 from Z,Ae6,AfU (BA F),AeI (BA D)]
theorem Ac8(F D:Nat->Bool)(k:Nat):bw (EK F (Di F D) k) k|||bw D k=bw (Di F D) k:=by
 rw[Jq,if_neg U,Ac2];rfl
theorem Abg(F D:Nat->Bool)(k:Nat):∀j,j<16->(if k=j then bw (EK F (Di F D) k) k|||bw D k else bw (EK F (Di F D) k) j)=bw (EK F (Di F D) (k+1)) j:=λj a=>by
 rw[Ac8];exact Qd F _ k j a
theorem Abh(D:Nat->Bool)(k:Nat):∀j,j<16->(if k=j then 0#64 else bw (EK D BZ k) j)=bw (EK D BZ (k+1)) j:=λj a=>by
 have e:(0#64)=bw BZ k:=(bw_zero.2 λ_ _=>rfl).symm;rw[e];exact Qd D BZ k j a
def DT(n:Nat):Nat->Bool:=λq=>decide (q<n)
theorem X7(k:Nat):Gl (DT k) k=DT (k+1):=by
 funext q;unfold Gl DT;rw[Aez];simp;omega
theorem UT(k:Nat):∀j,j<16->(if k/64=j then bw (DT k) (k/64)|||Ei (k%64) else bw (DT k) j)=bw (DT (k+1)) j:=λj _=>by
 rw[<-X7];exact Qc _ _ _
theorem UU(F:Nat->Bool)(k:Nat):(cnt F 0 (64*k):Int)+(cnt F (64*k) 64:Int)=(cnt F 0 (64*(k+1)):Int):=by
 have:=HG F 0 (64*k) 64;rw[show 64*(k+1)=64*k+64 by omega,this,AfP];omega
theorem SW(F:Nat->Bool)(a:Nat):∀n,cnt F a n<=n
 | 0=>Ael _
 | n+1=>by
  have:=SW F a n;have:(F (a+n)).toNat<=1:=by cases F (a+n)<;>simp
  simp only[cnt];omega
def SX(j:Nat):UInt8:=UInt8.ofNat (Go.Lib.deBruijn64tab.getD j 0)
def Ht(A:Ai):Prop:=∀h,A h->∀j,j<64->celH h 0 j (u8 (SX j))
theorem Abi(x:BitVec 64)(i:Nat)(hi:i<64)(f:x.getLsbD i=true)(l:∀j,j<i->x.getLsbD j=false):(((x&&& -x)*285870213051353865#64)>>>58).toNat<64/\((SX (((x&&& -x)*285870213051353865#64)>>>58).toNat).toNat:Int)=i:=by
 have b:x.toNat≠0:=λe=>by
  have:x=0#64:=Ag4 (by simpa using e);rw[this] at f;simp at f
 have d:=x.isLt;obtain ⟨m,k,n⟩:=Go.Lib.ctzFrom_spec 64 x.toNat U d;have o:Go.Lib.ctzFrom 64 x.toNat=i:=by
  generalize Go.Lib.ctzFrom 64 x.toNat=c at k n;have g:∀j,x.getLsbD j=(decide (j>=c)&&(2*m+1).testBit (j-c)):=λj=>by
   show x.toNat.testBit j=_;rw[k,Nat.testBit_two_pow_mul]
  rcases AfL i c with h|h|h
  ·have:=g i;rw[f] at this;simp at this;omega
  ·exact h.symm
  have:=g c;rw[l c h] at this;simp at this
 obtain ⟨a,_⟩:=Go.Lib.lowest_bit 64 x.toNat b d;have e2:Go.Lib.ctz 64 x.toNat=i:=by unfold Go.Lib.ctz;rw[if_neg b,o]
 rw[e2] at a;have p:(x&&& -x).toNat=2^i:=by
  rw[Agi,BitVec.toNat_neg,AfC U];exact a
 have q:(((x&&& -x)*285870213051353865#64)>>>58).toNat=2^i*285870213051353865%18446744073709551616/288230376151711744:=by
  rw[Agb,BitVec.toNat_mul,p,Af9];rfl
 obtain ⟨a1,a2⟩:=Go.Lib.deBruijn64_at i hi;rw[q];refine ⟨a1,?_⟩;unfold SX;rw[a2];simp;omega
theorem N5{D S:Nat->Bool}:Ak 202 [Y m,I (i:Int)] [alB m n F D S] (λv G=>v=.bool (decide (i<n))/\G=[alB m n F D S]):=by
 intro z R w H;refine Ae func202 Z ntmps202 Z (Z0 10 [0] Z (An 7 Z (λa=>?_) (λa=>?_)))
 ·refine Z0 4 [0] Z (Ad Z (Bn Z Z J (AB (H.cel 0 Z 0 (Ac7)))) (Z0 6 [0] Z (Zr Z ?_)));exact ⟨_,⟨congrArg Value.bool (by first|(rw[Aez];simp<;>omega)|(simp<;>omega)),Z⟩,H⟩
 refine Zc 11 Z (Zr Z ?_);exact ⟨_,⟨congrArg Value.bool (by first|(rw[Aez];simp<;>omega)|(simp<;>omega)),Z⟩,H⟩
theorem N6{D S:Nat->Bool}{p:Nat}(hp:p<n)(b:n<=1024):Ak 163 [Y i,I (p:Int)] [alB i n F D S] (λv G=>v=.bool (F p)/\G=[alB i n F D S]):=by
 intro z R w H;refine Ae func163 Z ntmps163 Z (Zc 9 Z (z_E_ Z (call202 _) (N5) H ?_));intro w H;refine Zc 1 Z (An 8 Z (λa=>?_) (λa=>?_))
 ·refine Z1 7 [1,1,16,1,(p/64),1+(p/64)] [(p:Int)/64] Z U (Ad Z (Bn Z Z J (AB (H.cel 0 Z (1+(p/64)) (Nn U)))) (Z1 2 [] [(p:Int)%64] Z U (Ad Z (Fw Z Z Z (m:=(p%64)) U U) (Ad Z (Fg (q:=1#64) Z Z Z) (Ad Z (NM (p:=((bw F (p/64))>>>(p%64))&&&(1#64)) (q:=1#64) (k:=.u64) Z J Z Z) (AD 21 (v:=.bool (F p)) Z (congrArg Value.bool (bit_of F p)) (Zc 5 Z (Zr Z ?_))))))));exact ⟨_,⟨Z,Z⟩,H⟩
 exact absurd hp a
theorem SY{D S:Nat->Bool}(p:Nat)(hp:p<n)(c:n<=1024)(b:F p=true):Ak 112 [Y i,I (p:Int)] [alB i n F D S] (λv G=>v=.bool true/\G=[alB i n (Dx F p) D S]):=by
 intro z R w H;refine Ae func112 Z ntmps112 Z (Zc 10 Z (z_E_ Z (call163 _) (N6 U U) H ?_));intro w H;refine AD 7 (v:=.bool true) Z (congrArg Value.bool b) (Zc 7 Z (BJ 16 J J (A4 H λw a=>?_)));have H:=a.l1;refine ER 7 [1,1,16,1,(p/64),1+(p/64)] [(p:Int)/64] H Z J U (Cd Z Z Z (Bn Z Z J (AB (H.cel 0 Z (1+(p/64)) (Nn U)))) (ER 2 [] [(p:Int)%64] H Z J U (Cd Z Z Z (NL Z Z Z (m:=(p%64)) U U) (Cd Z Z Z (UC Z Z Z) (ER 4 [1,1,16,1,(p/64),1+(p/64)] [] H Z J U (CG (gw (AC Z Z (Am 0 H Z Z Z Z (vs:=[u64 ((bw F (p/64))&&& ~~~(Ei (p%64)))]) Z (Ab Z Aw) J (by simp only[ED,Aej,AeE];omega) (out:=(Cz n (Dx F p) D S)) (J7 U (λj _=>X6 F p j))) ?_))))))));rintro w H;refine Zc 8 Z (Zr Z ?_);exact ⟨_,⟨Z,Z⟩,H⟩
theorem X8{D S:Nat->Bool}{p:Nat}(hp:p<n)(d:n<=1024)(c:F p=false)(b:D p=false):Ak 170 [Y i,I (p:Int)] [alB i n F D S] (λv G=>v=.bool true/\G=[alB i n F (Gl D p) S]):=by
 intro z R w H;refine Ae func170 Z ntmps170 Z (Zc 10 Z (z_E_ Z (call202 _) (N5) H ?_));intro w H;refine AD 7 (v:=.bool true) Z (congrArg Value.bool (decide_eq_true hp)) (Zc 4 Z (z_E_ Z (call163 _) (N6 U U) H ?_));intro w H;refine AD 12 (v:=.bool false) Z (congrArg Value.bool c) (Z1 9 [1,17,16,1,(p/64),17+(p/64)] [(p:Int)/64] Z U (Ad Z (Bn Z Z J (AB (H.cel 0 Z (17+(p/64)) (Xs U)))) (Z1 2 [] [(p:Int)%64] Z U (Ad Z (Fw Z Z Z (m:=(p%64)) U U) (Ad Z (Fg (q:=1#64) Z Z Z) (Ad Z (NM (p:=((bw D (p/64))>>>(p%64))&&&(1#64)) (q:=1#64) (k:=.u64) Z J Z Z) (AD 27 (v:=.bool false) Z (congrArg Value.bool ((bit_of D p).trans b)) (Zc 7 Z (BJ 16 J J (A4 H λw a=>?_))))))))));have H:=a.l1;refine ER 7 [1,17,16,1,(p/64),17+(p/64)] [(p:Int)/64] H Z J U (Cd Z Z Z (Bn Z Z J (AB (H.cel 0 Z (17+(p/64)) (Xs U)))) (ER 2 [] [(p:Int)%64] H Z J U (Cd Z Z Z (NL Z Z Z (m:=(p%64)) U U) (Cd Z Z Z (NK Z Z Z) (ER 4 [1,17,16,1,(p/64),17+(p/64)] [] H Z J U (CG (gw (AC Z Z (Am 0 H Z Z Z Z (vs:=[u64 ((bw D (p/64))|||(Ei (p%64)))]) Z (Ab Z Aw) J (by simp only[ED,Aej,AeE];omega) (out:=(Cz n F (Gl D p) S)) (N1 U (λj _=>Qc D p j))) ?_))))))));rintro w H;refine Zc 8 Z (Zr Z ?_);exact ⟨_,⟨Z,Z⟩,H⟩
abbrev pB_(F:Nat->Bool)(k:Nat):BitVec 64:=((bw F k)>>>1)&&&(6148914691236517205#64)
abbrev pC_ (F:Nat->Bool) (k:Nat):BitVec 64:=(bw F k)&&&(6148914691236517205#64)
abbrev Qf (F:Nat->Bool) (k:Nat):BitVec 64:=(((bw F k)>>>1)&&&(6148914691236517205#64))+((bw F k)&&&(6148914691236517205#64))
abbrev pD_ (F:Nat->Bool) (k:Nat):BitVec 64:=(((Qf F k)>>>2)&&&(3689348814741910323#64))
abbrev pE_ (F:Nat->Bool) (k:Nat):BitVec 64:=((Qf F k)&&&(3689348814741910323#64))
abbrev pF_ (F:Nat->Bool) (k:Nat):BitVec 64:=(pD_ F k)+(pE_ F k)
theorem X9:Ak 57 [u64 (bw F n)] [] (λv G=>v=I ((cnt F (64*n) 64:Nat):Int)/\G=[]):=by
 intro z R w H;refine Ae func57 Z ntmps57 Z (Zc 8 Z (Ad Z (Fw Z Z Z (m:=1) Z (by decide)) (Ad Z (Fg (q:=6148914691236517205#64) Z Z Z) (Zc 1 Z (Ad Z (Fg (q:=6148914691236517205#64) Z Z Z) (Ad Z (HH (p:=((bw F n)>>>1)&&&(6148914691236517205#64)) (q:=(bw F n)&&&(6148914691236517205#64)) Z Z Z) (Zc 6 Z (Ad Z (Fw Z Z Z (m:=2) Z (by decide)) (Ad Z (Fg (p:=(Qf F n)>>>2) (q:=3689348814741910323#64) Z Z Z) (Zc 1 Z (Ad Z (Fg (p:=(pB_ F n)+(pC_ F n)) (q:=3689348814741910323#64) Z Z Z) (Ad Z (HH (p:=((Qf F n)>>>2)&&&(3689348814741910323#64)) (q:=(Qf F n)&&&(3689348814741910323#64)) Z Z Z) (Zc 6 Z ?_)))))))))))));refine Ad Z (Fw Z Z Z (m:=4) Z (by decide)) (Zc 1 Z (Ad Z (HH (p:=(pF_ F n)>>>4) (q:=(pD_ F n)+(pE_ F n)) Z Z Z) (Ad Z (Fg (p:=((pF_ F n)>>>4)+(pF_ F n)) (q:=1085102592571150095#64) Z Z Z) (Zc 7 Z (Ad Z (Fw Z Z Z (m:=8) Z (by decide)) (Ad Z (HH (p:=(((pF_ F n)>>>4)+(pF_ F n))&&&(1085102592571150095#64)) (q:=((((pF_ F n)>>>4)+(pF_ F n))&&&(1085102592571150095#64))>>>8) Z Z Z) (Zc 7 Z (Ad Z (Fw Z Z Z (m:=16) Z (by decide)) (Ad Z (HH (p:=((((pF_ F n)>>>4)+(pF_ F n))&&&(1085102592571150095#64))+(((((pF_ F n)>>>4)+(pF_ F n))&&&(1085102592571150095#64))>>>8)) (q:=(((((pF_ F n)>>>4)+(pF_ F n))&&&(1085102592571150095#64))+(((((pF_ F n)>>>4)+(pF_ F n))&&&(1085102592571150095#64))>>>8))>>>16) Z Z Z) (Zc 7 Z (Ad Z (Fw Z Z Z (m:=32) Z (by decide)) (Ad Z (HH (p:=(((((pF_ F n)>>>4)+(pF_ F n))&&&(1085102592571150095#64))+(((((pF_ F n)>>>4)+(pF_ F n))&&&(1085102592571150095#64))>>>8))+((((((pF_ F n)>>>4)+(pF_ F n))&&&(1085102592571150095#64))+(((((pF_ F n)>>>4)+(pF_ F n))&&&(1085102592571150095#64))>>>8))>>>16)) (q:=((((((pF_ F n)>>>4)+(pF_ F n))&&&(1085102592571150095#64))+(((((pF_ F n)>>>4)+(pF_ F n))&&&(1085102592571150095#64))>>>8))+((((((pF_ F n)>>>4)+(pF_ F n))&&&(1085102592571150095#64))+(((((pF_ F n)>>>4)+(pF_ F n))&&&(1085102592571150095#64))>>>8))>>>16))>>>32) Z Z Z) (Zc 6 Z ?_)))))))))))));refine Ad Z (Ac4 Z J Z (LH F n).1) (Ad Z (XV Z Z Z (by have:=(LH F n).1;exact ⟨Int.natCast_nonneg _,by unfold LF at this;dsimp only[Qf,pB_,pC_,pD_,pE_,pF_] at this ⊢;omega⟩)) (AD 34 (u:=I (((LF (bw F n)).toNat:Int)%128)) (v:=I ((cnt F (64*n) 64:Nat):Int)) Z (congrArg I (by have:=(LH F n).2;omega)) (Zc 4 Z (gr (Ft Z [I ((cnt F (64*n) 64:Nat):Int)] ⟨Z,trivial⟩ (v:=I ((cnt F (64*n) 64:Nat):Int)) Z ?_)))));exact ⟨_,⟨Z,Z⟩,H⟩
theorem Ya{D S:Nat->Bool}:Ak 24 [Y i] [alB i n F D S] (λv G=>v=I (cnt F 0 1024:Int)/\G=[alB i n F D S]):=by
 intro z R w H;refine Ae func24 Z ntmps24 Z (Z0 17 [1,1] Z (Ad Z (BW Z Z (vs:=BP F) J (AB ((H.blk 0 Z).part 1 16 _ (N4)))) (Zc 4 Z ?_)));refine AF (σ:=Nat) (λk=>[(11,I (k:Int)),(3,I (cnt F 0 (64*k):Int)),(2,I 0),(10,.agg (BP F).toArray)])
   (λk w=>Sep z (alB i n F D S::R) w/\(k<=16)) (λk=>16-k) 0
   (λ_ a=>(a.co Z (by go_num) a.cz)) ⟨H,by omega⟩ ?_
 clear H;rintro k w ⟨e,b⟩;have H:=e.l1;have c:=b;clear b;have f:=SW F 0 (64*(k+1));refine Z0 6 [0] Z (Af Z (λd=>?_) (λd=>?_))
 ·refine Zc 6 Z (Ad Z (E7 (m:=16) Z J Z Z Z (j:=k) Z (u:=u64 (bw F k)) (wsV_at F U)) (Zc 6 Z (z_E_ Z (call57 _) (X9) H ?_)));intro w H;refine Ad Z (C4 Z Z Z (r:=(cnt F 0 (64*(k+1)):Int)) (UU F k) U) (Z1 8 [] [(k:Int)+1] Z U (gf ?_));intro _ a;refine ⟨(k+1),a.cz,⟨H,?_⟩,?_⟩
  ·omega
  omega
 obtain rfl:k=16:=by omega
 refine Zc 2 Z (gx (Zc 9 Z (Zr Z ?_)));exact ⟨_,⟨Z,Z⟩,H⟩
theorem ME{D S:Nat->Bool}:Ak 113 [Y i] [alB i n F D S] (λv G=>v=.tuple #[]/\G=[alB i n (Di F D) BZ (Di F D)]):=by
 intro z R w H;refine Ae func113 Z ntmps113 Z (Z0 7 [1,17] Z (Ad Z (BW Z Z (vs:=BP D) J (AB ((H.blk 0 Z).part 17 16 _ (Abf)))) (Zc 4 Z ?_)));refine AF (σ:=Nat) (λk=>[(9,I (k:Int)),(0,Y i),(8,.agg (BP D).toArray)])
   (λk w=>Sep z (alB i n (EK F (Di F D) k) (EK D BZ k) S::R) w/\(k<=16)) (λk=>16-k) 0
   fr_z ⟨(by rw[Qe,Qe];exact H),by omega⟩ ?_
 clear H;rintro k w ⟨a,b⟩;have H:=a.l1;have c:=b;clear b;refine Z0 6 [0] Z (Af Z (λd=>?_) (λd=>?_))
 ·refine Zc 7 Z (Ad Z (E7 (m:=16) Z J Z Z Z (j:=k) Z (u:=u64 (bw D k)) (wsV_at D U)) (Zc 5 Z (BJ 13 J J (A4 H λw a=>?_))))
  have H:=a.l1;refine ER 6 [1,1,16,1,k,1+k] [] H Z J U (Cd Z Z Z (Bn Z Z J (AB (H.cel 0 Z (1+k) (Nn U)))) (PV 1 [] Z J (Cd Z Z Z (NK Z Z Z) (ER 4 [1,1,16,1,k,1+k] [] H Z J U (CG (gw (AC Z Z (Am 0 H Z Z Z Z (vs:=[u64 ((bw (EK F (Di F D) k) k)|||(bw D k))]) Z (Ab Z Aw) J (by simp only[ED,Aej,AeE];omega) (out:=(Cz n (EK F (Di F D) (k+1)) (EK D BZ k) S)) (J7 U (Abg F D k))) ?_)))))));rintro w H;refine Z1 9 [1,17,16,1,k,17+k] [] Z U (AC Z Z (Am 0 H Z Z Z Z (vs:=[u64 (0#64)]) Z (Ab Z Aw) J (by simp only[ED,Aej,AeE];omega) (out:=(Cz n (EK F (Di F D) (k+1)) (EK D BZ (k+1)) S)) (N1 U (Abh D k))) ?_);rintro w H;refine Z1 7 [] [(k:Int)+1] Z U (gf ?_);intro _ e;refine ⟨(k+1),e.cz,⟨H,?_⟩,?_⟩
  ·omega
  omega
 obtain rfl:k=16:=by omega
 refine Zc 2 Z (gx (Zc 2 Z ?_));dsimp only[alB] at H;rw[Abe] at H;refine Z0 5 [1] Z (Ad Z (BW Z Z (vs:=BP (Di F D)++BP BZ) J (AB ((H.blk 0 Z).part 1 32 _ (Qb)))) (Z0 2 [33] Z (AC Z Z (Am 0 H Z Z Z Z (vs:=BP (Di F D)++BP BZ) Z (J8 (wsV_one _)) J (by simp only[ED,Aeh,BA];omega) (out:=(Cz n (Di F D) BZ (Di F D))) (KP)) ?_)));rintro w H;refine Zc 1 Z (Zf Z ?_);exact ⟨_,⟨Z,Z⟩,H⟩
theorem Yb{D S:Nat->Bool}:Ak 180 [Y m] [alB m n F D S] (λv G=>v=.tuple #[]/\G=[alB m n S BZ S]):=by
 intro z R w H;refine Ae func180 Z ntmps180 Z (Z0 5 [33] Z (Ad Z (BW Z Z (vs:=BP S++BP BZ) J (AB ((H.blk 0 Z).part 33 32 _ (X5)))) (Z0 2 [1] Z (AC Z Z (Am 0 H Z Z Z Z (vs:=BP S++BP BZ) Z (J8 (wsV_one _)) J (by simp only[ED,Aeh,BA];omega) (out:=(Cz n S BZ S)) (US)) ?_))));rintro w H;refine Zc 1 Z (Zf Z ?_);exact ⟨_,⟨Z,Z⟩,H⟩
theorem Abj(j:1<=n/\n<=1024):Ak 109 [I (n:Int)] [] (λv G=>(∃d,v=Y d/\G=[alB d n (DT n) BZ (DT n)])):=by
 intro z R w H;refine Ae func109 Z ntmps109 Z (Z0 11 [0] Z (An 7 Z (λe=>U) (λe=>?_)));refine Z0 5 [0] Z (Af Z (λh=>U) (λh=>?_));refine Zc 5 Z (Ad Z (Be Z Z (out:=(Cz n (DT 0) BZ BZ)) J) (AU Z (G8 H Z Z (cs:=(Cz n (DT 0) BZ BZ)) Z) ?_));rintro _ w ⟨b,rfl,H⟩;refine Zc 11 Z ?_;refine AF (σ:=Nat) (λk=>[(15,I (k:Int)),(2,.pointer none),(3,Y b),(14,I (n:Int))])
   (λk w=>Sep z (alB b n (DT k) BZ BZ::R) w/\(k<=n)) (λk=>n-k) 0
   fr_z ⟨H,by omega⟩ ?_
 clear H;rintro k w ⟨a,c⟩;have H:=a.l1;have f:=c;clear c;refine Z0 6 [0] Z (Af Z (λg=>?_) (λg=>?_))
 ·refine Zc 10 Z (BJ 16 J J (A4 H λw a=>?_))
  have H:=a.l1;refine ER 7 [1,1,16,1,(k/64),1+(k/64)] [(k:Int)/64] H Z J U (Cd Z Z Z (Bn Z Z J (AB (H.cel 0 Z (1+(k/64)) (Nn U)))) (ER 2 [] [(k:Int)%64] H Z J U (Cd Z Z Z (NL Z Z Z (m:=(k%64)) U U) (Cd Z Z Z (NK Z Z Z) (ER 4 [1,1,16,1,(k/64),1+(k/64)] [] H Z J U (CG (gw (AC Z Z (Am 0 H Z Z Z Z (vs:=[u64 ((bw (DT k) (k/64))|||(Ei (k%64)))]) Z (Ab Z Aw) J (by simp only[ED,Aej,AeE];omega) (out:=(Cz n (DT (k+1)) BZ BZ)) (J7 U (UT k))) ?_))))))));rintro w H;refine Z1 7 [] [(k:Int)+1] Z U (gf ?_);intro _ i;refine ⟨(k+1),i.cz,⟨H,?_⟩,?_⟩
  ·omega
  omega
 obtain rfl:k=n:=by omega
 refine Zc 2 Z (gx (Z0 8 [1] Z (Ad Z (BW Z Z (vs:=BP (DT k)++BP BZ) J (AB ((H.blk 0 Z).part 1 32 _ (Qb)))) (Z0 2 [33] Z (AC Z Z (Am 0 H Z Z Z Z (vs:=BP (DT k)++BP BZ) Z (J8 (wsV_one _)) J (by simp only[ED,Aeh,BA];omega) (out:=(Cz k (DT k) BZ (DT k))) (KP)) ?_)))));rintro w H;refine Zc 9 Z (Zr Z ?_);exact ⟨_,⟨b,Z,Z⟩,H⟩
theorem AdL{x:BitVec 64}(i:Nat)(hi:i<64)(a:x.getLsbD i=true)(b:∀j,j<i->x.getLsbD j=false)(f:Ht A):Ak 169 [u64 x] [A] (λv G=>v=I ((i:Nat):Int)/\G=[A]):=by
 intro z R w H;obtain ⟨d,e⟩:=Abi x i hi a b;refine Ae func169 Z ntmps169 Z (Zc 9 Z (Ad Z (NM (q:=0#64) (k:=.u64) Z J Z Z) (Zc 2 Z (Af Z (λc=>?_) (λc=>?_)))))
 ·(exfalso;rw[c] at a;simp at a)
 refine Zc 6 Z (Ad Z (Aa2 Z Z) (Ad Z (Fg Z Z Z) (Ad Z (Aa1 (q:=285870213051353865#64) Z Z Z) (Ad Z (Fw Z Z Z (m:=58) Z (by decide)) (Ad Z (JV (l:=64) Z (z:=1) (j:=(((x&&& -x)*285870213051353865#64)>>>58).toNat) (r:=(((x&&& -x)*285870213051353865#64)>>>58).toNat) J Z Z Z d U) (Ad Z (Bn Z Z J (AB (Abd 0 H Z (λh q=>f h q _ d)))) (Ad Z (Ri Z J Z) (AD 13 (v:=I ((i:Nat):Int)) Z (congrArg I e) (Zc 4 Z (Zr Z ?_))))))))));exact ⟨_,⟨Z,Z⟩,H⟩
theorem Abk{D S:Nat->Bool}(p:Nat)(hp:p<n)(o:n<=1024)(a:F p=true)(b:∀q,q<p->F q=false)(r:Ht A):Ak 122 [Y i] [alB i n F D S,A] (λv G=>v=.tuple #[I (p:Int),.bool true]/\G=[alB i n (Dx F p) D S,A]):=by
 intro z R w H;refine Ae func122 Z ntmps122 Z (Z0 13 [1,1] Z (Ad Z (BW Z Z (vs:=BP F) J (AB ((H.blk 0 Z).part 1 16 _ (N4)))) (Zc 4 Z ?_)));refine AF (σ:=Nat) (λk=>[(12,I (k:Int)),(0,Y i),(11,.agg (BP F).toArray)])
   (λk w=>Sep z (alB i n F D S::A::R) w/\(k<=p/64)) (λk=>16-k) 0
   fr_z ⟨H,by omega⟩ ?_
 clear H;rintro k w ⟨s,g⟩;have H:=s.l2;have l:=g;clear g;refine Z0 6 [0] Z (Af Z (λh=>?_) (λh=>?_))
 ·refine Zc 7 Z (Ad Z (E7 (m:=16) Z J Z Z Z (j:=k) Z (u:=u64 (bw F k)) (wsV_at F U)) (Zc 7 Z (Ad Z (SF (q:=0#64) (k:=.u64) Z J Z Z) (Zc 2 Z (Af Z (λd=>?_) (λd=>?_))))))
  ·have c:k=p/64:=by
     rcases Aeu k (p/64) with q|q
     · exact absurd (bw_zero.2 λj x=>b _ U) d
     · omega
   have f:F (64*k+p%64)=true:=by rw[show 64*k+p%64=p by omega];exact a
   refine Z1 5 [] [64*(k:Int)] Z U (z_E_ Z (call169 _) (AdL (p%64) U (by rw[DV _ _ _ U];exact f) (λj x=>by rw[DV _ _ _ U];exact b _ U) r) H.f1 ?_);intro w H;refine Z1 9 [] [(p:Int)] Z U (z_E_ Z (call112 _) (SY _ hp o a) H.f1 ?_);intro w H;refine Zc 5 Z (Zr Z ?_);exact ⟨_,⟨Z,Z⟩,H⟩
  have c:k≠p/64:=λe=>by
    have:=bw_zero.1 (Ahr.1 d) (p%64) U;rw[show 64*k+p%64=p by omega,a] at this;cases this
  refine Z1 7 [] [(k:Int)+1] Z U (gf ?_);intro _ t;refine ⟨(k+1),t.cz,⟨H,?_⟩,?_⟩
  ·omega
  omega
 (exfalso;omega)
theorem Yc{D S:Nat->Bool}(a:∀q,q<1024->F q=false):Ak 122 [Y i] [alB i n F D S] (λv G=>v=.tuple #[I 0,.bool false]/\G=[alB i n F D S]):=by
 intro z R w H;refine Ae func122 Z ntmps122 Z (Z0 13 [1,1] Z (Ad Z (BW Z Z (vs:=BP F) J (AB ((H.blk 0 Z).part 1 16 _ (N4)))) (Zc 4 Z ?_)));refine AF (σ:=Nat) (λk=>[(12,I (k:Int)),(0,Y i),(11,.agg (BP F).toArray)])
   (λk w=>Sep z (alB i n F D S::R) w/\(k<=16)) (λk=>16-k) 0
   fr_z ⟨H,by omega⟩ ?_
 clear H;rintro k w ⟨f,b⟩;have H:=f.l1;have e:=b;clear b;refine Z0 6 [0] Z (Af Z (λd=>?_) (λd=>?_))
 ·refine Zc 7 Z (Ad Z (E7 (m:=16) Z J Z Z Z (j:=k) Z (u:=u64 (bw F k)) (wsV_at F U)) (Zc 7 Z (Ad Z (SF (q:=0#64) (k:=.u64) Z J Z Z) (Zc 2 Z (Af Z (λc=>?_) (λc=>?_))))))
  ·exact absurd (bw_zero.2 λj h=>a _ U) c
  refine Z1 7 [] [(k:Int)+1] Z U (gf ?_);intro _ g;refine ⟨(k+1),g.cz,⟨H,?_⟩,?_⟩
  ·omega
  omega
 refine Zc 2 Z (gx (Zc 9 Z (Zr Z ?_)));exact ⟨_,⟨Z,Z⟩,H⟩
def Dj{α:Type}(f:Nat->α)(i:Nat)(x:α):Nat->α:=λk=>if k=i then x else f k
theorem GP{α:Type}(f:Nat->α)(i:Nat)(x:α):Dj f i x i=x:=by simp[Dj]
theorem upf_other{α:Type}(f:Nat->α)(x:α)(h:n≠i):Dj f i x n=f n:=by simp[Dj,h]
def Dsk.w1(D:Dsk)(fua:Bool)(i:Nat)(p:List UInt8):Dsk:=
 if fua then {D with dur:=Dj D.dur i p,ver:=Dj D.ver i []} else {D with ver:=Dj D.ver i (D.ver i++[p])}
def Dsk.ws(D:Dsk)(fua:Bool)(i:Nat):List (List UInt8)->Dsk
 | []=>D
 | p::ps=>(D.w1 fua i p).ws fua (i+1) ps
theorem Dsk.w1_n(D:Dsk)(a:Bool)(i:Nat)(p:List UInt8):(D.w1 a i p).n=D.n:=by cases a<;>rfl
theorem Dsk.w1_f(D:Dsk)(a:Bool)(i:Nat)(p:List UInt8):(D.w1 a i p).f1=D.f1/\(D.w1 a i p).f2=D.f2/\(D.w1 a i p).f3=D.f3/\(D.w1 a i p).cut=D.cut/\(D.w1 a i p).left=D.left:=by cases a<;>exact ⟨Z,Z,Z,Z,Z⟩
theorem Dsk.ws_snoc(a:Bool)(ps:List (List UInt8))(p:List UInt8):∀(D:Dsk) (i:Nat),D.ws a i (ps++[p])=(D.ws a i ps).w1 a (i+ps.length) p:=by
 induction ps with
 | nil=>intro D i;rfl
 | cons q qs ih=>intro D i;simp only[AfD,Dsk.ws,ih,Aej];rw[show i+1+qs.length=i+(qs.length+1) from by omega]
theorem Dsk.ws_n(a:Bool)(ps:List (List UInt8)):∀(D:Dsk) (i:Nat),(D.ws a i ps).n=D.n:=by
 induction ps with
 | nil=>intro D i;rfl
 | cons q qs ih=>intro D i;simp only[Dsk.ws,ih,Dsk.w1_n]
theorem Dsk.ws_f(a:Bool)(ps:List (List UInt8)):∀(D:Dsk) (i:Nat),(D.ws a i ps).f1=D.f1/\(D.ws a i ps).f2=D.f2/\(D.ws a i ps).f3=D.f3/\(D.ws a i ps).cut=D.cut/\(D.ws a i ps).left=D.left:=by
 induction ps with
 | nil=>intro D i;exact ⟨Z,Z,Z,Z,Z⟩
 | cons q qs ih=>intro D i;simp only[Dsk.ws];rw[(ih _ _).1,(ih _ _).2.1,(ih _ _).2.2.1,(ih _ _).2.2.2.1,(ih _ _).2.2.2.2];exact Dsk.w1_f D a i q
theorem Dsk.Ok.w1{D:Dsk}(h:D.Ok){c:Bool}{i:Nat}{p:List UInt8}(hp:p.length=256):(D.w1 c i p).Ok:=by
 cases c with
 | true=>
  refine ⟨h.n1,h.n2,λj b=>?_,λj b q hq=>?_,h.f1,h.f2,h.f3,h.left⟩
  ·show (Dj D.dur i p j).length=256
   unfold Dj;split
   ·exact hp
   exact h.dur j b
  have a:q∈Dj D.ver i [] j:=hq;unfold Dj at a;split at a
  ·cases a
  exact h.ver j b q a
 | false=>
  refine ⟨h.n1,h.n2,h.dur,λj b q hq=>?_,h.f1,h.f2,h.f3,h.left⟩;have a:q∈Dj D.ver i (D.ver i++[p]) j:=hq;unfold Dj at a;split at a
  ·rename_i e;subst e
   rcases Aes.1 a with h'|h'
   ·exact h.ver j b q h'
   rw[Afv.1 h'];exact hp
  exact h.ver j b q a
theorem Ent.Ok.le{hq a:Hp}{e:Ent}(h:e.Ok hq)(s:CL hq a):e.Ok a:=⟨h.1,h.2.1,λj c p b d=>⟨(h.2.2 j c p b d).1,(h.2.2 j c p b d).2.le s⟩⟩
theorem Dsk.In.le{D:Dsk}{bs:List UInt8}{es:List Ent}{clk:Nat}{hq a:Hp}(h:D.In bs es clk hq)(s:CL hq a):D.In bs es clk a:=
 ⟨h.len,h.own,λe b=>⟨(h.ent e b).1,(h.ent e b).2.1,(h.ent e b).2.2.le s⟩,h.all,h.nodup,h.born,h.clk⟩

theorem KQ(hs:seps Γ h)(i:Nat)(hi:Γ[i]?=some A):seps (A::Γ.eraseIdx i) h:=by
 obtain ⟨own,b⟩:=hs;refine ⟨λk=>if own k=i then 0 else if own k<i then own k+1 else own k,λj B a=>?_⟩
 cases j with
 | zero=>
  simp only[AeU,Aeo] at a;subst a;have:=b i A hi;rwa[Dg (h':=h) (own':=λk=>if own k=i then 0 else if own k<i then own k+1 else own k) (j:=0) (λk=>⟨λe=>by rw[if_pos e],λe=>by
   split at e
   ·assumption
   split at e<;>omega⟩) (λ_ _=>rfl)] at this
 | succ j=>
  simp only[AeB] at a;rw[Agk] at a;split at a
  ·rename_i d
   have:=b j B a;rwa[Dg (h':=h) (own':=λk=>if own k=i then 0 else if own k<i then own k+1 else own k) (j:=j+1) (λk=>⟨λe=>by rw[if_neg U,if_pos U];omega,λe=>by
    split at e
    ·omega
    split at e<;>omega⟩) (λ_ _=>rfl)] at this
  rename_i c;have:=b (j+1) B a;rwa[Dg (h':=h) (own':=λk=>if own k=i then 0 else if own k<i then own k+1 else own k) (j:=j+1) (λk=>⟨λe=>by rw[if_neg U,if_neg U];omega,λe=>by
   split at e
   ·omega
   split at e<;>omega⟩) (λ_ _=>rfl)] at this
theorem SZ(i:Nat)(hi:i<Γ.length)(hs:seps (A::Γ.eraseIdx i) h):seps (Γ.set i A) h:=by
 obtain ⟨own,c⟩:=hs;have d:(Γ.eraseIdx i).length=Γ.length-1:=List.length_eraseIdx_of_lt hi;refine ⟨λk=>if own k=0 then i else if own k<=i then own k-1 else own k,λj B a=>?_⟩;by_cases e:j=i
 ·subst e
  rw[Afy hi] at a;simp only[Aeo] at a;subst a;have:=c 0 A Z;rwa[Dg (h':=h) (own':=λk=>if own k=0 then j else if own k<=j then own k-1 else own k) (j:=j) (λk=>⟨λe=>by rw[if_pos e],λe=>by
   split at e
   ·assumption
   split at e<;>omega⟩) (λ_ _=>rfl)] at this
 rw[Agc (AfV e)] at a;have f:=(Aee.1 a).1;rcases Aeu j i with b|hge
 ·have:=c (j+1) B (by rw[AeB,Agk,if_pos b];exact a)
  rwa[Dg (h':=h) (own':=λk=>if own k=0 then i else if own k<=i then own k-1 else own k) (j:=j) (λk=>⟨λe=>by rw[if_neg U,if_pos U];omega,λe=>by
   split at e
   ·omega
   split at e<;>omega⟩) (λ_ _=>rfl)] at this
 obtain ⟨q,rfl⟩:∃q,j=q+1:=⟨j-1,by omega⟩;have:=c (q+1) B (by rw[AeB,Agk,if_neg U];exact a);rwa[Dg (h':=h) (own':=λk=>if own k=0 then i else if own k<=i then own k-1 else own k) (j:=q+1) (λk=>⟨λe=>by rw[if_neg U,if_neg U];omega,λe=>by
  split at e
  ·omega
  split at e<;>omega⟩) (λ_ _=>rfl)] at this
theorem S0{As:List Ai}(hs:seps (A::As) h):seps (As++[A]) h:=D4 (As:=[A]) (Bs:=As) hs
theorem S1(hs:seps (A::Γ) h):seps Γ h:=by
 have:=Mw hs 1 [] Z;exact this
theorem Yd(es:List Ent)(k:Nat)(d:Value)(f:Ent->Ent)(g:∀e,(f e).key=e.key/\(f e).v=d/\(f e).born=e.born):∀(i:Nat) (e:Ent),(es.map Ent.key).Nodup->es[i]?=some e->e.key=k->updM (es.map Ent.ie) (k:Int) d=(es.set i (f e)).map Ent.ie:=by
 induction es with
 | nil=>intro i e _ h;simp at h
 | cons x xs ih=>
  intro i e b hi c;simp only[AeM,Afk] at b
  cases i with
  | zero=>
   simp only[AeU,Aeo] at hi;subst hi;subst c;simp[updM,Ent.ie,g]
  | succ i=>
   simp only[AeB] at hi;have a:¬(k:Int)=(x.key:Int):=by
    intro q;have:x.key=e.key:=by omega
    exact b.1 (this▸AeD (Aeg hi))
   simp only[AeM,updM,List.set_cons_succ];rw[if_neg (by simpa [Ent.ie] using a),ih i e b.2 hi c]
theorem Ye(es:List Ent)(k:Nat):∀(i:Nat) (e:Ent),(es.map Ent.key).Nodup->es[i]?=some e->e.key=k->delM (es.map Ent.ie) (k:Int)=(es.eraseIdx i).map Ent.ie:=by
 induction es with
 | nil=>intro i e _ h;simp at h
 | cons x xs ih=>
  intro i e b hi c;simp only[AeM,Afk] at b
  cases i with
  | zero=>
   simp only[AeU,Aeo] at hi;subst hi;subst c;simp[delM,Ent.ie]
  | succ i=>
   simp only[AeB] at hi;have a:¬(k:Int)=(x.key:Int):=by
    intro q;have:x.key=e.key:=by omega
    exact b.1 (this▸AeD (Aeg hi))
   simp only[AeM,delM,List.eraseIdx_cons_succ];rw[if_neg (by simpa [Ent.ie] using a),ih i e b.2 hi c]
theorem Ga{α β:Type}{f:α->β}{l:List α}(h:(l.map f).Nodup){a b:α}(hi:l[i]?=some a)(c:l[j]?=some b)(e:f a=f b):i=j:=by
 have d:=(Aee.1 hi).1;have g:=(Aee.1 c).1;refine (List.getElem_inj (xs:=l.map f) (h₀:=by simpa using d) (h₁:=by simpa using g) h).1 ?_;simp only[AhA];rw[(Aee.1 hi).2,(Aee.1 c).2,e]
theorem S2{w:World}{es:List Ent}{hq:Hp}(d:D.In S es m hq)(hk:g<D.n)(H:Sep z (seps (es.map Ent.row)::Γ) w):
  ∃(v:Value) (pvs:List Value) (a0:List Ai),(CQ (es.map Ent.ie) (g:Int)).getD (.slice none 0 0)=v/\pvs.length=(D.ver g).length/\Sep z (grow 47 1 v pvs.length pvs::seps a0::Γ) w/\
   ∀(l o:Value) (p:List UInt8),p.length=256->rdH 1 o 256 (p.map u8) hq->∃a5,(D.w1 false g p).In S a5 (putC (es.map Ent.ie) g m) hq/\E5 (es.map Ent.ie) g l m=a5.map Ent.ie/\
    ∀h,seps (grow 47 1 l (pvs.length+1) (pvs++[o])::[seps a0]) h->seps (a5.map Ent.row) h:=by
 rcases get_ent es g d.nodup with ⟨hg,hn⟩|⟨i,e,hi,k,hg⟩
 ·have hv:D.ver g=[]:=by
   cases hvk:D.ver g with
   | nil=>rfl
   | cons p ps=>
    obtain ⟨e,k,r⟩:=d.all g hk (by rw[hvk];simp);exact absurd r (hn e k)
  refine ⟨.slice none 0 0,[],es.map Ent.row,by simp[hg],by rw[hv];rfl,H.void λh=>grow.nil _ _ h,λl o p hp hr=>?_⟩;have hh:CR (es.map Ent.ie) (g:Int)=false:=by simp[CR,hg]
  refine ⟨es++[⟨g,l,[o],[p],m⟩],⟨d.len,d.own,?_,?_,?_,?_,?_⟩,?_,λh hs=>?_⟩
  ·intro e k
   rcases Aes.1 k with k|k
   ·obtain ⟨y,u,h3⟩:=d.ent e k
    exact ⟨y,u.trans (upf_other D.ver _ (hn e k)).symm,h3⟩
   rw[Afv.1 k];refine ⟨hk,?_,Z,by simp,λj a6 p' y u=>?_⟩
   ·show [p]=Dj D.ver g (D.ver g++[p]) g
    rw[GP,hv];rfl
   have:j=0:=by have:=(Aee.1 y).1;simpa using this
   subst this;simp at y u;subst y;subst u;exact ⟨hp,hr⟩
  ·intro j f a3
   by_cases e:j=g
   ·exact ⟨_,AgF _ (Afv.2 Z),e.symm⟩
   have:D.ver j≠[]:=by
    have h':Dj D.ver g (D.ver g++[p]) j≠[]:=a3;rwa[upf_other _ _ e] at h'
   obtain ⟨t,c,r⟩:=d.all j f this;exact ⟨t,Agp _ c,r⟩
  ·rw[AeK]
   refine Afc.2 ⟨d.nodup,by simp,λa ha b hb=>?_⟩;simp at hb;subst hb;obtain ⟨t,c,rfl⟩:=Aen.1 ha;exact hn t c
  ·rw[AeK]
   refine Afc.2 ⟨d.born,by simp,λa ha b hb=>?_⟩;simp at hb;subst hb;obtain ⟨t,c,rfl⟩:=Aen.1 ha;have:=d.clk t c;omega
  ·intro e k
   simp only[putC,hh,if_false,Afu];rcases Aes.1 k with k|k
   ·have:=d.clk e k;omega
   rw[Afv.1 k];show m<m+1;omega
  ·simp[E5,hh,Ent.ie]
  rw[AeK];refine S0 ?_;have u:=D4 (As:=[grow 47 1 l 1 [o]]) (Bs:=[seps (es.map Ent.row)]) hs;have h3:=IM u;exact D4 (As:=es.map Ent.row) (Bs:=[grow 47 1 l 1 [o]]) h3
 obtain ⟨_,u,h3,h4,h5⟩:=d.ent e (Aeg hi);subst k;have s:=(Aee.1 hi).1;have hh:CR (es.map Ent.ie) (e.key:Int)=true:=by simp[CR,hg]
 refine ⟨e.v,e.pvs,(es.map Ent.row).eraseIdx i,by simp[hg],h3.trans (congrArg _ u),?_,λl o p hp hr=>?_⟩
 ·have H1:=H.mono 0 (B:=seps (e.row::[seps ((es.map Ent.row).eraseIdx i)])) Z (λh hs=>by
   have y:=KQ hs i (A:=e.row) (by rw[Aer,hi];rfl);have a7:seps ((es.map Ent.row).eraseIdx i++[e.row]) h:=D4 (As:=[e.row]) (Bs:=(es.map Ent.row).eraseIdx i) y;have a2:=Mx a7;exact D4 (As:=[seps ((es.map Ent.row).eraseIdx i)]) (Bs:=[e.row]) a2)
  exact Sep.opened (As:=[e.row,seps ((es.map Ent.row).eraseIdx i)]) H1
 refine ⟨es.set i {e with v:=l,pvs:=e.pvs++[o],ps:=e.ps++[p]},⟨d.len,d.own,?_,?_,?_,?_,?_⟩,?_,λh hs=>?_⟩
 ·intro t c
  obtain ⟨j,f⟩:=Ae5 c;rw[Afq] at f;split at f
  ·rename_i q
   subst q;simp only[s,if_true,Aeo] at f;subst f;refine ⟨hk,?_,by simp[h3],by simp,λj' a6 p' q1 q2=>?_⟩
   ·show e.ps++[p]=Dj D.ver e.key (D.ver e.key++[p]) e.key
    rw[GP,u]
   rcases Aeu j' e.pvs.length with q|q
   ·rw[Aep q] at q1
    rw[Aep U] at q2;exact h5 j' a6 p' q1 q2
   rw[Aev q] at q1;rw[Aev U] at q2;have:j'-e.pvs.length=0:=by have:=(Aee.1 q1).1;simpa using this
   rw[this] at q1;rw[show j'-e.ps.length=0 from by omega] at q2;simp at q1 q2;subst q1;subst q2;exact ⟨hp,hr⟩
  rename_i q;obtain ⟨y,a2,a8⟩:=d.ent t (Aeg f);have a4:t.key≠e.key:=λq'=>by
   exact q (Ga d.nodup hi f q'.symm)
  exact ⟨y,a2.trans (upf_other D.ver _ a4).symm,a8⟩
 ·intro j f a3
  by_cases q:j=e.key
  ·exact ⟨_,Aeg (Afy s),q.symm⟩
  have:D.ver j≠[]:=by
   have h':Dj D.ver e.key (D.ver e.key++[p]) j≠[]:=a3;rwa[upf_other _ _ q] at h'
  obtain ⟨t,c,r⟩:=d.all j f this;obtain ⟨j',a1⟩:=Ae5 c;have a4:i≠j':=λq'=>by
   subst q';rw[hi] at a1;cases a1;exact q r.symm
  exact ⟨t,Aeg (by rw[Agc a4];exact a1),r⟩
 ·rw[AhB]
  have:(es.map Ent.key).set i e.key=es.map Ent.key:=Afs λj=>by
   rw[Afq];split
   ·rename_i q;subst q;simp[s,(Aee.1 hi).2]
   rfl
  exact (show ((es.map Ent.key).set i e.key).Nodup by rw[this];exact d.nodup)
 ·rw[AhB]
  have:(es.map Ent.born).set i e.born=es.map Ent.born:=Afs λj=>by
   rw[Afq];split
   ·rename_i q;subst q;simp[s,(Aee.1 hi).2]
   rfl
  exact (show ((es.map Ent.born).set i e.born).Nodup by rw[this];exact d.born)
 ·intro t c
  simp only[putC,hh,if_true];obtain ⟨j,f⟩:=Ae5 c;rw[Afq] at f;split at f
  ·simp only[s,if_true,Aeo] at f
   subst f;exact d.clk e (Aeg hi)
  exact d.clk t (Aeg f)
 ·simp only[E5,hh,if_true]
  exact Yd es e.key l (λx=> {x with v:=l,pvs:=x.pvs++[o],ps:=x.ps++[p]}) (λx=>⟨Z,Z,Z⟩) i e d.nodup hi Z
 rw[AhB];refine SZ i (by simpa using s) ?_;have u:=D4 (As:=[grow 47 1 l (e.pvs.length+1) (e.pvs++[o])]) (Bs:=[seps ((es.map Ent.row).eraseIdx i)]) hs;have h3:=IM u;have h4:=D4 (As:=(es.map Ent.row).eraseIdx i) (Bs:=[grow 47 1 l (e.pvs.length+1) (e.pvs++[o])]) h3;have e1:grow 47 1 l (e.pvs.length+1) (e.pvs++[o])=Ent.row {e with v:=l,pvs:=e.pvs++[o],ps:=e.ps++[p]} :=by simp[Ent.row]
 rw[<-e1];exact h4
theorem S3{bs':List UInt8}{es:List Ent}{hq:Hp}(b:D.In B es m hq)(hk:g<D.n)(hp:S.length=256)(u:bs'=B.take (g*256)++S++B.drop (g*256+256)):
  ∃s,(D.w1 true g S).In bs' s m hq/\delM (es.map Ent.ie) g=s.map Ent.ie/\∀h,seps (es.map Ent.row) h->seps (s.map Ent.row) h:=by
 have hn:D.n*256=B.length:=b.len.symm;have a2:g*256+256<=B.length:=by omega
 have k:bs'.length=D.n*256:=by subst u;simp[hp];omega
 have l:∀i,i<D.n->(bs'.drop (i*256)).take 256=(D.w1 true g S).dur i:=λi hi=>by
  show _=Dj D.dur g S i;subst u;have e0:(B.take (g*256)).length=g*256:=by rw[AeA];omega
  rcases AfL i g with h|h|h
  ·rw[upf_other _ _ U,<-b.own i hi]
   rw[Aek,AeW U,Aew (by rw[AeP,e0];omega)];rw[AfY,AeG];rw[show min 256 (g*256-i*256)=256 from by omega]
  ·subst h
   rw[GP,Aek,AeW U,AeN U,AeT];rw[Aew U,Aem U]
  rw[upf_other _ _ U,<-b.own i hi];rw[Ae9,AeN (by simp[hp];omega),AeT,AhJ];congr 2;simp[hp];omega
 rcases get_ent es g b.nodup with ⟨hg,a0⟩|⟨i,e,hi,z,hg⟩
 ·refine ⟨es,⟨k,l,λe z=>?_,λj o p=>?_,b.nodup,b.born,b.clk⟩,NC _ _ hg,λh hs=>hs⟩
  ·obtain ⟨w,x,h3⟩:=b.ent e z
   exact ⟨w,x.trans (upf_other D.ver _ (a0 e z)).symm,h3⟩
  have h':Dj D.ver g [] j≠[]:=p;by_cases q:j=g
  ·subst q;rw[GP] at h';exact absurd Z h'
  rw[upf_other _ _ q] at h';exact b.all j o h'
 subst z;have a1:=(Aee.1 hi).1;have c:(es.eraseIdx i).Sublist es:=List.eraseIdx_sublist es i;have y:∀f∈es.eraseIdx i,f.key≠e.key:=λf a q=>by
  obtain ⟨j,o⟩:=Ae5 a;rw[Agk] at o;have key:∀t,t≠i->es[t]?=some f->False:=λt r d=>by
   exact r (Ga b.nodup d hi q)
  split at o
  ·exact key j U o
  exact key (j+1) U o
 refine ⟨es.eraseIdx i,⟨k,l,λf a=>?_,λj o p=>?_,(c.map Ent.key).nodup b.nodup,(c.map Ent.born).nodup b.born,λf a=>b.clk f (c.subset a)⟩,Ye es e.key i e b.nodup hi Z,λh hs=>?_⟩
 ·obtain ⟨w,x,h3⟩:=b.ent f (c.subset a)
  exact ⟨w,x.trans (upf_other D.ver _ (y f a)).symm,h3⟩
 ·have h':Dj D.ver e.key [] j≠[]:=p
  by_cases q:j=e.key
  ·subst q;rw[GP] at h';exact absurd Z h'
  rw[upf_other _ _ q] at h';obtain ⟨f,a,v⟩:=b.all j o h';refine ⟨f,?_,v⟩;obtain ⟨t,d⟩:=Ae5 a;have r:t≠i:=λq'=>by subst q';rw[hi] at d;cases d;exact q v.symm
  rw[Ahc];exact ⟨t,r,d⟩
 have w:=KQ hs i (A:=e.row) (by rw[Aer,hi];rfl);have x:=S1 w;have e0:(es.map Ent.row).eraseIdx i=(es.eraseIdx i).map Ent.row:=by
  apply Afs;intro j;simp only[Agk,Aer];split<;>rfl
 rwa[e0] at x
theorem UV{w:World}{hq:Hp}(H:Sep z (poolA hq::blk n V T::Γ) w):∃a,(CL hq a/\blk n V T a)/\Sep z (poolA a::Γ) w:=by
 have H1:Sep z (seps [poolA hq,blk n V T]::Γ) w:=Sep.shut (As:=[poolA hq,blk n V T]) H;exact H1.exAt 0 (σ:=Hp) (p:=λa=>CL hq a/\blk n V T a) (B:=λa=>poolA a) Z (λh hs=>by
  refine ⟨h,⟨λk o e=>?_,?_⟩,λk o e=>e⟩
  ·obtain ⟨h',b,c⟩:=FQ hs (i:=0) Z
   exact c _ _ (b _ _ e)
  obtain ⟨h',b,c⟩:=FQ hs (i:=1) Z;exact c _ _ b)

def diskQ(pd:Nat)(D:Dsk)(hq:Hp):Ai:=λh=>∃(bd m:Nat) (f0:Int) (bs:List UInt8) (es:List Ent) (clk:Nat),(D.Ok/\D.In bs es clk hq)/\seps (EZ pd bd m D f0 bs es clk hq) h
structure DskY where
 bd:Nat
 m:Nat
 f0:Int
 bs:List UInt8
 es:List Ent
 clk:Nat
theorem Sep.diskQ{w:World}{pd:Nat}{hq:Hp}(H:Sep z (YtkblhjdljaoghaaGreatDoor.diskQ pd D hq::Γ) w):∃bd m f0 bs es clk,D.Ok/\D.In bs es clk hq/\Sep z (EZ pd bd m D f0 bs es clk hq++Γ) w:=by
 obtain ⟨x,⟨b,c⟩,H⟩:=H.into (σ:=DskY) (p:=λx=>D.Ok/\D.In x.bs x.es x.clk hq) (As:=λx=>EZ pd x.bd x.m D x.f0 x.bs x.es x.clk hq)
  (λh a=>by obtain ⟨bd,m,f0,bs,es,clk,hp,hs⟩:=a;exact ⟨⟨bd,m,f0,bs,es,clk⟩,hp,hs⟩)
 exact ⟨_,_,_,_,_,_,b,c,H⟩
theorem Sep.toDiskQ{w:World}{pd bd:Nat}{f0:Int}{bs:List UInt8}{es:List Ent}{clk:Nat}{hq:Hp}(H:Sep z (EZ pd bd m D f0 bs es clk hq++Γ) w)(b:D.Ok)(c:D.In bs es clk hq):Sep z (YtkblhjdljaoghaaGreatDoor.diskQ pd D hq::Γ) w:=
 H.shut.mono 0 Z (λh a=>⟨_,_,_,_,_,_,⟨b,c⟩,a⟩)
theorem Dsk.w1_ver(D:Dsk)(a:Bool)(p:List UInt8)(h:j≠i):(D.w1 a i p).ver j=D.ver j:=by
 cases a
 ·exact upf_other D.ver _ h
 exact upf_other D.ver _ h
theorem Dsk.ws_ver(a:Bool)(ps:List (List UInt8)):∀(D:Dsk) (i j:Nat),j<i\/i+ps.length<=j->(D.ws a i ps).ver j=D.ver j:=by
 induction ps with
 | nil=>intro D i j _;rfl
 | cons q qs ih=>
  intro D i j h;simp only[Aej] at h;simp only[Dsk.ws];rw[ih _ _ _ U,Dsk.w1_ver _ _ _ U]
theorem Dsk.ws_take{k:Nat}{ps:List (List UInt8)}{p:List UInt8}(h:ps[i]?=some p):D.ws b k (ps.take (i+1))=(D.ws b k (ps.take i)).w1 b (k+i) p:=by
 rw[AeQ,h];have a:=(Aee.1 h).1;rw[show (some p).toList=[p] from Z,Dsk.ws_snoc,AeA,AeH U]
theorem UW{hq:Hp}{ps:List (List UInt8)}(e:blk g (ps.flatten.map u8++V) T hq)(d:∀B∈ps,B.length=256)(h:ps[i]?=some B):rdH 1 (.slice (some ⟨g,0+i*256,none⟩) 256 256) 256 (B.map u8) hq:=by
 have key:∀(ps:List (List UInt8)) (i:Nat) (B:List UInt8),(∀B∈ps,B.length=256)->ps[i]?=some B->(ps.flatten.drop (i*256)).take 256=B/\i*256+256<=ps.flatten.length:=by
  intro ps
  induction ps with
  | nil=>intro i B _ h;simp at h
  | cons q qs ih=>
   intro i B b h;have a:=b q O
   cases i with
   | zero=>
    simp only[AeU,Aeo] at h;subst h;simp[Aew,a]
   | succ i=>
    simp only[AeB] at h;obtain ⟨c,f⟩:=ih i B (λB hp=>b B (by simp[hp])) h;rw[AgC,show (i+1)*256=q.length+i*256 from by omega,Ae9];refine ⟨?_,by rw[Aeh];omega⟩;rw[AeN U,AeT];rw[show q.length+i*256-q.length=i*256 from by omega];exact c
 obtain ⟨c,f⟩:=key ps i B d h;have b:(ps.flatten.map u8).length=ps.flatten.length:=Aei u8;refine e.rd U U (by rw[Aeh,b];omega) ?_;rw[AfP,AeS,AeW (by rw[b];omega),Aew (by rw[AeP,b];omega),<-AfX,<-Afr,c]
def Yf(c:UInt32):UInt32:=(c>>>1) ^^^ ((c&&&1)*2197175160)
def Jr:Nat->UInt32->UInt32
 | 0,c=>c
 | k+1,c=>Yf (Jr k c)
def crcTab:List UInt32:=(List.range 256).map λi:Nat=>Jr 8 (Fu (i:Int))
theorem Ix:crcTab.length=256:=by simp[crcTab]
theorem KR(h:i<256):crcTab[i]?=some (Jr 8 (Fu (i:Int))):=by simp[crcTab,h]
def HM(c:UInt32)(b:UInt8):UInt32:=(c>>>8) ^^^ (crcTab[(c.toUInt8 ^^^ b).toNat]?.getD 0)
def EE(c:UInt32)(bs:List UInt8):UInt32:=4294967295 ^^^ (bs.foldl HM (4294967295 ^^^ c))
def Bh(bs:List UInt8):UInt32:=EE 0 bs
theorem LS(c:UInt32)(a b:List UInt8):EE (EE c a) b=EE c (a++b):=by
 unfold EE;rw[<-UInt32.xor_assoc,UInt32.xor_self,UInt32.zero_xor,AgD]
def z32:Value:=.int .u32 0
def BR(x0 x1 x2:Value)(i:Nat):List Value:=[x0,x1,x2]++((crcTab.take i).map u32++List.replicate (256-i) z32)
theorem UX(h:i<=256):(BR v u y i).length=259:=by simp[BR,Ix];omega
theorem S4(b a x2:Value)(h:i<256):(BR b a x2 i).take (3+i)++[u32 (Jr 8 (Fu (i:Int)))]++(BR b a x2 i).drop (3+i+1)=BR b a x2 (i+1):=by
 have c:([b,a,x2]++(crcTab.take i).map u32).length=3+i:=by simp[Ix];omega
 have e1:BR b a x2 i=([b,a,x2]++(crcTab.take i).map u32)++List.replicate (256-i) z32:=by simp[BR]
 rw[e1,Aew U,Aem U,Ae9,AeN U,AeT,c];rw[show 3+i+1-(3+i)=1 from by omega,AgM];unfold BR;rw[AeQ,KR h];simp;omega
def AdM(pt:Nat):Ai:=blk pt (BR (.int .u32 0) (.int .i32 0) (.int .u32 0) 0) 239
def AdN(pt:Nat):Ai:=blk pt (BR (.int .u32 1) (.int .i32 0) (.int .u32 0) 256) 239
def tblA(pt:Nat):Ai:=λh=>AdM pt h\/AdN pt h
theorem S5{b:UInt8}:(BR v u y 256)[3+b.toNat]?=some (u32 (crcTab[b.toNat]?.getD 0)):=by
 have c:=b.toNat_lt;have a:=Ix;simp only[BR];rw[Aev O];simp only[Aej,AeE];rw[show 3+b.toNat-(0+1+1+1)=b.toNat from by omega];rw[Aep (by simp[a];omega),Aer,Aem U,KR U];rfl
def Ag(k:Nat)(x:Int):List UInt8:=(List.range k).map λi:Nat=>GI (x/2^(8*(k-1-i)))
theorem Ah(k:Nat)(x:Int):(Ag k x).length=k:=by simp[Ag]
theorem beN_get(x:Int)(h:i<n):(Ag n x)[i]?=some (GI (x/2^(8*(n-1-i)))):=by simp[Ag,h]
def Gp(bs T:List UInt8)(a i:Nat):List UInt8:=bs.take a++T.take i++bs.drop (a+i)
def Bw(bs T:List UInt8)(a:Nat):List UInt8:=bs.take a++T++bs.drop (a+T.length)
theorem Yg(h:n+i<=B.length)(hi:i<=S.length):(Gp B S n i).length=B.length:=by simp[Gp];omega
theorem UY(bs T:List UInt8)(a:Nat):Gp bs T a 0=bs:=by simp[Gp]
theorem Yh(bs T:List UInt8)(a:Nat)(h:i=T.length):Gp bs T a i=Bw bs T a:=by subst h;simp[Gp,Bw]
theorem Et(h:n+S.length<=B.length):(Bw B S n).length=B.length:=by simp[Bw];omega
theorem UZ{b:UInt8}(h:n+S.length<=B.length)(a:S[i]?=some b):
  ((Gp B S n i).map u8++V).take (n+i)++[u8 b]++((Gp B S n i).map u8++V).drop (n+i+1)=(Gp B S n (i+1)).map u8++V:=by
 have hi:=(Aee.1 a).1;have c:(B.take n++S.take i).length=n+i:=by simp;omega
 have d:B.drop (n+i)=B[n+i]'U::B.drop (n+i+1):=Ae2 U;unfold Gp;rw[AeQ,a,d];simp only[AeK,AeM,Aek];rw[<-Aek (List.map u8 (B.take n)),<-AeK];rw[Aew (by simp;omega),Aem (by simp;omega),Ae9,AeN (by simp;omega)];rw[show n+i+1-(List.map u8 (B.take n++S.take i)).length=1 from by rw[Aei,c];omega];simp[Agf]
def Iy(s:UInt32):List UInt8:=[s.toUInt8,(s>>>8).toUInt8,(s>>>16).toUInt8,(s>>>24).toUInt8]
def EF(l:List UInt8):Nat:=l.foldl (λn b=>256*n+b.toNat) 0
theorem KS(l:List UInt8)(b:UInt8):EF (l++[b])=256*EF l+b.toNat:=by simp[EF,AgD]
theorem IU:∀(l:List UInt8) (a:Nat),l.foldl (λn b=>256*n+b.toNat) a<(a+1)*256^l.length
 | [],a=>by simp
 | b::l,a=>by
  have h:=IU l (256*a+b.toNat);have e:=b.toNat_lt;simp only[List.foldl_cons,Aej,AhC];have c:(256*a+b.toNat+1)*256^l.length<=(256*(a+1))*256^l.length:=AfJ _ U;have d:256*(a+1)*256^l.length=(a+1)*(256^l.length*256):=by
   rw[AhD 256 (a+1),Nat.mul_assoc,AhD 256]
  omega
theorem U0(l:List UInt8):EF l<256^l.length:=by have:=IU l 0;simpa [EF] using this
def A5(l:List UInt8):Int:=IntKind.i64.wrap (EF l)
theorem Rw(h:B.length<=7):A5 B=EF B:=by
 have a:=U0 B;have b:256^B.length<=256^7:=Ahd U h;exact AfO _ U
theorem Hc(x:Int):∃q,IntKind.i64.wrap x=x+q*18446744073709551616/\ -9223372036854775808<=IntKind.i64.wrap x/\IntKind.i64.wrap x<=9223372036854775807:=by
 have key:IntKind.i64.wrap x=if 9223372036854775808<=x%18446744073709551616 then x%18446744073709551616-18446744073709551616 else x%18446744073709551616:=by
  show (if (true&&decide (x%(2^64:Int)>=(2^(64-1):Int)))=true then x%(2^64:Int)-(2^64:Int) else x%(2^64:Int))=_;simp only[Bool.true_and,decide_eq_true_eq,show (2:Int)^64=18446744073709551616 from Z,show (2:Int)^(64-1)=9223372036854775808 from Z,ge_iff_le]
 rw[key];by_cases h:9223372036854775808<=x%18446744073709551616
 ·rw[if_pos h];exact ⟨-(x/18446744073709551616)-1,by omega,by omega,by omega⟩
 rw[if_neg h];exact ⟨-(x/18446744073709551616),by omega,by omega,by omega⟩
theorem Qg(x:Int)(b:UInt8):IntKind.i64.wrap (IntKind.i64.wrap x*256)%256=0/\IntKind.i64.wrap (IntKind.i64.wrap x*256)+b.toNat=IntKind.i64.wrap (256*x+b.toNat):=by
 have h:=b.toNat_lt;obtain ⟨n,a,i,l⟩:=Hc x;obtain ⟨c,k,g,f⟩:=Hc (IntKind.i64.wrap x*256);obtain ⟨j,e,d,m⟩:=Hc (256*x+b.toNat);omega
theorem Yi(k:Nat)(h:n<256^k):EF (Ag k (n:Int))=n:=by
 induction k generalizing n with
 | zero=>simp at h;subst h;rfl
 | succ k ih=>
  have e:Ag (k+1) (n:Int)=Ag k ((n/256:Nat):Int)++[GI (n:Int)]:=by
   apply Afs;intro i;rcases AfL i k with a|a|a
   ·rw[beN_get _ U,Aep (by rw[Ah];omega),beN_get _ a]
    congr 2;rw[show 8*(k+1-1-i)=8+8*(k-1-i) from by omega,Int.pow_add,<-Int.ediv_ediv_of_nonneg (by decide)];rfl
   ·subst a
    rw[beN_get _ U,Aev (by rw[Ah];omega),Ah];simp
   rw[AeL (by rw[Ah];omega),AeL (by simp[Ah];omega)]
  rw[e,KS,ih (by rw[AhC] at h;omega)];have:(GI (n:Int)).toNat=n%256:=by simp[GI];omega
  rw[this];omega

def Bb(bs:List UInt8)(a:Int):List Value:=bs.map u8++[.int .i64 a]
theorem Fi(h:B.length=256):(Bb B t).length=257:=by simp[Bb,h]
theorem N7(a:Int)(h:B.length=256):(Bb B a)[256]?=some (I a):=by simp[Bb,List.getElem?_append,h]
theorem Js(h:B.length=256):(Bb B t).take 256++[I s]++(Bb B t).drop (256+1)=Bb B s:=by
 unfold Bb;rw[Aew (by simp[h]),Aem (by simp[h]),AeN (by simp[h]),AeY]
theorem U1{b:UInt8}(h:n+S.length<=B.length)(a:S[i]?=some b):
  (Bb (Gp B S n i) t).take (n+i)++[u8 b]++(Bb (Gp B S n i) t).drop (n+i+1)=Bb (Gp B S n (i+1)) t:=UZ h a
theorem N9(h:n+S.length<=B.length)(a:m=S.length):(Bb B t).take n++(S.map u8).take m++(Bb B t).drop (n+m)=Bb (Bw B S n) t:=by
 subst a;unfold Bb Bw;rw[Aew (by simp;omega),AeW (by simp;omega),Aem (l:=S.map u8) O];simp
def wrH(pw:Nat)(a:Int):Ai:=λh=>∃bs:List UInt8,bs.length=256/\blk pw (Bb bs a) 173 h
theorem wrH.at{a:Int}(w:wrH n a h):celH h n 256 (I a):=by
 obtain ⟨bs,b,c⟩:=w;exact c.celH 256 (N7 a b)
theorem HN{lo c:Nat}{ys:List UInt8}(q:blk m (Bb B s) T h)(a:B.length=256)(e:lo+n<=256)(b:n<=c)(f:c<=256)(d:(B.drop lo).take n=ys):rdH 1 (.slice (some ⟨m,lo,none⟩) n c) n (ys.map u8) h:=by
 subst d;refine q.rd b U (by rw[Fi a];omega) ?_;unfold Bb;rw[AeW (by simp;omega),Aew (by simp;omega),AeS];simp
def Oa(bs:List UInt8):List UInt8:=Bw bs (Iy (Bh (bs.take 252))) 252
theorem Yj(h:B.length=256):(Oa B).length=256:=by
 unfold Oa;rw[Et (by simp[Iy,h])];exact h

theorem S6(x:Int):IntKind.i64.wrap (IntKind.i64.wrap x)=IntKind.i64.wrap x:=AfO _ (by obtain ⟨q,a,b,c⟩:=Hc x;omega)
theorem Ob:IntKind.i64.wrap (A5 B*2^8)%256=0:=(Qg (EF B) 0).1
theorem MF{b:UInt8}(h:B[j]?=some b):IntKind.i64.wrap (IntKind.i64.wrap (A5 (B.take j)*2^8)+(b.toNat:Int))=A5 (B.take (j+1)):=by
 rw[AeQ,h];show IntKind.i64.wrap (IntKind.i64.wrap (IntKind.i64.wrap (EF (B.take j))*256)+(b.toNat:Int))=IntKind.i64.wrap (EF (B.take j++[b]):Nat);rw[(Qg _ b).2,S6,KS];congr 1

def rz:List UInt8->Nat
 | []=>0
 | x::xs=>if rz xs=0/\x=0 then 0 else rz xs+1
theorem Rx:∀xs:List UInt8,rz xs<=xs.length
 | []=>Ael _
 | x::xs=>by have:=Rx xs;simp only[rz,Aej];split<;>omega
theorem Ry:∀(xs:List UInt8) (j:Nat) (b:UInt8),rz xs<=j->xs[j]?=some b->b=0
 | [],j,b,_,h=>by simp at h
 | x::xs,0,b,h1,h=>by
  simp only[rz] at h1;split at h1
  ·rename_i q;simp at h;exact h▸q.2
  omega
 | x::xs,j+1,b,h1,h=>by
  simp only[rz] at h1;refine Ry xs j b ?_ (by simpa using h);split at h1<;>omega
theorem LT:∀(xs:List UInt8) (m:Nat),rz xs=m+1->∃b,xs[m]?=some b/\b≠0
 | [],m,h=>by simp[rz] at h
 | x::xs,m,h=>by
  simp only[rz] at h;split at h
  ·omega
  rename_i q
  cases m with
  | zero=>exact ⟨x,by simp,λe=>q ⟨by omega,e⟩⟩
  | succ m=>obtain ⟨b,h1,h2⟩:=LT xs m U;exact ⟨b,by simpa using h1,h2⟩
theorem rz_is(f:m<=B.length)(d:∀j b,m<=j->B[j]?=some b->b=0)(c:m=0\/∃b,B[m-1]?=some b/\b≠0):m=rz B:=by
 rcases AfL m (rz B) with q|q|q
 ·obtain ⟨b,e,a⟩:=LT B (rz B-1) U
  exact absurd (d _ _ U e) a
 ·exact q
 rcases c with c|⟨b,e,a⟩
 ·omega
 exact absurd (Ry B _ _ U e) a
theorem LU :rz B=0↔∀b∈B,b=0:=by
 constructor
 ·intro h b a
  obtain ⟨j,c,rfl⟩:=Agd.1 a;exact Ry B j _ U (Aef c)
 intro h;exact (rz_is (AeR _) (λj b _ e=>h b (Aeg e)) (.inl Z)).symm
def lz:List UInt8->Nat
 | []=>0
 | x::xs=>if x=0 then lz xs+1 else 0
theorem KT:∀{xs:List UInt8} {p:Nat},p<=xs.length->(∀j b,j<p->xs[j]?=some b->b=0)->(p=xs.length\/∃b,xs[p]?=some b/\b≠0)->p=lz xs
 | [],p,hp,_,_=>by simp at hp;subst hp;rfl
 | x::xs,0,_,_,h1=>by
  rcases h1 with h1|⟨b,e,hb⟩
  ·simp at h1
  simp at e;subst e;simp[lz,hb]
 | x::xs,p+1,hp,h0,h1=>by
  have e:=h0 0 x U Z;subst e;have:=KT (xs:=xs) (p:=p) (by simpa using hp) (λj b a e=>h0 (j+1) b U (by simpa using e)) (by simpa using h1);simp[lz,this]
theorem Ac9(h:rz B≠0):lz (B.take (rz B))<rz B:=by
 obtain ⟨b,e,c⟩:=LT B (rz B-1) U;rcases Aeu (lz (B.take (rz B))) (rz B) with q|q
 ·exact q
 have key:∀(ys:List UInt8) j b,j<lz ys->ys[j]?=some b->b=0:=by
  intro ys
  induction ys with
  | nil=>intro j b a;simp[lz] at a
  | cons y ys ih=>
   intro j b a e;simp only[lz] at a;split at a
   ·rename_i q
    cases j with
    | zero=>simp at e;exact e▸q
    | succ j=>exact ih j b U (by simpa using e)
   omega
 exact absurd (key (B.take (rz B)) (rz B-1) b U (by rw[Ae0,if_pos U];exact e)) c
def J9(mag sec:List UInt8):Prop:=sec.drop 252=Iy (Bh (sec.take 252))/\sec.take 4=mag
instance(mag sec:List UInt8):Decidable (J9 mag sec):=by unfold J9;exact inferInstance
theorem Oc(h:B.length=256):∃a c1 c2 b,B.drop 252=[a,c1,c2,b]:=by
 have c:(B.drop 252).length=4:=by simp[h]
 match hd:B.drop 252,c with
 | [a,c1,c2,b],_=>exact ⟨a,c1,c2,b,Z⟩

def AL(l:List UInt8):List UInt8:=l++List.replicate (256-l.length) 0
theorem AW{l:List UInt8}(h:l.length<=256):(AL l).length=256:=by simp[AL];omega
theorem BG(a:n=B.length)(h:n+S.length<=256):Bw (AL B) S n=AL (B++S):=by
 subst a;unfold Bw AL;rw[AeI Z,Ae9,AeN U,AeT,AgM,Aeh];rw[show 256-B.length-(B.length+S.length-B.length)=256-(B.length+S.length) from by omega]
theorem U2(a:B.length<=n)(h:n+S.length<=256):Bw (AL B) S n=AL (B++List.replicate (n-B.length) 0++S):=by
 have:AL B=AL (B++List.replicate (n-B.length) 0):=by
  unfold AL;rw[Aek,Aeh,Afl,Aga];congr 2;omega
 rw[this,BG (by simp;omega) h]
def BD(l:List UInt8):List UInt8:=Oa (AL l)
theorem sect_len{l:List UInt8}(h:l.length<=252):(BD l).length=256:=Yj (AW U)
theorem IV(h:B.length<=252):(BD B).take 252=(AL B).take 252:=by
 unfold BD Oa Bw;rw[Aek,Aew (by simp[AW (show B.length<=256 by omega)]),AeG];simp
theorem Iz(h:B.length<=252):(BD B).drop 252=Iy (Bh ((BD B).take 252)):=by
 rw[IV h];have a:=AW (show B.length<=256 by omega);unfold BD Oa Bw;rw[Aek,Ae9,AeN (by simp[a])];simp[a,Iy]
theorem Ca{l:List UInt8}(h:l.length<=252){p k:Nat}(hp:p+k<=l.length):((BD l).drop p).take k=(l.drop p).take k:=by
 have e:((BD l).drop p).take k=(((BD l).take 252).drop p).take k:=by
  rw[AfY,AeG];congr 1;omega
 rw[e,IV h,AfY,AeG];rw[show min k (252-p)=k from by omega];unfold AL;rw[AeW U,Aew (by simp;omega)]
theorem MG{l:List UInt8}(h:l.length<=252):rz (((BD l).drop l.length).take (252-l.length))=0:=by
 rw[LU];intro b a;have e:((BD l).drop l.length).take (252-l.length)=(((BD l).take 252).drop l.length):=by rw[AfY]
 rw[e,IV h,AfY] at a;unfold AL at a;rw[AfU Z] at a;exact (Af5.1 (Afi a)).2

theorem Cj(ns:List Int):(ns.flatMap (Ag 4)).length=4*ns.length:=by
 induction ns with
 | nil=>rfl
 | cons x ns ih=>simp[Ah,ih];omega
theorem S7(h:l[i]?=some t):(l.take i).flatMap (Ag 4)++Ag 4 t=(l.take (i+1)).flatMap (Ag 4):=by
 rw[AeQ,h];simp
def BI(sec:List UInt8):Nat:=(A5 ((sec.drop 24).take 2)).toNat
def Eu(sec:List UInt8)(j:Nat):Int:=A5 ((sec.drop (26+4*j)).take 4)
def hN(sec:List UInt8)(i:Nat):List Value:=(List.range i).map λj=>Value.int .i64 (Eu sec j)
theorem Yk(sec:List UInt8)(i:Nat):hN sec i++[I (Eu sec i)]=hN sec (i+1):=by simp[hN,Ahb]
def IA(sec:List UInt8):Prop:=J9 [80,76,79,71] sec/\(0<=A5 ((sec.drop 4).take 8)/\A5 ((sec.drop 4).take 8)<=1099511627776)/\(0<=A5 ((sec.drop 12).take 8)/\A5 ((sec.drop 12).take 8)<=1099511627776)/\(1<=BI sec/\BI sec<=40)/\(∀j,j<BI sec->0<=Eu sec j/\Eu sec j<=1023)/\rz ((sec.drop (26+4*BI sec)).take (252-(26+4*BI sec)))=0
def IW(sec:List UInt8):Prop:=sec.drop 252=Iy (Bh (sec.take 252))/\(1<=A5 (sec.take 1)/\A5 (sec.take 1)<=5)/\(0<=A5 ((sec.drop 1).take 2)/\A5 ((sec.drop 1).take 2)<=1023)
theorem Abl{sec:List UInt8}:∃m:Nat,A5 ((sec.drop 24).take 2)=m/\BI sec=m:=by
 have h:A5 ((sec.drop 24).take 2)=EF ((sec.drop 24).take 2):=Rw (by simp;omega);exact ⟨_,h,by unfold BI;rw[h];rfl⟩
theorem Rz{w:World}(H:Sep z Γ w):Sep z (poolA (λ_=>none)::Γ) w:=H.void λh k o e=>by cases e
theorem Od{w:World}{hq:Hp}(H:Sep z (poolA hq::A::Γ) w){M:Ai}(f:∀h,A h->M h)(d:∀h h',M h->CL h h'->M h'):∃a,(CL hq a/\M a)/\Sep z (poolA a::Γ) w:=by
 have H1:Sep z (seps [poolA hq,A]::Γ) w:=Sep.shut (As:=[poolA hq,A]) H;exact H1.exAt 0 (σ:=Hp) (p:=λa=>CL hq a/\M a) (B:=λa=>poolA a) Z (λh hs=>by
  refine ⟨h,⟨λk o e=>?_,?_⟩,λk o e=>e⟩
  ·obtain ⟨h',b,c⟩:=FQ hs (i:=0) Z
   exact c _ _ (b _ _ e)
  obtain ⟨h',b,c⟩:=FQ hs (i:=1) Z;exact d _ _ (f _ b) c)
theorem DX{w:World}{hq:Hp}(H:Sep z (poolA hq::A::Γ) w)(d:∀h,A h->rdH m v n V h):∃c,(CL hq c/\rdH m v n V c)/\Sep z (poolA c::Γ) w:=
 Od H d (λ_ _ a b=>a.le b)
structure Img where
 num:Int
 kind:Int
 body:List UInt8
deriving DecidableEq
def Img.Ok(m:Img):Prop:=(0<=m.num/\m.num<=1023)/\(1<=m.kind/\m.kind<=5)/\m.body.length=240
instance(m:Img):Decidable m.Ok:=by unfold Img.Ok;exact inferInstance
abbrev ImE:=Img×Value
def ImE.cells(e:ImE):List Value:=[.int .i64 e.1.num,.int .i64 e.1.kind,e.2]
def Gq(es:List ImE):List Value:=es.flatMap ImE.cells
theorem Jt:∀{es:List ImE} {j:Nat} {e:ImE},es[j]?=some e->∀k u,(ImE.cells e)[k]?=some u->(Gq es)[j*3+k]?=some u
 | x::es,0,e,h,k,u,hk=>by
  simp at h;subst h;have hl:=(Aee.1 hk).1;simp only[Gq,AeJ];rw[Aep U];simpa using hk
 | x::es,j+1,e,h,k,u,hk=>by
  have:=Jt (es:=es) (j:=j) (by simpa using h) k u hk;simp only[Gq,AeJ] at this ⊢;rw[Aev (by simp[ImE.cells];omega)];rw[show (j+1)*3+k-(ImE.cells x).length=j*3+k from by simp[ImE.cells];omega];exact this
theorem Oe(es:List ImE)(e:ImE):Gq es++ImE.cells e=Gq (es++[e]):=by simp[Gq]
def imesOk(es:List ImE)(h:Hp):Prop:=∀e∈es,rdH 1 e.2 e.1.body.length (e.1.body.map u8) h
theorem imesOk.le{es:List ImE}{h h':Hp}(a:imesOk es h)(s:CL h h'):imesOk es h':=λe b=>(a e b).le s
def imgsH(v:Value)(ims:List Img):Ai:=λh=>∃es:List ImE,es.map Prod.fst=ims/\rdH 3 v ims.length (Gq es) h/\imesOk es h
theorem imgsH.le{v:Value}{ims:List Img}{h h':Hp}(a:imgsH v ims h)(s:CL h h'):imgsH v ims h':=by
 obtain ⟨es,b,c,d⟩:=a;exact ⟨es,b,c.le s,d.le s⟩
theorem imgsH.slc{v:Value}{ims:List Img}{h:Hp}(a:imgsH v ims h):∃d c,v=.slice d ims.length c:=by
 obtain ⟨es,e,b,f⟩:=a;exact b.slc
theorem imgsH.small{v:Value}{ims:List Img}{h:Hp}(a:imgsH v ims h):ims.length<=9223372036854775807:=by
 obtain ⟨es,c,b,d⟩:=a;exact b.small

structure Rc where
 seq:Int
 ims:List Img
deriving DecidableEq
abbrev RcE:=Rc×Value
def RcE.cells(e:RcE):List Value:=[.int .i64 e.1.seq,e.2]
def IX(es:List RcE):List Value:=es.flatMap RcE.cells
theorem LV:∀{es:List RcE} {j:Nat} {e:RcE},es[j]?=some e->∀k u,(RcE.cells e)[k]?=some u->(IX es)[j*2+k]?=some u
 | x::es,0,e,h,k,u,hk=>by
  simp at h;subst h;have hl:=(Aee.1 hk).1;simp only[IX,AeJ];rw[Aep U];simpa using hk
 | x::es,j+1,e,h,k,u,hk=>by
  have:=LV (es:=es) (j:=j) (by simpa using h) k u hk;simp only[IX,AeJ] at this ⊢;rw[Aev (by simp[RcE.cells];omega)];rw[show (j+1)*2+k-(RcE.cells x).length=j*2+k from by simp[RcE.cells];omega];exact this
theorem U3(es:List RcE)(e:RcE):IX es++RcE.cells e=IX (es++[e]):=by simp[IX]
def rcesOk(es:List RcE)(h:Hp):Prop:=∀e∈es,imgsH e.2 e.1.ims h
theorem rcesOk.le{es:List RcE}{h h':Hp}(a:rcesOk es h)(s:CL h h'):rcesOk es h':=λe b=>(a e b).le s
def recsH(v:Value)(rs:List Rc):Ai:=λh=>∃es:List RcE,es.map Prod.fst=rs/\rdH 2 v rs.length (IX es) h/\rcesOk es h
theorem recsH.slc{v:Value}{rs:List Rc}{h:Hp}(a:recsH v rs h):∃d c,v=.slice d rs.length c:=by
 obtain ⟨es,e,b,f⟩:=a;exact b.slc

def Cr(sec:List UInt8):Int:=A5 ((sec.drop 4).take 8)
def Cs(sec:List UInt8):Int:=A5 ((sec.drop 12).take 8)
def DL(sec:List UInt8):UInt32:=Fu (A5 ((sec.drop 20).take 4))
def Fy(sec:List UInt8):Int:=A5 ((sec.drop 3).take 4)
def Fz(sec:List UInt8):Int:=A5 ((sec.drop 7).take 5)
def Co(sec:List UInt8):Img:=⟨A5 ((sec.drop 1).take 2),A5 (sec.take 1),(sec.drop 12).take 240⟩
def ringAt(s:Sup)(x:Int):Nat:=(s.start+x%s.len).toNat
def nextP(f:Nat->List UInt8)(e sq room:Int)(ims:List Img):Prop:=
 IA (f 0)/\Cr (f 0)=e/\Cs (f 0)=sq/\1+(BI (f 0):Int)<=room/\
 ims=(List.range (BI (f 0))).map (λj=>Co (f (1+j)))/\
 (∀j,j<BI (f 0)->IW (f (1+j))/\Fy (f (1+j))=e/\Fz (f (1+j))=sq/\(Co (f (1+j))).num=Eu (f 0) j)/\
 Bh ((List.range (BI (f 0))).flatMap λj=>f (1+j))=DL (f 0)
theorem rdH.sl{sz:Nat}{xs:List Value}(r:rdH sz v n xs h)(a:0<xs.length):∃b o c,v=.slice (some ⟨b,o,none⟩) n c:=by
 obtain ⟨g,c,e,_,_,_,f⟩:=r;obtain ⟨b,p,d,_⟩:=f 0 xs[0] (Aef a);subst d;exact ⟨b,p,c,e⟩
theorem EG(q:blk g (B.map u8++V) T h)(b:B.length=m)(a:m<=n/\n<=9223372036854775807/\V.length=n-m):rdH 1 (.slice (some ⟨g,0,none⟩) m n) m (B.map u8) h:=by
 refine q.rd a.1 a.2.1 (by simp;omega) ?_;rw[Aey,AeS,Aew (by simp;omega),Aem (by simp;omega)]
def Eb(F:Nat->List UInt8)(i:Nat):List UInt8:=(List.range i).flatMap λj=>F (1+j)
theorem S8(F:Nat->List UInt8)(i:Nat):Eb F i++F (1+i)=Eb F (i+1):=by simp[Eb,Ahb]
theorem U4(F:Nat->List UInt8)(i:Nat):EE (Bh (Eb F i)) (F (1+i))=Bh (Eb F (i+1)):=by
 unfold Bh;rw[LS,S8]
theorem AdO(F:Nat->List UInt8):Value.int .u32 0=u32 (Bh (Eb F 0)):=by
 have:Bh (Eb F 0)=0:=by show Bh []=0;decide
 rw[this];rfl
def Cv(n:Nat):Dsk:=⟨n,λ_=>List.replicate 256 0,λ_=>[],0,0,0,false,0⟩
theorem Yl(h:1<=n/\n<=4096):(Cv n).Ok:=⟨h.1,h.2,λ_ _=>by simp[Cv],λ_ _ p hp=>by simp[Cv] at hp,by simp[Cv],by simp[Cv],by simp[Cv],by simp[Cv]⟩
theorem Ym :(Cv n).In (List.replicate (n*256) 0) [] 0 (λ_=>none):=by
 refine ⟨by simp[Cv],λi hi=>?_,λe a=>absurd a O,λi _ h=>by simp[Cv] at h,by simp,by simp,λe a=>absurd a O⟩;simp only[Cv] at hi ⊢;rw[AgM,List.take_replicate];congr 1;omega
theorem diskA.f1{D:Dsk}(h:D.f1=0): {D with f1:=Bm D.f1} =D:=by
 cases D;simp at h;subst h;rfl

theorem Sep.tri{w:World}{A B C:List Ai}(H:Sep z (A++(B++C)) w):Sep z (A++(C++B)) w:=by
 have f:Sep z ([seps A]++(B++C)) w:=H.shut;have j:Sep z (B++(C++[seps A])) w:=by rw[<-Aek];exact f.swap
 have m:Sep z ([seps B]++(C++[seps A])) w:=j.shut;have k:Sep z (C++([seps A]++[seps B])) w:=by rw[<-Aek];exact m.swap
 have l:Sep z [seps C,seps A,seps B] w:=k.shut;have i:Sep z ([seps B]++[seps A,seps C]) w:=l.pick 3 [2,1,0] Z;have g:Sep z (B++[seps A,seps C]) w:=i.opened;have h:Sep z ([seps A]++([seps C]++B)) w:=g.swap;have n:Sep z (A++([seps C]++B)) w:=h.opened;have c:Sep z ([seps C]++(B++A)) w:=by rw[<-Aek];exact n.swap
 have b:Sep z (C++(B++A)) w:=c.opened;have e:Sep z ((B++A)++C) w:=b.swap;have d:Sep z (B++(A++C)) w:=by rw[<-Aek];exact e
 have a:Sep z ((A++C)++B) w:=d.swap;rwa[Aek] at a
def dkB(pd bd m:Nat)(D:Dsk)(f0:Int):Ai:=blk pd [.slice (some ⟨bd,0,none⟩) (D.n*256) (D.n*256),.map (some m),.int .i64 f0,.int .i64 D.f1,.int .i64 D.f2,.int .i64 D.f3,.bool D.cut,.int .i64 D.left] 103
theorem Cn.onDisk{f:FuncId}{args:List Value}{pre:List Ai}{pd:Nat}{post:Value->List Ai->Prop}
  (h:D.Ok->∀bd m f0,Cn P f args (dkB pd bd m D f0::pre) (λv G=>∃Γ',post v Γ'/\G=Γ'++[dkB pd bd m D f0])):
  Cn P f args (diskA pd D::pre) (λv G=>∃Γ',post v Γ'/\G=Γ'++[diskA pd D]):=λz R w H=>by
 have H0:Sep z (diskA pd D::(pre++R)) w:=H;obtain ⟨bd,m,f0,bs,es,clk,hq,c,b,H1⟩:=H0.disk;have H2:Sep z ([dkB pd bd m D f0]++((EZ pd bd m D f0 bs es clk hq).drop 1++(pre++R))) w:=H1;have H3:Sep z ((dkB pd bd m D f0::pre)++(R++(EZ pd bd m D f0 bs es clk hq).drop 1)) w:=by
  have:=H2.tri;rw[Aek] at this;exact this
 refine Ret.mono (h c bd m f0 z _ w H3) ?_;rintro v a ⟨Γ,⟨Γ',hp,rfl⟩,H4⟩;refine ⟨Γ'++[diskA pd D],⟨Γ',hp,Z⟩,?_⟩;rw[Aek] at H4;have H5:Sep z ([dkB pd bd m D f0]++(R++((EZ pd bd m D f0 bs es clk hq).drop 1++Γ'))) a:=by
  have:=H4.swap;rw[Aek,Aek] at this;exact this
 have H6:Sep z (EZ pd bd m D f0 bs es clk hq++(Γ'++R)) a:=by
  have:=H5.tri;rw[Aek] at this;exact this
 have H7:Sep z ([diskA pd D]++(Γ'++R)) a:=Sep.toDisk H6 c b;have H8:Sep z (Γ'++(R++[diskA pd D])) a:=by
  have:=H7.swap;rw[Aek] at this;exact this
 have H9:=H8.tri;rw[<-Aek] at H9;exact H9

def IB:List Int->Nat->List IE
 | [],_=>[]
 | k::ks,n=>(k,.bool true,n)::IB ks (n+1)
def seen(ns:List Int):List IE:=IB ns 0
theorem IY:∀(ns:List Int) (n:Nat) (k:Int),CQ (IB ns n) k=if k∈ns then some (.bool true) else none
 | [],n,k=>rfl
 | x::xs,n,k=>by
  simp only[IB,CQ,IY xs];by_cases h:k=x
  ·simp[h]
  by_cases h2:k∈xs
  ·simp[h,h2]
  simp[h,h2]
theorem U5:(CQ (seen l) t).getD (.bool false)=.bool (decide (t∈l)):=by
 unfold seen;rw[IY];split
 ·rename_i h;simp[h]
 rename_i h;simp[h]
theorem KU:∀(ns:List Int) (n:Nat) (k:Int),IB (ns++[k]) n=IB ns n++[(k,.bool true,n+ns.length)]
 | [],n,k=>rfl
 | x::xs,n,k=>by
  simp only[AfD,IB,KU xs,Aej];rw[show n+1+xs.length=n+(xs.length+1) from by omega]
theorem U6{ns:List Int}{k:Int}(h:k∉ns):E5 (seen ns) k (.bool true) ns.length=seen (ns++[k])/\putC (seen ns) k ns.length=(ns++[k]).length:=by
 have:CR (seen ns) k=false:=by unfold CR seen;rw[IY,if_neg h];rfl
 constructor
 ·unfold E5;rw[this];unfold seen;rw[KU];simp
 unfold putC;rw[this];simp
def imA(A:Ai)(v:Value)(es:List ImE):Ai:=λh=>A h/\rdH 3 v es.length (Gq es) h/\imesOk es h
theorem Sep.imA{z w:World}{Γ:List Ai}(i:Nat){A:Ai}(H:Sep z Γ w)(hi:Γ[i]?=some A){v:Value}{ims:List Img}(d:∀h,A h->imgsH v ims h):∃es:List ImE,es.map Prod.fst=ims/\Sep z (Γ.set i (YtkblhjdljaoghaaGreatDoor.imA A v es)) w:=
 H.exAt i (p:=λes:List ImE=>es.map Prod.fst=ims) (B:=λes=>YtkblhjdljaoghaaGreatDoor.imA A v es) hi (λh a=>by
  obtain ⟨es,b,c,e⟩:=d h a;subst b;exact ⟨es,Z,a,by simpa using c,e⟩)
theorem imA.at{a:Option Addr}{c:Nat}{es:List ImE}{e:ImE}{w:World}(i:Nat)(H:Sep z Γ w)(hi:Γ[i]?=some (imA A (.slice a n c) es))(m:es[j]?=some e):∀k u,(ImE.cells e)[k]?=some u->At a (j*3+k) u w:=λk u l=>by
 have d:=H.rd i hi (λh q=>q.2.1);obtain ⟨b,c',g,_,_,_,f⟩:=d;cases g;exact f _ _ (Jt m k u l)
def FA(ims:List Img):List Value:=ims.map λm=>.int .i64 m.num
theorem U7{ims:List Img}{m:Img}(h:ims[i]?=some m):FA (ims.take i)++[I m.num]=FA (ims.take (i+1)):=by
 rw[AeQ,h];simp[FA]
theorem Yn(ims:List Img):FA ims=(ims.map Img.num).map I:=by simp[FA]
def CN(e sq:Int)(m:Img):List UInt8:=Ag 1 m.kind++Ag 2 m.num++Ag 4 e++Ag 5 sq++m.body
def CO(e sq:Int)(ims:List Img):List UInt8:=ims.flatMap λm=>BD (CN e sq m)
theorem S9{ims:List Img}{m:Img}(h:ims[i]?=some m):CO t s (ims.take i)++BD (CN t s m)=CO t s (ims.take (i+1)):=by
 rw[AeQ,h];simp[CO]
def hdL(e sq:Int)(ims:List Img):List UInt8:=[80,76,79,71]++Ag 8 e++Ag 8 sq++Ag 4 ((Bh (CO e sq ims)).toNat:Int)++Ag 2 ((ims.map Img.num).length:Int)++(ims.map Img.num).flatMap (Ag 4)
theorem GQ{e sq:Int}{m:Img}(h:m.body.length=240):(CN e sq m).length=252:=by simp[CN,Ah,h]
theorem Of{e sq:Int}:∀{ims:List Img},(∀m∈ims,m.Ok)->(CO e sq ims).length=ims.length*256
 | [],_=>rfl
 | m::ims,h=>by
  have h1:=Of (e:=e) (sq:=sq) (ims:=ims) (λm b=>h m (by simp[b]));have a:=sect_len (l:=CN e sq m) (by rw[GQ (h m O).2.2];omega);simp only[CO,AeJ,Aeh,Aej] at h1 ⊢;rw[h1,a];omega
def BE(e sq:Int)(ims:List Img):List (List UInt8):=BD (hdL e sq ims)::ims.map λm=>BD (CN e sq m)
theorem Ta(e sq:Int)(ims:List Img):BD (hdL e sq ims)++CO e sq ims=(BE e sq ims).flatten:=by
 simp[BE,CO,List.flatMap]
theorem hdL_len(e sq:Int)(ims:List Img):(hdL e sq ims).length=26+4*ims.length:=by
 simp[hdL,Ah,Cj,-List.length_flatMap];omega
theorem KW{ims:List Img}{m:Img}(h:(ims.map Img.num).Nodup)(hi:ims[i]?=some m)(b:m.num∈(ims.take i).map Img.num):False:=by
 have a:=(Aee.1 hi).1;rw[<-AeO i ims,AeK,Afc] at h;refine h.2.2 _ b m.num ?_ Z;rw[Ae2 a,(Aee.1 hi).2];simp
def EH(ims:List Img):Prop:=(∀m∈ims,m.Ok)/\(ims.map Img.num).Nodup

def Dsk.wf(D:Dsk):Dsk:= {D with f2:=Bm D.f2}
def Dsk.wr(D:Dsk)(x:Nat)(ps:List (List UInt8)):Dsk:= {Dsk.ws {D with f2:=Bm D.f2} false x ps with left:=max 0 (D.left-1)}
def Dsk.bad(D:Dsk):Prop:=D.f2=1\/(D.cut=true/\D.left=0)
theorem Dsk.wr_n(D:Dsk)(x:Nat)(ps:List (List UInt8)):(D.wr x ps).n=D.n:=Dsk.ws_n _ _ _ _
theorem Dsk.ws_len(ps:List (List UInt8)):∀(D:Dsk) (i j:Nat),((D.ws false i ps).ver j).length<=(D.ver j).length+1:=by
 induction ps with
 | nil=>intro D i j;simp[Dsk.ws]
 | cons q qs ih=>
  intro D i j;rcases Aeu i j with h|h
  ·have:=ih (D.w1 false i q) (i+1) j
   rw[Dsk.w1_ver _ _ _ U] at this;exact this
  simp only[Dsk.ws];rw[Dsk.ws_ver _ _ _ _ _ (.inl U)];show ((Dj D.ver i (D.ver i++[q])) j).length<=_;unfold Dj;split
  ·rename_i e;subst e;simp
  omega
theorem Dsk.wr_len(D:Dsk)(x:Nat)(ps:List (List UInt8))(j:Nat):((D.wr x ps).ver j).length<=(D.ver j).length+1:=Dsk.ws_len ps {D with f2:=Bm D.f2} x j
theorem Tc{ps:List (List UInt8)}(h:∀p∈ps,p.length=256):∀k,(ps.take k).flatten=ps.flatten.take (k*256):=by
 induction ps with
 | nil=>intro k;simp
 | cons q qs ih=>
  intro k
  cases k with
  | zero=>simp
  | succ k=>
   have hq:=h q O;rw[Ae8,AgC,AgC,ih (λp hp=>h p (by simp[hp])),Ag1,Aem (l:=q) U];rw[show (k+1)*256-q.length=k*256 from by omega]
theorem Td{ps:List (List UInt8)}(h:∀p∈ps,p.length=256):∀k,(ps.drop k).flatten=ps.flatten.drop (k*256):=by
 induction ps with
 | nil=>intro k;simp
 | cons q qs ih=>
  intro k
  cases k with
  | zero=>simp
  | succ k=>
   have hq:=h q O;rw[Ae6,AgC,ih (λp hp=>h p (by simp[hp])),Ae9,AeN (l:=q) U,AeT];rw[show (k+1)*256-q.length=k*256 from by omega]
theorem U8{ps:List (List UInt8)}(h:∀p∈ps,p.length=256):ps.flatten.length=ps.length*256:=by
 induction ps with
 | nil=>rfl
 | cons q qs ih=>
  have hq:=h q O;rw[AgC,Aeh,ih (λp hp=>h p (by simp[hp])),Aej];omega
theorem Yo{e sq:Int}{ims:List Img}(h:∀m∈ims,m.Ok)(b:ims.length<=40):(∀p∈BE e sq ims,p.length=256)/\(BE e sq ims).length=1+ims.length:=by
 refine ⟨λp hp=>?_,by simp[BE];omega⟩;rcases Aeq.1 hp with rfl|hp
 ·exact sect_len (by rw[hdL_len];omega)
 obtain ⟨m,a,rfl⟩:=Aen.1 hp;exact sect_len (Agl (GQ (h m a).2.2))
theorem grow.rdB{e:TypeId}{b c:Nat}{xs:List UInt8}(q:grow e 1 (.slice (some ⟨b,0,none⟩) n c) n (xs.map u8) h):rdH 1 (.slice (some ⟨b,0,none⟩) n c) n (xs.map u8) h:=q.rd
theorem grow.sl{e:TypeId}{sz:Nat}{xs:List Value}(q:grow e sz v n xs h)(f:0<n):∃b c,v=.slice (some ⟨b,0,none⟩) n c/\n<=c/\c<=9223372036854775807:=by
 have d:=q.rd;rcases q.form with ⟨_,rfl⟩|⟨b,c,rfl,h⟩
 ·omega
 obtain ⟨_,_,e,_,a,_⟩:=d;cases e;exact ⟨b,c,Z,h,a⟩

def Dk(D:Dsk)(s:Sup)(a:Int):Nat->List UInt8:=λj=>D.cont (ringAt s (a+j))
inductive Runs(D:Dsk)(s:Sup):Int->Int->Int->List Rc->Int->Int->Int->Prop
 | nil (a q u:Int):Runs D s a q u [] a q u
 | snoc {a q u a' q' u':Int} {rs:List Rc} {ims:List Img} :Runs D s a q u rs a' q' u'->u'<s.len->nextP (Dk D s a') s.epoch q' (s.len-u') ims->Runs D s a q u (rs++[⟨q',ims⟩]) ((a'+(1+(ims.length:Int)))%s.len) (q'+1) (u'+(1+(ims.length:Int)))
theorem nextP.len{f:Nat->List UInt8}{e sq:Int}{ims:List Img}(h:nextP f e sq t ims):1<=ims.length/\ims.length<=40/\1+(ims.length:Int)<=t:=by
 obtain ⟨a,_,_,d,b,_⟩:=h;have c:=a.2.2.2.1;have:ims.length=BI (f 0):=by rw[b];simp
 omega
section
theorem BX(b:0<=t)(d:t<9223372036854775808)(c:t<256^m):A5 (Ag m t)=t:=by
 obtain ⟨n,rfl⟩:=Af0 b;have a:EF (Ag m (n:Int))=n:=Yi m (by exact_mod_cast c);unfold A5;rw[a];exact AfO _ U
theorem Hd(a b:List UInt8)(hp:n=a.length)(c:m=b.length):((a++b++B).drop n).take m=b:=by
 subst hp c;rw[Aek,AfU Z,AeI Z]
theorem U9:∀{j:Nat} {x:Int},l[j]?=some x->((l.flatMap (Ag 4)).drop (4*j)).take 4=Ag 4 x:=by
 induction l with
 | nil=>intro j x h;simp at h
 | cons y ys ih=>
  intro j x h
  cases j with
  | zero=>
   simp at h;subst h;rw[AeJ,Nat.mul_zero,Aey,AeI (Ah 4 y)]
  | succ j=>
   rw[AeJ,show 4*(j+1)=(Ag 4 y).length+4*j from by rw[Ah];omega,Ae9];rw[AeN U,AeT,show (Ag 4 y).length+4*j-(Ag 4 y).length=4*j from by omega];exact ih (by simpa using h)
variable{e sq:Int}{ims:List Img}
theorem Og(e sq:Int)(ims:List Img):hdL e sq ims=[80,76,79,71]++Ag 8 e++(Ag 8 sq++Ag 4 ((Bh (CO e sq ims)).toNat:Int)++Ag 2 ((ims.map Img.num).length:Int)++(ims.map Img.num).flatMap (Ag 4)):=by
 simp[hdL]
theorem Va(b:ims.length<=40)(h:0<=e/\e<=1099511627776):Cr (BD (hdL e sq ims))=e:=by
 have a:=hdL_len e sq ims;unfold Cr;rw[Ca U U,Og,Hd _ _ O (by simp[Ah])];exact BX h.1 U U
theorem Vb(b:ims.length<=40)(h:0<=sq/\sq<=1099511627776):Cs (BD (hdL e sq ims))=sq:=by
 have a:=hdL_len e sq ims;unfold Cs;rw[Ca U U,show hdL e sq ims=([80,76,79,71]++Ag 8 e)++Ag 8 sq++(Ag 4 ((Bh (CO e sq ims)).toNat:Int)++Ag 2 ((ims.map Img.num).length:Int)++(ims.map Img.num).flatMap (Ag 4)) from by simp[hdL],Hd _ _ (by simp[Ah]) (by simp[Ah])];exact BX h.1 U U
theorem AdP(c:ims.length<=40):DL (BD (hdL e sq ims))=Bh (CO e sq ims):=by
 have a:=hdL_len e sq ims;have b:=(Bh (CO e sq ims)).toNat_lt;unfold DL;rw[Ca U U,show hdL e sq ims=([80,76,79,71]++Ag 8 e++Ag 8 sq)++Ag 4 ((Bh (CO e sq ims)).toNat:Int)++(Ag 2 ((ims.map Img.num).length:Int)++(ims.map Img.num).flatMap (Ag 4)) from by simp[hdL],Hd _ _ (by simp[Ah]) (by simp[Ah])];rw[BX U U U];exact AaM
theorem RA(b:ims.length<=40):BI (BD (hdL e sq ims))=ims.length:=by
 have a:=hdL_len e sq ims;unfold BI;rw[Ca U U,show hdL e sq ims=([80,76,79,71]++Ag 8 e++Ag 8 sq++Ag 4 ((Bh (CO e sq ims)).toNat:Int))++Ag 2 ((ims.map Img.num).length:Int)++((ims.map Img.num).flatMap (Ag 4)) from by simp[hdL],Hd _ _ (by simp[Ah]) (by simp[Ah])];rw[Aei,BX U U U];rfl
theorem Abm(g:ims.length<=40){m:Img}(b:ims[j]?=some m)(d:m.Ok):Eu (BD (hdL e sq ims)) j=m.num:=by
 have f:=hdL_len e sq ims;have c:=(Aee.1 b).1;unfold Eu;rw[Ca U U,show hdL e sq ims=([80,76,79,71]++Ag 8 e++Ag 8 sq++Ag 4 ((Bh (CO e sq ims)).toNat:Int)++Ag 2 ((ims.map Img.num).length:Int))++((ims.map Img.num).flatMap (Ag 4)) from by simp[hdL]];have a:([80,76,79,71]++Ag 8 e++Ag 8 sq++Ag 4 ((Bh (CO e sq ims)).toNat:Int)++Ag 2 ((ims.map Img.num).length:Int)).length=26:=by simp only[Aeh,Ah];rfl
 rw[Ae9,AeN (by rw[a];omega),AeT,a,show 26+4*j-26=4*j from by omega];rw[U9 (x:=m.num) (by simp[b])];have:=d.1;exact BX U U U
theorem Abn(b:1<=ims.length/\ims.length<=40)(i:0<=e/\e<=1099511627776)(hs:0<=sq/\sq<=1099511627776)(a:∀m∈ims,m.Ok):IA (BD (hdL e sq ims)):=by
 have d:=hdL_len e sq ims;have g:=Va (sq:=sq) b.2 i;have h:=Vb (e:=e) b.2 hs;have f:=RA (e:=e) (sq:=sq) b.2;unfold Cr at g;unfold Cs at h;refine ⟨⟨Iz U,?_⟩,by rw[g];exact i,by rw[h];exact hs,by rw[f];exact b,λj c=>?_,?_⟩
 ·have:=Ca (l:=hdL e sq ims) U (p:=0) (k:=4) U
  rw[Aey,Aey] at this;rw[this,Og,Aek];rfl
 ·rw[f] at c
  have n:=Aef c;rw[Abm b.2 n (a _ (AfR c))];exact (a _ (AfR c)).1
 rw[f,<-d];exact MG U
theorem Oh(e sq:Int)(m:Img):CN e sq m=Ag 1 m.kind++Ag 2 m.num++(Ag 4 e++Ag 5 sq++m.body):=by simp[CN]
theorem Oi{m:Img}(a:m.Ok)(j:0<=e/\e<4294967296)(hs:0<=sq/\sq<1099511627776):IW (BD (CN e sq m))/\Fy (BD (CN e sq m))=e/\Fz (BD (CN e sq m))=sq/\Co (BD (CN e sq m))=m:=by
 have g:=a.2.2;have f:=GQ (e:=e) (sq:=sq) g;have i:=a.1;have b:=a.2.1;have e1:A5 ((BD (CN e sq m)).take 1)=m.kind:=by
  have:=Ca (l:=CN e sq m) U (p:=0) (k:=1) U;rw[Aey,Aey] at this;rw[this,Oh,Aek,AeI (by rw[Ah])];exact BX U U U
 have e2:A5 (((BD (CN e sq m)).drop 1).take 2)=m.num:=by
  rw[Ca U U,Oh,Hd _ _ (by simp[Ah]) (by simp[Ah])];exact BX U U U
 have c:A5 (((BD (CN e sq m)).drop 3).take 4)=e:=by
  rw[Ca U U,show CN e sq m=(Ag 1 m.kind++Ag 2 m.num)++Ag 4 e++(Ag 5 sq++m.body) from by simp[CN],Hd _ _ (by simp[Ah]) (by simp[Ah])];exact BX U U U
 have d:A5 (((BD (CN e sq m)).drop 7).take 5)=sq:=by
  rw[Ca U U,show CN e sq m=(Ag 1 m.kind++Ag 2 m.num++Ag 4 e)++Ag 5 sq++m.body from by simp[CN],Hd _ _ (by simp[Ah]) (by simp[Ah])];exact BX U U U
 have h:((BD (CN e sq m)).drop 12).take 240=m.body:=by
  rw[Ca U U,show CN e sq m=(Ag 1 m.kind++Ag 2 m.num++Ag 4 e++Ag 5 sq)++m.body++[] from by simp[CN],Hd _ _ (by simp[Ah]) U]
 refine ⟨⟨Iz U,by rw[e1];exact b,by rw[e2];exact i⟩,c,d,?_⟩;unfold Co;rw[e1,e2,h]
theorem Oj{F:Nat->List UInt8}(i:1<=ims.length/\ims.length<=40)(f:∀m∈ims,m.Ok)(q:0<=e/\e<4294967296)(hs:0<=sq/\sq<1099511627776)(s:1+(ims.length:Int)<=t)
  (r:∀(j:Nat) (p:List UInt8),(BE e sq ims)[j]?=some p->F j=p):nextP F e sq t ims:=by
 have g:F 0=BD (hdL e sq ims):=r 0 _ Z;have k:=RA (e:=e) (sq:=sq) i.2;have n:∀j (h:j<ims.length),F (1+j)=BD (CN e sq ims[j]):=λj h=>r (1+j) _ (by
  rw[AgU];simp[BE,h])
 refine ⟨?_,?_,?_,?_,?_,?_,?_⟩
 ·rw[g];exact Abn i U U f
 ·rw[g];exact Va i.2 U
 ·rw[g];exact Vb i.2 U
 ·rw[g,k];exact s
 ·rw[g,k]
  apply Ag0
  ·simp
  intro j l o;simp only[AhA,List.getElem_range];rw[n j l,(Oi (f _ (AfR l)) q hs).2.2.2]
 ·intro j h
  rw[g,k] at h;obtain ⟨a,b,c,d⟩:=Oi (f _ (AfR h)) q hs;rw[n j h];refine ⟨a,b,c,?_⟩;rw[d,g,Abm i.2 (Aef h) (f _ (AfR h))]
 rw[g,k,AdP i.2];congr 1;unfold CO;rw[List.flatMap_def,List.flatMap_def];congr 1;apply Ag0
 ·simp
 intro j l o;simp only[AhA,List.getElem_range];exact n j (by simpa using o)
end
theorem Yp(ps:List (List UInt8)):∀(D:Dsk) (x i:Nat),(D.ws false x ps).cont i=(if x<=i then ps[i-x]? else none).getD (D.cont i):=by
 induction ps with
 | nil=>intro D x i;simp[Dsk.ws]
 | cons q qs ih=>
  intro D x i;simp only[Dsk.ws];rw[ih];have a:(D.w1 false x q).cont i=if i=x then q else D.cont i:=by
   show ((Dj D.ver x (D.ver x++[q])) i).getLast?.getD (D.dur i)=_;unfold Dj;split
   ·rename_i h;subst h;simp
   rfl
  rw[a];rcases AfL i x with h|h|h
  ·rw[if_neg (show ¬x+1<=i by omega),if_neg (show ¬i=x by omega),if_neg (show ¬x<=i by omega)]
  ·subst h
   rw[if_neg (show ¬i+1<=i by omega),if_pos Z,if_pos (Ael i),AgG];rfl
  rw[if_pos (show x+1<=i by omega),if_neg (show ¬i=x by omega),if_pos (show x<=i by omega),show i-x=(i-(x+1))+1 from by omega,AeB]
theorem wr_cont(ps:List (List UInt8))(D:Dsk)(x i:Nat):(D.wr x ps).cont i=(if x<=i then ps[i-x]? else none).getD (D.cont i):=Yp ps {D with f2:=Bm D.f2} x i

theorem ring_low{s:Sup}(hs:0<=s.start)(a:0<=t)(h:t+j<s.len):ringAt s (t+j)=(s.start+t).toNat+j:=by
 unfold ringAt;rw[Ago U h];omega
theorem ring_high{s:Sup}(hs:0<=s.start)(a:s.len<=t+j)(h:t+j<s.len+s.len):ringAt s (t+j)=s.start.toNat+(t+j-s.len).toNat:=by
 unfold ringAt;rw[<-Int.sub_emod_right (t+j) s.len,Ago U U];omega
theorem Ka{s:Sup}(a b:Int):ringAt s (a%s.len+b)=ringAt s (a+b):=by
 unfold ringAt;rw[Ahs]
theorem IC{s:Sup}(hs:0<=s.start)(c:0<=t/\t<s.len)(hi:(i:Int)<s.len)(d:(j:Int)<s.len)(e:ringAt s (t+i)=ringAt s (t+j)):i=j:=by
 rcases Int.lt_or_le (t+i) s.len with a|a<;>rcases Int.lt_or_le (t+j) s.len with b|b
 ·rw[ring_low hs c.1 a,ring_low hs c.1 b] at e;omega
 ·rw[ring_low hs c.1 a,ring_high hs b U] at e;omega
 ·rw[ring_high hs a U,ring_low hs c.1 b] at e;omega
 rw[ring_high hs a U,ring_high hs b U] at e;omega
def E8(D:Dsk)(s:Sup)(a:Int)(k:Nat)(ps:List (List UInt8)):Dsk:=if k<ps.length then (D.wr (s.start+a).toNat (ps.take k)).wr s.start.toNat (ps.drop k) else D.wr (s.start+a).toNat (ps.take k)
theorem Yq{s:Sup}{ps:List (List UInt8)}(hs:0<=s.start)(e:0<=t/\t<s.len)(g:(ps.length:Int)<=s.len)(f:(n:Int)=min (ps.length:Int) (s.len-t))(b:ps[j]?=some B):(E8 D s t n ps).cont (ringAt s (t+j))=B:=by
 have d:=(Aee.1 b).1;rcases Aeu j n with h|h
 ·have a:ringAt s (t+j)=(s.start+t).toNat+j:=ring_low hs e.1 U
  have c:(D.wr (s.start+t).toNat (ps.take n)).cont ((s.start+t).toNat+j)=B:=by
   rw[wr_cont,if_pos U,show (s.start+t).toNat+j-(s.start+t).toNat=j from by omega,Ae0,if_pos h,b];rfl
  unfold E8;split
  ·rw[a,wr_cont]
   have:(if s.start.toNat<=(s.start+t).toNat+j then (ps.drop n)[(s.start+t).toNat+j-s.start.toNat]? else none)=none:=by
    rw[if_pos U];exact AeL (by rw[AeP];omega)
   rw[this];exact c
  rw[a];exact c
 have a:ringAt s (t+j)=s.start.toNat+(t+j-s.len).toNat:=ring_high hs U U;unfold E8;rw[if_pos U,a,wr_cont,if_pos U,show s.start.toNat+(t+j-s.len).toNat-s.start.toNat=j-n from by omega,Afn,show n+(j-n)=j from by omega,b];rfl
theorem app_old{s:Sup}{ps:List (List UInt8)}(hs:0<=s.start)(c:0<=t/\t<s.len)(e:(ps.length:Int)<=s.len)(d:(n:Int)=min (ps.length:Int) (s.len-t))(hi:∀j:Nat,j<ps.length->i≠ringAt s (t+j)):(E8 D s t n ps).cont i=D.cont i:=by
 have a:(D.wr (s.start+t).toNat (ps.take n)).cont i=D.cont i:=by
  rw[wr_cont];split
  ·rename_i h
   rw[AeL];rfl;rw[AeA];rcases Aeu (i-(s.start+t).toNat) (min n ps.length) with q|q
   ·exact absurd (by rw[ring_low hs c.1 U];omega) (hi (i-(s.start+t).toNat) U)
   exact q
  rfl
 unfold E8;split
 ·rw[wr_cont]
  split
  ·rename_i b h
   rw[AeL];exact a;rw[AeP];rcases Aeu (i-s.start.toNat) (ps.length-n) with q|q
   ·exact absurd (by rw[ring_high hs U U];omega) (hi (n+(i-s.start.toNat)) U)
   exact q
  exact a
 exact a

theorem Vc{F:Nat->List UInt8}{a b:List Img}(c:nextP F t s p a)(d:nextP F t s p b):a=b:=by
 rw[c.2.2.2.2.1,d.2.2.2.2.1]
theorem Runs.pos{s:Sup}{h:Int}{rs:List Rc}{a u:Int}(b:0<=h/\h<s.len)(r:Runs D s h t 0 rs a q u):a=(h+u)%s.len/\q=t+rs.length/\0<=u/\u<=s.len/\(rs.length:Int)<=u:=by
 induction r with
 | nil=>exact ⟨by rw[Int.add_zero,Ago b.1 b.2],by simp,by omega,by omega,by simp⟩
 | snoc r hlt hn ih=>
  obtain ⟨c,d,i,g,e⟩:=ih;have f:=hn.len;refine ⟨?_,by rw[d];simp;omega,by omega,by omega,by simp;omega⟩;rw[c,Ahs,Int.add_assoc]
theorem MH:¬IA (List.replicate 256 0):=λh=>by
 have:=h.1.2;simp at this
section
def Tg(c:List UInt8)(e q:Int):Prop:=(IA c/\Cr c=e/\Cs c=q)\/(IW c/\Fy c=e/\Fz c=q)
theorem Vd:¬IW (List.replicate 256 0):=λh=>by
 have:=h.2.1.1;revert this;decide
theorem Ve{e q:Int}:¬Tg (List.replicate 256 0) e q:=by
 rintro (⟨h,_⟩|⟨h,_⟩)
 ·exact MH h
 exact Vd h
theorem JS(h:IA B)(g:IW B):False:=by
 have b:=h.1.2;have a:=g.2.1.2;have:B.take 1=[80]:=by
  have:=congrArg (List.take 1) b;rwa[AeG] at this
 rw[this] at a;revert a;decide
variable{e q:Int}{ims:List Img}
theorem rec_cases(hp:(BE e q ims)[n]?=some B):(n=0/\B=BD (hdL e q ims))\/∃j m,n=j+1/\ims[j]?=some m/\B=BD (CN e q m):=by
 cases n with
 | zero=>simp[BE] at hp;exact .inl ⟨Z,hp.symm⟩
 | succ j=>
  simp only[BE,AeB,Aer,AgA] at hp;obtain ⟨m,a,b⟩:=hp;exact .inr ⟨j,m,Z,a,b.symm⟩
theorem Qh(i:1<=ims.length/\ims.length<=40)(f:∀m∈ims,m.Ok)(k:0<=e/\e<4294967296)(hq:0<=q/\q<1099511627776)(hp:(BE e q ims)[n]?=some B)(h:Tg B t s):t=e/\s=q:=by
 rcases rec_cases hp with ⟨rfl,rfl⟩|⟨j,m,rfl,o,rfl⟩
 ·have l:=Abn i (e:=e) (sq:=q) U U f
  rcases h with ⟨_,c,g⟩|⟨c,_⟩
  ·exact ⟨c.symm.trans (Va i.2 U),g.symm.trans (Vb i.2 U)⟩
  exact (JS l c).elim
 obtain ⟨a,b,d,_⟩:=Oi (f m (Aeg o)) k hq;rcases h with ⟨c,_⟩|⟨_,c,g⟩
 ·exact (JS c a).elim
 exact ⟨c.symm.trans b,g.symm.trans d⟩

def secs(e:Int)(rs:List Rc):List (List UInt8):=rs.flatMap λr=>BE e r.seq r.ims
theorem E9(e:Int)(rs a:List Rc):secs e (rs++a)=secs e rs++secs e a:=by simp[secs]
theorem Kb(e:Int)(r:Rc):secs e [r]=BE e r.seq r.ims:=by simp[secs]
theorem FR(e q:Int)(ims:List Img):(BE e q ims).length=1+ims.length:=by simp[BE];omega
theorem KX(e:Int){rs:List Rc}{r:Rc}(h:rs[j]?=some r):secs e rs=secs e (rs.take j)++BE e r.seq r.ims++secs e (rs.drop (j+1)):=by
 have a:=(Aee.1 h).1;have:rs=rs.take j++[r]++rs.drop (j+1):=by
  rw[<-(Aee.1 h).2,List.take_append_getElem a,AeO]
 conv=>lhs;rw[this]
 rw[E9,E9,Kb]
theorem Vf{e:Int}{rs:List Rc}(h:B∈secs e rs):∃(j:Nat) (r:Rc) (p:Nat),rs[j]?=some r/\(BE e r.seq r.ims)[p]?=some B:=by
 obtain ⟨r,b,a⟩:=Agj.1 h;obtain ⟨j,c⟩:=Ae5 b;obtain ⟨p,hp⟩:=Ae5 a;exact ⟨j,r,p,c,hp⟩

def Dp(D:Dsk)(n:Nat)(c:List UInt8):Prop:=c=D.dur n\/c∈D.ver n
def AdQ(s:Sup)(c:List UInt8):Prop:=∀e q,Tg c e q->e<s.epoch\/(e=s.epoch/\q<s.seq)
structure PInv(D:Dsk)(s:Sup)(rs:List Rc)(pt:List (List UInt8))(a q u:Int)(b:Bool)(sure:Nat):Prop where
 fa:a=(s.head+u)%s.len
 fq:q=s.seq+rs.length+(if b then 1 else 0)
 fu:u=((secs s.epoch rs).length:Int)
 ul:u<=s.len
 pb:b=false->pt=[]
 part:pt=[]\/∃ims k,((1<=ims.length/\ims.length<=40)/\(∀m∈ims,m.Ok))/\pt=(BE s.epoch (s.seq+rs.length) ims).take k/\k<1+ims.length/\u+(1+(ims.length:Int))<=s.len
 recs:∀(j:Nat) (r:Rc),rs[j]?=some r->r.seq=s.seq+j/\(1<=r.ims.length/\r.ims.length<=40)/\∀m∈r.ims,m.Ok
 old:∀i:Nat,(i:Int)<s.len->∀c,Dp D (ringAt s (s.head+i)) c->AdQ s c\/(secs s.epoch rs++pt)[i]?=some c
 last:∀(i:Nat) (c:List UInt8),(secs s.epoch rs++pt)[i]?=some c->D.cont (ringAt s (s.head+i))=c
 dura:∀(i:Nat) (c:List UInt8),(secs s.epoch (rs.take sure))[i]?=some c->D.dur (ringAt s (s.head+i))=c/\D.ver (ringAt s (s.head+i))=[]
 sure:sure<=rs.length
structure SOk(s:Sup):Prop where
 start:0<=s.start
 head:0<=s.head/\s.head<s.len
 epoch:0<=s.epoch/\s.epoch<4294967296
 seq:0<=s.seq
theorem PInv.f{D':Dsk}{s:Sup}{rs:List Rc}{j:List (List UInt8)}{a q u:Int}(h:PInv D s rs j a q u b n)(e:D'.dur=D.dur)(g:D'.ver=D.ver):PInv D' s rs j a q u b n:=
 ⟨h.fa,h.fq,h.fu,h.ul,h.pb,h.part,h.recs,λi hi c d=>h.old i hi c (by unfold Dp at d ⊢;rwa[e,g] at d),λi c d=>by have:=h.last i c d;unfold Dsk.cont at this ⊢;rw[e,g];exact this,
  λi c d=>by rw[e,g];exact h.dura i c d,h.sure⟩
theorem Ol{s:Sup}(b:0<s.len)(h x:Int):∃i:Nat,(i:Int)<s.len/\ringAt s x=ringAt s (h+i):=by
 have a:=Agn (x-h) (by omega:s.len≠0);have c:=Af6 (x-h) b;refine ⟨((x-h)%s.len).toNat,by omega,?_⟩;unfold ringAt;rw[Int.toNat_of_nonneg a,Int.add_emod_emod];congr 3;omega
theorem PInv.tags{s:Sup}{rs:List Rc}{pt:List (List UInt8)}{a q u:Int}(h:PInv D s rs pt a q u b n)(hs:SOk s)(hq:q<=1099511627776)(hi:(i:Int)<s.len){c:List UInt8}(z:Dp D (ringAt s (s.head+i)) c){m:Int}(e:Tg c t m):t<s.epoch\/(t=s.epoch/\m<q):=by
 have d:=h.fq;have y:=hs.seq;rcases h.old i hi c z with g|g
 ·rcases g _ _ e with g|⟨x,g2⟩
  ·exact .inl g
  refine .inr ⟨x,?_⟩;split at d<;>omega
 rcases Aes.1 (Aeg g) with g|g
 ·obtain ⟨j,r,p,v,hp⟩:=Vf g
  obtain ⟨l,f,o⟩:=h.recs j r v;have w:=(Aee.1 v).1;have:=Qh f o hs.epoch (by split at d<;>omega) hp e;exact .inr ⟨this.1,by split at d<;>omega⟩
 rcases h.part with rfl|⟨ims,k,⟨l,f⟩,rfl,o,_⟩
 ·cases g
 cases b with
 | false=>have:=h.pb Z;rw[this] at g;cases g
 | true=>
  rw[if_pos Z] at d;obtain ⟨p,hp⟩:=Ae5 g;rw[Ae0] at hp;split at hp
  ·have:=Qh l f hs.epoch U hp e
   exact .inr ⟨this.1,by omega⟩
  cases hp
theorem PInv.drop{s:Sup}{rs:List Rc}{x:List (List UInt8)}{a q u:Int}(h:PInv D s rs x a q u b n)(hs:SOk s)(hq:q<=1099511627776){d:Sup}(m:d.start=s.start)(o:d.len=s.len)(v:d.epoch=s.epoch)(w:d.head=a)(l:d.seq=q)(h0:0<=d.len)(k:0<=d.head/\d.head<d.len):PInv D d [] [] a q 0 false 0:=by
 have t:0<s.len:=by have:=hs.head;omega
 refine ⟨?_,by rw[l];simp,by simp[secs],by omega,λ_=>rfl,.inl Z,λj r h=>by simp at h,λi hi c f=>.inl λe q y=>?_,λi c h=>by simp[secs] at h,λi c h=>by simp[secs] at h,Ael _⟩
 ·rw[Int.add_zero,<-w,Ago k.1 k.2]
 have p:ringAt d (d.head+i)=ringAt s (d.head+i):=by unfold ringAt;rw[m,o]
 rw[p] at f;obtain ⟨i',g,z⟩:=Ol t s.head (d.head+i);rw[z] at f;have:=h.tags hs hq g f y;rw[v,l];exact this
def Dsk.fl(D:Dsk):Dsk:= {D with dur:=D.cont,ver:=λ_=>[],f3:=Bm D.f3,left:=max 0 (D.left-1)}
theorem cont_has(D:Dsk)(n:Nat):Dp D n (D.cont n):=by
 unfold Dp Dsk.cont
 cases hl:(D.ver n).getLast? with
 | none=>exact .inl Z
 | some p=>exact .inr (List.mem_of_getLast? hl)
theorem fl_has(h:Dp D.fl n B):Dp D n B:=by
 rcases h with rfl|h
 ·exact cont_has D n
 cases h
theorem PInv.flush{s:Sup}{rs:List Rc}{e:List (List UInt8)}{a q u:Int}(h:PInv D s rs e a q u b n):PInv D.fl s rs e a q u b rs.length:=
 ⟨h.fa,h.fq,h.fu,h.ul,h.pb,h.part,h.recs,λi hi c d=>h.old i hi c (fl_has d),λi c d=>h.last i c d,
  λi c d=>⟨h.last i c (by rw[Afa] at d;rw[Aep (Aee.1 d).1];exact d),Z⟩,Ael _⟩

theorem ws_dur(ps:List (List UInt8)):∀(D:Dsk) (x:Nat),(D.ws false x ps).dur=D.dur:=by
 induction ps with
 | nil=>intro D x;rfl
 | cons p ps ih=>intro D x;simp only[Dsk.ws];rw[ih];rfl
theorem ws_mem(ps:List (List UInt8)):∀(D:Dsk) (x i:Nat) (c:List UInt8),c∈(D.ws false x ps).ver i->c∈D.ver i\/(x<=i/\ps[i-x]?=some c):=by
 induction ps with
 | nil=>intro D x i c h;exact .inl h
 | cons p ps ih=>
  intro D x i c h;simp only[Dsk.ws] at h;rcases ih _ _ _ _ h with h|⟨b,a⟩
  ·have h:c∈(Dj D.ver x (D.ver x++[p])) i:=h
   unfold Dj at h;split at h
   ·rename_i e;subst e
    rcases Aes.1 h with h|h
    ·exact .inl h
    simp at h;subst h;exact .inr ⟨Ael _,by simp⟩
   exact .inl h
  exact .inr ⟨by omega,by rw[show i-x=(i-(x+1))+1 from by omega,AeB];exact a⟩
theorem wr_has{x:Nat}{ps:List (List UInt8)}(h:Dp (D.wr x ps) i B):Dp D i B\/(x<=i/\ps[i-x]?=some B):=by
 rcases h with rfl|h
 ·exact .inl (.inl (congrFun (ws_dur ps {D with f2:=Bm D.f2} x) i))
 rcases ws_mem ps {D with f2:=Bm D.f2} x i B h with h|h
 ·exact .inl (.inr h)
 exact .inr h
theorem app_has{s:Sup}{ps:List (List UInt8)}(hs:0<=s.start)(d:0<=t/\t<s.len)(g:(ps.length:Int)<=s.len)(f:(m:Int)=min (ps.length:Int) (s.len-t))(h:Dp (E8 D s t m ps) n B):Dp D n B\/∃j:Nat,ps[j]?=some B/\n=ringAt s (t+j):=by
 have b:∀{n:Nat} {B:List UInt8},Dp (D.wr (s.start+t).toNat (ps.take m)) n B->Dp D n B\/∃j:Nat,ps[j]?=some B/\n=ringAt s (t+j):=λ{n B} h=>by
  rcases wr_has h with h|⟨c,a⟩
  ·exact .inl h
  rw[Ae0] at a;split at a
  ·exact .inr ⟨_,a,by rw[ring_low hs d.1 U];omega⟩
  cases a
 unfold E8 at h;split at h
 ·rcases wr_has h with h|⟨c,a⟩
  ·exact b h
  rw[Afn] at a;have e:=(Aee.1 a).1;exact .inr ⟨_,a,by rw[ring_high hs U U];omega⟩
 exact b h
theorem Gx(D:Dsk){ps:List (List UInt8)}(j:Nat)(h:j<n\/n+ps.length<=j):(D.wr n ps).ver j=D.ver j:=Dsk.ws_ver false ps {D with f2:=Bm D.f2} n j h
theorem Pz{s:Sup}{ps:List (List UInt8)}(hs:0<=s.start)(b:0<=t/\t<s.len)(d:(ps.length:Int)<=s.len)(c:(n:Int)=min (ps.length:Int) (s.len-t))(hi:∀j:Nat,j<ps.length->i≠ringAt s (t+j)):(E8 D s t n ps).ver i=D.ver i:=by
 have a:(D.wr (s.start+t).toNat (ps.take n)).ver i=D.ver i:=by
  refine Gx _ _ ?_;rw[AeA];rcases Aeu i (s.start+t).toNat with g|g
  ·exact .inl g
  rcases Aeu (i-(s.start+t).toNat) (min n ps.length) with q|q
  ·exact absurd (by rw[ring_low hs b.1 U];omega) (hi (i-(s.start+t).toNat) U)
  exact .inr U
 unfold E8;split
 ·refine (Gx _ _ ?_).trans a
  rw[AeP];rcases Aeu i s.start.toNat with g|g
  ·exact .inl g
  rcases Aeu (i-s.start.toNat) (ps.length-n) with q|q
  ·exact absurd (by rw[ring_high hs U U];omega) (hi (n+(i-s.start.toNat)) U)
  exact .inr U
 exact a
theorem PInv.at_ok{s:Sup}{rs:List Rc}{c:List (List UInt8)}{a q u:Int}(h:PInv D s rs c a q u b n)(hs:SOk s):0<=a/\a<s.len:=by
 have:=hs.head;rw[h.fa];exact ⟨Agn _ U,Af6 _ U⟩
theorem PInv.ring{s:Sup}{rs:List Rc}{c:List (List UInt8)}{a q u:Int}(h:PInv D s rs c a q u b n)(j:Nat):ringAt s (a+j)=ringAt s (s.head+(((secs s.epoch rs).length+j:Nat):Int)):=by
 have d:=h.fu;rw[h.fa,Ka];congr 1;omega
theorem PInv.app{s:Sup}{rs:List Rc}{pt:List (List UInt8)}{a q u:Int}(h:PInv D s rs pt a q u false n)(hs:SOk s){k:Nat}(hl:1<=ims.length/\ims.length<=40)(z:∀m∈ims,m.Ok)(hr:1+(ims.length:Int)<=s.len-u)(hk:(k:Int)=min (1+(ims.length:Int)) (s.len-a)):
  PInv (E8 D s a k (BE s.epoch q ims)) s (rs++[⟨q,ims⟩]) [] ((a+(1+(ims.length:Int)))%s.len) (q+1) (u+(1+(ims.length:Int))) false n:=by
 obtain rfl:=h.pb Z;have p:=h.at_ok hs;have hu:=h.fu;have hq:=h.fq;rw[if_neg (by decide)] at hq;have v:=FR s.epoch q ims;have l:(k:Int)=min ((BE s.epoch q ims).length:Int) (s.len-a):=by rw[v];omega
 have o:(secs s.epoch (rs++[⟨q,ims⟩]))=secs s.epoch rs++BE s.epoch q ims:=by rw[E9,Kb]
 have f:∀i:Nat,(i:Int)<s.len->i<(secs s.epoch rs).length->∀j:Nat,j<(BE s.epoch q ims).length->ringAt s (s.head+i)≠ringAt s (a+j):=λi hi a0 j d e=>by
  rw[h.ring] at e;have:=IC hs.start hs.head hi U e;omega
 refine ⟨?_,by simp;omega,by rw[o,Aeh,v];omega,by omega,λ_=>rfl,.inl Z,λj r d=>?_,λi hi c b=>?_,λi c b=>?_,λi c b=>?_,by have:=h.sure;simp;omega⟩
 ·rw[h.fa,Ahs,Int.add_assoc]
 ·rcases Aeu j rs.length with g|g
  ·rw[Aep g] at d;exact h.recs j r d
  rw[Aev g] at d;have:j=rs.length:=by have:=(Aee.1 d).1;simp at this;omega
  subst this;simp at d;subst d;exact ⟨by dsimp only;omega,hl,z⟩
 ·rw[AeY,o]
  rcases app_has hs.start p U l b with b|⟨j,d,w⟩
  ·rcases h.old i hi c b with g|g
   ·exact .inl g
   rw[AeY] at g;exact .inr (by rw[Aep (Aee.1 g).1];exact g)
  have a1:=(Aee.1 d).1;rw[h.ring] at w;have:=IC hs.start hs.head hi U w;subst this;exact .inr (by rw[Aev U,Agg];exact d)
 ·rw[AeY,o] at b
  rcases Aeu i (secs s.epoch rs).length with g|g
  ·rw[Aep g] at b
   rw[app_old hs.start p U l (f i U g)];exact h.last i c (by rw[AeY];exact b)
  rw[Aev g] at b;have:=Yq (D:=D) hs.start p U l b;rw[h.ring,show (secs s.epoch rs).length+(i-(secs s.epoch rs).length)=i from by omega] at this;exact this
 rw[Aew h.sure] at b;have t:i<(secs s.epoch rs).length:=by
  have h1:=(Aee.1 b).1;have h2:(secs s.epoch rs).length=(secs s.epoch (rs.take n)).length+(secs s.epoch (rs.drop n)).length:=by
   rw[<-Aeh,<-E9,AeO]
  omega
 obtain ⟨h1,h2⟩:=h.dura i c b;have key:∀c',Dp (E8 D s a k (BE s.epoch q ims)) (ringAt s (s.head+i)) c'->Dp D (ringAt s (s.head+i)) c':=λc' x=>by
  rcases app_has hs.start p U l x with g|⟨j,d,w⟩
  ·exact g
  exact (f i U t j (Aee.1 d).1 w).elim
 have hd:(E8 D s a k (BE s.epoch q ims)).dur=D.dur:=by
  unfold E8;split
  ·exact (ws_dur _ _ _).trans (ws_dur _ {D with f2:=Bm D.f2} _)
  exact ws_dur _ {D with f2:=Bm D.f2} _
 refine ⟨by rw[hd];exact h1,?_⟩;have y:=Pz (D:=D) hs.start p U l (f i U t);rw[y];exact h2
end
section
variable{e q:Int}{ims:List Img}

theorem PInv.fail0{s:Sup}{rs:List Rc}{d:List (List UInt8)}{a q u:Int}(h:PInv D s rs d a q u false n):PInv D.wf s rs [] a (q+1) u true n:=by
 obtain rfl:=h.pb Z;have hq:=h.fq;rw[if_neg (by decide)] at hq;exact ⟨h.fa,by rw[if_pos Z];omega,h.fu,h.ul,λg=>(by cases g),.inl Z,h.recs,λi hi c b=>h.old i hi c b,λi c b=>h.last i c b,λi c b=>h.dura i c b,h.sure⟩
theorem PInv.fail1{s:Sup}{rs:List Rc}{pt:List (List UInt8)}{a q u:Int}(h:PInv D s rs pt a q u false r)(hs:SOk s){k:Nat}(hl:1<=ims.length/\ims.length<=40)(a1:∀m∈ims,m.Ok)(hr:1+(ims.length:Int)<=s.len-u)(hk:(k:Int)=min (1+(ims.length:Int)) (s.len-a))(a0:k<1+ims.length):
  PInv (Dsk.wf (D.wr (s.start+a).toNat ((BE s.epoch q ims).take k))) s rs ((BE s.epoch q ims).take k) a (q+1) u true r:=by
 obtain rfl:=h.pb Z;have ha:=h.at_ok hs;have hu:=h.fu;have hq:=h.fq;rw[if_neg (by decide)] at hq;have a2:=FR s.epoch q ims;have e:((BE s.epoch q ims).take k).length=k:=by rw[AeA];omega
 have d:∀j:Nat,j<k->(s.start+a).toNat+j=ringAt s (s.head+(((secs s.epoch rs).length+j:Nat):Int)):=λj o=>by
  rw[<-h.ring,ring_low hs.start ha.1 U]
 have t:∀{n:Nat} {c:List UInt8},Dp (Dsk.wf (D.wr (s.start+a).toNat ((BE s.epoch q ims).take k))) n c->Dp D n c\/∃j:Nat,((BE s.epoch q ims).take k)[j]?=some c/\n=ringAt s (s.head+(((secs s.epoch rs).length+j:Nat):Int)):=λ{n c} g=>by
  rcases wr_has (D:=D) (x:=(s.start+a).toNat) (ps:=(BE s.epoch q ims).take k) g with g|⟨g1,v⟩
  ·exact .inl g
  have o:=(Aee.1 v).1;rw[e] at o;exact .inr ⟨_,v,by rw[<-d _ o];omega⟩
 have p:∀i:Nat,i<(secs s.epoch rs).length->ringAt s (s.head+i)<(s.start+a).toNat\/(s.start+a).toNat+((BE s.epoch q ims).take k).length<=ringAt s (s.head+i):=λi hi=>by
  rw[e];rcases Aeu (ringAt s (s.head+i)) (s.start+a).toNat with g|g
  ·exact .inl g
  rcases Aeu (ringAt s (s.head+i)) ((s.start+a).toNat+k) with v|v
  ·have:=d (ringAt s (s.head+i)-(s.start+a).toNat) U
   have:=IC (i:=i) (j:=(secs s.epoch rs).length+(ringAt s (s.head+i)-(s.start+a).toNat)) hs.start hs.head U U U;omega
  exact .inr v
 have w:∀i:Nat,i<(secs s.epoch rs).length->(Dsk.wf (D.wr (s.start+a).toNat ((BE s.epoch q ims).take k))).ver (ringAt s (s.head+i))=D.ver (ringAt s (s.head+i)):=λi hi=>Gx D _ (p i hi);have l:(Dsk.wf (D.wr (s.start+a).toNat ((BE s.epoch q ims).take k))).dur=D.dur:=ws_dur ((BE s.epoch q ims).take k) {D with f2:=Bm D.f2} _;have y:q=s.seq+rs.length:=by omega
 refine ⟨h.fa,by rw[if_pos Z];omega,h.fu,h.ul,λg=>(by cases g),.inr ⟨ims,k,⟨hl,a1⟩,by rw[<-y],a0,by omega⟩,h.recs,λi hi c b=>?_,λi c b=>?_,λi c b=>?_,h.sure⟩
 ·rcases t b with b|⟨j,o,hn⟩
  ·rcases h.old i hi c b with g|g
   ·exact .inl g
   rw[AeY] at g;exact .inr (by rw[Aep (Aee.1 g).1];exact g)
  have f:=(Aee.1 o).1;rw[e] at f;have:=IC hs.start hs.head hi U hn;subst this;exact .inr (by rw[Aev U,Agg];exact o)
 ·rcases Aeu i (secs s.epoch rs).length with g|g
  ·rw[Aep g] at b
   have:=h.last i c (by rw[AeY];exact b);unfold Dsk.cont at this ⊢;rw[w i g,l];exact this
  rw[Aev g] at b;have f:=(Aee.1 b).1;rw[e] at f;have e1:=d (i-(secs s.epoch rs).length) f;rw[show (secs s.epoch rs).length+(i-(secs s.epoch rs).length)=i from by omega] at e1;rw[<-e1];show (D.wr _ _).cont _=c;rw[wr_cont,if_pos U,Agg,b];rfl
 have z:i<(secs s.epoch rs).length:=by
  have h1:=(Aee.1 b).1;have h2:(secs s.epoch rs).length=(secs s.epoch (rs.take r)).length+(secs s.epoch (rs.drop r)).length:=by
   rw[<-Aeh,<-E9,AeO]
  omega
 obtain ⟨h1,h2⟩:=h.dura i c b;exact ⟨by rw[l];exact h1,by rw[w i z];exact h2⟩

structure Crashed(D D':Dsk):Prop where
 n:D'.n=D.n
 ver:∀i,D'.ver i=[]
 dur:∀i,Dp D i (D'.dur i)
theorem Crashed.cont{D D':Dsk}(h:Crashed D D')(n:Nat):D'.cont n=D'.dur n:=by unfold Dsk.cont;rw[h.ver];rfl
theorem PInv.reads{D':Dsk}{s:Sup}{rs:List Rc}{d:List (List UInt8)}{a q u:Int}(h:PInv D s rs d a q u b n)(c:Crashed D D')(hi:(i:Int)<s.len)(hq:s.seq<=t)(e:Tg (D'.cont (ringAt s (s.head+i))) s.epoch t):(secs s.epoch rs++d)[i]?=some (D'.cont (ringAt s (s.head+i))):=by
 rcases h.old i hi (D'.cont (ringAt s (s.head+i))) (by rw[c.cont];exact c.dur _) with g|g
 ·have:=g _ _ e
  omega
 exact g
theorem PInv.one{D':Dsk}{s:Sup}{rs:List Rc}{w:List (List UInt8)}{a q u:Int}(h:PInv D s rs w a q u b m)(hs:SOk s)(hc:Crashed D D')(hq:q<=1099511627776)(hn:n<=rs.length){i v:Int}(hu:v=((secs s.epoch (rs.take n)).length:Int))(ha:t=(s.head+v)%s.len)(a6:i=s.seq+n)
  (z:nextP (Dk D' s t) s.epoch i (s.len-v) ims):∃r,rs[n]?=some r/\r=⟨i,ims⟩:=by
 obtain ⟨n1,n2,n3,n4,n5,n6,n7⟩:=z;have hF:∀j:Nat,Dk D' s t j=D'.cont (ringAt s (s.head+(((secs s.epoch (rs.take n)).length+j:Nat):Int))):=λj=>by
  show D'.cont (ringAt s (t+j))=_;rw[ha,Ka];congr 2;omega
 have a4:=n1.2.2.2.1;have rd:∀j:Nat,j<=BI (Dk D' s t 0)->Tg (Dk D' s t j) s.epoch i->(secs s.epoch rs++w)[(secs s.epoch (rs.take n)).length+j]?=some (Dk D' s t j):=λj f ht=>by
  rw[hF] at ht ⊢;exact h.reads hc U U ht
 have c:=rd 0 U (.inl ⟨n1,n2,n3⟩);have hi:∀j:Nat,j<BI (Dk D' s t 0)->(secs s.epoch rs++w)[(secs s.epoch (rs.take n)).length+(1+j)]?=some (Dk D' s t (1+j)):=λj f=>by
  obtain ⟨g1,g2,g3,_⟩:=n6 j f;exact rd (1+j) U (.inr ⟨g1,g2,g3⟩)
 have a0:=h.fq;have a5:=hs.seq;rcases Aeu n rs.length with a2|hge
 ·have hr:rs[n]?=some rs[n]:=Aef a2
  obtain ⟨r1,r2,r3⟩:=h.recs n _ hr;refine ⟨_,hr,?_⟩;have y:=KX s.epoch hr;have hp:=FR s.epoch rs[n].seq rs[n].ims;have g:∀j:Nat,j<1+rs[n].ims.length->(secs s.epoch rs++w)[(secs s.epoch (rs.take n)).length+j]? =(BE s.epoch rs[n].seq rs[n].ims)[j]? :=λj f=>by
   rw[y,Aek,Aek,Aev U,Agg,Aep U]
  have x:=g 0 U;rw[c] at x;have e:Dk D' s t 0=BD (hdL s.epoch rs[n].seq rs[n].ims):=by
   simp[BE] at x;exact x
  have hC:BI (Dk D' s t 0)=rs[n].ims.length:=by rw[e,RA r2.2]
  have d:nextP (Dk D' s t) s.epoch rs[n].seq (s.len-v) rs[n].ims:=by
   refine Oj r2 r3 hs.epoch (by split at a0<;>omega) U λj p f=>?_;have a7:=(Aee.1 f).1
   cases j with
   | zero=>have:=g 0 U;rw[c,f] at this;exact Age this
   | succ j=>
    have h1:=hi j U;rw[AgU 1 j] at h1;have:=g (j+1) U;rw[h1,f] at this;exact Age this
  have o:nextP (Dk D' s t) s.epoch i (s.len-v) ims:=⟨n1,n2,n3,n4,n5,n6,n7⟩;have e1:rs[n].seq=i:=by omega
  rw[e1] at d;have e2:=Vc o d;rw[e2,<-e1]
 have a1:n=rs.length:=by omega
 subst a1;rw[Afa] at c hi;rw[Aev U,Ag7,AgG] at c;rcases h.part with rfl|⟨l,k,⟨p1,p2⟩,rfl,p3,p4⟩
 ·simp at c
 have a3:0<k:=by
  have:=(Aee.1 c).1;rw[AeA] at this;omega
 rw[Ae0,if_pos a3] at c;have e:Dk D' s t 0=BD (hdL s.epoch (s.seq+rs.length) l):=by
  simp[BE] at c;exact c.symm
 have hC:BI (Dk D' s t 0)=l.length:=by rw[e,RA p1.2]
 have:=hi (k-1) U;rw[Aev U,show (secs s.epoch rs).length+(1+(k-1))-(secs s.epoch rs).length=k from by omega,Ae0,if_neg U] at this;cases this
theorem PInv.begins{D':Dsk}{s:Sup}{rs:List Rc}{v:List (List UInt8)}{a q u:Int}(h:PInv D s rs v a q u b n)(hs:SOk s)(m:Crashed D D')(hq:q<=1099511627776){c:List Rc}{f:Int}(r:Runs D' s s.head s.seq 0 c t p f):c.length<=rs.length/\c=rs.take c.length/\f=((secs s.epoch c).length:Int)/\t=(s.head+f)%s.len/\p=s.seq+c.length:=by
 have d:=r.pos hs.head;refine (λ(g:c.length<=rs.length/\c=rs.take c.length/\f=((secs s.epoch c).length:Int))=>⟨g.1,g.2.1,g.2.2,d.1,d.2.1⟩) ?_;clear d
 induction r with
 | nil=>exact ⟨by simp,by simp,by simp[secs]⟩
 | @snoc t p f c ims r hlt hn ih=>
  have d:=r.pos hs.head;obtain ⟨o,j,l⟩:=ih;obtain ⟨w,e,i⟩:=h.one hs m hq o (by rw[<-j];exact l) d.1 d.2.1 hn;have k:=(Aee.1 e).1;refine ⟨by simp;omega,?_,?_⟩
  ·rw[Aeh,List.length_singleton,AeQ,<-j,e,i];rfl
  rw[E9,Aeh,Kb,FR];dsimp only;omega
theorem PInv.read{D':Dsk}{s:Sup}{rs:List Rc}{pt:List (List UInt8)}{a q u:Int}(h:PInv D s rs pt a q u b n)(hs:SOk s)(x:Crashed D D')(hq:q<=1099511627776){c:List Rc}{l k:Int}(r:Runs D' s s.head s.seq 0 c t l k)(e:s.len<=k\/∀ims,¬nextP (Dk D' s t) s.epoch l (s.len-k) ims):n<=c.length/\c.length<=rs.length/\c=rs.take c.length:=by
 obtain ⟨g1,g2,g3,g4,g5⟩:=h.begins hs x hq r;refine ⟨?_,g1,g2⟩;rcases Aeu c.length n with w|hge
 ·exfalso
  have a0:=h.sure;have v:=h.fq;have a2:=hs.seq;obtain ⟨d,hr⟩:∃d,rs[c.length]?=some d:=⟨_,Aef U⟩;obtain ⟨r1,r2,r3⟩:=h.recs _ _ hr;have m:(rs.take n)[c.length]?=some d:=by rw[Ae0,if_pos w];exact hr
  have f:=KX s.epoch m;have hp:=FR s.epoch d.seq d.ims;have i:(rs.take n).take c.length=c:=by rw[AeG,AeH U];exact g2.symm
  have a3:(secs s.epoch (rs.take n)).length<=(secs s.epoch rs).length:=by
   have h2:(secs s.epoch rs).length=(secs s.epoch (rs.take n)).length+(secs s.epoch (rs.drop n)).length:=by
    rw[<-Aeh,<-E9,AeO]
   omega
  have z:(secs s.epoch c).length+(1+d.ims.length)<=(secs s.epoch (rs.take n)).length:=by
   rw[f,i,Aeh,Aeh];omega
  have hu:=h.fu;have a1:=h.ul;have o:nextP (Dk D' s t) s.epoch l (s.len-k) d.ims:=by
   have e1:l=d.seq:=by omega
   rw[e1];refine Oj r2 r3 hs.epoch (by split at v<;>omega) U λj p hj=>?_;have a4:=(Aee.1 hj).1;have y:(secs s.epoch (rs.take n))[(secs s.epoch c).length+j]?=some p:=by
    rw[f,i,Aek,Aev U,Agg,Aep U];exact hj
   obtain ⟨d1,d2⟩:=h.dura _ _ y;show D'.cont (ringAt s (t+j))=p;rw[g4,Ka,show s.head+k+(j:Int)=s.head+(((secs s.epoch c).length+j:Nat):Int) from by omega,x.cont];rcases x.dur (ringAt s (s.head+(((secs s.epoch c).length+j:Nat):Int))) with g|g
   ·rw[g,d1]
   rw[d2] at g;cases g
  rcases e with g|g
  ·omega
  exact g _ o
 exact hge
end
structure Pg where
 kind:Int
 body:List UInt8
def Pg.Ok(p:Pg):Prop:=(1<=p.kind/\p.kind<=5)/\p.body.length=240
def noPg:Pg:=⟨0,[]⟩
def IK(n:Nat)(p:Pg):List UInt8:=[80,80,65,71]++Ag 1 p.kind++Ag 4 (n:Int)++[0,0,0]++p.body
theorem FS{p:Pg}(h:p.Ok):(IK n p).length=252:=by simp[IK,Ah,h.2]
def Ej(n:Nat)(p:Pg):List UInt8:=BD (IK n p)
theorem FT{p:Pg}(h:p.Ok):(Ej n p).length=256:=sect_len (Agl (FS h))
def HomeP(c:List UInt8)(n:Nat)(p:Pg):Prop:=(c=List.replicate 256 0/\p=noPg)\/(p.Ok/\c=Ej n p)
theorem Om{p:Pg}(h:p.Ok):(Ej n p).take 4=[80,80,65,71]:=by
 have a:=FS (n:=n) h;have:=Ca (l:=IK n p) U (p:=0) (k:=4) U;rw[Aey,Aey] at this;unfold Ej;rw[this];rfl
theorem PA{p:Pg}(h:p.Ok):Ej n p≠List.replicate 256 0:=λe=>by
 have:=Om (n:=n) h;rw[e] at this;exact absurd this (by decide)
def Kc(x:Sup):List UInt8:=[80,83,85,80]++x.list.flatMap (Ag 8)
theorem GR(x:Sup):(Kc x).length=60:=by simp[Kc,Sup.list,Ah]
def DE(x:Sup):List UInt8:=BD (Kc x)
theorem GS(x:Sup):(DE x).length=256:=sect_len (by rw[GR];omega)
def GT(m:Img):Pg:=⟨m.kind,m.body⟩
theorem Qi{m:Img}(h:m.Ok):(GT m).Ok:=⟨h.2.1,h.2.2⟩
abbrev BF:=Nat->Option Pg
def pgSet(f:BF)(n:Nat)(p:Pg):BF:=λi=>if i=n then some p else f i
def Dq:BF:=λ_=>none
def Hu(f g:BF):BF:=λi=>(g i).or (f i)
def EL(f:BF)(ims:List Img):BF:=ims.foldl (λf m=>pgSet f m.num.toNat (GT m)) f
def ov(rs:List Rc):BF:=rs.foldl (λf r=>EL f r.ims) Dq
theorem Ju(rs:List Rc)(r:Rc):ov (rs++[r])=EL (ov rs) r.ims:=by simp[ov,AgD]
def pgMap(f:BF)(B:Nat->Pg):Nat->Pg:=λi=>(f i).getD (B i)
theorem Vg{f:BF}{ims:List Img}{m:Img}:EL f (ims++[m])=pgSet (EL f ims) m.num.toNat (GT m):=by simp[EL,AgD]
theorem Qj(ims:List Img):∀(f:BF) (n:Nat),(EL f ims n).isSome=((f n).isSome||ims.any λm=>decide (m.num.toNat=n)):=by
 induction ims with
 | nil=>intro f n;simp[EL]
 | cons m ims ih=>
  intro f n;have:EL f (m::ims)=EL (pgSet f m.num.toNat (GT m)) ims:=rfl;rw[this,ih];unfold pgSet;by_cases h:n=m.num.toNat
  ·subst h;simp
  have a:¬m.num.toNat=n:=λe=>h e.symm;simp[h,a]
theorem ovI_get{f:BF}{ims:List Img}{p:Pg}(h:EL f ims n=some p):f n=some p\/∃m∈ims,m.num.toNat=n/\p=GT m:=by
 induction ims generalizing f with
 | nil=>exact .inl h
 | cons m ims ih=>
  have e:EL f (m::ims)=EL (pgSet f m.num.toNat (GT m)) ims:=rfl;rw[e] at h;rcases ih h with g|⟨c,a,b,d⟩
  ·unfold pgSet at g
   split at g
   ·rename_i e;cases g;exact .inr ⟨m,by simp,e.symm,Z⟩
   exact .inl g
  exact .inr ⟨c,by simp[a],b,d⟩
theorem KY:∀(k:Nat) (rs:List Rc),rs.length=k->∀{n:Nat} {p:Pg},ov rs n=some p->∃r∈rs,∃m∈r.ims,m.num.toNat=n/\p=GT m:=by
 intro k
 induction k with
 | zero=>intro rs d n p h;obtain rfl:=Agh.1 d;cases h
 | succ k ih=>
  intro rs d n p h;obtain ⟨c,r,rfl⟩:∃c r,rs=c++[r]:=⟨rs.dropLast,rs.getLast (by intro e;subst e;simp at d),(List.dropLast_concat_getLast (by intro e;subst e;simp at d)).symm⟩;rw[Ju] at h;rcases ovI_get h with g|⟨m,f,i,l⟩
  ·obtain ⟨j,a,b⟩:=ih c (by simpa using d) g;exact ⟨j,by simp[a],b⟩
  exact ⟨r,by simp,m,f,i,l⟩
def hwD(D:Dsk)(l:List (Nat×Pg)):Dsk:=l.foldl (λD x=>D.wr (2+x.1) [Ej x.1 x.2]) D
theorem Vh(D:Dsk)(l:List (Nat×Pg))(x:Nat×Pg):hwD D (l++[x])=(hwD D l).wr (2+x.1) [Ej x.1 x.2]:=by simp[hwD,AgD]
theorem hwD_cons(D:Dsk)(l:List (Nat×Pg))(x:Nat×Pg):hwD D (x::l)=hwD (D.wr (2+x.1) [Ej x.1 x.2]) l:=rfl
theorem Te(D:Dsk)(x:Nat)(ps:List (List UInt8)):(D.wr x ps).dur=D.dur:=ws_dur ps {D with f2:=Bm D.f2} x
theorem Fa(l:List (Nat×Pg)):∀D:Dsk,(hwD D l).n=D.n:=by
 induction l with
 | nil=>intro D;rfl
 | cons x l ih=>intro D;rw[hwD_cons,ih,Dsk.wr_n]
theorem KZ(l:List (Nat×Pg)):∀D:Dsk,(hwD D l).dur=D.dur:=by
 induction l with
 | nil=>intro D;rfl
 | cons x l ih=>intro D;rw[hwD_cons,ih,Te]
theorem hw_has(l:List (Nat×Pg)):∀(D:Dsk) (i:Nat) (c:List UInt8),Dp (hwD D l) i c->Dp D i c\/∃x∈l,i=2+x.1/\c=Ej x.1 x.2:=by
 induction l with
 | nil=>intro D i c h;exact .inl h
 | cons x l ih=>
  intro D i c h;rw[hwD_cons] at h;rcases ih _ _ _ h with g|⟨y,b,d,e⟩
  ·rcases wr_has g with g|⟨f,a⟩
   ·exact .inl g
   have:i-(2+x.1)=0:=by
    have:=(Aee.1 a).1;simp at this;omega
   rw[this] at a;simp at a;exact .inr ⟨x,by simp,by omega,a.symm⟩
  exact .inr ⟨y,by simp[b],d,e⟩
theorem K5(l:List (Nat×Pg)):∀(D:Dsk) (i:Nat),(∀x∈l,i≠2+x.1)->(hwD D l).ver i=D.ver i:=by
 induction l with
 | nil=>intro D i _;rfl
 | cons x l ih=>
  intro D i h;rw[hwD_cons,ih _ _ (λy a=>h y (by simp[a]))];refine Gx _ _ ?_;have:=h x O;simp only[Aej,AeE];omega
theorem hw_cont_out(l:List (Nat×Pg))(D:Dsk)(i:Nat)(h:∀x∈l,i≠2+x.1):(hwD D l).cont i=D.cont i:=by
 unfold Dsk.cont;rw[K5 l D i h,KZ]
theorem Xt{l:List (Nat×Pg)}:∀(D:Dsk),(l.map Prod.fst).Nodup->∀x∈l,(hwD D l).cont (2+x.1)=Ej x.1 x.2:=by
 induction l with
 | nil=>intro D _ x h;cases h
 | cons y l ih=>
  intro D a x b;rw[hwD_cons];simp only[AeM,Afk] at a;rcases Aeq.1 b with rfl|b
  ·rw[hw_cont_out]
   ·rw[wr_cont,if_pos (Ael _),AgG];rfl
   intro z c e;exact a.1 (Aen.2 ⟨z,c,by omega⟩)
  exact ih _ a.2 x b
theorem On(l:List (Nat×Pg)):∀(D:Dsk) (i:Nat),(l.map Prod.fst).Nodup->((hwD D l).ver i).length<=(D.ver i).length+1:=by
 induction l with
 | nil=>intro D i _;show (D.ver i).length<=_;omega
 | cons y l ih=>
  intro D i a;rw[hwD_cons];simp only[AeM,Afk] at a;by_cases hi:i=2+y.1
  ·rw[K5]
   ·exact Dsk.wr_len _ _ _ _
   intro z c e;exact a.1 (Aen.2 ⟨z,c,by omega⟩)
  have b:=ih (D.wr (2+y.1) [Ej y.1 y.2]) i a.2;rw[Gx D i (by simp only[Aej,AeE];omega)] at b;exact b

def Fj(D:Dsk)(x:Sup):Dsk:= {Dsk.ws {D with f2:=Bm D.f2} true (x.gen%2).toNat [DE x] with left:=max 0 (D.left-1)}
theorem HO(D:Dsk)(x:Sup):(Fj D x).dur (x.gen%2).toNat=DE x/\(Fj D x).ver (x.gen%2).toNat=[]:=by
 constructor
 ·show (Dj D.dur _ _) _=_;simp[Dj]
 show (Dj D.ver _ _) _=_;simp[Dj]
theorem ES(D:Dsk)(x:Sup)(i:Nat)(h:i≠(x.gen%2).toNat):(Fj D x).dur i=D.dur i/\(Fj D x).ver i=D.ver i:=by
 constructor
 ·show (Dj D.dur _ _) _=_;unfold Dj;rw[if_neg h]
 show (Dj D.ver _ _) _=_;unfold Dj;rw[if_neg h]
theorem Yr{x2:Value}:Ak 273 [.pointer (some ⟨n,1,none⟩)] [blk n (BR y (.int .i32 0) x2 i) 239] (λv G=>v=.tuple #[]/\G=[blk n (BR y (.int .i32 1) x2 i) 239]):=by
 intro z R w H;refine Ae func273 Z ntmps273 Z (Zc 2 Z (Ad Z (Hb (v:=.tuple #[]) (vs:=[]) Z Z (λw _=>run_call_mark0 func278 J J J .disable J w)) (Z0 8 [1] Z (AU Z (Rt 0 (p:=1) (u0:=.int .i32 0) (u:=.int .i32 1) (v:=.bool true) H Z Z Z (vs:=[.pointer (some ⟨n,1,none⟩),.int .i32 0,.int .i32 1]) Z Z (λa b=>run_call_cas_hit func279 J J J .i32 J a b) (out:=(BR y (.int .i32 1) x2 i)) Z) ?_))));rintro _ w ⟨rfl,H⟩;refine Zc 7 Z (Ad Z (Hb (v:=.tuple #[]) (vs:=[]) Z Z (λw _=>run_call_mark0 func280 J J J .enable J w)) (Zc 4 Z (Ad Z (NV Z J Z (AB (H.cel 0 Z 1 Z))) (Ad Z (Hb (v:=.tuple #[]) (vs:=[.pointer (some ⟨n,1,none⟩)]) Z Z (λw _=>run_call_marked func281 J J J .acquire J _ w)) (Zc 3 Z (Zr Z ?_))))));exact ⟨_,⟨Z,Z⟩,H⟩
theorem Tf{x2:Value}:Ak 274 [.pointer (some ⟨n,1,none⟩)] [blk n (BR y (.int .i32 1) x2 i) 239] (λv G=>v=.tuple #[]/\G=[blk n (BR y (.int .i32 0) x2 i) 239]):=by
 intro z R w H;refine Ae func274 Z ntmps274 Z (Z2 13 [1,0,0] H Z (Ad Z (NV Z J Z (AB (H.cel 0 Z 1 Z))) (Ad Z (Hb (v:=.tuple #[]) (vs:=[.pointer (some ⟨n,1,none⟩)]) Z Z (λw _=>run_call_marked func283 J J J .releaseMerge J _ w)) (Zc 3 Z (Ad Z (Hb (v:=.tuple #[]) (vs:=[]) Z Z (λw _=>run_call_mark0 func278 J J J .disable J w)) (Z0 7 [1] Z (AU Z (Rt 0 (p:=1) (u0:=.int .i32 1) (u:=.int .i32 0) (v:=.int .i32 0) H Z Z Z (vs:=[.pointer (some ⟨n,1,none⟩),.int .i32 (-1)]) Z Z (λa b=>run_call_add func284 J J J .i32 J (s:=0) a b (by simp[go_sem];rfl)) (out:=(BR y (.int .i32 0) x2 i)) Z) ?_)))))));rintro _ w ⟨rfl,H⟩;refine Z0 14 [4] Z (Ad Z (Hb (v:=.tuple #[]) (vs:=[]) Z Z (λw _=>run_call_mark0 func280 J J J .enable J w)) (Zc 1 Z (Zf Z ?_)));exact ⟨_,⟨Z,Z⟩,H⟩
theorem Abo:Ak 265 [.pointer (some ⟨n,1,none⟩)] [blk n (BR u (.int .i32 0) y i) 239] (λv G=>v=.tuple #[]/\G=[blk n (BR u (.int .i32 1) y i) 239]):=by
 intro z R w H;refine Ae func265 Z ntmps265 Z (Z0 4 [1] Z (z_E_ Z (call273 _) (Yr) H ?_));intro w H;refine Zc 1 Z (Zf Z ?_);exact ⟨_,⟨Z,Z⟩,H⟩
theorem Vi(a i:Nat)(c x2:Value):Xr prog 266 [.pointer (some ⟨a,1,none⟩)] [blk a (BR c (.int .i32 1) x2 i) 239] (λv G=>v=.tuple #[]/\G=[blk a (BR c (.int .i32 0) x2 i) 239]):=by
 intro z R u w b;have H:=b.l1;refine NW func266 Z 6 ntmps266 Z (AK (Mz 3 [1] Z J (Fv Z Z Z Z Z (λw=>call274 _ w) (Tf) H Z ?_)));rintro _ w _ ⟨rfl,rfl⟩ b;have H:=b.l1;refine AT (dn0 Z ?_);exact ⟨[blk a (BR c (.int .i32 0) x2 i) 239],⟨Z,Z⟩,H⟩
theorem Ada:Ak 276 [.bool true] [] (λv G=>v=.int .u32 1/\G=[]):=by
 intro z R w H;refine Ae func276 Z ntmps276 Z (Zc 18 Z (Zr Z ?_));exact ⟨_,⟨Z,Z⟩,H⟩
theorem Oo:Ak 248 [Y n] [blk n (BR (.int .u32 0) u y i) 239] (λv G=>v=.bool false/\G=[blk n (BR (.int .u32 0) u y i) 239]):=by
 intro z R w H;refine Ae func248 Z ntmps248 Z (Z0 10 [0] Z (Ad Z (Hb (v:=.int .u32 0) (vs:=[Y n]) Z Z (AB (run_call_load func264 J J J .u32 J (H.cel 0 Z 0 Z)))) (Z0 5 [4] Z (Zr Z ?_))));exact ⟨_,⟨Z,Z⟩,H⟩
theorem Vj:Ak 248 [Y n] [blk n (BR (.int .u32 1) u y i) 239] (λv G=>v=.bool true/\G=[blk n (BR (.int .u32 1) u y i) 239]):=by
 intro z R w H;refine Ae func248 Z ntmps248 Z (Z0 10 [0] Z (Ad Z (Hb (v:=.int .u32 1) (vs:=[Y n]) Z Z (AB (run_call_load func264 J J J .u32 J (H.cel 0 Z 0 Z)))) (Z0 5 [3] Z (Zr Z ?_))));exact ⟨_,⟨Z,Z⟩,H⟩
theorem Vk(b i:Nat)(c x2:Value):Xr prog 267 [Y b,.bool true] [blk b (BR (.int .u32 0) c x2 i) 239] (λv G=>v=.tuple #[]/\G=[blk b (BR (.int .u32 1) c x2 i) 239]):=by
 intro z R u w a;have H:=a.l1;refine NW func267 Z 10 ntmps267 Z (Bf (Sep z (blk b (BR (.int .u32 0) c x2 i) 239::R)) 6 Z J (A4 H λw a=>?_));have H:=a.l1;refine Bo [0,1,2,3] [0] J (λ_ _=>AH) (by exact H.pick 1 [0] Z) Z J Z Z (Ay [4] J O (Al (Br Z Z Z Z Z Z (λw=>call276 _ w) (Ada) H Z ?_)));rintro _ w _ ⟨rfl,rfl⟩ a;have H:=a.l1;refine Ar (λ_=>(H.pick 1 [0] Z)) (Ay [5] J O (Al (BU Z Z Z Z (Rt 0 (p:=0) (u0:=.int .u32 0) (u:=.int .u32 1) (v:=.tuple #[]) H Z Z Z (vs:=[Y b,.int .u32 1]) Z Z (λd e=>run_call_store func275 J J J J d e) (out:=(BR (.int .u32 1) c x2 i)) Z) ?_)));rintro _ w ⟨rfl,a⟩;have H:=a.l1;refine Ar (λh=>absurd Z h) (AV J (dn0 Z ?_));exact ⟨[blk b (BR (.int .u32 1) c x2 i) 239],⟨Z,Z⟩,H⟩
theorem Abp(b:Nat)(d c x2:Value):Ak 227 [Y b] [blk b (BR d c x2 0) 239] (λv G=>v=.tuple #[]/\G=[blk b (BR d c x2 256) 239]):=by
 intro z R w H;refine Ae func227 Z ntmps227 Z (Zc 6 Z ?_);refine AF (σ:=Nat) (λi=>[(4,I (i:Int)),(0,Y b)])
   (λi w=>Sep z (blk b (BR d c x2 i) 239::R) w/\(i<=256)) (λi=>256-i) 0
   fr_z ⟨H,by omega⟩ ?_
 clear H;rintro i w ⟨f,e⟩;have H:=f.l1;have g:=e;clear e;refine Z0 6 [0] Z (Af Z (λk=>?_) (λk=>?_))
 ·have h:i<256:=by omega
  refine Zc 13 Z (Ad Z (Sx Z J Z) (Zc 10 Z ?_));refine AF (σ:=Nat) (λj=>[(9,I (j:Int)),(3,u32 (Jr j (Fu (i:Int)))),(0,Y b),(2,I (i:Int)),(4,I (i:Int)),(5,.bool (decide ((i:Int)<256))),(6,I (i:Int)),(7,I (i:Int)),(8,u32 (Fu (i:Int)))])
    (λj w=>Sep z (blk b (BR d c x2 i) 239::R) w/\(j<=8)) (λj=>8-j) 0
    (λ_ a=>(a.co Z (by go_num) a.cz)) ⟨H,by omega⟩ ?_
  clear H;rintro j w ⟨f,e⟩;have H:=f.l1;have n:=e;clear e;refine Z0 6 [0] Z (Af Z (λl=>?_) (λl=>?_))
  ·refine Zc 6 Z (Ad Z (HC Z Z (m:=1) (n':=1) Z (by decide)) (Zc 1 Z (Ad Z (XP (q:=1) Z Z Z) (Ad Z (XQ (q:=2197175160) Z Z Z) (Ad Z (PQ Z Z Z) (Z1 8 [] [(j:Int)+1] Z U (gf ?_)))))));intro _ a;refine ⟨(j+1),(a.co Z (by go_num) a.cz),⟨H,?_⟩,?_⟩
   ·omega
   omega
  obtain rfl:j=8:=by omega
  refine Zc 2 Z (gx (Z1 9 [3,256,1,i,3+i] [] Z U (AC Z Z (Am 0 H Z Z Z Z (vs:=[u32 (Jr 8 (Fu (i:Int)))]) Z (by simp[u32,Value.oneCell']) J (by rw[UX U];simp;omega) (out:=BR d c x2 (i+1)) (by have:=S4 d c x2 h;simpa using this)) ?_)));rintro w H;refine Z1 7 [] [(i:Int)+1] Z U (gf ?_);intro _ a;refine ⟨(i+1),a.cz,⟨H,?_⟩,?_⟩
  ·omega
  omega
 refine Zc 2 Z (gx (Zc 1 Z (Zf Z ?_)));obtain rfl:i=256:=by omega
 exact ⟨_,⟨Z,Z⟩,H⟩
theorem Abq:Ak 249 [Y n,.func (.func 227) #[Y n] #[]] [blk n (BR (.int .u32 0) (.int .i32 0) (.int .u32 0) 0) 239] (λv G=>v=.tuple #[]/\G=[blk n (BR (.int .u32 1) (.int .i32 0) (.int .u32 0) 256) 239]):=by
 intro z R w b;have H:=b.l1;refine SU func249 Z 21 ntmps249 Z (A6 (AK (Mz 3 [1] Z J (Fv Z Z Z Z Z (λw=>call265 _ w) (Abo) H Z ?_))));rintro _ w _ ⟨rfl,rfl⟩ b;have H:=b.l1;refine AT (A6 (AK (Mz 3 [1] Z J (LR Z Z Z Z (AT (A6 (AK (Mz 3 [0] Z J (Fv Z Z Z Z Z (λw=>call248 _ w) (Oo) H Z ?_)))))))));rintro _ w _ ⟨rfl,rfl⟩ b;have H:=b.l1;refine B3 1 Z Z (AT (Sg Z (A6 (AK (Mz 3 [0] Z J (LR Z Z Z Z (AT (AK (B3 1 Z Z (X3 (bs:=[Y n]) (vs:=[]) Z Z Z Z Z Z (λw=>call227 _ w) (Abp n (.int .u32 0) (.int .i32 1) (.int .u32 0)) H 1 [0] Z Z ?_))))))))));rintro _ w _ ⟨rfl,rfl⟩ b;have H:=b.l1;refine AT ?_;intro a c;unfold Jp;rw[c.defers];refine GN (λw=>call267 _ w) (Vk n 256 (.int .i32 1) (.int .u32 0)) H 1 [0] Z Z ?_;rintro _ w _ ⟨rfl,rfl⟩ b;clear H;have H:Sep z (blk n (BR (.int .u32 1) (.int .i32 1) (.int .u32 0) 256) 239::R) w:=b;refine GN (λw=>call266 _ w) (Vi n 256 (.int .u32 1) (.int .u32 0)) H 1 [0] Z Z ?_;rintro _ w _ ⟨rfl,rfl⟩ b;exact Ac6 Z ⟨_,⟨Z,Z⟩,b⟩
theorem Adb(a:Nat):Ak 226 [Y a,.func (.func 227) #[Y a] #[]] [blk a (BR (.int .u32 0) (.int .i32 0) (.int .u32 0) 0) 239] (λv G=>v=.tuple #[]/\G=[blk a (BR (.int .u32 1) (.int .i32 0) (.int .u32 0) 256) 239]):=by
 intro z R w H;refine Ae func226 Z ntmps226 Z (Z0 5 [0] Z (z_E_ Z (call248 _) (Oo) H ?_));intro w H;refine Zc 7 Z (z_E_ Z (call249 _) (Abq) H ?_);intro w H;refine Zc 1 Z (Zf Z ?_);exact ⟨_,⟨Z,Z⟩,H⟩
theorem Adc(a:Nat):Ak 226 [Y a,.func (.func 227) #[Y a] #[]] [blk a (BR (.int .u32 1) (.int .i32 0) (.int .u32 0) 256) 239] (λv G=>v=.tuple #[]/\G=[blk a (BR (.int .u32 1) (.int .i32 0) (.int .u32 0) 256) 239]):=by
 intro z R w H;refine Ae func226 Z ntmps226 Z (Z0 5 [0] Z (z_E_ Z (call248 _) (Vj) H ?_));intro w H;refine Zc 5 Z (Zf Z ?_);exact ⟨_,⟨Z,Z⟩,H⟩
theorem AdR:Ak 226 [Y n,.func (.func 227) #[Y n] #[]] [tblA n] (λv G=>v=.tuple #[]/\G=[blk n (BR (.int .u32 1) (.int .i32 0) (.int .u32 0) 256) 239]):=Cn.or (Adb n) (Adc n)
theorem Oq:Ak 92 [] [] (λv G=>(∃b,v=Y b/\G=[tblA b])):=by
 intro z R w H;refine Ae func92 Z ntmps92 Z (Zc 7 Z (Ad Z (Be Z Z (out:=(BR (.int .u32 0) (.int .i32 0) (.int .u32 0) 0)) J) (AU Z (G8 H Z Z (cs:=(BR (.int .u32 0) (.int .i32 0) (.int .u32 0) 0)) Z) ?_)));rintro _ w ⟨a,rfl,H⟩;refine Zc 4 Z (Zr Z ?_);have H:=H.mono 0 (B:=tblA a) Z (λh q=>.inl q);exact ⟨_,⟨a,Z,Z⟩,H⟩
theorem Th(e:Nat)(a:UInt32)(v:Value)(bs:List UInt8)(A:Ai)(g:∀h,A h->rdH 1 v bs.length (bs.map u8) h):Ak 196 [Y e,u32 a,v] [tblA e,A] (λv G=>v=u32 (EE a bs)/\G=[tblA e,A]):=by
 intro z R w H;obtain ⟨t,c,rfl⟩:=H.sy 1 (λq=>(g _ q).slc);have p:=H.sy 1 (λq=>(g _ q).small);refine Ae func196 Z ntmps196 Z (Z0 11 [0] Z (Ad Z (C6 Z Z Z) (z_E_ Z (call226 _) (AdR) H ?_)));intro w H;refine Zc 5 Z (Ad Z (PR Z Z) (Zc 12 Z ?_));refine AF (σ:=Nat) (λk=>[(20,I (k:Int)),(7,u32 ((bs.take k).foldl HM (4294967295 ^^^ a))),(0,Y e),(6,u32 0),(18,.slice t bs.length c),(19,I (bs.length:Int))])
   (λk w=>Sep z (blk e (BR (.int .u32 1) (.int .i32 0) (.int .u32 0) 256) 239::A::R) w/\(k<=bs.length)) (λk=>bs.length-k) 0
   (λ_ d=>(d.co Z (by go_num) d.cz)) ⟨H,by omega⟩ ?_
 clear H;rintro k w ⟨s,n⟩;have H:=s.l2;have x:=n;clear n;refine Z0 6 [0] Z (Af Z (λo=>?_) (λo=>?_))
 ·obtain ⟨b,i⟩:∃b,bs[k]?=some b:=⟨_,Aef U⟩;refine Zc 6 Z ?_;have f:=(H.rd 1 Z g).at (j:=k) (u:=u8 b) (by simp[i])
  refine Ad Z (Aj Z (z:=1) (j:=k) (r:=k) J Z Z Z U f U) (Ad Z (Ax Z Z J (AB f)) (Zc 5 Z (Ad Z (HC Z Z (m:=8) (n':=8) Z (by decide)) (Zc 2 Z (Ad Z (HD Z J Z) (Zc 1 Z (Ad Z (AaN Z Z Z) (Z0 2 [3] Z (Ad Z (JV (l:=256) Z (z:=1) (j:=((((bs.take k).foldl HM (4294967295 ^^^ a)).toUInt8) ^^^ b).toNat) (r:=3+(((bs.take k).foldl HM (4294967295 ^^^ a)).toUInt8 ^^^ b).toNat) J Z Z Z (UInt8.toNat_lt _) U) (Ad Z (Bn Z Z J (AB (H.cel 0 Z _ (S5)))) (Ad Z (PQ Z Z Z) (Z1 8 [] [(k:Int)+1] Z U (gf ?_)))))))))))));intro _ d;refine ⟨(k+1),(d.co Z (by go_num) (d.co Z (congrArg u32 (by rw[AeQ,i];simp[HM])) (d.all Z))),⟨H,?_⟩,?_⟩
  ·omega
  omega
 refine Zc 2 Z (gx (Zc 5 Z (Ad Z (PR Z Z) (Zc 4 Z (Zr Z ?_)))));obtain rfl:k=bs.length:=by omega
 have H:=H.mono 0 (B:=tblA e) Z (λh q=>.inr q);exact ⟨_,⟨congrArg u32 (by simp[EE]),Z⟩,H⟩
theorem Ys(bs:List UInt8)(a:∀h,A h->rdH 1 v bs.length (bs.map u8) h):Ak 196 [Y n,.int .u32 0,v] [tblA n,A] (λv G=>v=u32 (Bh bs)/\G=[tblA n,A]):=by
 have h:=Th n 0 v bs A a;rw[show u32 0=Value.int .u32 0 from Z] at h;exact h
theorem Xu(bs:List UInt8)(a:bs.length=n)(b:∀h,A h->rdH 1 v n (bs.map u8) h):Ak 231 [Y m,v] [tblA m,A] (λv G=>v=u32 (Bh bs)/\G=[tblA m,A]):=by
 intro z R w H;subst a;refine Ae func231 Z ntmps231 Z (Zc 9 Z (z_E_ Z (call196 _) (Ys bs b) H ?_));intro w H;refine Zc 4 Z (Zr Z ?_);exact ⟨_,⟨Z,Z⟩,H⟩
theorem Or(bs:List UInt8)(c:bs.length=n)(a:∀h,A h->rdH 1 v n (bs.map u8) h):Ak 209 [Y i,v] [tblA i,A] (λv G=>v=.agg #[u8 ((Bh bs).toUInt8),u8 (((Bh bs)>>>8).toUInt8),u8 (((Bh bs)>>>16).toUInt8),u8 (((Bh bs)>>>24).toUInt8)]/\G=[tblA i,A]):=by
 intro z R w H;refine Ae func209 Z ntmps209 Z (Zc 2 Z (AU Z (Ce (P:=prog) H Z (zs:=[u8 0,u8 0,u8 0,u8 0]) J) ?_));rintro _ w ⟨b,rfl,H⟩;refine Zc 6 Z (z_E_ Z (call231 _) (Xu bs U a) H.f2.f2 ?_);intro w H;refine Zc 6 Z (Ad Z (HD Z J Z) (Zc 1 Z (Ad Z (HC Z Z (m:=8) (n':=8) Z (by decide)) (Ad Z (HD Z J Z) (Zc 1 Z (Ad Z (HC Z Z (m:=16) (n':=16) Z (by decide)) (Ad Z (HD Z J Z) (Zc 1 Z (Ad Z (HC Z Z (m:=24) (n':=24) Z (by decide)) (Ad Z (HD Z J Z) (Ad Z (Be Z Z (out:=[u8 ((Bh bs).toUInt8),u8 (((Bh bs)>>>8).toUInt8),u8 (((Bh bs)>>>16).toUInt8),u8 (((Bh bs)>>>24).toUInt8)]) J) (Z4 4 [2] H Z ?_))))))))))));intro w H;refine Zl [2,4] H Z ?_;exact ⟨_,⟨Z,Z⟩,H.perm 3 [0,1] Z Z⟩
theorem CH(a k:Nat)(x:Int)(e:B.length=256)(l:a+k<=256/\k<=8):Ak 99 [Y n,I x,I (k:Int)] [blk n (Bb B (a:Int)) 173] (λv G=>v=.tuple #[]/\G=[blk n (Bb (Bw B (Ag k x) a) ((a+k:Nat):Int)) 173]):=by
 intro z R w H;refine Ae func99 Z ntmps99 Z (Zc 8 Z ?_);refine AF (σ:=Nat) (λi=>[(8,I (i:Int)),(0,Y n),(1,I x),(2,I (k:Int)),(7,I (k:Int))])
   (λi w=>Sep z (blk n (Bb (Gp B (Ag k x) a i) (a:Int)) 173::R) w/\(i<=k)) (λi=>k-i) 0
   fr_z ⟨(by rw[UY];exact H),by omega⟩ ?_
 clear H;rintro i w ⟨d,f⟩;have H:=d.l1;have h:=f;clear f;have c:(Gp B (Ag k x) a i).length=256:=by rw[Yg U (by rw[Ah];omega)];exact e
 refine Z0 6 [0] Z (Af Z (λg=>?_) (λg=>?_))
 ·have hi:i<k:=by omega
  refine Zc 10 Z (BJ 18 J J (A4 H λw d=>?_));have H:=d.l1;refine PV 4 [256] Z J (Cd Z Z Z (Bn Z Z J (AB (H.cel 0 Z 256 (N7 _ c)))) (ER 8 [] [((a+i:Nat):Int),(k:Int)-1,((k-1-i:Nat):Int),((8*(k-1-i):Nat):Int)] H Z J U (Cd Z Z Z (AaQ Z Z Z (m:=8*(k-1-i)) Z U) (Cd Z Z Z (Rh Z J Z) (ER 3 [0,256,1,(a+i),a+i] [] H Z J U (CG (gw (AC Z Z (Am 0 H Z Z Z Z (vs:=[u8 (GI (x/2^(8*(k-1-i))))]) Z (by simp[u8,u32,Value.oneCell']) J (by rw[Fi c];simp;omega) (out:=(Bb (Gp B (Ag k x) a (i+1)) (a:Int))) (U1 (by rw[Ah];omega) (beN_get x hi))) ?_))))))));rintro w H;refine Z1 7 [] [(i:Int)+1] Z U (gf ?_);intro _ j;refine ⟨(i+1),j.cz,⟨H,?_⟩,?_⟩
  ·omega
  omega
 obtain rfl:i=k:=by omega
 rw[Yh B (Ag i x) a (by rw[Ah])] at H;have b:(Bw B (Ag i x) a).length=256:=by rw[Et (by rw[Ah];omega)];exact e
 refine Zc 2 Z (gx (Z0 6 [256] Z (Ad Z (Bn Z Z J (AB (H.cel 0 Z 256 (N7 _ b)))) (Z1 4 [256] [((a+i:Nat):Int)] Z U (AC Z Z (Am 0 H Z Z Z Z (vs:=[I ((a+i:Nat):Int)]) Z (by simp[u8,u32,Value.oneCell']) J (by rw[Fi b];simp) (out:=(Bb (Bw B (Ag i x) a) ((a+i:Nat):Int))) (Js b)) ?_)))));rintro w H;refine Zc 1 Z (Zf Z ?_);exact ⟨_,⟨Z,Z⟩,H⟩
theorem IZ(a:Nat)(s:List UInt8)(b:S.length=256)(e:a+s.length<=256/\a<256):Ak 192 [Y n,Cl s] [blk n (Bb S (a:Int)) 173] (λv G=>v=.tuple #[]/\G=[blk n (Bb (Bw S s a) ((a+s.length:Nat):Int)) 173]):=by
 intro z R w H;refine Ae func192 Z ntmps192 Z (Bf (Sep z (wrH n (a:Int)::R)) 18 Z J (A4 H λw d=>?_));have H:=d.l1;refine Bo [0,1,2] [256] J (λ_ _=>AH) (by exact H.mono 0 (B:=wrH n (a:Int)) Z (λh q=>⟨_,b,q⟩)) Z J Z Z (By 3 J Z Z J J J Z Z Z (Bn Z Z J (λ_ c=>c.cell 0 Z (λh q=>wrH.at q))) (H.mono 0 (B:=wrH n (a:Int)) Z (λh q=>⟨_,b,q⟩)) (Bo [4,5,6,7,8,9] [0,256] J (λ_ _=>AH) (by exact H.mono 0 (B:=wrH n (a:Int)) Z (λh q=>⟨_,b,q⟩)) Z J Z Z (By 10 J Z Z J J J Z Z Z (Bn Z Z J (λ_ c=>c.cell 0 Z (λh q=>wrH.at q))) (H.mono 0 (B:=wrH n (a:Int)) Z (λh q=>⟨_,b,q⟩)) (By 11 J Z Z J J J Z Z Z (GJ Z (n':=256) (z:=1) (p:=a) (q:=256) (o':=a) (l':=256-a) (c':=256-a) J Z (.inr ⟨_,_,_,Z,Z,Z⟩) (.inl ⟨Z,Z⟩) U U U U U U) (H.mono 0 (B:=wrH n (a:Int)) Z (λh q=>⟨_,b,q⟩)) (Bo [12] [] J (λ_ _=>AH) (by exact H.mono 0 (B:=wrH n (a:Int)) Z (λh q=>⟨_,b,q⟩)) Z J Z Z (Ay [13] J O (Al (BU Z Z Z Z (F8 0 H Z Z J Z Z (m:=s.length) (news:=(s.map u8)) (.inr ⟨s,Z,Z,Z⟩) (by simp[u8,Value.oneCell']) (by rw[Fi b];omega) (k:=s.length) U (out:=(Bb (Bw S s a) (a:Int))) (N9 U Z)) ?_))))))));rintro _ w ⟨rfl,H⟩;refine Ar (λ_=>(H.mono 0 (B:=wrH n (a:Int)) Z (λh q=>⟨_,((Et U).trans b),q⟩))) (By 14 J Z Z J J J Z Z Z (C4 Z Z Z (r:=((a+s.length:Nat):Int)) U U) (H.mono 0 (B:=wrH n (a:Int)) Z (λh q=>⟨_,((Et U).trans b),q⟩)) (Bo [15,16] [256] J (λ_ _=>AH) (by exact H.mono 0 (B:=wrH n (a:Int)) Z (λh q=>⟨_,((Et U).trans b),q⟩)) Z J Z Z (Ay [17] J O (Al (Bl Z Z Z (Am 0 H Z Z Z Z (vs:=[I ((a+s.length:Nat):Int)]) Z (by simp[u8,u32,Value.oneCell']) J (by rw[Fi ((Et U).trans b)];simp) (out:=(Bb (Bw S s a) ((a+s.length:Nat):Int))) (Js ((Et U).trans b))) ?_)))));rintro w H;refine Ar (λh=>absurd Z h) (AV J (gn (Zf Z ?_)));exact ⟨_,⟨Z,Z⟩,H⟩
theorem ID(a:B.length=256):Ak 193 [Y n,Y i] [blk n (Bb B (t:Int)) 173,tblA i] (λv G=>v=.slice (some ⟨n,0,none⟩) 256 256/\G=[blk n (Bb (Oa B) (t:Int)) 173,tblA i]):=by
 intro z R w H;refine Ae func193 Z ntmps193 Z (Z0 11 [0] Z (Ad Z (GJ Z (n':=256) (z:=1) (p:=0) (q:=252) (o':=0) (l':=252) (c':=256) J Z (.inl ⟨Z,Z⟩) (.inr ⟨_,_,_,Z,Z,Z⟩) U U U U U U) (z_E_ Z (call209 _) (Or (B.take 252) (by simp[a]) (λh q=>HN q a U U U O)) H.f1 ?_)));intro w H;refine AU Z (Ce (P:=prog) H Z (zs:=[u8 0,u8 0,u8 0,u8 0]) J) ?_;rintro _ w ⟨c,rfl,H⟩;refine Z4 4 [0] H Z ?_;intro w H;refine BJ 5 J J (A4 H λw b=>?_);have H:=b.l3;refine PV 3 [0] Z J (Cd Z Z Z (GJ Z (n':=256) (z:=1) (p:=252) (q:=256) (o':=252) (l':=4) (c':=4) J Z (.inr ⟨_,_,_,Z,Z,Z⟩) (.inl ⟨Z,Z⟩) U U U U U U) (Cd Z Z Z (GJ Z (n':=4) (z:=1) (p:=0) (q:=4) (o':=0) (l':=4) (c':=4) J Z (.inl ⟨Z,Z⟩) (.inl ⟨Z,Z⟩) U U U U U U) (CG (gw (AU Z (F8 2 H Z Z J Z Z (m:=4) (news:=((Iy (Bh (B.take 252))).map u8)) (.inl (H.rv 0 (·.rd U U O Z))) (by simp[Iy,u8,Value.oneCell']) (by rw[Fi a];omega) (k:=4) U (out:=(Bb (Oa B) (t:Int))) (N9 (by simp[Iy,a]) Z)) ?_)))));rintro _ w ⟨rfl,H⟩;refine Z0 7 [0] Z (Ad Z (GJ Z (n':=256) (z:=1) (p:=0) (q:=256) (o':=0) (l':=256) (c':=256) J Z (.inl ⟨Z,Z⟩) (.inl ⟨Z,Z⟩) U U U U U U) (Zc 4 Z (Zr Z ?_)));exact ⟨_,⟨Z,Z⟩,H.perm 3 [2,1] Z Z⟩
theorem CB(k:Nat)(b o n c:Nat)(xs:List UInt8)(e:∀h,A h->rdH 1 (.slice (some ⟨b,o,none⟩) n c) n (xs.map u8) h)(hn:n<=c/\k<c)(hk:k<=n)(ys:List UInt8)(hy:xs.take k=ys)(o2 f c2:Nat)(d:o+k=o2)(s:n-k=f)(h3:c-k=c2):Ak 164 [Y i,I (k:Int)] [blk i [.slice (some ⟨b,o,none⟩) n c] 259,A] (λv G=>v=I (A5 ys)/\G=[blk i [.slice (some ⟨b,o2,none⟩) f c2] 259,A]):=by
 intro z R w H;subst hy d s h3;have u:=H.sy 1 (λq=>(e _ q).len);have t:=H.sy 1 (λq=>(e _ q).cap);refine Ae func164 Z ntmps164 Z (Z2 18 [0,0,0] H Z (Ad Z (BM Z (z:=1) (p:=0) (q:=k) (o':=o) (l':=k) (c':=c) J Z (.inl ⟨Z,Z⟩) (.inr ⟨_,_,_,Z,Z,Z⟩) U U U U U U) (Zc 5 Z ?_)));refine AF (σ:=Nat) (λj=>[(15,I (j:Int)),(5,I (A5 (xs.take j))),(0,Y i),(1,I (k:Int)),(4,I 0),(13,.slice (some ⟨b,o,none⟩) k c),(14,I (k:Int))])
   (λj w=>Sep z (blk i [.slice (some ⟨b,o,none⟩) n c] 259::A::R) w/\(j<=k)) (λj=>k-j) 0
   (λ_ a=>(a.co Z (by go_num) a.cz)) ⟨H,by omega⟩ ?_
 clear H;rintro j w ⟨y,l⟩;have H:=y.l2;have r:=l;clear l;refine Z0 6 [0] Z (Af Z (λd=>?_) (λd=>?_))
 ·obtain ⟨x,g⟩:∃x,xs[j]?=some x:=⟨_,Aef U⟩;refine Z1 7 [1,j,o+j] [] Z U (Ad Z (Bn Z Z J (AB (H.cell 1 Z (λh q=>(e h q).at g)))) (Zc 5 Z (Ad Z (SA Z Z Z (m:=8) Z (by decide)) (Zc 1 Z (Ad Z (Ri Z J Z) (Ad Z (Xj Z Z Z (Ob) ⟨by omega,by have:=x.toNat_lt;omega⟩) (Z1 8 [] [(j:Int)+1] Z U (gf ?_))))))));intro _ a;refine ⟨(j+1),(a.co Z (by go_num) (a.co Z (congrArg I (MF g)) (a.all Z))),⟨H,?_⟩,?_⟩
  ·omega
  omega
 obtain rfl:j=k:=by omega
 refine Zc 2 Z (gx (Z2 10 [0,0,0] H Z (Ad Z (BM Z (z:=1) (p:=j) (q:=n) (o':=o+j) (l':=n-j) (c':=c-j) J Z (.inr ⟨_,_,_,Z,Z,Z⟩) (.inl ⟨Z,Z⟩) U U U U U U) (Z4 12 [0,0] H Z ?_))));intro w H;refine Zr Z ?_;exact ⟨_,⟨Z,Z⟩,H⟩
theorem Yt(xs:List UInt8)(c:∀h,A h->rdH 1 (.slice (some ⟨i,e,none⟩) n g) n (xs.map u8) h)(hn:n<=g):Ak 234 [.slice (some ⟨i,e,none⟩) n g,u8 0] [A] (λv G=>v=.slice (some ⟨i,e,none⟩) (rz xs) g/\G=[A]):=by
 intro z R w H;have r:=H.sy 0 (λq=>(c _ q).len);have o:=H.sy 0 (λq=>(c _ q).cap);refine Ae func234 Z ntmps234 Z (Zc 7 Z ?_);refine AF (σ:=Nat) (λm=>[(0,.slice (some ⟨i,e,none⟩) m g),(1,u8 0),(4,.slice none 0 0)])
   (λm w=>Sep z (A::R) w/\(m<=n/\∀(j:Nat) (y:UInt8),m<=j->xs[j]?=some y->y=0)) (λm=>m) n
   (λ_ f=>(f.all Z)) ⟨H,Ael _,λj y u h=>by have:=(Aee.1 h).1;omega⟩ ?_
 clear H;rintro m w ⟨s,t⟩;have H:=s.l1;obtain ⟨hm,d⟩:=t;refine Z0 7 [0] Z (An 8 Z (λl=>?_) (λl=>?_))
 ·obtain ⟨x,b⟩:∃x,xs[m-1]?=some x:=⟨_,Aef U⟩;refine Z1 5 [1,(m-1),e+(m-1)] [((m-1:Nat):Int)] Z U (Ad Z (Bn Z Z J (AB (H.cell 0 Z (λh q=>(c h q).at b)))) (Zc 1 Z (Ad Z (Sw (q:=0) (k:=.u8) Z J Z Z) (Zc 3 Z (Af Z (λa=>?_) (λa=>?_))))))
  ·refine Z1 8 [] [((m-1:Nat):Int)] Z U (Ad Z (BM Z (z:=1) (p:=0) (q:=(m-1)) (o':=e) (l':=(m-1)) (c':=g) J Z (.inl ⟨Z,Z⟩) (.inr ⟨_,_,_,Z,Z,Z⟩) U U U U U U) (Zc 3 Z (gf ?_)));intro _ f;refine ⟨(m-1),(f.all Z),⟨H,?_⟩,?_⟩
   ·refine ⟨by omega,λj y u h=>?_⟩;rcases Aeu j m with q|q
    ·obtain rfl:j=m-1:=by omega
     rw[b] at h;cases h;exact a
    exact d j y q h
   omega
  refine Zc 2 Z (gx (Zc 9 Z (Zr Z ?_)));obtain rfl:m=rz xs:=rz_is U d (by first|exact .inl U|exact .inr ⟨x,b,a⟩);exact ⟨_,⟨Z,Z⟩,H⟩
 refine Zc 14 Z (gx (Zc 9 Z (Zr Z ?_)));obtain rfl:m=rz xs:=rz_is U d (by first|exact .inl U|exact .inr ⟨x,b,a⟩);exact ⟨_,⟨Z,Z⟩,H⟩
theorem Yu(xs:List UInt8)(d:∀h,A h->rdH 1 (.slice (some ⟨m,i,none⟩) n e) n (xs.map u8) h)(hn:n<e):Ak 233 [.slice (some ⟨m,i,none⟩) n e,u8 0] [A] (λv G=>v=(if lz xs=n then .slice none 0 0 else .slice (some ⟨m,i+lz xs,none⟩) (n-lz xs) (e-lz xs))/\G=[A]):=by
 intro z R w H;have o:=H.sy 0 (λq=>(d _ q).len);refine Ae func233 Z ntmps233 Z (Zc 7 Z ?_);refine AF (σ:=Nat) (λp=>[(0,.slice (some ⟨m,(i+p),none⟩) (n-p) (e-p)),(1,u8 0),(4,.slice none 0 0)])
   (λp w=>Sep z (A::R) w/\(p<=n/\∀(j:Nat) (y:UInt8),j<p->xs[j]?=some y->y=0)) (λp=>n-p) 0
   fr_z ⟨H,by omega,λj y hj h=>by omega⟩ ?_
 clear H;rintro p w ⟨r,u⟩;have H:=r.l1;obtain ⟨hp,c⟩:=u;refine Z0 7 [0] Z (An 8 Z (λf=>?_) (λf=>?_))
 ·obtain ⟨x,b⟩:∃x,xs[p]?=some x:=⟨_,Aef U⟩;refine Z1 2 [1,0,i+p] [] Z U (Ad Z (Bn Z Z J (AB (H.cell 0 Z (λh q=>(d h q).at b)))) (Zc 1 Z (Ad Z (Sw (q:=0) (k:=.u8) Z J Z Z) (Zc 3 Z (Af Z (λa=>?_) (λa=>?_))))))
  ·refine Zc 5 Z (Ad Z (BM Z (z:=1) (p:=1) (q:=(n-p)) (o':=i+(p+1)) (l':=(n-(p+1))) (c':=(e-(p+1))) J Z (.inr ⟨_,_,_,Z,Z,Z⟩) (.inl ⟨Z,Z⟩) U U U U U U) (Zc 3 Z (gf ?_)));intro _ s;refine ⟨(p+1),(s.all Z),⟨H,?_⟩,?_⟩
   ·refine ⟨by omega,λj y hj h=>?_⟩;rcases Aeu j p with q|q
    ·exact c j y q h
    obtain rfl:j=p:=by omega
    rw[b] at h;cases h;exact a
   omega
  refine Zc 2 Z (gx (Z0 10 [0] Z (Af Z (λt=>?_) (λt=>?_))))
  ·refine Zc 6 Z (Zr Z ?_);obtain rfl:p=lz xs:=KT U c (by first|exact .inl U|exact .inr ⟨x,b,a⟩);exact ⟨_,⟨by first|(exfalso;omega)|rw[if_pos U]|rw[if_neg U],rfl⟩,H⟩
  refine Zc 9 Z (Zr Z ?_);obtain rfl:p=lz xs:=KT U c (by first|exact .inl U|exact .inr ⟨x,b,a⟩);exact ⟨_,⟨by first|(exfalso;omega)|rw[if_pos U]|rw[if_neg U],rfl⟩,H⟩
 refine Zc 11 Z (gx (Z0 10 [0] Z (Af Z (λl=>?_) (λl=>?_))))
 ·refine Zc 6 Z (Zr Z ?_);obtain rfl:p=lz xs:=KT U c (by first|exact .inl U|exact .inr ⟨x,b,a⟩);exact ⟨_,⟨by first|(exfalso;omega)|rw[if_pos U]|rw[if_neg U],rfl⟩,H⟩
 refine Zc 9 Z (Zr Z ?_);obtain rfl:p=lz xs:=KT U c (by first|exact .inl U|exact .inr ⟨x,b,a⟩);exact ⟨_,⟨by first|(exfalso;omega)|rw[if_pos U]|rw[if_neg U],rfl⟩,H⟩
theorem Abr{b:Nat}(xs:List UInt8)(a:∀h,A h->rdH 1 (.slice (some ⟨b,i,none⟩) n e) n (xs.map u8) h)(p:n<e\/(n<=e/\rz xs=0/\0<e)):Ak 203 [.slice (some ⟨b,i,none⟩) n e,Cl [0]] [A] (λv G=>(rz xs=0/\v=.slice none 0 0/\G=[A])\/(rz xs≠0/\∃g k1 c1,0<k1/\v=.slice (some ⟨b,g,none⟩) k1 c1/\G=[A])):=by
 intro z R w H;have k:=H.sy 0 (λq=>(a _ q).len);have d:=H.sy 0 (λq=>(a _ q).cap);have f:=Rx xs;refine Ae func203 Z ntmps203 Z (Z0 13 [0] Z (Af Z (λc=>?_) (λc=>?_)))
 ·refine Zc 6 Z (Zr Z ?_);exact ⟨_,.inl ⟨by omega,Z,Z⟩,H⟩
 refine Zc 6 Z (Ad Z (IN (l:=[0]) (m:=[]) Z J Z Z) (AD 11 (v:=.bool false) Z (congrArg Value.bool (by decide)) (Zc 9 Z (Ad Z (UA (l:=[0]) Z J Z) (Z0 3 [3] Z (Ad Z (J0 (l:=[0]) (j:=0) (b:=0) Z J Z Z Z Z) (Z0 1 [0] Z (AD 19 (v:=.bool true) Z (congrArg Value.bool (by decide)) (Zc 5 Z (Bu (Sep z _) J J H.drew (BS 2 [] Z J (AM Z Z Z (J0 (l:=[0]) (j:=0) (b:=0) Z J Z Z Z Z) (Dn Z Z Z Z Z (λw=>call234 _ w) (v:=.slice (some ⟨b,i,none⟩) (rz xs) e) (cq (Yt xs a U) (by rintro _ _ ⟨rfl,rfl⟩;exact ⟨Z,Z⟩) 1 [0] [0] Z Z Z Z) ?_)))))))))))));refine BS 1 [] Z J (AM Z Z Z (J0 (l:=[0]) (j:=0) (b:=0) Z J Z Z Z Z) (Dn Z Z Z Z Z (λw=>call233 _ w) (v:=if lz ((xs.drop 0).take (rz xs))=(rz xs) then .slice none 0 0 else .slice (some ⟨b,i+lz ((xs.drop 0).take (rz xs)),none⟩) ((rz xs)-lz ((xs.drop 0).take (rz xs))) (e-lz ((xs.drop 0).take (rz xs)))) (cq (Yu ((xs.drop 0).take (rz xs)) (λh q=>(a h q).cut (lo:=0) (m:=rz xs) (c':=e) U U U) U) (by rintro _ _ ⟨rfl,rfl⟩;exact ⟨Z,Z⟩) 1 [0] [0] Z Z Z Z) (BS 1 [] Z J (BB (λw o=>?_)))));have H:=o.l1;refine gn (Zc 2 Z (Zr Z ?_));by_cases hz:rz xs=0
 ·exact ⟨[A],.inl ⟨hz,by rw[if_pos];simp[hz,lz],Z⟩,H⟩
 have:=Ac9 hz;exact ⟨_,.inr ⟨hz,_,rz xs-lz ((xs.drop 0).take (rz xs)),_,by simp;omega,by rw[if_neg (by simp;omega)],Z⟩,H⟩
theorem K6(b o n c:Nat)(xs:List UInt8)(f:∀h,A h->rdH 1 (.slice (some ⟨b,o,none⟩) n c) n (xs.map u8) h)(e:n<c\/(n<=c/\rz xs=0/\0<c)):Ak 165 [Y m] [blk m [.slice (some ⟨b,o,none⟩) n c] 259,A] (λv G=>v=.bool (decide (rz xs=0))/\G=[blk m [.slice (some ⟨b,o,none⟩) n c] 259,A]):=by
 intro z R w H;refine Ae func165 Z ntmps165 Z (Z2 11 [0,0,0] H Z (Au Z (call203 _) (Abr xs f e) H.f1 ?_));rintro _ w _ (⟨a,rfl,rfl⟩|⟨a,i,k1,c1,g,rfl,rfl⟩) d
 ·have H:=d.l2;refine Z0 6 [3] Z (Zr Z ?_);exact ⟨_,⟨congrArg Value.bool (by first|(simp[a];done)|(rw[Aez];simp<;>omega)),Z⟩,H.perm 2 [1,0] Z Z⟩
 have H:=d.l2;refine Z0 6 [0] Z (Zr Z ?_);exact ⟨_,⟨congrArg Value.bool (by first|(simp[a];done)|(rw[Aez];simp<;>omega)),Z⟩,H.perm 2 [1,0] Z Z⟩
theorem LW(sec:List UInt8)(b:∀h,A h->rdH 1 (.slice (some ⟨i,j,none⟩) 256 e) 256 (sec.map u8) h):Ak 176 [Y n,.slice (some ⟨i,j,none⟩) 256 e,Cl B] [tblA n,A] (λv G=>(J9 B sec/\v=.tuple #[.agg #[.slice (some ⟨i,j+4,none⟩) 248 (e-4)],.bool true]/\G=[tblA n,A])\/(¬J9 B sec/\v=.tuple #[.agg #[.slice none 0 0],.bool false]/\G=[tblA n,A])):=by
 intro z R w H;have a:=H.sy 1 (λq=>(b _ q).len);have o:=H.sy 1 (λq=>(b _ q).cap);obtain ⟨r,c1,c2,s,c⟩:=Oc a;refine Ae func176 Z ntmps176 Z (Za 2 [] H Z ?_);intro t w H;refine Zc 5 Z (Bu (Sep z _) J J H.drew (GL 9 [4] [] Z J (AM Z Z Z (BM Z (z:=1) (p:=252) (q:=256) (o':=j+252) (l':=4) (c':=e-252) J Z (.inr ⟨_,_,_,Z,Z,Z⟩) (.inl ⟨Z,Z⟩) U U U U U U) (AM Z Z Z (MA (m:=4) Z J Z U) (AM Z Z Z (BW Z Z (vs:=[u8 r,u8 c1,u8 c2,u8 s]) J (λ_ d=>d.cell4 2 Z b c)) (BS 2 [] Z J (AM Z Z Z (BM Z (z:=1) (p:=0) (q:=252) (o':=j) (l':=252) (c':=e) J Z (.inl ⟨Z,Z⟩) (.inr ⟨_,_,_,Z,Z,Z⟩) U U U U U U) (Dn Z Z Z Z Z (λw=>call209 _ w) (v:=.agg #[u8 ((Bh (sec.take 252)).toUInt8),u8 (((Bh (sec.take 252))>>>8).toUInt8),u8 (((Bh (sec.take 252))>>>16).toUInt8),u8 (((Bh (sec.take 252))>>>24).toUInt8)]) (cq (Or (sec.take 252) (by simp[a]) (λh q=>(b h q).pre U U)) (by rintro _ _ ⟨rfl,rfl⟩;exact ⟨Z,Z⟩) 3 [1,2,0] [2,0,1] Z Z Z Z) (AM Z Z Z (PX Z J J Z Z) (BS 2 [] Z J (B8 26 Z (λg=>?_) (λg=>?_))))))))))))
 ·refine BS 6 [] Z J (BB (λw f=>?_));have H:=f.l3;refine gn (Z4 10 [0] H Z ?_);intro w H;refine Zl [0,1] H Z ?_;exact ⟨_,.inr ⟨λhs=>by first|exact absurd (c▸hs.1) ‹_› |exact absurd hs.2 ‹_›,rfl,rfl⟩,H.perm 3 [1,2] rfl rfl⟩
 refine BS 1 [] Z J (AM Z Z Z (BM Z (z:=1) (p:=0) (q:=4) (o':=j) (l':=4) (c':=e) J Z (.inl ⟨Z,Z⟩) (.inr ⟨_,_,_,Z,Z,Z⟩) U U U U U U) (AM Z Z Z (Cq (l:=sec.take 4) Z J J Z (λ_ d=>d.rd 2 Z (λh q=>by have:=(b h q).pre (m:=4) (c':=e) U U;rwa[show (sec.take 4).length=4 from by simp[a]]))) (BS 1 [] Z J (AM Z Z Z (KC (l:=sec.take 4) (m:=B) Z J Z Z) (BS 1 [] Z J (BB (λw f=>?_)))))));have H:=f.l3;refine gn (Zc 1 Z (Af Z (λk=>?_) (λk=>?_)))
 ·refine Z4 8 [0] H Z ?_;intro w H;refine Zl [0,1] H Z ?_;exact ⟨_,.inr ⟨λhs=>by first|exact absurd (c▸hs.1) ‹_› |exact absurd hs.2 ‹_›,rfl,rfl⟩,H.perm 3 [1,2] rfl rfl⟩
 refine Zc 5 Z (Ad Z (BM Z (z:=1) (p:=4) (q:=252) (o':=j+4) (l':=248) (c':=e-4) J Z (.inr ⟨_,_,_,Z,Z,Z⟩) (.inr ⟨_,_,_,Z,Z,Z⟩) U U U U U U) (Z4 6 [0] H Z ?_));intro w H;refine Zl [0,1] H Z ?_;exact ⟨_,.inl ⟨⟨by rw[c];exact AgL ‹_›,AgL ‹_›⟩,Z,Z⟩,H.perm 3 [1,2] Z Z⟩
theorem RB{a:Int}(b:List UInt8)(g:∀h,A h->rdH 1 u b.length (b.map u8) h):Ak 230 [Y n,I t,I s,.agg #[I p,I a,u]] [tblA n,A] (λv G=>(¬((0<=t/\t<=4294967295)/\(0<=s/\s<=1099511627775)/\(0<=p/\p<=1023)/\(1<=a/\a<=5)/\b.length=240)/\v=.tuple #[.slice none 0 0,I 1]/\G=[tblA n,A])\/(((0<=t/\t<=4294967295)/\(0<=s/\s<=1099511627775)/\(0<=p/\p<=1023)/\(1<=a/\a<=5)/\b.length=240)/\∃i,v=.tuple #[.slice (some ⟨i,0,none⟩) 256 256,I 0]/\G=[blk i (Bb (BD (Ag 1 a++Ag 2 p++Ag 4 t++Ag 5 s++b)) 252) 173,tblA n,A])):=by
 intro z R w H;obtain ⟨f,d,rfl⟩:=H.sy 1 (λq=>(g _ q).slc);refine Ae func230 Z ntmps230 Z (Za 2 [] H Z ?_);intro e w H;refine Zc 11 Z (z_E_ Z (call98 _) (CY) H ?_);intro w H;refine Ad Z (AG Z Z) (Zc 2 Z (An 18 Z (λj=>?_) (λj=>?_)))
 ·refine Zc 39 Z (Zr Z ?_);exact ⟨_,.inl ⟨by omega,Z,Z⟩,H.perm 3 [1,2] Z Z⟩
 refine Zc 1 Z (z_E_ Z (call98 _) (CY) H ?_);intro w H;refine Ad Z (AG Z Z) (Zc 2 Z (An 23 Z (λm=>?_) (λm=>?_)))
 ·refine Zc 34 Z (Zr Z ?_);exact ⟨_,.inl ⟨by omega,Z,Z⟩,H.perm 3 [1,2] Z Z⟩
 refine Z2 2 [0,0,0] H Z (z_E_ Z (call98 _) (CY) H ?_);intro w H;refine Ad Z (AG Z Z) (Zc 2 Z (An 29 Z (λy=>?_) (λy=>?_)))
 ·refine Zc 28 Z (Zr Z ?_);exact ⟨_,.inl ⟨by omega,Z,Z⟩,H.perm 3 [1,2] Z Z⟩
 refine Z2 6 [1,1,0,0,0] H Z (An 35 Z (λo=>?_) (λo=>?_))
 ·refine Zc 22 Z (Zr Z ?_);exact ⟨_,.inl ⟨by omega,Z,Z⟩,H.perm 3 [1,2] Z Z⟩
 refine Z2 6 [1,1,0,0,0] H Z (An 41 Z (λr=>?_) (λr=>?_))
 ·refine Zc 16 Z (Zr Z ?_);exact ⟨_,.inl ⟨by omega,Z,Z⟩,H.perm 3 [1,2] Z Z⟩
 refine Z2 8 [1,2,0,0,0] H Z (Af Z (λk=>?_) (λk=>?_))
 ·refine Zc 7 Z (Zr Z ?_);exact ⟨_,.inl ⟨by omega,Z,Z⟩,H.perm 3 [1,2] Z Z⟩
 refine Zc 4 Z (AU Z (Ce (P:=prog) H Z (zs:=(Bb (AL []) 0)) J) ?_);rintro _ w ⟨c,rfl,H⟩;refine Z2 7 [1,1,1,0] H Z (z_E_ Z (call99 _) (CH 0 1 a (AW (by first|omega|(simp[Ah]<;>omega))) U) H ?_);intro w H;rw[show Bw (AL []) (Ag 1 a) 0=AL (Ag 1 a) from BG Z (by first|omega|(simp[Ah]<;>omega))] at H;have H:Sep z (blk c (Bb (AL (Ag 1 a)) 1) 173::blk e [I p,I a,.slice f b.length d] 167::tblA n::A::R) w:=H;refine Z2 6 [0,1,0] H Z (z_E_ Z (call99 _) (CH 1 2 p (AW (by first|omega|(simp[Ah]<;>omega))) U) H ?_);intro w H;rw[show Bw (AL (Ag 1 a)) (Ag 2 p) 1=AL (Ag 1 a++Ag 2 p) from BG (by first|omega|(simp[Ah]<;>omega)) (by first|omega|(simp[Ah]<;>omega))] at H;have H:Sep z (blk c (Bb (AL (Ag 1 a++Ag 2 p)) 3) 173::blk e [I p,I a,.slice f b.length d] 167::tblA n::A::R) w:=H;refine Zc 5 Z (z_E_ Z (call99 _) (CH 3 4 t (AW (by first|omega|(simp[Ah]<;>omega))) U) H ?_);intro w H;rw[show Bw (AL (Ag 1 a++Ag 2 p)) (Ag 4 t) 3=AL (Ag 1 a++Ag 2 p++Ag 4 t) from BG (by first|omega|(simp[Ah]<;>omega)) (by first|omega|(simp[Ah]<;>omega))] at H;have H:Sep z (blk c (Bb (AL (Ag 1 a++Ag 2 p++Ag 4 t)) 7) 173::blk e [I p,I a,.slice f b.length d] 167::tblA n::A::R) w:=H;refine Zc 5 Z (z_E_ Z (call99 _) (CH 7 5 s (AW (by first|omega|(simp[Ah]<;>omega))) U) H ?_);intro w H;rw[show Bw (AL (Ag 1 a++Ag 2 p++Ag 4 t)) (Ag 5 s) 7=AL (Ag 1 a++Ag 2 p++Ag 4 t++Ag 5 s) from BG (by first|omega|(simp[Ah]<;>omega)) (by first|omega|(simp[Ah]<;>omega))] at H;have H:Sep z (blk c (Bb (AL (Ag 1 a++Ag 2 p++Ag 4 t++Ag 5 s)) 12) 173::blk e [I p,I a,.slice f b.length d] 167::tblA n::A::R) w:=H;refine Z2 7 [1,2,1,0] H Z (Ad Z (Cq (l:=b) Z J J Z (AB (H.rd 3 Z g))) (z_E_ Z (call192 _) (IZ 12 b (AW (by first|omega|(simp[Ah]<;>omega))) (by first|omega|(simp<;>omega))) H ?_));intro w H;rw[show ((12+b.length:Nat):Int)=(252:Int) from by omega] at H;rw[show Bw (AL (Ag 1 a++Ag 2 p++Ag 4 t++Ag 5 s)) b 12=AL (Ag 1 a++Ag 2 p++Ag 4 t++Ag 5 s++b) from BG (by first|omega|(simp[Ah]<;>omega)) (by first|omega|(simp[Ah]<;>omega))] at H;have H:Sep z (blk c (Bb (AL (Ag 1 a++Ag 2 p++Ag 4 t++Ag 5 s++b)) 252) 173::blk e [I p,I a,.slice f b.length d] 167::tblA n::A::R) w:=H;refine Zc 5 Z (z_E_ Z (call193 _) (ID (AW (by first|omega|(simp[Ah]<;>omega)))) H.f2.f1 ?_);intro w H;refine Zc 5 Z (Zr Z ?_);exact ⟨_,.inr ⟨by omega,c,Z,Z⟩,H.perm 4 [0,1,3] Z Z⟩
theorem MI(a:List UInt8)(f:∀h,A h->rdH 1 u a.length (a.map u8) h):Ak 157 [Y n,.agg #[I t,I s,u]] [tblA n,A] (λv G=>(¬((0<=t/\t<=1023)/\(1<=s/\s<=5)/\a.length=240)/\v=.tuple #[.slice none 0 0,I 1]/\G=[tblA n,A])\/(((0<=t/\t<=1023)/\(1<=s/\s<=5)/\a.length=240)/\∃g,v=.tuple #[.slice (some ⟨g,0,none⟩) 256 256,I 0]/\G=[blk g (Bb (BD ([80,80,65,71]++Ag 1 s++Ag 4 t++[0,0,0]++a)) 252) 173,tblA n,A])):=by
 intro z R w H;replace H:=H.l2;obtain ⟨e,c,rfl⟩:=H.sy 1 (λq=>(f _ q).slc);refine Ae func157 Z ntmps157 Z (Za 2 [] H Z ?_);intro d w H;refine Z2 12 [0,0,0] H Z (z_E_ Z (call98 _) (CY) H ?_);intro w H;replace H:=H.l3;refine Ad Z (AG Z Z) (Zc 2 Z (An 15 Z (λi=>?_) (λi=>?_)))
 ·refine Zc 28 Z (Zr Z ?_);exact ⟨_,.inl ⟨by omega,Z,Z⟩,H.perm 3 [1,2] Z Z⟩
 refine Z2 6 [1,1,0,0,0] H Z (An 21 Z (λj=>?_) (λj=>?_))
 ·refine Zc 22 Z (Zr Z ?_);exact ⟨_,.inl ⟨by omega,Z,Z⟩,H.perm 3 [1,2] Z Z⟩
 refine Z2 6 [1,1,0,0,0] H Z (An 27 Z (λo=>?_) (λo=>?_))
 ·refine Zc 16 Z (Zr Z ?_);exact ⟨_,.inl ⟨by omega,Z,Z⟩,H.perm 3 [1,2] Z Z⟩
 refine Z2 8 [1,2,0,0,0] H Z (Af Z (λk=>?_) (λk=>?_))
 ·refine Zc 7 Z (Zr Z ?_);exact ⟨_,.inl ⟨by omega,Z,Z⟩,H.perm 3 [1,2] Z Z⟩
 refine Zc 4 Z (AU Z (Ce (P:=prog) H Z (zs:=(Bb (AL []) 0)) J) ?_);rintro _ w ⟨b,rfl,H⟩;replace H:=H.l4;refine Zc 4 Z (z_E_ Z (call192 _) (IZ 0 [80,80,65,71] (AW (by first|omega|(simp[Ah]<;>omega))) (by first|omega|(simp<;>omega))) H ?_);intro w H;replace H:=H.l4;rw[show Bw (AL []) ([80,80,65,71]) 0=AL ([80,80,65,71]) from BG Z (by first|omega|(simp[Ah]<;>omega))] at H;have H:Sep z (blk b (Bb (AL ([80,80,65,71])) 4) 173::blk d [I t,I s,.slice e a.length c] 167::tblA n::A::R) w:=H;refine Z2 7 [1,1,1,0] H Z (z_E_ Z (call99 _) (CH 4 1 s (AW (by first|omega|(simp[Ah]<;>omega))) U) H ?_);intro w H;replace H:=H.l4;rw[show Bw (AL ([80,80,65,71])) (Ag 1 s) 4=AL ([80,80,65,71]++Ag 1 s) from BG (by first|omega|(simp[Ah]<;>omega)) (by first|omega|(simp[Ah]<;>omega))] at H;have H:Sep z (blk b (Bb (AL ([80,80,65,71]++Ag 1 s)) 5) 173::blk d [I t,I s,.slice e a.length c] 167::tblA n::A::R) w:=H;refine Z2 6 [0,1,0] H Z (z_E_ Z (call99 _) (CH 5 4 t (AW (by first|omega|(simp[Ah]<;>omega))) U) H ?_);intro w H;replace H:=H.l4;rw[show Bw (AL ([80,80,65,71]++Ag 1 s)) (Ag 4 t) 5=AL ([80,80,65,71]++Ag 1 s++Ag 4 t) from BG (by first|omega|(simp[Ah]<;>omega)) (by first|omega|(simp[Ah]<;>omega))] at H;have H:Sep z (blk b (Bb (AL ([80,80,65,71]++Ag 1 s++Ag 4 t)) 9) 173::blk d [I t,I s,.slice e a.length c] 167::tblA n::A::R) w:=H;refine Z0 5 [256] Z (AC Z Z (Am 0 H Z Z Z Z (vs:=[I 12]) Z (by simp[u8,u32,Value.oneCell']) J (by rw[Fi (AW (by first|omega|(simp[Ah]<;>omega)))];simp) (out:=(Bb (AL ([80,80,65,71]++Ag 1 s++Ag 4 t)) 12)) (Js (AW (by first|omega|(simp[Ah]<;>omega))))) ?_);rintro w H;replace H:=H.l4;refine Z2 7 [1,2,1,0] H Z (Ad Z (Cq (l:=a) Z J J Z (AB (H.rd 3 Z f))) (z_E_ Z (call192 _) (IZ 12 a (AW (by first|omega|(simp[Ah]<;>omega))) (by first|omega|(simp<;>omega))) H ?_));intro w H;replace H:=H.l4;rw[show ((12+a.length:Nat):Int)=(252:Int) from by omega] at H;rw[show Bw (AL ([80,80,65,71]++Ag 1 s++Ag 4 t)) a 12=AL ([80,80,65,71]++Ag 1 s++Ag 4 t++[0,0,0]++a) from (U2 (by first|omega|(simp[Ah]<;>omega)) (by first|omega|(simp[Ah]<;>omega))).trans (by simp[Ah])] at H;have H:Sep z (blk b (Bb (AL ([80,80,65,71]++Ag 1 s++Ag 4 t++[0,0,0]++a)) 252) 173::blk d [I t,I s,.slice e a.length c] 167::tblA n::A::R) w:=H;refine Zc 5 Z (z_E_ Z (call193 _) (ID (AW (by first|omega|(simp[Ah]<;>omega)))) H.f2.f1 ?_);intro w H;refine Zc 5 Z (Zr Z ?_);exact ⟨_,.inr ⟨by omega,b,Z,Z⟩,H.perm 4 [0,1,3] Z Z⟩
theorem Ti{u:UInt32}{pv:Value}(ns:List Int)(hA:∀h,A h->rdH 1 pv ns.length (ns.map I) h):Ak 232 [Y n,.agg #[I t,I s,pv,u32 u]] [tblA n,A] (λv G=>(¬((0<=t/\t<=1099511627776)/\(0<=s/\s<=1099511627776)/\(1<=ns.length/\ns.length<=40)/\∀x∈ns,0<=x/\x<=1023)/\v=.tuple #[.slice none 0 0,I 1]/\G=[tblA n,A])\/(((0<=t/\t<=1099511627776)/\(0<=s/\s<=1099511627776)/\(1<=ns.length/\ns.length<=40)/\∀x∈ns,0<=x/\x<=1023)/\∃pw,v=.tuple #[.slice (some ⟨pw,0,none⟩) 256 256,I 0]/\G=[blk pw (Bb (BD ([80,76,79,71]++Ag 8 t++Ag 8 s++Ag 4 (u.toNat:Int)++Ag 2 (ns.length:Int)++ns.flatMap (Ag 4))) ((26+4*ns.length:Nat):Int)) 173,tblA n,A])):=by
 intro z R w H;obtain ⟨e,c,rfl⟩:=H.sy 1 (λq=>(hA _ q).slc);refine Ae func232 Z ntmps232 Z (Za 2 [] H Z ?_);intro f w H;refine Z2 12 [0,0,0] H Z (z_E_ Z (call98 _) (CY) H ?_);intro w H;refine Ad Z (AG Z Z) (Zc 2 Z (An 17 Z (λh1=>?_) (λh1=>?_)))
 ·refine Zc 27 Z (Zr Z ?_);exact ⟨_,.inl ⟨by rintro ⟨m,o,l,d⟩;first|omega|exact absurd (d x (Aeg a)) ‹_›,rfl,rfl⟩,H.perm 3 [1,2] rfl rfl⟩
 refine Z2 2 [1,0,0] H Z (z_E_ Z (call98 _) (CY) H ?_);intro w H;refine Ad Z (AG Z Z) (Zc 2 Z (An 23 Z (λh2=>?_) (λh2=>?_)))
 ·refine Zc 21 Z (Zr Z ?_);exact ⟨_,.inl ⟨by rintro ⟨m,o,l,d⟩;first|omega|exact absurd (d x (Aeg a)) ‹_›,rfl,rfl⟩,H.perm 3 [1,2] rfl rfl⟩
 refine Z2 6 [2,0,0,0] H Z (An 29 Z (λh3=>?_) (λh3=>?_))
 ·refine Zc 15 Z (Zr Z ?_);exact ⟨_,.inl ⟨by rintro ⟨m,o,l,d⟩;first|omega|exact absurd (d x (Aeg a)) ‹_›,rfl,rfl⟩,H.perm 3 [1,2] rfl rfl⟩
 refine Z2 7 [2,0,0,0] H Z (Af Z (λh4=>?_) (λh4=>?_))
 ·refine Zc 7 Z (Zr Z ?_);exact ⟨_,.inl ⟨by rintro ⟨m,o,l,d⟩;first|omega|exact absurd (d x (Aeg a)) ‹_›,rfl,rfl⟩,H.perm 3 [1,2] rfl rfl⟩
 refine Zc 4 Z (AU Z (Ce (P:=prog) H Z (zs:=(Bb (AL []) 0)) J) ?_);rintro _ w ⟨b,rfl,H⟩;refine Zc 4 Z (z_E_ Z (call192 _) (IZ 0 [80,76,79,71] (AW (by first|omega|(simp[Ah,Cj,-List.length_flatMap]<;>omega))) (by first|omega|(simp<;>omega))) H ?_);intro w H;rw[show Bw (AL []) ([80,76,79,71]) 0=AL ([80,76,79,71]) from BG Z (by first|omega|(simp[Ah,Cj,-List.length_flatMap]<;>omega))] at H;have H:Sep z (blk b (Bb (AL ([80,76,79,71])) 4) 173::blk f [I t,I s,.slice e ns.length c,u32 u] 286::tblA n::A::R) w:=H;refine Z2 6 [0,1,0] H Z (z_E_ Z (call99 _) (CH 4 8 t (AW (by first|omega|(simp[Ah,Cj,-List.length_flatMap]<;>omega))) U) H ?_);intro w H;rw[show Bw (AL ([80,76,79,71])) (Ag 8 t) 4=AL ([80,76,79,71]++Ag 8 t) from BG (by first|omega|(simp[Ah,Cj,-List.length_flatMap]<;>omega)) (by first|omega|(simp[Ah,Cj,-List.length_flatMap]<;>omega))] at H;have H:Sep z (blk b (Bb (AL ([80,76,79,71]++Ag 8 t)) 12) 173::blk f [I t,I s,.slice e ns.length c,u32 u] 286::tblA n::A::R) w:=H;refine Z2 6 [1,1,0] H Z (z_E_ Z (call99 _) (CH 12 8 s (AW (by first|omega|(simp[Ah,Cj,-List.length_flatMap]<;>omega))) U) H ?_);intro w H;rw[show Bw (AL ([80,76,79,71]++Ag 8 t)) (Ag 8 s) 12=AL ([80,76,79,71]++Ag 8 t++Ag 8 s) from BG (by first|omega|(simp[Ah,Cj,-List.length_flatMap]<;>omega)) (by first|omega|(simp[Ah,Cj,-List.length_flatMap]<;>omega))] at H;have H:Sep z (blk b (Bb (AL ([80,76,79,71]++Ag 8 t++Ag 8 s)) 20) 173::blk f [I t,I s,.slice e ns.length c,u32 u] 286::tblA n::A::R) w:=H;refine Z2 6 [3,1,0] H Z (Ad Z (AaO Z J Z) (z_E_ Z (call99 _) (CH 20 4 (u.toNat:Int) (AW (by first|omega|(simp[Ah,Cj,-List.length_flatMap]<;>omega))) U) H ?_));intro w H;rw[show Bw (AL ([80,76,79,71]++Ag 8 t++Ag 8 s)) (Ag 4 (u.toNat:Int)) 20=AL ([80,76,79,71]++Ag 8 t++Ag 8 s++Ag 4 (u.toNat:Int)) from BG (by first|omega|(simp[Ah,Cj,-List.length_flatMap]<;>omega)) (by first|omega|(simp[Ah,Cj,-List.length_flatMap]<;>omega))] at H;have H:Sep z (blk b (Bb (AL ([80,76,79,71]++Ag 8 t++Ag 8 s++Ag 4 (u.toNat:Int))) 24) 173::blk f [I t,I s,.slice e ns.length c,u32 u] 286::tblA n::A::R) w:=H;refine Z2 7 [2,1,0] H Z (z_E_ Z (call99 _) (CH 24 2 (ns.length:Int) (AW (by first|omega|(simp[Ah,Cj,-List.length_flatMap]<;>omega))) U) H ?_);intro w H;rw[show Bw (AL ([80,76,79,71]++Ag 8 t++Ag 8 s++Ag 4 (u.toNat:Int))) (Ag 2 (ns.length:Int)) 24=AL ([80,76,79,71]++Ag 8 t++Ag 8 s++Ag 4 (u.toNat:Int)++Ag 2 (ns.length:Int)) from BG (by first|omega|(simp[Ah,Cj,-List.length_flatMap]<;>omega)) (by first|omega|(simp[Ah,Cj,-List.length_flatMap]<;>omega))] at H;have H:Sep z (blk b (Bb (AL ([80,76,79,71]++Ag 8 t++Ag 8 s++Ag 4 (u.toNat:Int)++Ag 2 (ns.length:Int))) 26) 173::blk f [I t,I s,.slice e ns.length c,u32 u] 286::tblA n::A::R) w:=H;refine Z2 12 [2,1,0] H Z ?_;refine AF (σ:=Nat) (λi=>[(53,I (i:Int)),(0,Y n),(6,Y b),(51,.slice e ns.length c),(52,I (ns.length:Int))])
   (λi w=>Sep z (blk b (Bb (AL ([80,76,79,71]++Ag 8 t++Ag 8 s++Ag 4 (u.toNat:Int)++Ag 2 (ns.length:Int)++(ns.take i).flatMap (Ag 4))) ((26+4*i:Nat):Int)) 173::blk f [I t,I s,.slice e ns.length c,u32 u] 286::tblA n::A::R) w/\(i<=ns.length/\∀(j:Nat) (x:Int),j<i->ns[j]?=some x->0<=x/\x<=1023)) (λi=>ns.length-i) 0
   fr_z ⟨(by simpa using H),by omega,λj x h=>by omega⟩ ?_
 clear H;rintro i w ⟨H',hI⟩;have H:=H'.l4;obtain ⟨a2,g⟩:=hI;refine Z0 6 [0] Z (Af Z (λh5=>?_) (λh5=>?_))
 ·obtain ⟨x,a⟩:∃x,ns[i]?=some x:=⟨_,Aef U⟩;refine Zc 6 Z ?_;have k:=(H.rd 3 Z hA).at (j:=i) (u:=I x) (by simp[a])
  refine Ad Z (Aj Z (z:=1) (j:=i) (r:=i) J Z Z Z U k U) (Ad Z (Ax Z Z J (AB k)) (Zc 7 Z (z_E_ Z (call98 _) (CY) H ?_)));intro w H;refine Ad Z (AG Z Z) (Zc 2 Z (Af Z (λh6=>?_) (λh6=>?_)))
  ·refine Zc 7 Z (Zr Z ?_);exact ⟨_,.inl ⟨by rintro ⟨m,o,l,d⟩;first|omega|exact absurd (d x (Aeg a)) ‹_›,rfl,rfl⟩,H.perm 4 [2,3] rfl rfl⟩
  refine Zc 4 Z (z_E_ Z (call99 _) (CH (26+4*i) 4 x (AW (by first|omega|(simp[Ah,Cj,-List.length_flatMap]<;>omega))) U) H ?_);intro w H;rw[show ((26+4*i+4:Nat):Int)=(((26+4*(i+1):Nat):Int):Int) from by omega] at H;rw[show Bw (AL ([80,76,79,71]++Ag 8 t++Ag 8 s++Ag 4 (u.toNat:Int)++Ag 2 (ns.length:Int)++(ns.take i).flatMap (Ag 4))) (Ag 4 x) (26+4*i)=AL ([80,76,79,71]++Ag 8 t++Ag 8 s++Ag 4 (u.toNat:Int)++Ag 2 (ns.length:Int)++(ns.take i).flatMap (Ag 4)++Ag 4 x) from BG (by first|omega|(simp[Ah,Cj,-List.length_flatMap]<;>omega)) (by first|omega|(simp[Ah,Cj,-List.length_flatMap]<;>omega))] at H;have H:Sep z (blk b (Bb (AL ([80,76,79,71]++Ag 8 t++Ag 8 s++Ag 4 (u.toNat:Int)++Ag 2 (ns.length:Int)++(ns.take i).flatMap (Ag 4)++Ag 4 x)) ((26+4*(i+1):Nat):Int)) 173::blk f [I t,I s,.slice e ns.length c,u32 u] 286::tblA n::A::R) w:=H;refine Z1 7 [] [(i:Int)+1] Z U (gf ?_);intro _ hF;refine ⟨(i+1),hF.cz,⟨(by rw[<-S7 a,<-Aek];exact H),?_⟩,?_⟩
  ·refine ⟨by omega,λj y p h=>?_⟩;rcases Aeu j i with q|q
   ·exact g j y q h
   obtain rfl:j=i:=by omega
   rw[a] at h;cases h;omega
  omega
 obtain rfl:i=ns.length:=by omega
 refine Zc 2 Z (gx (Zc 3 Z ?_));rw[Afa] at H;have H:Sep z (blk b (Bb (AL ([80,76,79,71]++Ag 8 t++Ag 8 s++Ag 4 (u.toNat:Int)++Ag 2 (ns.length:Int)++ns.flatMap (Ag 4))) ((26+4*ns.length:Nat):Int)) 173::blk f [I t,I s,.slice e ns.length c,u32 u] 286::tblA n::A::R) w:=H;refine Zc 2 Z (z_E_ Z (call193 _) (ID (AW (by first|omega|(simp[Ah,Cj,-List.length_flatMap]<;>omega)))) H.f2.f1 ?_);intro w H;refine Zc 5 Z (Zr Z ?_);exact ⟨_,.inr ⟨⟨by omega,by omega,by omega,λx a=>by obtain ⟨j,p,rfl⟩:=Agd.1 a;exact g j _ p (Aef p)⟩,b,Z,Z⟩,H.perm 4 [0,1,3] Z Z⟩
theorem Jv(n:Nat)(bs:List UInt8)(f:∀h,A h->rdH 1 (.slice (some ⟨m,i,none⟩) n j) n (bs.map u8) h)(l:0<n/\n<=1073741824):Ak 150 [.slice (some ⟨m,i,none⟩) n j] [A] (λv G=>(∃g a rest,v=.slice (some ⟨g,0,none⟩) n a/\(n<=a/\a<=9223372036854775807/\rest.length=a-n)/\G=[blk g (bs.map u8++rest) 5,A])):=by
 intro z R w H;refine Ae func150 Z ntmps150 Z (Zc 9 Z (Ad Z (Io Z J Z Z) (Zc 7 Z (AU Z (EY H Z J CM) ?_))));rintro _ w ⟨k,rfl,H⟩;refine Zc 1 Z ?_;replace H:=(H.mono 0 (B:=grow 5 1 (.slice (some ⟨k,0,none⟩) 0 0) 0 []) Z (λh q=>q.grow U U O Z)).l2;refine AU Z (AX 0 H Z Z J CM Z Z (H.rd 1 Z f) (by simp[u8,Value.oneCell']) U) ?_;rintro o w b;have c:([]++bs.map u8:List Value)=bs.map u8:=by simp
 rw[c] at b;rw[show (0+n:Nat)=n from by omega] at b;have H:=b.l2;refine Zc 4 Z (Zr Z ?_);obtain ⟨g,a,rest,e,c1,c2,p,b⟩:=H.ungrow 0 Z U;exact ⟨_,⟨g,a,rest,e,⟨c1,c2,by omega⟩,Z⟩,b⟩
theorem I0{pd:Nat}:Ak 128 [Y pd,I t,I 1] [diskA pd D] (λv G=>(¬(0<=t/\t<(D.n:Int))/\v=.tuple #[.slice none 0 0,I 2]/\G=[diskA pd D])\/((0<=t/\t<(D.n:Int))/\D.f1=1/\v=.tuple #[.slice none 0 0,I 10]/\G=[diskA pd {D with f1:=Bm D.f1}])\/((0<=t/\t<(D.n:Int))/\¬D.f1=1/\∃g b rest,v=.tuple #[.slice (some ⟨g,0,none⟩) 256 b,I 0]/\(256<=b/\b<=9223372036854775807/\rest.length=b-256)/\G=[blk g ((D.cont t.toNat).map u8++rest) 5,diskA pd {D with f1:=Bm D.f1}])):=by
 intro z R w H;obtain ⟨bd,m,f0,bs,es,clk,hq,a,d,x⟩:=H.disk;clear H;have b0:=a.n1;have a8:=a.n2;have a9:=a.f1;have a7:=d.len;have H:=x.l5;refine Ae func128 Z ntmps128 Z (Zc 12 Z (z_E_ Z (call146 _) (P6 U) H ?_));intro w H;refine Ad Z (AG Z Z) (Zc 2 Z (Af Z (λh1=>?_) (λh1=>?_)))
 ·refine Zc 7 Z (Zr Z ?_);replace H:=(Sep.toDisk (D:=D) (pd:=pd) (bd:=bd) (m:=m) (f0:=f0) (bs:=bs) (es:=es) (clk:=clk) (hq:=hq) (Γ:=R) H a d).l1
  exact ⟨_,.inl ⟨by omega,Z,Z⟩,H⟩
 obtain ⟨k,rfl⟩:∃k:Nat,t=(k:Int):=⟨t.toNat,by omega⟩;have u:k<D.n:=by omega
 refine Zc 6 Z (z_E_ Z (call147 _) (UM U) H ?_);intro w H;refine Zc 2 Z (Af Z (λh2=>?_) (λh2=>?_))
 ·refine Zc 7 Z (Zr Z ?_);replace H:=(Sep.toDisk (D:= {D with f1:=Bm D.f1}) (pd:=pd) (bd:=bd) (m:=m) (f0:=f0) (bs:=bs) (es:=es) (clk:=clk) (hq:=hq) (Γ:=R) H (a.f (Fh a.f1) a.f2 a.f3 a.left) (d.f _ _ _ _ _)).l1
  exact ⟨_,.inr (.inl ⟨by omega,‹_›,Z,Z⟩),H⟩
 refine Z3 14 [0,0,0] [(k:Int)*256,(k:Int)+1,((k:Int)+1)*256] H Z U (Ad Z (BM Z (z:=1) (p:=(k*256)) (q:=((k+1)*256)) (o':=k*256) (l':=256) (c':=D.n*256-k*256) J Z (.inr ⟨_,_,_,Z,Z,U⟩) (.inr ⟨_,_,_,Z,Z,U⟩) U U U U U U) (Au Z (call150 _) (Jv 256 (D.dur k) (λh q=>q.rd U U (by simp;omega) (by rw[<-AfX,<-Afr,AeS,d.own k u])) U) H.f1 ?_));rintro _ w _ ⟨g,b,rest,rfl,⟨cg,cc,cl⟩,rfl⟩ H;refine Zc 11 Z ?_;refine AF (σ:=Nat) (λj=>[(31,I (j:Int)),(0,Y pd),(1,I (k:Int)),(6,.slice none 0 0),(7,I 0),(8,.slice (some ⟨g,0,none⟩) 256 b),(30,I 1)])
   (λj w=>Sep z (blk g ((IR D k j).map u8++rest) 5::blk bd (bs.map u8) 5::blk pd [.slice (some ⟨bd,0,none⟩) (D.n*256) (D.n*256),.map (some m),I f0,I (if D.f1=0 then 0 else D.f1-1),I D.f2,I D.f3,.bool D.cut,I D.left] 103::AJ m (es.map Ent.ie) clk::poolA hq::seps (es.map Ent.row)::R) w/\(j<=1)) (λj=>1-j) 0
   fr_z ⟨H,by omega⟩ ?_
 clear H;rintro j w ⟨x,hI⟩;have H:=x.l6;refine Z0 6 [0] Z (Af Z (λh3=>?_) (λh3=>?_))
 ·obtain rfl:j=0:=by omega
  refine Zc 12 Z ?_;obtain ⟨v0,c,a3,a2,i,o⟩:=Abb d u;have sv:=H.sy 5 (λq=>(i _ q).slc);obtain ⟨ao,a1,rfl⟩:=sv;have a5:=H.sy 5 (λq=>(i _ q).small);refine Z3 7 [1,2,0] [(k:Int)] H Z U (Ad Z (FO (e:=224) (zv:=.slice none 0 0) Z J J Z Z (AB (H.bk 3 Z))) (AD 41 (v:=.slice ao c.length a1) Z a3 (Z0 10 [0] Z (Af Z (λh4=>?_) (λh4=>?_)))))
  ·obtain ⟨pv,s⟩:∃pv,c[c.length-1]?=some pv:=⟨_,Aef U⟩;obtain ⟨p,hp⟩:∃p,(D.ver k)[c.length-1]?=some p:=⟨_,Aef U⟩;have y:=MD a2 hp
   have l:p.length=256:=by rw[<-y];exact Dsk.cont_len a u
   refine BJ 10 J J (A4 H λw x=>?_);have H:=x.l6;refine ER 3 [] [0] H Z J U (Cd Z Z Z (BM Z (z:=1) (p:=0) (q:=256) (o':=0) (l':=256) (c':=b) J Z (.inr ⟨_,_,_,Z,Z,Z⟩) (.inl ⟨Z,Z⟩) U U U U U U) (ER 4 [] [(c.length:Int)-1] H Z J U ?_));have a0:=(H.rd 5 Z i).at s;refine Cd Z Z Z (Aj Z (z:=1) (j:=(c.length-1)) (r:=(c.length-1)) J Z Z U U a0 U) (Cd Z Z Z (Ax Z Z J (AB a0)) (CG (gw (AU Z (F8 0 H Z Z J Z Z (m:=256) (news:=(p.map u8)) (.inl (H.rd 4 Z (o _ _ _ s hp))) (by simp[u8,Value.oneCell']) (by simp[IR,a.dur k u]<;>omega) (k:=256) U (out:=((IR D k (0+1)).map u8++rest)) (by rw[show IR D k (0+1)=p from y];simp[IR,Aem,l,a.dur k u,Ae9])) ?_))));rintro _ w ⟨rfl,H⟩;refine Z1 7 [] [(0:Int)+1] Z U (gf ?_);intro _ hF;refine ⟨(0+1),hF.cz,⟨H,?_⟩,?_⟩
   ·omega
   omega
  refine Z1 7 [] [(0:Int)+1] Z U (gf ?_);intro _ hF;refine ⟨(0+1),hF.cz,⟨(by rw[show IR D k (0+1)=IR D k 0 from J4 (AgB U)];exact H),?_⟩,?_⟩
  ·omega
  omega
 refine Zc 2 Z (gx (Zc 10 Z (Zr Z ?_)));obtain rfl:j=1:=by omega
 replace H:=H.f5.f5.f5.f4.f5;replace H:=(Sep.toDisk (D:= {D with f1:=Bm D.f1}) (pd:=pd) (bd:=bd) (m:=m) (f0:=f0) (bs:=bs) (es:=es) (clk:=clk) (hq:=hq) (Γ:=blk g ((IR D k 1).map u8++rest) 5::R) H (a.f (Fh a.f1) a.f2 a.f3 a.left) (d.f _ _ _ _ _)).l2;exact ⟨_,.inr (.inr ⟨by omega,‹_›,g,b,rest,Z,⟨cg,cc,cl⟩,Z⟩),H.perm 2 [1,0] Z Z⟩
theorem Tj(sec:List UInt8)(k:∀h,A h->rdH 1 (.slice (some ⟨e,g,none⟩) 256 r) 256 (sec.map u8) h):Ak 195 [Y n,.slice (some ⟨e,g,none⟩) 256 r] [tblA n,A] (λv G=>(IA sec/\∃v',v=.tuple #[.agg #[I (A5 ((sec.drop 4).take 8)),I (A5 ((sec.drop 12).take 8)),v',u32 (Fu (A5 ((sec.drop 20).take 4)))],.bool true]/\G=[grow 3 1 v' (BI sec) (hN sec (BI sec)),tblA n,A])\/(¬IA sec/\v=.tuple #[.agg #[I 0,I 0,.slice none 0 0,u32 0],.bool false]/\G=[tblA n,A])):=by
 intro z R w H;replace H:=H.l2;have x:=H.sy 1 (λq=>(k _ q).len);have a3:=H.sy 1 (λq=>(k _ q).cap);obtain ⟨c0,c1,c2,c3,hd⟩:=Oc x;obtain ⟨m,hm,b⟩:=Abl (sec:=sec);refine Ae func195 Z ntmps195 Z (Zc 2 Z (AU Z (Ce (P:=prog) H Z (zs:=[I 0,I 0,.slice none 0 0,u32 0]) J) ?_));rintro _ w ⟨b1,rfl,H⟩;replace H:=H.l3;refine Zc 7 Z (Au Z (call176 _) (LW sec k) H.f2.f2 ?_);rintro _ w _ (⟨hs,rfl,rfl⟩|⟨hs,rfl,rfl⟩) f
 ·have H:=f.l3;refine Za 3 [] H Z ?_;intro b2 w H;refine Z4 16 [0] H Z ?_;intro w H;refine z_E_ Z (call164 _) (CB 8 e (g+4) 248 (r-4) ((sec.drop 4).take 248) (λh q=>(k h q).cut (lo:=4) (m:=248) (c':=(r-4)) U U U) U U ((sec.drop 4).take 8) (by rw[AeG,AeH U]) (g+12) 240 (r-12) U U U) H.f2.f1 ?_;intro w H;replace H:=H.l4;refine z_E_ Z (call164 _) (CB 8 e (g+12) 240 (r-12) ((sec.drop 12).take 240) (λh q=>(k h q).cut (lo:=12) (m:=240) (c':=(r-12)) U U U) U U ((sec.drop 12).take 8) (by rw[AeG,AeH U]) (g+20) 232 (r-20) U U U) H ?_;intro w H;replace H:=H.l4;refine z_E_ Z (call164 _) (CB 4 e (g+20) 232 (r-20) ((sec.drop 20).take 232) (λh q=>(k h q).cut (lo:=20) (m:=232) (c':=(r-20)) U U U) U U ((sec.drop 20).take 4) (by rw[AeG,AeH U]) (g+24) 228 (r-24) U U U) H ?_;intro w H;replace H:=H.l4;refine Ad Z (Sx Z J Z) (Ad Z (Be Z Z (out:=[I (A5 ((sec.drop 4).take 8)),I (A5 ((sec.drop 12).take 8)),.slice none 0 0,u32 (Fu (A5 ((sec.drop 20).take 4)))]) J) (AU Z (Ce (P:=prog) H Z (zs:=[I 0,I 0,.slice none 0 0,u32 0]) J) ?_))
  rintro _ w ⟨y,rfl,H⟩;replace H:=H.l5;refine Z4 5 [0] H Z ?_;intro w H;refine z_E_ Z (call164 _) (CB 2 e (g+24) 228 (r-24) ((sec.drop 24).take 228) (λh q=>(k h q).cut (lo:=24) (m:=228) (c':=(r-24)) U U U) U U ((sec.drop 24).take 2) (by rw[AeG,AeH U]) (g+26) 226 (r-26) U U U) H.f2.f2 ?_;intro w H;refine Z2 8 [0,2,0] H Z (z_E_ Z (call98 _) (CY) H ?_);intro w H;replace H:=H.l5;refine Ad Z (AG Z Z) (Zc 1 Z (An 30 Z (λh1=>?_) (λh1=>?_)))
  ·refine Zc 18 Z (Ad Z (Be Z Z (out:=[I 0,I 0,.slice none 0 0,u32 0]) J) (Z4 5 [4] H Z ?_));intro w H;refine Zl [4,4] H Z ?_;exact ⟨_,.inr ⟨by first|exact λq=>hs q.1|(rintro ⟨o,s,t,p,c,a⟩;first|(exfalso;omega)|exact absurd (c i U) ‹_› |(rw[b] at a;exact absurd a ‹_›)),rfl,rfl⟩,H.perm 5 [3,1] rfl rfl⟩
  refine Z2 2 [1,2,0] H Z (z_E_ Z (call98 _) (CY) H ?_);intro w H;replace H:=H.l5;refine Ad Z (AG Z Z) (Zc 2 Z (An 36 Z (λh2=>?_) (λh2=>?_)))
  ·refine Zc 12 Z (Ad Z (Be Z Z (out:=[I 0,I 0,.slice none 0 0,u32 0]) J) (Z4 5 [4] H Z ?_));intro w H;refine Zl [4,4] H Z ?_;exact ⟨_,.inr ⟨by first|exact λq=>hs q.1|(rintro ⟨o,s,t,p,c,a⟩;first|(exfalso;omega)|exact absurd (c i U) ‹_› |(rw[b] at a;exact absurd a ‹_›)),rfl,rfl⟩,H.perm 5 [3,1] rfl rfl⟩
  refine Z0 4 [0] Z (An 40 Z (λh3=>?_) (λh3=>?_))
  ·refine Zc 8 Z (Ad Z (Be Z Z (out:=[I 0,I 0,.slice none 0 0,u32 0]) J) (Z4 5 [4] H Z ?_));intro w H;refine Zl [4,4] H Z ?_;exact ⟨_,.inr ⟨by first|exact λq=>hs q.1|(rintro ⟨o,s,t,p,c,a⟩;first|(exfalso;omega)|exact absurd (c i U) ‹_› |(rw[b] at a;exact absurd a ‹_›)),rfl,rfl⟩,H.perm 5 [3,1] rfl rfl⟩
  refine Z0 5 [0] Z (Af Z (λh4=>?_) (λh4=>?_))
  ·refine Zc 2 Z (Ad Z (Be Z Z (out:=[I 0,I 0,.slice none 0 0,u32 0]) J) (Z4 5 [4] H Z ?_));intro w H;refine Zl [4,4] H Z ?_;exact ⟨_,.inr ⟨by first|exact λq=>hs q.1|(rintro ⟨o,s,t,p,c,a⟩;first|(exfalso;omega)|exact absurd (c i U) ‹_› |(rw[b] at a;exact absurd a ‹_›)),rfl,rfl⟩,H.perm 5 [3,1] rfl rfl⟩
  refine Zc 4 Z (AD 9 (v:=I (m:Int)) Z (congrArg I hm) ?_);replace H:=(H.nilg 3 1).l6;refine Zc 6 Z ?_;refine AF (σ:=Nat×Value) (λ⟨i,v⟩=>[(46,I (i:Int)),(4,Y b1),(6,Y b2),(8,Y y),(45,I (m:Int))])
    (λ⟨i,v⟩ w=>Sep z (grow 3 1 v i (hN sec i)::blk b2 [.slice (some ⟨e,(g+(26+4*i)),none⟩) (252-(26+4*i)) (r-(26+4*i))] 259::A::blk y [I (A5 ((sec.drop 4).take 8)),I (A5 ((sec.drop 12).take 8)),v,u32 (Fu (A5 ((sec.drop 20).take 4)))] 286::tblA n::blk b1 [I 0,I 0,.slice none 0 0,u32 0] 286::R) w/\(i<=m/\∀j,j<i->0<=Eu sec j/\Eu sec j<=1023)) (λ⟨i,v⟩=>m-i) ⟨0,.slice none 0 0⟩
    fr_z ⟨H,by omega,λj h=>by omega⟩ ?_
  clear H;rintro ⟨i,v⟩ w ⟨f,hI⟩;dsimp only at hI f ⊢;have H:=f.l6;have sv:=H.sy 0 (·.slc);obtain ⟨a2,l⟩:=hI;refine Z0 6 [0] Z (Af Z (λh5=>?_) (λh5=>?_))
  ·have a1:i<m:=by omega
   refine Zc 6 Z (z_E_ Z (call164 _) (CB 4 e (g+(26+4*i)) (252-(26+4*i)) (r-(26+4*i)) ((sec.drop (26+4*i)).take (252-(26+4*i))) (λh q=>(k h q).cut (lo:=(26+4*i)) (m:=(252-(26+4*i))) (c':=(r-(26+4*i))) U U U) U U ((sec.drop (26+4*i)).take 4) (by rw[AeG,AeH U]) (g+(26+4*(i+1))) (252-(26+4*(i+1))) (r-(26+4*(i+1))) U U U) H.f2.f2 ?_);intro w H;refine Zc 7 Z (z_E_ Z (call98 _) (CY) H ?_);intro w H;replace H:=H.l6;refine Ad Z (AG Z Z) (Zc 2 Z (Af Z (λh6=>?_) (λh6=>?_)))
   ·refine Zc 2 Z (Ad Z (Be Z Z (out:=[I 0,I 0,.slice none 0 0,u32 0]) J) (Z4 5 [5] H Z ?_));intro w H;refine Zl [5,4] H Z ?_;exact ⟨_,.inr ⟨by first|exact λq=>hs q.1|(rintro ⟨o,s,t,p,c,a⟩;first|(exfalso;omega)|exact absurd (c i U) ‹_› |(rw[b] at a;exact absurd a ‹_›)),rfl,rfl⟩,H.perm 6 [4,1] rfl rfl⟩
   refine Z2 6 [2,3,0] H Z (AU Z (AP H Z J BC Z (by decide) (by decide) (out:=[I (Eu sec i)]) J) ?_);rintro _ w ⟨b4,rfl,H⟩;replace H:=H.l7;refine AU Z (AX 3 H Z Z J BC Z Z (H.rv 0 (·.rd U U O Z)) (by simp[Value.oneCell']) U) ?_;rintro v5 w f;have f:Sep z (blk b4 [I (Eu sec i)] 3::blk b2 [.slice (some ⟨e,(g+(26+4*(i+1))),none⟩) (252-(26+4*(i+1))) (r-(26+4*(i+1)))] 259::A::grow 3 1 v5 (i+1) (hN sec i++[I (Eu sec i)])::blk y [I (A5 ((sec.drop 4).take 8)),I (A5 ((sec.drop 12).take 8)),v,u32 (Fu (A5 ((sec.drop 20).take 4)))] 286::tblA n::blk b1 [I 0,I 0,.slice none 0 0,u32 0] 286::R) w:=f;have a0:(hN sec i++[I (Eu sec i)]:List Value)=hN sec (i+1):=Yk sec i;rw[a0] at f;have H:=f.l7;have u:=H.sy 3 (·.slc);refine Z0 1 [2] Z (AC Z Z (JZ 4 H Z Z Z Z u.cells u.one J) ?_);rintro w H;replace H:=H.l7;refine Z1 7 [] [(i:Int)+1] Z U ?_;replace H:=H.d.f5.f5.f5.f4.f4.f5;refine gf ?_;intro _ hF;refine ⟨⟨i+1,v5⟩,hF.cz,⟨H,?_⟩,?_⟩
   ·refine ⟨by omega,λj h=>?_⟩;rcases Aeu j i with q|q
    ·exact l j q
    obtain rfl:j=i:=by omega
    unfold Eu;omega
   omega
  obtain rfl:i=m:=by omega
  refine Zc 2 Z (gx (Zc 5 Z (z_E_ Z (call165 _) (K6 e (g+(26+4*i)) (252-(26+4*i)) (r-(26+4*i)) ((sec.drop (26+4*i)).take (252-(26+4*i))) (λh q=>(k h q).cut (lo:=(26+4*i)) (m:=(252-(26+4*i))) (c':=(r-(26+4*i))) U U U) U) H.f2.f2 ?_)));intro w H;replace H:=H.l6;refine Ad Z (AG Z Z) (Zc 2 Z (Af Z (λh7=>?_) (λh7=>?_)))
  ·refine Zc 2 Z (Ad Z (Be Z Z (out:=[I 0,I 0,.slice none 0 0,u32 0]) J) (Z4 5 [5] H Z ?_));intro w H;refine Zl [5,4] H Z ?_;exact ⟨_,.inr ⟨by first|exact λq=>hs q.1|(rintro ⟨o,s,t,p,c,a⟩;first|(exfalso;omega)|exact absurd (c i U) ‹_› |(rw[b] at a;exact absurd a ‹_›)),rfl,rfl⟩,H.perm 6 [4,1] rfl rfl⟩
  refine Z2 5 [3,4] H Z (AC Z Z (Am 5 H Z Z Z Z (vs:=[I (A5 ((sec.drop 4).take 8)),I (A5 ((sec.drop 12).take 8)),v,u32 (Fu (A5 ((sec.drop 20).take 4)))]) Z (Ab Z (Ab Z (Ab sv.one (Ab Z Aw)))) J O (out:=[I (A5 ((sec.drop 4).take 8)),I (A5 ((sec.drop 12).take 8)),v,u32 (Fu (A5 ((sec.drop 20).take 4)))]) Z) ?_);rintro w H;replace H:=H.l6;refine Zc 4 Z (Zl [5,4] H Z ?_);subst b;exact ⟨_,.inl ⟨⟨hs,by omega,by omega,by omega,l,by omega⟩,v,Z,Z⟩,H.perm 6 [2,4,1] Z Z⟩
 have H:=f.l3;refine Za 3 [] H Z ?_;intro b6 w H;refine Z4 14 [0] H Z ?_;intro w H;refine Ad Z (Be Z Z (out:=[I 0,I 0,.slice none 0 0,u32 0]) J) (Z4 5 [3] H Z ?_);intro w H;refine Zl [3,4] H Z ?_;exact ⟨_,.inr ⟨by first|exact λq=>hs q.1|(rintro ⟨o,s,t,p,c,a⟩;first|(exfalso;omega)|exact absurd (c i U) ‹_› |(rw[b] at a;exact absurd a ‹_›)),rfl,rfl⟩,H.perm 4 [1,2] rfl rfl⟩
theorem RC(sec:List UInt8)(b:∀h,A h->rdH 1 (.slice (some ⟨i,j,none⟩) 256 e) 256 (sec.map u8) h):Ak 197 [Y n,.slice (some ⟨i,j,none⟩) 256 e] [tblA n,A] (λv G=>(IW sec/\∃g a rest,v=.tuple #[I (A5 ((sec.drop 3).take 4)),I (A5 ((sec.drop 7).take 5)),.agg #[I (A5 ((sec.drop 1).take 2)),I (A5 (sec.take 1)),.slice (some ⟨g,0,none⟩) 240 a],.bool true]/\(240<=a/\a<=9223372036854775807/\rest.length=a-240)/\G=[blk g (((sec.drop 12).take 240).map u8++rest) 5,tblA n,A])\/(¬IW sec/\v=.tuple #[I 0,I 0,.agg #[I 0,I 0,.slice none 0 0],.bool false]/\G=[tblA n,A])):=by
 intro z R w H;replace H:=H.l2;have f:=H.sy 1 (λq=>(b _ q).len);have a0:=H.sy 1 (λq=>(b _ q).cap);obtain ⟨c0,c1,c2,t,d⟩:=Oc f;refine Ae func197 Z ntmps197 Z (Za 4 [] H Z ?_);intro b1 w H;refine Zc 5 Z (Bu (Sep z _) J J H.drew (GL 9 [4] [] Z J (AM Z Z Z (BM Z (z:=1) (p:=252) (q:=256) (o':=j+252) (l':=4) (c':=e-252) J Z (.inr ⟨_,_,_,Z,Z,Z⟩) (.inl ⟨Z,Z⟩) U U U U U U) (AM Z Z Z (MA (m:=4) Z J Z U) (AM Z Z Z (BW Z Z (vs:=[u8 c0,u8 c1,u8 c2,u8 t]) J (λ_ hx=>hx.cell4 2 Z b d)) (BS 2 [] Z J (AM Z Z Z (BM Z (z:=1) (p:=0) (q:=252) (o':=j) (l':=252) (c':=e) J Z (.inl ⟨Z,Z⟩) (.inr ⟨_,_,_,Z,Z,Z⟩) U U U U U U) (Dn Z Z Z Z Z (λw=>call209 _ w) (v:=.agg #[u8 ((Bh (sec.take 252)).toUInt8),u8 (((Bh (sec.take 252))>>>8).toUInt8),u8 (((Bh (sec.take 252))>>>16).toUInt8),u8 (((Bh (sec.take 252))>>>24).toUInt8)]) (cq (Or (sec.take 252) (by simp[f]) (λh q=>(b h q).pre U U)) (by rintro _ _ ⟨rfl,rfl⟩;exact ⟨Z,Z⟩) 3 [1,2,0] [2,0,1] Z Z Z Z) (AM Z Z Z (PX Z J J Z Z) (BS 1 [] Z J (BB (λw r=>?_))))))))))));have H:=r.l3;refine gn (Zc 1 Z (Af Z (λx=>?_) (λx=>?_)))
 ·refine Z4 10 [0] H Z ?_;intro w H;refine Zl [0,3] H Z ?_;exact ⟨_,.inr ⟨by rintro ⟨c,l,k⟩;first|exact absurd (d▸c) ‹_› |(exfalso;omega),rfl,rfl⟩,H.perm 3 [1,2] rfl rfl⟩
 refine Zc 5 Z (Ad Z (BM Z (z:=1) (p:=0) (q:=252) (o':=j) (l':=252) (c':=e) J Z (.inl ⟨Z,Z⟩) (.inr ⟨_,_,_,Z,Z,Z⟩) U U U U U U) (Za 1 [] H Z ?_));intro b2 w H;refine Z4 5 [0] H Z ?_;intro w H;refine z_E_ Z (call164 _) (CB 1 i j 252 e (sec.take 252) (λh q=>(b h q).pre (m:=252) (c':=e) U U) U U (sec.take 1) (by rw[AeG,AeH U]) (j+1) 251 (e-1) U U U) H.f3.f1 ?_;intro w H;replace H:=H.l4;refine z_E_ Z (call164 _) (CB 2 i (j+1) 251 (e-1) ((sec.drop 1).take 251) (λh q=>(b h q).cut (lo:=1) (m:=251) (c':=(e-1)) U U U) U U ((sec.drop 1).take 2) (by rw[AeG,AeH U]) (j+3) 249 (e-3) U U U) H ?_;intro w H;replace H:=H.l4;refine z_E_ Z (call164 _) (CB 4 i (j+3) 249 (e-3) ((sec.drop 3).take 249) (λh q=>(b h q).cut (lo:=3) (m:=249) (c':=(e-3)) U U U) U U ((sec.drop 3).take 4) (by rw[AeG,AeH U]) (j+7) 245 (e-7) U U U) H ?_;intro w H;replace H:=H.l4;refine z_E_ Z (call164 _) (CB 5 i (j+7) 245 (e-7) ((sec.drop 7).take 245) (λh q=>(b h q).cut (lo:=7) (m:=245) (c':=(e-7)) U U U) U U ((sec.drop 7).take 5) (by rw[AeG,AeH U]) (j+12) 240 (e-12) U U U) H ?_;intro w H;refine Z0 12 [0] Z (An 41 Z (λy=>?_) (λy=>?_))
 ·refine Z4 21 [2] H Z ?_;intro w H;refine Zl [2,3] H Z ?_;exact ⟨_,.inr ⟨by rintro ⟨c,l,k⟩;first|exact absurd (d▸c) ‹_› |(exfalso;omega),rfl,rfl⟩,H.perm 4 [3,1] rfl rfl⟩
 refine Z0 4 [0] Z (An 45 Z (λh3=>?_) (λh3=>?_))
 ·refine Z4 17 [2] H Z ?_;intro w H;refine Zl [2,3] H Z ?_;exact ⟨_,.inr ⟨by rintro ⟨c,l,k⟩;first|exact absurd (d▸c) ‹_› |(exfalso;omega),rfl,rfl⟩,H.perm 4 [3,1] rfl rfl⟩
 refine Zc 1 Z (z_E_ Z (call98 _) (CY) H ?_);intro w H;replace H:=H.l4;refine Ad Z (AG Z Z) (Zc 3 Z (Af Z (λo=>?_) (λo=>?_)))
 ·refine Z4 10 [2] H Z ?_;intro w H;refine Zl [2,3] H Z ?_;exact ⟨_,.inr ⟨by rintro ⟨c,l,k⟩;first|exact absurd (d▸c) ‹_› |(exfalso;omega),rfl,rfl⟩,H.perm 4 [3,1] rfl rfl⟩
 refine Z2 10 [0,0,0] H Z (Au Z (call150 _) (Jv 240 ((sec.drop 12).take 240) ((λh q=>(b h q).cut (lo:=12) (m:=240) (c':=(e-12)) U U U)) U) H.f1 ?_);rintro _ w _ ⟨g,a,rest,rfl,⟨u,cc,s⟩,rfl⟩ H;refine Z4 9 [3] H Z ?_;intro w H;refine Zl [3,3] H Z ?_;exact ⟨_,.inl ⟨⟨by rw[d];exact AgL ‹_›,by omega,by omega⟩,g,a,rest,Z,⟨u,cc,s⟩,Z⟩,H.perm 5 [0,4,1] Z Z⟩
theorem HP(s:Sup)(hn:0<=t/\t<=1152921504606846976):Ak 88 [.agg #[I s.gen,I s.epoch,I s.pages,I s.start,I s.len,I s.head,I s.seq],I t] [] (λv G=>v=I (if s.Ok t then 0 else 1)/\G=[]):=by
 intro z R w H;refine Ae func88 Z ntmps88 Z (Za 2 [] H Z ?_);intro u w H;refine Z2 20 [0,0,0,1,0,0,2,0,0,3,0,0,4,0,0,5,0,0,6,0,0] H Z (Ad Z (Be Z Z (out:=[I s.gen,I s.epoch,I s.pages,I s.start,I s.len,I s.head,I s.seq]) J) (Zc 4 Z ?_));refine AF (σ:=Nat) (λk=>[(22,I (k:Int)),(1,I t),(2,Y u),(21,.agg #[I s.gen,I s.epoch,I s.pages,I s.start,I s.len,I s.head,I s.seq])])
   (λk w=>Sep z (blk u [I s.gen,I s.epoch,I s.pages,I s.start,I s.len,I s.head,I s.seq] 148::R) w/\(k<=7/\∀(j:Nat) (x:Int),j<k->s.list[j]?=some x->0<=x/\x<=1099511627776)) (λk=>7-k) 0
   fr_z ⟨H,by omega,λj x h=>by omega⟩ ?_
 clear H;rintro k w ⟨H',hI⟩;have H:=H'.l1;obtain ⟨a0,b⟩:=hI;refine Z0 6 [0] Z (Af Z (λh1=>?_) (λh1=>?_))
 ·refine Zc 6 Z ?_;obtain ⟨x,c⟩:∃x,s.list[k]?=some x:=⟨_,Aef (by simp[Sup.list];omega)⟩;refine Ad Z (NE Z J Z (l:=s.list) (j:=k) Z Z Z Z c) (Z0 8 [0] Z (An 27 Z (λh2=>?_) (λh2=>?_)))
  ·refine Zc 12 Z (Zr Z ?_);have a:¬s.Ok t:=λ⟨q,f,g,e,n,d,i,m⟩=>by
     first |omega|(have:=q x (Aeg c);omega)
   exact ⟨_,⟨congrArg I (by rw[if_neg a]),rfl⟩,H.perm 1 [] rfl rfl⟩
  refine Z0 5 [0] Z (Af Z (λh3=>?_) (λh3=>?_))
  ·refine Zc 6 Z (Zr Z ?_);have a:¬s.Ok t:=λ⟨q,f,g,e,n,d,i,m⟩=>by
     first |omega|(have:=q x (Aeg c);omega)
   exact ⟨_,⟨congrArg I (by rw[if_neg a]),rfl⟩,H.perm 1 [] rfl rfl⟩
  refine Z1 7 [] [(k:Int)+1] Z U (gf ?_);intro _ hF;refine ⟨(k+1),hF.cz,⟨H,?_⟩,?_⟩
  ·refine ⟨by omega,λj y p o=>?_⟩;rcases Aeu j k with h|h
   ·exact b j y h o
   obtain rfl:j=k:=by omega
   rw[c] at o;cases o;omega
  omega
 obtain rfl:k=7:=by omega
 have hp:=b 2 s.pages U Z;have hl:=b 4 s.len U Z;refine Zc 2 Z (gx (Z2 9 [2,0,0,0] H Z (An 35 Z (λh4=>?_) (λh4=>?_))))
 ·refine Zc 48 Z (Zr Z ?_);have a:¬s.Ok t:=λ⟨q,f,g,e,n,d,i,m⟩=>by
    first |omega|(have:=q x (Aeg c);omega)
  exact ⟨_,⟨congrArg I (by rw[if_neg a]),rfl⟩,H.perm 1 [] rfl rfl⟩
 refine Z2 5 [2,0,0,0] H Z (An 40 Z (λh5=>?_) (λh5=>?_))
 ·refine Zc 43 Z (Zr Z ?_);have a:¬s.Ok t:=λ⟨q,f,g,e,n,d,i,m⟩=>by
    first |omega|(have:=q x (Aeg c);omega)
  exact ⟨_,⟨congrArg I (by rw[if_neg a]),rfl⟩,H.perm 1 [] rfl rfl⟩
 refine Z3 8 [3,0,0,2,0,0,0] [2+s.pages] H Z U (An 48 Z (λh6=>?_) (λh6=>?_))
 ·refine Zc 35 Z (Zr Z ?_);have a:¬s.Ok t:=λ⟨q,f,g,e,n,d,i,m⟩=>by
    first |omega|(have:=q x (Aeg c);omega)
  exact ⟨_,⟨congrArg I (by rw[if_neg a]),rfl⟩,H.perm 1 [] rfl rfl⟩
 refine Z2 5 [4,0,0,0] H Z (An 53 Z (λh7=>?_) (λh7=>?_))
 ·refine Zc 30 Z (Zr Z ?_);have a:¬s.Ok t:=λ⟨q,f,g,e,n,d,i,m⟩=>by
    first |omega|(have:=q x (Aeg c);omega)
  exact ⟨_,⟨congrArg I (by rw[if_neg a]),rfl⟩,H.perm 1 [] rfl rfl⟩
 refine Z3 9 [3,0,0,4,0,0,0] [t-s.len] H Z U (An 62 Z (λh8=>?_) (λh8=>?_))
 ·refine Zc 21 Z (Zr Z ?_);have a:¬s.Ok t:=λ⟨q,f,g,e,n,d,i,m⟩=>by
    first |omega|(have:=q x (Aeg c);omega)
  exact ⟨_,⟨congrArg I (by rw[if_neg a]),rfl⟩,H.perm 1 [] rfl rfl⟩
 refine Z2 6 [4,0,0,0] H Z (An 68 Z (λh9=>?_) (λh9=>?_))
 ·refine Zc 15 Z (Zr Z ?_);have a:¬s.Ok t:=λ⟨q,f,g,e,n,d,i,m⟩=>by
    first |omega|(have:=q x (Aeg c);omega)
  exact ⟨_,⟨congrArg I (by rw[if_neg a]),rfl⟩,H.perm 1 [] rfl rfl⟩
 refine Z2 8 [5,0,0,4,0,0,0] H Z (Af Z (λr=>?_) (λr=>?_))
 ·refine Zc 6 Z (Zr Z ?_);have a:¬s.Ok t:=λ⟨q,f,g,e,n,d,i,m⟩=>by
    first |omega|(have:=q x (Aeg c);omega)
  exact ⟨_,⟨congrArg I (by rw[if_neg a]),rfl⟩,H.perm 1 [] rfl rfl⟩
 refine Zc 8 Z (Zr Z ?_);have a:s.Ok t:=⟨λx c=>by
   obtain ⟨j,p,rfl⟩:=Agd.1 c;exact b j _ (by simp[Sup.list] at p;omega) (Aef p)
   ,by omega,by omega,by omega,by omega,by omega,by omega,by omega⟩
 exact ⟨_,⟨congrArg I (by rw[if_pos a]),Z⟩,H.perm 1 [] Z Z⟩
theorem Tk{s:Sup}(e: -9223372036854775808<=s.len-q/\s.len-q<=9223372036854775807):Ak 185 [Y n] [lgB n m i s t p q b c] (λv G=>v=I (if b then 0 else s.len-q)/\G=[lgB n m i s t p q b c]):=by
 intro z R w H;refine Ae func185 Z ntmps185 Z (Z2 14 [12,0,0] H Z (Eq Z (λa=>?_) (λa=>?_)))
 ·refine Zc 6 Z (Zr Z ?_);exact ⟨_,⟨congrArg I (by simp_all),Z⟩,H⟩
 refine Zc 3 Z (Bu (Sep z _) J J H.drew (Ha 11 [2,6,0,0,11,0,0] [s.len-q] Z J U (BB (λw d=>?_))));have H:=d.l1;refine gn (Zc 2 Z (Zr Z ?_));exact ⟨_,⟨congrArg I (by simp_all),Z⟩,H⟩
theorem Tl{s:Sup}:Ak 186 [Y n] [lgB n m i s t p q b c] (λv G=>v=.tuple #[I t,I p]/\G=[lgB n m i s t p q b c]):=by
 intro z R w H;refine Ae func186 Z ntmps186 Z (Zc 7 Z (Bu (Sep z _) J J H.drew (DS 10 [9,0,10,0] (λ_ a=>(AN (a.blk 0 Z) AH)) Z J Z (BB (λw d=>?_)))));have H:=d.l1;refine gn (Zc 2 Z (Zr Z ?_));exact ⟨_,⟨Z,Z⟩,H⟩
theorem Tm{s:Sup}:Ak 187 [Y n] [lgB n m i s t p q b c] (λv G=>v=.tuple #[]/\G=[lgB n m i s t p 0 false c]):=by
 intro z R w H;refine Ae func187 Z ntmps187 Z (Z4 14 [11,0,12,0] H Z ?_);intro w H;refine Zf Z ?_;exact ⟨_,⟨Z,Z⟩,H⟩
theorem Ke{s:Sup}{n:Int}(e:0<=t/\t<=1099511627776)(f:0<=n/\n<=1099511627776)(g:0<s.len)(hs:0<=p/\p<=2199023255552)(d:0<=q/\q<=2199023255552):Ak 155 [Y m,I n] [lgB m i j s t p q b c] (λv G=>v=.tuple #[]/\G=[lgB m i j s ((t+n)%s.len) (p+1) (q+n) b c]):=by
 intro z R w H;refine Ae func155 Z ntmps155 Z (Zc 1 Z (BJ 15 J J (A4 H λw a=>?_)));have H:=a.l1;refine ER 15 [9,0,0,2,6,0,0,9] [t+n,(t+n)%s.len] H Z J U (CG (gw (Z5 26 [0,10,0,0,10,0,11,0,0,11,0] [p+1,q+n] H Z U ?_)));intro w H;refine Zf Z ?_;exact ⟨_,⟨Z,Z⟩,H⟩
theorem Yv(pd bd m N:Nat)(f0 g e h lf:Int)(a:Bool)(b:Nat)(s:Sup)(hN:N<=1152921504606846976)(c:s.Ok ((N:Int)/256)):Ak 97 [Y pd,Y b,.agg #[I s.gen,I s.epoch,I s.pages,I s.start,I s.len,I s.head,I s.seq]] [blk pd [.slice (some ⟨bd,0,none⟩) N N,.map (some m),I f0,I g,I e,I h,.bool a,I lf] 103] (λv G=>(∃f,v=Y f/\G=[lgB f pd b s s.head s.seq 0 false (decide (s.epoch<4294967296)),blk pd [.slice (some ⟨bd,0,none⟩) N N,.map (some m),I f0,I g,I e,I h,.bool a,I lf] 103])):=by
 intro z R w H;refine Ae func97 Z ntmps97 Z (Za 2 [] H Z ?_);intro k w H;refine Zc 5 Z (Bu (Sep z _) J J H.drew (GL 9 [0,7] [] Z J (Dn Z Z Z Z Z (λw=>call89 _ w) (v:=I ((N:Int)/256)) (cq (KM _ _ _ _ _ _ _ _ _ _ U) (by rintro _ _ ⟨rfl,rfl⟩;exact ⟨Z,Z⟩) 2 [1,0] [1,0] Z Z Z Z) (Dn Z Z Z Z Z (λw=>call88 _ w) (v:=I (if s.Ok ((N:Int)/256) then 0 else 1)) (cq (HP _ U) (by rintro _ _ ⟨rfl,rfl⟩;exact ⟨Z,Z⟩) 0 [] [] Z Z Z Z) (BS 2 [] Z J (BB (λw j=>?_)))))));have H:=j.l2;refine gn (Zc 1 Z (Af Z (λd=>?_) (λd=>?_)))
 ·exact absurd (if_pos c) d
 refine Z2 14 [0,7,5,0,0,6,0,0,1,0,0,0] H Z (Ad Z (Be Z Z (out:=[Y pd,Y b,I s.gen,I s.epoch,I s.pages,I s.start,I s.len,I s.head,I s.seq,I s.head,I s.seq,I 0,.bool false,.bool (decide ((s.epoch:Int)<4294967296))]) J) (Za 0 [] H Z ?_));intro i w H;refine Zc 4 Z (Zr Z ?_);exact ⟨_,⟨i,Z,Z⟩,H.perm 3 [0,2] Z Z⟩
theorem Abs(k:Nat):Ak 20 [I (k:Int)] [] (λv G=>(¬(1<=k/\k<=4096)/\v=.tuple #[.pointer none,I 1]/\G=[])\/((1<=k/\k<=4096)/\∃pd,v=.tuple #[Y pd,I 0]/\G=[diskA pd (Cv k)])):=by
 intro z R w H;refine Ae func20 Z ntmps20 Z (Z0 12 [0] Z (An 6 Z (λf=>?_) (λf=>?_)))
 ·refine Zc 13 Z (Zr Z ?_);exact ⟨_,.inl ⟨by omega,Z,Z⟩,H⟩
 refine Z0 5 [0] Z (Af Z (λg=>?_) (λg=>?_))
 ·refine Zc 7 Z (Zr Z ?_);exact ⟨_,.inl ⟨by omega,Z,Z⟩,H⟩
 refine Z1 6 [] [((k*256:Nat):Int)] Z U (AU Z (En (k:=(k*256)) H Z J CM Z Z Z U) ?_);rintro _ w ⟨b,rfl,H⟩;refine AU Z (F9 H Z) ?_;rintro _ w ⟨a,rfl,H⟩;refine Ad Z (Be Z Z (out:=[.slice (some ⟨b,0,none⟩) (k*256) (k*256),.map (some a),I 0,I 0,I 0,I 0,.bool false,I 0]) J) (Za 0 [] H Z ?_);intro c w H;refine Zc 5 Z (Zr Z ?_);replace H:=(Rz H).l4;replace H:=(H.void (B:=seps (([]:List Ent).map Ent.row)) (λh=>⟨λ_=>0,λi A e=>by cases e⟩)).l5;have d:List.replicate (k*256) (u8 0)=(List.replicate (k*256) (0:UInt8)).map u8:=by simp
 rw[d] at H;have H:Sep z (seps (([]:List Ent).map Ent.row)::poolA (λ_=>none)::blk c [.slice (some ⟨b,0,none⟩) (k*256) (k*256),.map (some a),I 0,I 0,I 0,I 0,.bool false,I 0] 103::AJ a (([]:List Ent).map Ent.ie) 0::blk b ((List.replicate (k*256) (0:UInt8)).map u8) 5::R) w:=H;replace H:=H.f1.f3.f4.f4;replace H:=(Sep.toDisk (D:=Cv k) (pd:=c) (bd:=b) (m:=a) (f0:=0) (bs:=(List.replicate (k*256) 0)) (es:=([]:List Ent)) (clk:=0) (hq:=(λ_=>none)) (Γ:=R) H (Yl U) Ym).l1;exact ⟨_,.inr ⟨by omega,c,Z,Z⟩,H⟩
theorem Qk{s:Sup}{us:Int}{x:Int}(f:D.f1=0)(hr:0<=s.start/\0<s.len/\s.start+s.len<=D.n)(hx:0<=x/\x<=1152921504606846976)(sec:List UInt8)(d:D.cont (ringAt s x)=sec):Ak 194 [Y m,I x] [lgB m i j s t p us b c,diskA i D] (λv G=>(∃g a rest,v=.tuple #[.slice (some ⟨g,0,none⟩) 256 a,I 0]/\(256<=a/\a<=9223372036854775807/\rest.length=a-256)/\G=[blk g (sec.map u8++rest) 5,lgB m i j s t p us b c,diskA i D])):=by
 intro z R w H;have r:=H.sy 1 (λq=>(diskA.ok q).n2);have l:=Agn x (by omega:s.len≠0);have h:=Af6 x (by omega:0<s.len);refine Ae func194 Z ntmps194 Z (Zc 7 Z (AS (Sep z (lgB m i j s t p us b c::diskA i D::R)) 22 Z J (A4 H λw e=>?_)));have H:=e.l2;refine HJ [0,1,2,3,4,5,6,7,8,9,10,11,12,13,14,15,16] [0,0,0,2,5,0,0,2,6,0,0] [x%s.len,s.start+(x%s.len)] H Z J U Z (AE [17] J O (Al (Br Z Z Z Z Z Z (λw=>call128 _ w) (I0) H.f1 Z ?_)));rintro _ w _ (⟨k,rfl,rfl⟩|⟨_,y,_⟩|⟨_,_,g,a,rest,rfl,⟨u,cc,o⟩,rfl⟩) e
 ·exact absurd ⟨by omega,by omega⟩ k
 ·exact absurd y U
 rw[diskA.f1 f] at e;have H:=e.l3;refine Az (H.pick 3 [2,1] Z) (AZ [18,19,20,21] [] [] (by exact H.pick 3 [2,1] Z) Z J Z (a_done J (gn (Zc 2 Z (Zr Z ?_)))));subst d;exact ⟨_,⟨g,a,rest,Z,⟨u,cc,o⟩,Z⟩,H.perm 3 [0,2,1] Z Z⟩
theorem Yw{a:UInt32}(n:Nat)(bs:List UInt8)(b:bs.length=n)(c:∀h,A h->rdH 1 v n (bs.map u8) h):Ak 196 [Y m,u32 a,v] [tblA m,A] (λv G=>v=u32 (EE a bs)/\G=[tblA m,A]):=by
 subst b;exact Th m a v bs A c
set_option maxHeartbeats 1000000 in
theorem Abt {pd pt:Nat} {s:Sup} {us:Int} (c7:D.f1=0) (hr:0<=s.start/\0<s.len/\s.start+s.len<=D.n) (ha:0<=t/\t<=1099511627776) (hu:0<=us/\us<=1099511627776) (g2:s.len<=4096) (F:Nat->List UInt8) (hF:∀j:Nat,F j=D.cont (ringAt s (t+j))):Ak 154 [Y m] [lgB m pd pt s t p us b c,tblA pt,diskA pd D] (λv G=>((∀ims,¬nextP F s.epoch p (s.len-us) ims)/\v=.tuple #[.agg #[I 0,.slice none 0 0],I 0]/\G=[lgB m pd pt s t p us b c,tblA pt,diskA pd D])\/(∃ims v' hq,nextP F s.epoch p (s.len-us) ims/\v=.tuple #[.agg #[I p,v'],I 0]/\imgsH v' ims hq/\G=[poolA hq,lgB m pd pt s t p us b c,tblA pt,diskA pd D])):=by
 intro z R w H;replace H:=H.l3;have a1:∀j:Nat,(F j).length=256:=λj=>by
   rw[hF];refine Dsk.cont_len (H.sy 2 (λq=>diskA.ok q)) ?_;have g6:=Af6 (t+j) (by omega:0<s.len);unfold ringAt;omega
 replace H:=(Rz H).l4;refine Ae func154 Z ntmps154 Z (Za 2 [] H Z ?_);intro b1 w H;refine Za 6 [] H Z ?_;intro b2 w H;refine Z4 10 [0,9,3,0] H Z ?_;intro w H;refine Au Z (call194 _) (Qk c7 hr U (F 0) (by rw[hF];simp)) H.f5.f4 ?_;rintro _ w _ ⟨g,c3,rest,rfl,⟨cg,cc,cl⟩,rfl⟩ H;replace H:=H.l7;replace H:=H.f5;obtain ⟨e0,⟨f9,c1⟩,H⟩:=DX H (λh q=>EG q (a1 _) ⟨cg,cc,cl⟩);replace H:=H.l6;refine Z2 24 [4,1,1,0] H Z (Au Z (call195 _) (Tj (F 0) (λh q=>c1.le q)) H.f5 ?_);rintro _ w _ (⟨hh,v1,rfl,rfl⟩|⟨hh,rfl,rfl⟩) a
 ·have H:=a.l7
  refine Zc 1 Z ?_;obtain ⟨a4,a3,rfl⟩:=H.sy 0 (·.slc);have H:Sep z (grow 3 1 (.slice a4 (BI (F 0)) a3) (BI (F 0)) (hN (F 0) (BI (F 0)))::tblA pt::poolA e0::lgB m pd pt s t p us b c::diskA pd D::blk b2 [I 0,.slice none 0 0] 165::blk b1 [I 0,.slice none 0 0] 165::R) w:=H;replace H:=H.f2;obtain ⟨d6,⟨g0,e5⟩,H⟩:=DX H (λh q=>q.rd);replace H:=H.l6;have f3:=hh.2.2.2.1;refine Zc 2 Z (AU Z (Ce (P:=prog) H Z (zs:=[I 0,I 0,.slice none 0 0,u32 0]) J) ?_);rintro _ w ⟨b3,rfl,H⟩;replace H:=H.l7;refine Z4 6 [0] H Z ?_;intro w H;refine Bu (Sep z _) J J H.drew (DS 13 [0,0,2,3,1] (λ_ hx=>(AN (hx.blk 0 Z) (AN (hx.blk 3 Z) AH))) Z J Z (B8 56 Z (λh1=>?_) (λh1=>?_)))
  ·refine BS 25 [] Z J (BB (λw a=>?_));have H:=a.l7;refine gn (Z4 10 [5,2,6] H Z ?_);intro w H;refine Zl [6,2] H Z ?_;exact ⟨_,.inl ⟨λims=>by rintro ⟨q1,q2,q3,q4,q5,l,q7⟩;first|exact hh q1|(exfalso;simp only[Cr,Cs] at q2 q3;omega)|exact absurd (l i U).1 hi|(have q8:=l i U;simp only[Fy,Fz,Co,Cr,Cs] at *;exfalso;omega)|exact absurd (show Bh (Eb F (BI (F 0)))=DL (F 0) from q7) ‹_›,rfl,rfl⟩,H.perm 7 [3,2,4] rfl rfl⟩
  refine DS 9 [1,0,10,1] (λ_ hx=>(AN (hx.blk 0 Z) (AN (hx.blk 3 Z) AH))) Z J Z (B8 65 Z (λh2=>?_) (λh2=>?_))
  ·refine BS 16 [] Z J (BB (λw a=>?_));have H:=a.l7;refine gn (Z4 10 [5,2,6] H Z ?_);intro w H;refine Zl [6,2] H Z ?_;exact ⟨_,.inl ⟨λims=>by rintro ⟨q1,q2,q3,q4,q5,l,q7⟩;first|exact hh q1|(exfalso;simp only[Cr,Cs] at q2 q3;omega)|exact absurd (l i U).1 hi|(have q8:=l i U;simp only[Fy,Fz,Co,Cr,Cs] at *;exfalso;omega)|exact absurd (show Bh (Eb F (BI (F 0)))=DL (F 0) from q7) ‹_›,rfl,rfl⟩,H.perm 7 [3,2,4] rfl rfl⟩
  refine Ha 16 [2,0,0,2,6,3,0,11,3,0,0] [1+((BI (F 0):Nat):Int),s.len-us] Z J U (BB (λw a=>?_));have H:=a.l7;refine gn (Zc 1 Z (Af Z (λh3=>?_) (λh3=>?_)))
  ·refine Z4 8 [5,2,6] H Z ?_;intro w H;refine Zl [6,2] H Z ?_;exact ⟨_,.inl ⟨λims=>by rintro ⟨q1,q2,q3,q4,q5,l,q7⟩;first|exact hh q1|(exfalso;simp only[Cr,Cs] at q2 q3;omega)|exact absurd (l i U).1 hi|(have q8:=l i U;simp only[Fy,Fz,Co,Cr,Cs] at *;exfalso;omega)|exact absurd (show Bh (Eb F (BI (F 0)))=DL (F 0) from q7) ‹_›,rfl,rfl⟩,H.perm 7 [3,2,4] rfl rfl⟩
  refine Zc 14 Z ?_;replace H:=(H.nilg 47 1).l8;refine Z2 8 [2,1,0] H Z ?_;refine AF (σ:=Nat×Value×List Value×Hp) (λ⟨i,v,a0,hq⟩=>[(86,I (i:Int)),(9,u32 (Bh (Eb F i))),(10,v),(0,Y m),(2,Y b1),(4,Y b2),(7,Y b3),(85,I ((BI (F 0):Nat):Int))])
    (λ⟨i,v,a0,hq⟩ w=>Sep z (grow 47 1 v i a0::blk b3 [I (Cr (F 0)),I (Cs (F 0)),.slice a4 (BI (F 0)) a3,u32 (DL (F 0))] 286::poolA hq::tblA pt::lgB m pd pt s t p us b c::diskA pd D::blk b2 [I 0,.slice none 0 0] 165::blk b1 [I 0,.slice none 0 0] 165::R) w/\(i<=BI (F 0)/\a0.length=i/\CL d6 hq/\∀(j:Nat) (pv:Value),a0[j]?=some pv->rdH 1 pv 256 ((F (1+j)).map u8) hq)) (λ⟨i,v,a0,hq⟩=>BI (F 0)-i) ⟨0,.slice none 0 0,[],d6⟩
    (λ_ hF=>(hF.co Z (by go_num) (hF.co Z (AdO F) hF.cz))) ⟨H,by omega,Z,λk o e=>e,λj pv h=>by simp at h⟩ ?_
  clear H;rintro ⟨i,v,a0,hq⟩ w ⟨a,hI⟩;dsimp only at hI a ⊢;have H:=a.l8;have sv:=H.sy 0 (·.slc);obtain ⟨e6,d4,b0,a8⟩:=hI;refine Z0 6 [0] Z (Af Z (λh4=>?_) (λh4=>?_))
  ·have e4:i<BI (F 0):=by omega
   refine Z3 20 [9,4,0] [t+1,(t+1)+(i:Int)] H Z U (Au Z (call194 _) (Qk c7 hr U (F (1+i)) (by rw[hF];congr 2;omega)) H.f5.f5 ?_);rintro _ w _ ⟨g,c3,rest,rfl,⟨cg,cc,cl⟩,rfl⟩ H;replace H:=H.l9;replace H:=H.f5;obtain ⟨e7,⟨a9,a5⟩,H⟩:=DX H (λh q=>EG q (a1 _) ⟨cg,cc,cl⟩);replace H:=H.l8;refine Z2 25 [4,1,1,0] H Z (z_E_ Z (call196 _) (Yw 256 (F (1+i)) (a1 _) (λh q=>a5.le q)) H.f5 ?_);intro w H;refine Zc 6 Z (AU Z (AP H Z J KL Z (by decide) (by decide) (out:=[.slice (some ⟨g,0,none⟩) 256 c3]) J) ?_);rintro _ w ⟨b4,rfl,H⟩;replace H:=H.l9;refine AU Z (AX 5 H Z Z J KL Z Z (H.rv 0 (·.rd U U O Z)) (by simp[Value.oneCell']) U) ?_;rintro v5 w H;replace H:=H.l9;have g4:=H.sy 5 (·.slc);refine Z1 8 [] [(i:Int)+1] Z U ?_;replace H:=H.d.f7.f7.f5.f5.f4.f5.f7.f7;refine gf ?_;intro _ hF;refine ⟨⟨i+1,v5,a0++[.slice (some ⟨g,0,none⟩) 256 c3],e7⟩,(hF.co Z (by go_num) (hF.co Z (congrArg u32 (U4 F i)) (hF.all Z))),⟨H,?_⟩,?_⟩
   ·refine ⟨by omega,by simp[d4],λk o e=>a9 k o (b0 k o e),λj pv h=>?_⟩;rcases Aeu j i with q|q
    ·rw[Aep U] at h;exact (a8 j pv h).le a9
    rw[Aev U] at h;obtain rfl:j=i:=by have:=(Aee.1 h).1;simp at this;omega
    simp[d4] at h;subst h;exact a5
   omega
  obtain rfl:i=BI (F 0):=by omega
  refine Zc 2 Z (gx (Zc 3 Z ?_));obtain ⟨c4,c9,rfl⟩:=H.sy 0 (·.slc);have H:Sep z (grow 47 1 (.slice c4 (BI (F 0)) c9) (BI (F 0)) a0::blk b3 [I (Cr (F 0)),I (Cs (F 0)),.slice a4 (BI (F 0)) a3,u32 (DL (F 0))] 286::poolA hq::tblA pt::lgB m pd pt s t p us b c::diskA pd D::blk b2 [I 0,.slice none 0 0] 165::blk b1 [I 0,.slice none 0 0] 165::R) w:=H;replace H:=H.f2;obtain ⟨d7,⟨b5,c6⟩,H⟩:=DX H (λh q=>q.rd);replace H:=H.l7;have a7:=e5.le (λk o e=>b5 k o (b0 k o e));replace H:=(H.nilg 167 3).l8;refine Za 6 [10,4,0] H Z ?_;intro b6 w H;refine Z4 12 [0] H Z ?_;intro w H;refine AF (σ:=Nat×Value×List ImE×Hp) (λ⟨i,v,es,a2⟩=>[(124,I (i:Int)),(0,Y m),(2,Y b1),(4,Y b2),(7,Y b3),(9,u32 (Bh (Eb F (BI (F 0))))),(14,Y b6),(122,.slice c4 (BI (F 0)) c9),(123,I ((BI (F 0):Nat):Int))])
    (λ⟨i,v,es,a2⟩ w=>Sep z (blk b6 [I p,v] 165::grow 167 3 v i (Gq es)::poolA a2::blk b3 [I (Cr (F 0)),I (Cs (F 0)),.slice a4 (BI (F 0)) a3,u32 (DL (F 0))] 286::tblA pt::lgB m pd pt s t p us b c::diskA pd D::blk b2 [I 0,.slice none 0 0] 165::blk b1 [I 0,.slice none 0 0] 165::R) w/\(i<=BI (F 0)/\es.length=i/\es.map Prod.fst=(List.range i).map (λj=>Co (F (1+j)))/\CL d7 a2/\imesOk es a2/\∀j,j<i->IW (F (1+j))/\Fy (F (1+j))=s.epoch/\Fz (F (1+j))=p/\(Co (F (1+j))).num=Eu (F 0) j/\Bh (Eb F (BI (F 0)))=DL (F 0))) (λ⟨i,v,es,a2⟩=>BI (F 0)-i) ⟨0,.slice none 0 0,[],d7⟩
    fr_z ⟨H,by omega,Z,Z,λk o e=>e,λe he=>absurd he O,λj h=>by omega⟩ ?_
  clear H;rintro ⟨i,v,es,a2⟩ w ⟨a,hI⟩;dsimp only at hI a ⊢;have H:=a.l9;have sv:=H.sy 1 (·.slc);obtain ⟨e6,e9,d3,x,c8,y⟩:=hI;refine Z0 6 [0] Z (Af Z (λh5=>?_) (λh5=>?_))
  ·have e4:i<BI (F 0):=by omega
   refine Zc 5 Z ?_;obtain ⟨pv,c5⟩:∃pv,a0[i]?=some pv:=⟨_,Aef U⟩;have b9:=(a8 i pv c5).le (λk o e=>x k o (b5 k o e));obtain ⟨sb,so,sc,rfl⟩:=b9.sl (by rw[Aei,a1];decide);have c0:=(H.rv 2 (λq=>(c6.le x).le q)).at (j:=i) c5;have d5:=(H.rv 2 (λq=>(a7.le x).le q)).at (j:=i) (u:=I (Eu (F 0) i)) (by simp[hN,show i<BI (F 0) from by omega]);refine Zc 2 Z (Ad Z (Aj Z (z:=1) (j:=i) (r:=i) J Z Z Z U c0 U) (Ad Z (Ax Z Z J (AB c0)) (Z2 11 [1,5,0] H Z (Au Z (call197 _) (RC (F (1+i)) (λh q=>b9.le q)) H.f2.f4 ?_))));rintro _ w _ (⟨hi,g3,f,d9,rfl,⟨f0,e2,e8⟩,rfl⟩|⟨hi,rfl,rfl⟩) a
   ·have H:=a.l10;refine Zc 1 Z ?_;replace H:=H.f2;obtain ⟨d1,⟨a6,c2⟩,H⟩:=DX H (λh q=>EG q (by simp[a1]) ⟨f0,e2,e8⟩);replace H:=H.l9;refine Za 4 [] H Z ?_;intro b7 w H;refine Z4 8 [0] H Z ?_;intro w H;refine Bu (Sep z _) J J H.drew (DS 9 [0,0] (λ_ hx=>(AN (hx.blk 5 Z) AH)) Z J Z (B8 148 Z (λh6=>?_) (λh6=>?_)))
    ·refine BS 21 [] Z J (BB (λw a=>?_));have H:=a.l10;refine gn (Z4 10 [8,2,9] H Z ?_);intro w H;refine Zl [9,2] H Z ?_;exact ⟨_,.inl ⟨λims=>by rintro ⟨q1,q2,q3,q4,q5,l,q7⟩;first|exact hh q1|(exfalso;simp only[Cr,Cs] at q2 q3;omega)|exact absurd (l i U).1 hi|(have q8:=l i U;simp only[Fy,Fz,Co,Cr,Cs] at *;exfalso;omega)|exact absurd (show Bh (Eb F (BI (F 0)))=DL (F 0) from q7) ‹_›,rfl,rfl⟩,H.perm 10 [6,2,7] rfl rfl⟩
    refine DS 6 [1,0] (λ_ hx=>(AN (hx.blk 5 Z) AH)) Z J Z (B8 154 Z (λh7=>?_) (λh7=>?_))
    ·refine BS 15 [] Z J (BB (λw a=>?_));have H:=a.l10;refine gn (Z4 10 [8,2,9] H Z ?_);intro w H;refine Zl [9,2] H Z ?_;exact ⟨_,.inl ⟨λims=>by rintro ⟨q1,q2,q3,q4,q5,l,q7⟩;first|exact hh q1|(exfalso;simp only[Cr,Cs] at q2 q3;omega)|exact absurd (l i U).1 hi|(have q8:=l i U;simp only[Fy,Fz,Co,Cr,Cs] at *;exfalso;omega)|exact absurd (show Bh (Eb F (BI (F 0)))=DL (F 0) from q7) ‹_›,rfl,rfl⟩,H.perm 10 [6,2,7] rfl rfl⟩
    refine DS 5 [0,0,2,1] (λ_ hx=>(AN (hx.blk 0 Z) (AN (hx.blk 5 Z) AH))) Z J Z (AM Z Z Z (Aj Z (z:=1) (j:=i) (r:=i) J Z Z Z U d5 U) (AM Z Z Z (Ax Z Z J (λ_ hx=>(hx.rd 1 Z (λh q=>(a7.le (λk o e=>a6 k o (x k o e))).le q)).at (j:=i) (u:=I (Eu (F 0) i)) (by simp[hN,show i<BI (F 0) from by omega]))) (BS 3 [] Z J (B8 164 Z (λh8=>?_) (λh8=>?_)))))
    ·refine BS 5 [] Z J (BB (λw a=>?_));have H:=a.l10;refine gn (Z4 10 [8,2,9] H Z ?_);intro w H;refine Zl [9,2] H Z ?_;exact ⟨_,.inl ⟨λims=>by rintro ⟨q1,q2,q3,q4,q5,l,q7⟩;first|exact hh q1|(exfalso;simp only[Cr,Cs] at q2 q3;omega)|exact absurd (l i U).1 hi|(have q8:=l i U;simp only[Fy,Fz,Co,Cr,Cs] at *;exfalso;omega)|exact absurd (show Bh (Eb F (BI (F 0)))=DL (F 0) from q7) ‹_›,rfl,rfl⟩,H.perm 10 [6,2,7] rfl rfl⟩
    refine DS 3 [3,0] (λ_ hx=>(AN (hx.blk 5 Z) AH)) Z J Z (AM Z Z Z (XO (k:=.u32) Z J Z Z) (BS 1 [] Z J (BB (λw a=>?_))));have H:=a.l10;refine gn (Zc 1 Z (Af Z (λh9=>?_) (λh9=>?_)))
    ·refine Z4 8 [8,2,9] H Z ?_;intro w H;refine Zl [9,2] H Z ?_;exact ⟨_,.inl ⟨λims=>by rintro ⟨q1,q2,q3,q4,q5,l,q7⟩;first|exact hh q1|(exfalso;simp only[Cr,Cs] at q2 q3;omega)|exact absurd (l i U).1 hi|(have q8:=l i U;simp only[Fy,Fz,Co,Cr,Cs] at *;exfalso;omega)|exact absurd (show Bh (Eb F (BI (F 0)))=DL (F 0) from q7) ‹_›,rfl,rfl⟩,H.perm 10 [6,2,7] rfl rfl⟩
    refine Z2 6 [1,3,0,0,3] H Z (AU Z (AP H Z J DB Z (by decide) (by decide) (out:=[I ((Co (F (1+i))).num),I ((Co (F (1+i))).kind),.slice (some ⟨g3,0,none⟩) 240 f]) J) ?_);rintro _ w ⟨b8,rfl,H⟩;replace H:=H.l11;refine AU Z (AX 5 H Z Z J DB Z Z (H.rv 0 (·.rd U U O Z)) (by simp[Value.oneCell']) U) ?_;rintro v9 w a;have a:Sep z (blk b8 [I ((Co (F (1+i))).num),I ((Co (F (1+i))).kind),.slice (some ⟨g3,0,none⟩) 240 f] 167::blk b7 [I ((Co (F (1+i))).num),I ((Co (F (1+i))).kind),.slice (some ⟨g3,0,none⟩) 240 f] 167::poolA d1::tblA pt::blk b6 [I p,v] 165::grow 167 3 v9 (i+1) (Gq es++[I ((Co (F (1+i))).num),I ((Co (F (1+i))).kind),.slice (some ⟨g3,0,none⟩) 240 f])::blk b3 [I (Cr (F 0)),I (Cs (F 0)),.slice a4 (BI (F 0)) a3,u32 (DL (F 0))] 286::lgB m pd pt s t p us b c::diskA pd D::blk b2 [I 0,.slice none 0 0] 165::blk b1 [I 0,.slice none 0 0] 165::R) w:=a;have e1:(Gq es++[I ((Co (F (1+i))).num),I ((Co (F (1+i))).kind),.slice (some ⟨g3,0,none⟩) 240 f]:List Value)=Gq (es++[(Co (F (1+i)),.slice (some ⟨g3,0,none⟩) 240 f)]):=Oe es (Co (F (1+i)),.slice (some ⟨g3,0,none⟩) 240 f);rw[e1] at a;have H:=a.l11;have d0:=H.sy 5 (·.slc);refine Z0 1 [1] Z (AC Z Z (Lw 4 H Z Z Z Z d0.cells d0.one J) ?_);rintro w H;replace H:=H.l11;refine Z1 7 [] [(i:Int)+1] Z U ?_;replace H:=H.f1.d.d.f8.f8.f8.f8.f5.f8.f6.f8.f8;refine gf ?_;intro _ hF;refine ⟨⟨i+1,v9,es++[(Co (F (1+i)),.slice (some ⟨g3,0,none⟩) 240 f)],d1⟩,hF.cz,⟨H,?_⟩,?_⟩
    ·refine ⟨by omega,by simp[e9],by simp[d3,Ahb],λk o e=>a6 k o (x k o e),?_,λj hj=>?_⟩
     ·intro e he;rcases Aes.1 he with q|q
      ·exact (c8 e q).le a6
      rw[Afv.1 q];simpa [Co,a1] using c2
     rcases Aeu j i with q|q
     ·exact y j q
     obtain rfl:j=i:=by omega
     simp only[Fy,Fz,Cr,Cs,Co] at *;exact ⟨hi,by omega,by omega,by omega,AgL ‹_›⟩
    omega
   have H:=a.l9;refine Za 5 [] H Z ?_;intro g8 w H;refine Z4 8 [0] H Z ?_;intro w H;refine Bu (Sep z _) J J H.drew (BS 30 [] Z J (BB (λw a=>?_)));have H:=a.l10;refine gn (Z4 10 [8,2,9] H Z ?_);intro w H;refine Zl [9,2] H Z ?_;exact ⟨_,.inl ⟨λims=>by rintro ⟨q1,q2,q3,q4,q5,l,q7⟩;first|exact hh q1|(exfalso;simp only[Cr,Cs] at q2 q3;omega)|exact absurd (l i U).1 hi|(have q8:=l i U;simp only[Fy,Fz,Co,Cr,Cs] at *;exfalso;omega)|exact absurd (show Bh (Eb F (BI (F 0)))=DL (F 0) from q7) ‹_›,rfl,rfl⟩,H.perm 10 [6,1,7] rfl rfl⟩
  obtain rfl:i=BI (F 0):=by omega
  refine Zc 2 Z (gx (Z2 5 [0,2] H Z (AC Z Z (Am 8 H Z Z Z Z (vs:=[I p,v]) Z (Ab Z (Ab sv.one Aw)) J O (out:=[I p,v]) Z) ?_)));rintro w H;replace H:=H.l9;refine Zc 4 Z (Zl [8,2] H Z ?_);replace H:=H.f1.f2;obtain ⟨e3,⟨d8,d2⟩,H⟩:=DX H (λh q=>q.rd);replace H:=H.l8;exact ⟨_,.inr ⟨_,v,e3,⟨hh,by unfold Cr;omega,by unfold Cs;omega,by omega,Z,λj hj=>⟨(y j hj).1,(y j hj).2.1,(y j hj).2.2.1,(y j hj).2.2.2.1⟩,(y 0 U).2.2.2.2⟩,Z,⟨es,d3,by simpa using d2,c8.le d8⟩,Z⟩,H.perm 8 [0,4,3,5] Z Z⟩
 have H:=a.l6;refine Zc 3 Z (AU Z (Ce (P:=prog) H Z (zs:=[I 0,I 0,.slice none 0 0,u32 0]) J) ?_);rintro _ w ⟨g1,rfl,H⟩;replace H:=H.l7;refine Z4 6 [0] H Z ?_;intro w H;refine Bu (Sep z _) J J H.drew (BS 38 [] Z J (BB (λw a=>?_)));have H:=a.l7;refine gn (Z4 10 [5,2,6] H Z ?_);intro w H;refine Zl [6,2] H Z ?_;exact ⟨_,.inl ⟨λims=>by rintro ⟨q1,q2,q3,q4,q5,l,q7⟩;first|exact hh q1|(exfalso;simp only[Cr,Cs] at q2 q3;omega)|exact absurd (l i U).1 hi|(have q8:=l i U;simp only[Fy,Fz,Co,Cr,Cs] at *;exfalso;omega)|exact absurd (show Bh (Eb F (BI (F 0)))=DL (F 0) from q7) ‹_›,rfl,rfl⟩,H.perm 7 [3,1,4] rfl rfl⟩
theorem Ql(s:Sup)(b:s.Ok (D.n:Int)):Ak 97 [Y i,Y j,.agg #[I s.gen,I s.epoch,I s.pages,I s.start,I s.len,I s.head,I s.seq]] [diskA i D] (λv G=>∃a,v=Y a/\G=[lgB a i j s s.head s.seq 0 false (decide (s.epoch<4294967296)),diskA i D]):=by
 refine Cn.mono (Cn.onDisk (post:=λv Γ=>∃a,v=Y a/\Γ=[lgB a i j s s.head s.seq 0 false (decide (s.epoch<4294967296))]) (λc bd m f0=>?_)) ?_
 ·have d:=c.n2
  refine Cn.mono (Yv i bd m (D.n*256) f0 D.f1 D.f2 D.f3 D.left D.cut j s U (by rw[show ((D.n*256:Nat):Int)/256=(D.n:Int) from by omega];exact b)) ?_;rintro v Γ ⟨a,rfl,rfl⟩;exact ⟨_,⟨a,Z,Z⟩,Z⟩
 rintro v Γ ⟨Γ',⟨a,rfl,rfl⟩,rfl⟩;exact ⟨a,Z,Z⟩
set_option maxHeartbeats 1000000 in
theorem Abu (s:Sup) (p:s.Ok (D.n:Int)) (b0:D.f1=0):Ak 95 [Y m,Y i,.agg #[I s.gen,I s.epoch,I s.pages,I s.start,I s.len,I s.head,I s.seq]] [tblA i,diskA m D] (λv G=>∃x rs a q u v' hq,v=.tuple #[Y x,v',I 0]/\Runs D s s.head s.seq 0 rs a q u/\(s.len<=u\/∀ims,¬nextP (Dk D s a) s.epoch q (s.len-u) ims)/\recsH v' rs hq/\G=[poolA hq,lgB x m i s a q u false (decide (s.epoch<4294967296)),tblA i,diskA m D]):=by
 intro z R w H;have c1:=H.sy 1 (λq=>(diskA.ok q).n2);have b9:=Sup.get p;have hr:0<=s.start/\0<s.len/\s.start+s.len<=D.n:=by have:=p.2;omega
 have c0:=p.2.2.2.2.2.2.2;refine Ae func95 Z ntmps95 Z (Za 2 [] H Z ?_);intro b1 w H;refine Z2 10 [0,7] H Z (Au Z (call97 _) (Ql s p) H.f2 ?_);rintro _ w _ ⟨x,rfl,rfl⟩ H;refine Zc 17 Z ?_;replace H:=(H.nilg 165 2).l5;replace H:=(Rz H).l6;refine Zc 3 Z ?_;refine AF (σ:=List RcE×Value×Int×Int×Int×Hp) (λ⟨es,v,a,q,u,hq⟩=>[(10,v),(5,Y b1),(9,Y x)])
   (λ⟨es,v,a,q,u,hq⟩ w=>Sep z (poolA hq::grow 165 2 v es.length (IX es)::lgB x m i s a q u false (decide (s.epoch<4294967296))::diskA m D::blk b1 [I s.gen,I s.epoch,I s.pages,I s.start,I s.len,I s.head,I s.seq] 148::tblA i::R) w/\(Runs D s s.head s.seq 0 (es.map Prod.fst) a q u/\rcesOk es hq/\(0<=a/\a<=4096)/\(s.seq<=q/\q<=s.seq+u)/\(0<=u/\u<=s.len)/\es.length<=u)) (λ⟨es,v,a,q,u,hq⟩=>(s.len-u).toNat) ⟨[],.slice none 0 0,s.head,s.seq,0,(λ_=>none)⟩
   fr_z ⟨H,.nil _ _ _,λe he=>absurd he O,by omega,by omega,by omega,by simp⟩ ?_
 clear H;rintro ⟨es,v,a,q,u,hq⟩ w ⟨c,hI⟩;dsimp only at hI c ⊢;have H:=c.l6;obtain ⟨o,g,ha,a6,hu,b8⟩:=hI;refine Zc 2 Z (Bu (Sep z _) J J H.drew (DS 7 [11,0,4,1] (λ_ hx=>(AN (hx.blk 2 Z) (AN (hx.blk 4 Z) AH))) Z J Z (BB (λw c=>?_))));have H:=c.l6;refine gn (Zc 1 Z (Af Z (λh1=>?_) (λh1=>?_)))
 ·refine Zc 6 Z (Au Z (call154 _) (Abt b0 hr U U U (Dk D s a) (λj=>rfl)) H.f3.f5.f4 ?_);rintro _ w _ (⟨a5,rfl,rfl⟩|⟨ims,f,a6,t,rfl,a2,rfl⟩) c
  ·have H:=c.l6
   refine Za 3 [] H Z ?_;intro b2 w H;refine Z4 27 [0,4,1,0,0,3] H Z ?_;intro w H;refine gx (Zc 12 Z (Zr Z ?_));replace H:=H.f5.f5;obtain ⟨y,⟨k,l⟩,H⟩:=DX H (λh q=>q.rd);exact ⟨_,⟨x,es.map Prod.fst,a,q,u,v,y,Z,o,by first|exact .inl U|exact .inr a5,⟨es,rfl,by simpa using l,g.le k⟩,rfl⟩,H.perm 6 [0,2,3,4] rfl rfl⟩
  have H:=c.l7;obtain ⟨a7,b5,a4⟩:=a2.slc;have r:Slc f ims.length:=⟨a7,b5,a4⟩;clear a4;have b6:=t.len;refine Za 3 [] H Z ?_;intro b3 w H;refine AC Z Z (Am 0 H Z Z Z Z (vs:=[I q,f]) Z (Ab Z (Ab r.one Aw)) J O (out:=[I q,f]) Z) ?_;rintro w H;refine Zc 5 Z ?_;replace H:=H.f1.f5;obtain ⟨a3,⟨a1,a0⟩,H⟩:=Od H (M:=imgsH f ims) (λh q=>a2.le q) (λ_ _ a b=>a.le b);refine Z2 13 [4,1,1,0] H Z (Ad Z (Ee Z (sz:=3) J Z r) (Z0 3 [0] Z (Af Z (λh2=>U) (λh2=>?_))));refine Z2 6 [1,2] H Z (AU Z (AP H Z J Fx Z (by decide) (by decide) (out:=[I q,f]) J) ?_);rintro _ w ⟨b4,rfl,H⟩;refine AU Z (AX 6 H Z Z J Fx Z Z (H.rv 0 (·.rd U U O Z)) (Ab Z (Ab r.one Aw)) U) ?_;rintro v5 w c;have c:Sep z (blk b4 [I q,f] 165::poolA a3::blk b3 [I q,f] 165::lgB x m i s a q u false (decide (s.epoch<4294967296))::tblA i::diskA m D::grow 165 2 v5 (es.length+1) (IX es++[I q,f])::blk b1 [I s.gen,I s.epoch,I s.pages,I s.start,I s.len,I s.head,I s.seq] 148::R) w:=c;have a8:(IX es++[I q,f]:List Value)=IX (es++[(⟨q,ims⟩,f)]):=U3 es (⟨q,ims⟩,f);rw[a8] at c;rw[show (es.length+1:Nat)=(es++[((⟨q,ims⟩:Rc),f)]).length from by simp] at c;have H:=c.l8;refine Z2 7 [1,2,0] H Z (Ad Z (Ee Z (sz:=3) J Z r) (Z1 1 [] [1+(ims.length:Int)] Z U (z_E_ Z (call155 _) (Ke U U U U U) H.f3 ?_)));intro w H;refine Zc 2 Z ?_;replace H:=H.f3.d.f1.d.f2.f5.f4.f3.f5.f5;refine gf ?_;intro _ hF;refine ⟨⟨es++[(⟨q,ims⟩,f)],v5,(a+(1+(ims.length:Int)))%s.len,q+1,u+(1+(ims.length:Int)),a3⟩,(hF.all Z),⟨H,?_⟩,?_⟩
  ·dsimp only
   have c3:=Agn (a+(1+(ims.length:Int))) (by omega:s.len≠0);have b7:=Af6 (a+(1+(ims.length:Int))) (by omega:0<s.len);refine ⟨?_,?_,by omega,by omega,by omega,by simp;omega⟩
   ·rw[AeK];exact .snoc o U t
   intro e he;rcases Aes.1 he with q|q
   ·exact (g e q).le a1
   rw[Afv.1 q];exact a0
  (dsimp only;omega)
 refine Zc 2 Z (gx (Zc 12 Z (Zr Z ?_)));obtain ⟨y,⟨k,l⟩,H⟩:=DX H (λh q=>q.rd);exact ⟨_,⟨x,es.map Prod.fst,a,q,u,v,y,Z,o,by first|exact .inl U|exact .inr a5,⟨es,rfl,by simpa using l,g.le k⟩,rfl⟩,H.perm 5 [0,1,4,2] rfl rfl⟩
set_option maxHeartbeats 1000000 in
theorem Vm {pd o:Nat} {s:Sup} {us:Int} {br nu:Bool} {ims:List Img} (hA:∀h,A h->imgsH v ims h) (b0:nu=decide (s.epoch<4294967296)) (c2:0<=s.epoch/\s.epoch<=1099511627776) (c6:0<=p/\p<=2199023255552) (c3:1<=ims.length/\ims.length<=40) (c5:0<=s.len/\s.len<=1099511627776) (hu:0<=us/\us<=2199023255552):Ak 201 [Y g,v] [lgB g pd o s t p us br nu,tblA o,A] (λv G=>(¬EH ims/\v=.tuple #[.slice none 0 0,I 1]/\G=[lgB g pd o s t p us br nu,tblA o,A])\/(EH ims/\¬(1+(ims.length:Int)<=(if br then 0 else s.len-us)/\nu=true/\p<1099511627776)/\v=.tuple #[.slice none 0 0,I 15]/\G=[lgB g pd o s t p us br nu,tblA o,A])\/(EH ims/\(1+(ims.length:Int)<=(if br then 0 else s.len-us)/\nu=true/\p<1099511627776)/\∃v',v=.tuple #[v',I 0]/\G=[grow 5 1 v' ((1+ims.length)*256) ((BE s.epoch p ims).flatten.map u8),lgB g pd o s t p us br nu,tblA o,A])):=by
 intro z R w H;obtain ⟨ao,ic,rfl⟩:=H.sy 2 (λq=>(hA _ q).slc);obtain ⟨es,a7,l⟩:=Sep.imA 2 H Z hA;clear H;have d0:es.length=ims.length:=by rw[<-a7];simp
 have H:=l.l3;refine Ae func201 Z ntmps201 Z (Zc 13 Z (AU Z (F9 H Z) ?_));rintro _ w ⟨m1,rfl,H⟩;refine Zc 4 Z ?_;replace H:=H.f1;refine AS (Sep z (lgB g pd o s t p us br nu::R)) 12 Z J (A4 H λw l=>?_);have H:=l.l4;refine AZ [0,1,2,3,4,5,6,7,8] [2,3,0,0,10,0,0] [] (by exact H.pick 4 [0] Z) Z J Z (BQ 9 Z J J J Z Z Z (Be Z Z (out:=[I s.epoch,I p,.slice none 0 0,u32 0]) J) (H.pick 4 [0] Z) (AE [10] J O (Al (BU Z Z Z Z (Ce (P:=prog) H Z (zs:=[I 0,I 0,.slice none 0 0,u32 0]) J) ?_))));rintro _ w ⟨b2,rfl,H⟩;refine Az (H.pick 5 [1] Z) (AE [11] J O (Al (Bl Z Z Z (Am 0 H Z Z Z Z (vs:=[I s.epoch,I p,.slice none 0 0,u32 0]) Z (by simp[u8,u32,Value.oneCell']) J O (out:=[I s.epoch,I p,.slice none 0 0,u32 0]) Z) ?_)));rintro w H;refine Az (H.pick 5 [1] Z) (a_done J (gn (Zc 8 Z ?_)));replace H:=(H.nilg 3 1).l6;refine Zc 2 Z ?_;refine AF (σ:=Nat×Value) (λ⟨i,u⟩=>[(32,I (i:Int)),(0,Y g),(1,.slice ao ims.length ic),(6,.slice none 0 0),(7,.map (some m1)),(8,Y b2),(30,.slice ao ims.length ic),(31,I (ims.length:Int))])
   (λ⟨i,u⟩ w=>Sep z (grow 3 1 u i (FA (ims.take i))::blk b2 [I s.epoch,I p,u,u32 0] 286::lgB g pd o s t p us br nu::AJ m1 (seen ((ims.take i).map Img.num)) (((ims.take i).map Img.num).length)::tblA o::imA A (.slice ao ims.length ic) es::R) w/\(i<=ims.length/\(∀(j:Nat) (m:Img),j<i->ims[j]?=some m->m.Ok)/\((ims.take i).map Img.num).Nodup)) (λ⟨i,u⟩=>ims.length-i) ⟨0,.slice none 0 0⟩
   fr_z ⟨H,by omega,λj m h=>by omega,by simp⟩ ?_
 clear H;rintro ⟨i,u⟩ w ⟨l,hI⟩;dsimp only at hI l ⊢;have H:=l.l6;have c1:=H.sy 0 (·.slc);obtain ⟨c9,a5,a4⟩:=hI;refine Z0 6 [0] Z (Af Z (λh1=>?_) (λh1=>?_))
 ·have c0:i<ims.length:=by omega
  refine Zc 6 Z ?_;obtain ⟨⟨f,bv⟩,he⟩:∃e:ImE,es[i]?=some e:=⟨_,Aef U⟩;have a1:ims[i]?=some f:=by rw[<-a7];simp[he]
  have a8:Slc bv f.body.length:=H.sy 5 (λq=>(q.2.2 _ (Aeg he)).slc);have a3:=imA.at 5 H Z he;have a6:=a3 0 (I f.num) Z;refine Ad Z (Aj Z (z:=3) (j:=i) (r:=i*3) J Z Z Z U a6 U) (Ad Z (Bt Z Z (vs:=[I f.num,I f.kind,bv]) J O (AB a3)) (Za 0 [] H Z ?_));intro b3 w H;refine AC Z Z (Am 0 H Z Z Z Z (vs:=[I f.num,I f.kind,bv]) Z (Ab Z (Ab Z (Ab a8.one Aw))) J O (out:=[I f.num,I f.kind,bv]) Z) ?_;rintro w H;refine Zc 4 Z ?_;replace H:=H.f3;refine AS (Sep z (lgB g pd o s t p us br nu::blk b3 [I f.num,I f.kind,bv] 167::R)) 11 Z J (A4 H λw l=>?_);have H:=l.l7;refine AZ [0,1,2,3,4] [1,0,0,1,3] [] (by exact H.pick 7 [0,1] Z) Z J Z (AE [5] J O (Al (Br Z Z Z Z Z Z (λw=>call157 _ w) (MI f.body (λh q=>q.2.2 _ (Aeg he))) H.f6.f6 Z ?_)));rintro _ w _ (⟨a2,rfl,rfl⟩|⟨a0,pw,rfl,rfl⟩) l
  ·have H:Sep z (tblA o::imA A (.slice ao ims.length ic) es::lgB g pd o s t p us br nu::blk b3 [I f.num,I f.kind,bv] 167::grow 3 1 u i (FA (ims.take i))::blk b2 [I s.epoch,I p,u,u32 0] 286::AJ m1 (seen ((ims.take i).map Img.num)) (((ims.take i).map Img.num).length)::R) w:=l
   clear l;refine Az (H.pick 7 [2,3] Z) (AZ [6,7,8,9,10] [] [] (by exact H.pick 7 [2,3] Z) Z J Z (a_done J (gn (Z0 21 [3] Z (Zr Z ?_)))));replace H:=(H.mono 1 (B:=A) Z (λh q=>q.1)).l7;exact ⟨_,.inl ⟨by rintro ⟨q1,q2⟩;first|exact a2 (q1 f (Aeg a1))|(exact KW q2 a1 ‹_›),rfl,rfl⟩,H.perm 7 [2,0,1] rfl rfl⟩
  have H:Sep z (blk pw (Bb (BD ([80,80,65,71]++Ag 1 f.kind++Ag 4 f.num++[0,0,0]++f.body)) 252) 173::tblA o::imA A (.slice ao ims.length ic) es::lgB g pd o s t p us br nu::blk b3 [I f.num,I f.kind,bv] 167::grow 3 1 u i (FA (ims.take i))::blk b2 [I s.epoch,I p,u,u32 0] 286::AJ m1 (seen ((ims.take i).map Img.num)) (((ims.take i).map Img.num).length)::R) w:=l;clear l;refine Az (H.pick 8 [3,4] Z) (AZ [6,7,8,9,10] [] [] (by exact H.pick 8 [3,4] Z) Z J Z (a_done J (gn (Z2 9 [4,0,4,0] H Z (Ad Z (FO (e:=4) (zv:=.bool false) Z J J Z Z (AB (H.bk 7 Z))) (AD 51 (v:=.bool (decide (f.num∈(ims.take i).map Img.num))) Z (U5) (Zc 3 Z (Af Z (λh2=>?_) (λh2=>?_)))))))))
  ·refine Zc 7 Z (Zr Z ?_);replace H:=(H.mono 2 (B:=A) Z (λh q=>q.1)).l8
   exact ⟨_,.inl ⟨by rintro ⟨q1,q2⟩;first|exact a2 (q1 f (Aeg a1))|(exact KW q2 a1 ‹_›),rfl,rfl⟩,H.perm 8 [3,1,2] rfl rfl⟩
  refine Z2 7 [0,4,0] H Z (AC Z Z (DP 7 (e:=4) H Z Z J Z Z Z) ?_);rintro w H;refine Zc 2 Z ?_;have b5:(ims.take (i+1)).map Img.num=(ims.take i).map Img.num++[f.num]:=by rw[AeQ,a1];simp
  have b1:=U6 (ns:=(ims.take i).map Img.num) (k:=f.num) ‹_›;rw[b1.1,b1.2,<-b5] at H;have H:Sep z (blk pw (Bb (BD ([80,80,65,71]++Ag 1 f.kind++Ag 4 f.num++[0,0,0]++f.body)) 252) 173::tblA o::imA A (.slice ao ims.length ic) es::lgB g pd o s t p us br nu::blk b3 [I f.num,I f.kind,bv] 167::grow 3 1 u i (FA (ims.take i))::blk b2 [I s.epoch,I p,u,u32 0] 286::AJ m1 (seen ((ims.take (i+1)).map Img.num)) (((ims.take (i+1)).map Img.num).length)::R) w:=H;refine Z2 5 [2,6,0,0,4,0] H Z (AU Z (AP H Z J BC Z (by decide) (by decide) (out:=[I f.num]) J) ?_);rintro _ w ⟨b4,rfl,H⟩;refine AU Z (AX 6 H Z Z J BC Z Z (H.rv 0 (·.rd U U O Z)) (by simp[Value.oneCell']) U) ?_;rintro v5 w l;have l:Sep z (blk b4 [I f.num] 3::blk pw (Bb (BD ([80,80,65,71]++Ag 1 f.kind++Ag 4 f.num++[0,0,0]++f.body)) 252) 173::tblA o::imA A (.slice ao ims.length ic) es::lgB g pd o s t p us br nu::blk b3 [I f.num,I f.kind,bv] 167::grow 3 1 v5 (i+1) (FA (ims.take i)++[I f.num])::blk b2 [I s.epoch,I p,u,u32 0] 286::AJ m1 (seen ((ims.take (i+1)).map Img.num)) (((ims.take (i+1)).map Img.num).length)::R) w:=l;have b8:(FA (ims.take i)++[I f.num]:List Value)=FA (ims.take (i+1)):=U7 a1;rw[b8] at l;have H:=l.l9;have a9:=H.sy 6 (·.slc);refine Z0 1 [2] Z (AC Z Z (JZ 7 H Z Z Z Z a9.cells a9.one J) ?_);rintro w H;refine Z1 7 [] [(i:Int)+1] Z U ?_;replace H:=H.f5.d.f1.d.d.f1.f1.f5.f3.f5.f5;refine gf ?_;intro _ hF;refine ⟨⟨i+1,v5⟩,hF.cz,⟨H,?_⟩,?_⟩
  ·dsimp only
   refine ⟨by omega,λj m hj h=>?_,?_⟩
   ·rcases Aeu j i with q|q
    ·exact a5 j m q h
    obtain rfl:j=i:=by omega
    rw[a1] at h;cases h;exact a0
   rw[b5,Afc];exact ⟨a4,by simp,λa ha b hb=>by simp at hb;subst hb;exact λe=>absurd (e▸ha) ‹_›⟩
  (dsimp only;omega)
 obtain rfl:i=ims.length:=by omega
 refine Zc 2 Z (gx (Zc 4 Z ?_));rw[Afa] at H;rw[Afa] at a4;have H:Sep z (grow 3 1 u ims.length (FA ims)::blk b2 [I s.epoch,I p,u,u32 0] 286::lgB g pd o s t p us br nu::AJ m1 (seen (ims.map Img.num)) ((ims.map Img.num).length)::tblA o::imA A (.slice ao ims.length ic) es::R) w:=H;have y:∀m∈ims,m.Ok:=λm hm=>by obtain ⟨j,hj,rfl⟩:=Agd.1 hm;exact a5 j _ hj (Aef hj)
 refine Z1 5 [] [1+(ims.length:Int)] Z U (z_E_ Z (call185 _) (Tk U) H.f2 ?_);intro w H;refine Z0 2 [0] Z (An 70 Z (λh3=>?_) (λh3=>?_))
 ·refine Zc 23 Z (Zr Z ?_);replace H:=(H.mono 5 (B:=A) Z (λh q=>q.1)).l6
  exact ⟨_,.inr (.inl ⟨⟨y,a4⟩,by rintro ⟨q1,q2,q3⟩;first|omega|simp_all,rfl,rfl⟩),H.perm 6 [0,4,5] Z Z⟩
 refine Z2 7 [13,0,0] H Z (FP 77 Z (λh4=>?_) (λh4=>?_))
 ·refine Zc 16 Z (Zr Z ?_);replace H:=(H.mono 5 (B:=A) Z (λh q=>q.1)).l6
  exact ⟨_,.inr (.inl ⟨⟨y,a4⟩,by rintro ⟨q1,q2,q3⟩;first|omega|simp_all,rfl,rfl⟩),H.perm 6 [0,4,5] Z Z⟩
 have b9:nu=true:=by simpa using h4
 have d1:s.epoch<4294967296:=by rw[b9] at b0;simpa using b0.symm
 refine Z2 8 [10,0,0,0] H Z (Af Z (λh5=>?_) (λh5=>?_))
 ·refine Zc 7 Z (Zr Z ?_);replace H:=(H.mono 5 (B:=A) Z (λh q=>q.1)).l6
  exact ⟨_,.inr (.inl ⟨⟨y,a4⟩,by rintro ⟨q1,q2,q3⟩;first|omega|simp_all,rfl,rfl⟩),H.perm 6 [0,4,5] Z Z⟩
 refine Zc 9 Z ?_;replace H:=(H.nilg 5 1).l7;refine Zc 2 Z ?_;refine AF (σ:=Nat×Value) (λ⟨i,v2⟩=>[(86,I (i:Int)),(6,v2),(0,Y g),(8,Y b2),(84,.slice ao ims.length ic),(85,I (ims.length:Int))])
   (λ⟨i,v2⟩ w=>Sep z (grow 5 1 v2 (i*256) ((CO s.epoch p (ims.take i)).map u8)::lgB g pd o s t p us br nu::grow 3 1 u ims.length (FA ims)::blk b2 [I s.epoch,I p,u,u32 0] 286::AJ m1 (seen (ims.map Img.num)) ((ims.map Img.num).length)::tblA o::imA A (.slice ao ims.length ic) es::R) w/\(i<=ims.length)) (λ⟨i,v2⟩=>ims.length-i) ⟨0,.slice none 0 0⟩
   (λ_ hF=>(hF.co Z (by go_num) hF.cz)) ⟨H,by omega⟩ ?_
 clear H;rintro ⟨i,v2⟩ w ⟨l,hI⟩;dsimp only at hI l ⊢;have H:=l.l7;have c8:=H.sy 0 (·.slc);have c4:=hI;clear hI;refine Z0 6 [0] Z (Af Z (λh6=>?_) (λh6=>?_))
 ·have c0:i<ims.length:=by omega
  refine Zc 6 Z ?_;obtain ⟨⟨f,bv⟩,he⟩:∃e:ImE,es[i]?=some e:=⟨_,Aef U⟩;have a1:ims[i]?=some f:=by rw[<-a7];simp[he]
  have a8:Slc bv f.body.length:=H.sy 6 (λq=>(q.2.2 _ (Aeg he)).slc);have a3:=imA.at 6 H Z he;have a6:=a3 0 (I f.num) Z;refine Ad Z (Aj Z (z:=3) (j:=i) (r:=i*3) J Z Z Z U a6 U) (Ad Z (Bt Z Z (vs:=[I f.num,I f.kind,bv]) J O (AB a3)) (Za 0 [] H Z ?_));intro b6 w H;refine AC Z Z (Am 0 H Z Z Z Z (vs:=[I f.num,I f.kind,bv]) Z (Ab Z (Ab Z (Ab a8.one Aw))) J O (out:=[I f.num,I f.kind,bv]) Z) ?_;rintro w H;refine Zc 3 Z ?_;replace H:=H.f4.f3;refine AS (Sep z (lgB g pd o s t p us br nu::blk b2 [I s.epoch,I p,u,u32 0] 286::blk b6 [I f.num,I f.kind,bv] 167::R)) 15 Z J (A4 H λw l=>?_);have H:=l.l8;refine AZ [0,1,2,3,4,5,6,7,8] [1,0,0,0,1,0,1,1,0,2,3] [] (by exact H.pick 8 [0,1,2] Z) Z J Z (AE [9] J O (Al (Br Z Z Z Z Z Z (λw=>call230 _ w) (RB f.body (λh q=>q.2.2 _ (Aeg he))) H.f7.f7 Z ?_)));rintro _ w _ (⟨a2,rfl,rfl⟩|⟨a0,pw,rfl,rfl⟩) l
  ·exact absurd ⟨by omega,by omega,a5 i f U a1⟩ a2
  have H:Sep z (blk pw (Bb (BD (CN s.epoch p f)) 252) 173::tblA o::imA A (.slice ao ims.length ic) es::lgB g pd o s t p us br nu::blk b2 [I s.epoch,I p,u,u32 0] 286::blk b6 [I f.num,I f.kind,bv] 167::grow 5 1 v2 (i*256) ((CO s.epoch p (ims.take i)).map u8)::grow 3 1 u ims.length (FA ims)::AJ m1 (seen (ims.map Img.num)) ((ims.map Img.num).length)::R) w:=l;clear l;refine Az (H.pick 9 [3,4,5] Z) (AZ [10,11,12,13,14] [] [] (by exact H.pick 9 [3,4,5] Z) Z J Z (a_done J (gn (Z0 14 [4] Z (AU Z (AX 6 H Z Z J CM Z Z (H.rv 0 (λq=>HN (lo:=0) (n:=256) (c:=256) (ys:=BD (CN s.epoch p f)) q (sect_len (Agl (GQ a0.2.2.2.2))) U U U (by rw[Aey];exact Aem (Agl (sect_len (Agl (GQ a0.2.2.2.2))))))) (by simp[u8,Value.oneCell']) U) ?_)))));rintro v7 w l;have l:Sep z (blk pw (Bb (BD (CN s.epoch p f)) 252) 173::tblA o::imA A (.slice ao ims.length ic) es::lgB g pd o s t p us br nu::blk b2 [I s.epoch,I p,u,u32 0] 286::blk b6 [I f.num,I f.kind,bv] 167::grow 5 1 v7 ((i*256)+256) ((CO s.epoch p (ims.take i)).map u8++(BD (CN s.epoch p f)).map u8)::grow 3 1 u ims.length (FA ims)::AJ m1 (seen (ims.map Img.num)) ((ims.map Img.num).length)::R) w:=l;have b7:((CO s.epoch p (ims.take i)).map u8++(BD (CN s.epoch p f)).map u8:List Value)=(CO s.epoch p (ims.take (i+1))).map u8:=(by rw[<-AeK,S9 a1]);rw[b7] at l;rw[show ((i*256)+256:Nat)=(i+1)*256 from by omega] at l;have H:=l.l9;refine Z1 8 [] [(i:Int)+1] Z U ?_;replace H:=H.f5.d.d.f1.f1.f6.f4.f6.f5.f6;refine gf ?_;intro _ hF;refine ⟨⟨i+1,v7⟩,hF.cz,⟨H,?_⟩,?_⟩
  ·dsimp only;omega
  (dsimp only;omega)
 obtain rfl:i=ims.length:=by omega
 refine Zc 2 Z (gx (Zc 3 Z ?_));rw[Afa] at H;have H:Sep z (grow 5 1 v2 (ims.length*256) ((CO s.epoch p ims).map u8)::lgB g pd o s t p us br nu::grow 3 1 u ims.length (FA ims)::blk b2 [I s.epoch,I p,u,u32 0] 286::AJ m1 (seen (ims.map Img.num)) ((ims.map Img.num).length)::tblA o::imA A (.slice ao ims.length ic) es::R) w:=H;refine Z2 6 [1,1,0] H Z (z_E_ Z (call231 _) (Xu (CO s.epoch p ims) (Of y) (λh q=>q.rd)) H.f5 ?_);intro w H;refine Z4 5 [3,4] H Z ?_;intro w H;replace H:=H.f4.f3;refine AS (Sep z (lgB g pd o s t p us br nu::blk b2 [I s.epoch,I p,u,u32 (Bh (CO s.epoch p ims))] 286::R)) 11 Z J (A4 H λw l=>?_);have H:=l.l7;refine AZ [0,1,2,3,4] [1,0,0,1,4] [] (by exact H.pick 7 [0,1] Z) Z J Z (AE [5] J O (Al (Br Z Z Z Z Z Z (λw=>call232 _ w) (Ti (ims.map Img.num) (λh q=>by rw[Aei,<-Yn];exact q.rd)) H.f4.f3 Z ?_)));rintro _ w _ (⟨a2,rfl,rfl⟩|⟨a0,pw,rfl,rfl⟩) l
 ·exact absurd ⟨by omega,by omega,by simp;omega,λx hx=>by obtain ⟨m,hm,rfl⟩:=Aen.1 hx;exact (y m hm).1⟩ a2
 have H:Sep z (blk pw (Bb (BD (hdL s.epoch p ims)) ((26+4*(ims.map Img.num).length:Nat):Int)) 173::tblA o::grow 3 1 u ims.length (FA ims)::lgB g pd o s t p us br nu::blk b2 [I s.epoch,I p,u,u32 (Bh (CO s.epoch p ims))] 286::grow 5 1 v2 (ims.length*256) ((CO s.epoch p ims).map u8)::AJ m1 (seen (ims.map Img.num)) ((ims.map Img.num).length)::imA A (.slice ao ims.length ic) es::R) w:=l;clear l;refine Az (H.pick 8 [3,4] Z) (AZ [6,7,8,9,10] [] [] (by exact H.pick 8 [3,4] Z) Z J Z (a_done J (gn (Zc 5 Z (AU Z (SC H Z J CM Z Z (H.rv 0 (λq=>HN (lo:=0) (n:=256) (c:=256) (ys:=BD (hdL s.epoch p ims)) q (sect_len (by rw[hdL_len];omega)) U U U (by rw[Aey];exact Aem (Agl (sect_len (by rw[hdL_len];omega)))))) (H.rv 5 (·.rd)) U (by simp[u8,Value.oneCell']) U) ?_)))));rintro v8 w l;have l:Sep z (grow 5 1 v8 (256+(ims.length*256)) ((BD (hdL s.epoch p ims)).map u8++(CO s.epoch p ims).map u8)::blk pw (Bb (BD (hdL s.epoch p ims)) ((26+4*(ims.map Img.num).length:Nat):Int)) 173::tblA o::grow 3 1 u ims.length (FA ims)::lgB g pd o s t p us br nu::blk b2 [I s.epoch,I p,u,u32 (Bh (CO s.epoch p ims))] 286::grow 5 1 v2 (ims.length*256) ((CO s.epoch p ims).map u8)::AJ m1 (seen (ims.map Img.num)) ((ims.map Img.num).length)::imA A (.slice ao ims.length ic) es::R) w:=l;rw[show ((BD (hdL s.epoch p ims)).map u8++(CO s.epoch p ims).map u8:List Value)=(BE s.epoch p ims).flatten.map u8 from (by rw[<-AeK,Ta])] at l;rw[show (256+(ims.length*256):Nat)=(1+ims.length)*256 from by omega] at l;have H:=l.l9;refine Zc 6 Z (Zr Z ?_);replace H:=(H.mono 8 (B:=A) Z (λh q=>q.1)).l9;exact ⟨_,.inr (.inr ⟨⟨y,a4⟩,⟨by omega,by first|assumption|simp_all,by omega⟩,v8,rfl,rfl⟩),H.perm 9 [0,4,2,8] Z Z⟩
theorem Vn(bs f b c m a:Nat)(t:m*256<=a)(u:a<=9223372036854775807)(s:m<=1099511627776):It prog 191 [Y bs,Y f] [blk bs [.slice (some ⟨b,c,none⟩) (m*256) a] 47,blk f [I 256] 3] (((List.range m).map λi=>Value.slice (some ⟨b,c+i*256,none⟩) 256 256).map λv=>[v]):=by
 intro z l J_ o w d;have H:=d.l2;refine J6 (args:=[.func (.yield l) #[] #[],Y bs,Y f]) func191 Z Z 31 ntmps191 Z ?_;refine CT ?_;refine Cg ?_;refine s_do Z Z Z (AQ Z Z) ?_;refine AT ?_;refine Ea ?_;refine LO (σ:=Nat) (λi=>[(4,I ((i*256:Nat):Int)),(0,.func (.yield l) #[] #[]),(1,Y bs),(2,Y f)])
  (λi w=>Sep z (blk bs [.slice (some ⟨b,c,none⟩) (m*256) a] 47::blk f [I 256] 3::J_ i) w/\(i<=m)) (λi=>m-i) 0
  (λ_ e=>(e.co Z (congrArg I O) (e.all Z))) ⟨H,AeR _⟩ ?_
 clear H;rintro i w ⟨d,j⟩;have H:=d.l2;have n:=j;clear j;refine CT ?_;refine CT ?_;refine Cg ?_;refine s_do Z Z Z (Ck Z Z) ?_;refine s_do Z Z Z (Bn Z Z J (AB (H.cel 0 Z 0 Z))) ?_;refine s_do Z Z Z (F3 Z (z:=1) J Z) ?_;refine s_do Z Z Z (Rb Z Z Z) ?_;refine AT ?_;refine Abc Z (λk=>?_) (λk=>?_)
 ·-- yes:((i*256:Nat):Int)<((m*256:Nat):Int)
  have h:i<m:=by omega
  refine Gw ?_;refine CT ?_;refine Ea ?_;refine CT ?_;refine SR (Sep z _) J J H.drew ?_;refine AM Z Z Z (Bn Z Z J (λ_ g=>g.cel 1 Z 0 Z)) ?_;refine AM Z Z Z (Bn Z Z J (λ_ g=>g.cel 0 Z 0 Z)) ?_;refine AM Z Z Z (Ck Z Z) ?_;refine AM Z Z Z (BM Z (z:=1) (p:=(i*256)) (q:=m*256) (o':=c+i*256) (l':=(m*256-i*256)) (c':=(a-i*256)) J Z (.inr ⟨_,_,_,Z,Z,U⟩) (.inl ⟨Z,Z⟩) U U U U U U) ?_;refine AM Z Z Z (F3 Z (z:=1) J Z) ?_;refine AM Z Z Z (KA Z Z Z) ?_;refine AD 18 (v:=I 256) Z (congrArg I U) ?_;refine AM Z Z Z (AQ Z Z) ?_;refine BB (λw d=>?_);have H:=d.l2;refine CT ?_;refine J5 ?_;refine Es Z Z Z (Ck Z Z) ?_;refine Es Z Z Z (Bn Z Z J (AB (H.cel 0 Z 0 Z))) ?_;refine Es Z Z Z (Ck Z Z) ?_;refine Es Z Z Z (Ck Z Z) ?_;refine Es Z Z Z (Ck Z Z) ?_;refine Es Z Z Z (C4 Z Z Z (r:=(((i+1)*256:Nat):Int)) U U) ?_;refine Es Z Z Z (Ck Z Z) ?_;refine Es Z Z Z (Ck Z Z) ?_;refine Es Z Z Z (C4 Z Z Z (r:=(((i+1)*256:Nat):Int)) U U) ?_;refine Es Z Z Z (UB Z (sz:=1) (p:=(i*256)) (q:=((i+1)*256)) (o':=c+i*256) (l':=256) J Z Z Z Z U U U U U U U) ?_;refine LQ Z Z Z Z Z Z (o i _ (by simp[List.getElem?_range h]) _ H) ?_;rintro _ w ⟨rfl,d⟩;refine ⟨_,Z,?_⟩;have H:=d.l2;refine Es Z Z Z (Kz Z Z) ?_;refine Rs ?_;refine Iw Z ?_;refine Gw ?_;refine Cg ?_;refine s_do Z Z Z (Ck Z Z) ?_;refine s_do Z Z Z (Bn Z Z J (AB (H.cel 1 Z 0 Z))) ?_;refine s_do Z Z Z (C4 Z Z Z (r:=(((i+1)*256:Nat):Int)) U U) ?_;refine s_do Z Z Z (AQ Z Z) ?_;refine AT ?_;intro _ e;refine ⟨(i+1),(e.all Z),⟨H,?_⟩,?_⟩
  ·omega
  omega
 -- no:((i*256:Nat):Int)<((m*256:Nat):Int)
 refine LN ?_;refine IL ?_;obtain rfl:i=m:=by omega
 exact λ_ e=>⟨e.defers,by simpa using H⟩
theorem Yx:Ak 149 [.slice (some ⟨m,i,none⟩) n j,I 256] [] (λv G=>(∃bs a,v=.func (.func 191) #[] #[Y bs,Y a]/\G=[blk bs [.slice (some ⟨m,i,none⟩) n j] 47,blk a [I 256] 3])):=by
 intro z R w H;refine Ae func149 Z ntmps149 Z (Za 2 [] H Z ?_);intro b w H;refine Za 0 [] H Z ?_;intro c w H;refine Z2 15 [0,0,4] H Z (Ad Z (C6 Z Z Z) (Zc 4 Z (Zr Z ?_)));exact ⟨_,⟨b,c,Z,Z⟩,H.perm 2 [1,0] Z Z⟩
set_option maxHeartbeats 1000000 in
theorem Qm (pd b b7 c:Nat) (D:Dsk) (x:Int) (l:Bool) (ps:List (List UInt8)) (A:Ai) (b5:∀p∈ps,p.length=256) (hm:1<=ps.length/\ps.length<=4096) (b0:∀i,(D.ver i).length<=1099511627776) (hA:∀h,A h->rdH 1 (.slice (some ⟨b,b7,none⟩) (ps.length*256) c) (ps.length*256) (ps.flatten.map u8) h):Ak 90 [Y pd,I x,.slice (some ⟨b,b7,none⟩) (ps.length*256) c,.bool l] [diskA pd D,A] (λv G=>(¬(0<=x/\x+ps.length<=(D.n:Int))/\v=I 2/\G=[diskA pd D,A])\/((0<=x/\x+ps.length<=(D.n:Int))/\(D.f2=1\/(D.cut=true/\D.left=0))/\v=I 11/\G=[diskA pd {D with f2:=Bm D.f2},A])\/((0<=x/\x+ps.length<=(D.n:Int))/\(¬D.f2=1/\¬(D.cut=true/\D.left=0))/\v=I 0/\G=[diskA pd {Dsk.ws {D with f2:=Bm D.f2} l x.toNat ps with left:=max 0 (D.left-1)},A])):=by
 intro z R w j;have H:=j.l2;obtain ⟨bd,m,f0,bs,es,clk,hq,hD,a4,j⟩:=H.disk;clear H;have d7:=hD.n1;have c9:=hD.n2;have d6:=hD.f2;have d3:=hD.left;have c8:=a4.len;have H:=j.l6;refine NQ func90 Z 73 ntmps90 Z (A6 (AK (E4 Z Z Z (G8 H Z Z (cs:=[Y pd]) Z) ?_)));rintro _ w ⟨b1,rfl,j⟩;have H:=j.l7;refine E4 Z Z Z (G8 H Z Z (cs:=[I x]) Z) ?_;rintro _ w ⟨b2,rfl,j⟩;have H:=j.l8;refine E4 Z Z Z (G8 H Z Z (cs:=[.bool l]) Z) ?_;rintro _ w ⟨b3,rfl,j⟩;have H:=j.l9;refine B3 1 Z Z (AT (A6 (FL (A6 (AK (B3 1 Z Z (s_do Z Z Z (F3 Z (z:=1) J Z) (B3 2 Z Z (Sl 14 Z (λh1=>?_) (λh1=>?_))))))))))
 ·omega
 refine B3 1 Z Z (s_do Z Z Z (F3 Z (z:=1) J Z) (s_do Z Z Z (Lu Z Z Z (r:=((ps.length*256:Nat):Int)%256) U U U) (B3 3 Z Z (AT (Gu Z (λh2=>?_) (λh2=>?_))))))
 ·omega
 refine A6 (AK (Gn 3 [0,1] (AN (H.blk 2 Z) (AN (H.blk 1 Z) AH)) Z J Z (s_do Z Z Z (F3 Z (z:=1) J Z) (s_do Z Z Z (Lt Z Z Z (r:=(ps.length:Int)) U U U U) (Fv Z Z Z Z Z (λw=>call146 _ w) (P6 U) H.f3 Z ?_)))));rintro _ w _ ⟨rfl,rfl⟩ j;have H:=j.l9;refine s_do Z Z Z (AG Z Z) (B3 1 Z Z (AT (Gu Z (λh3=>?_) (λh3=>?_))))
 ·refine A6 (AK (B3 1 Z Z (AT (D8 (NR Z [I 2] ⟨Z,trivial⟩ (v:=I 2) Z ?_)))));replace H:=H.f7.f7.f7.f7.f4;have j:=Sep.toDisk (D:=D) (pd:=pd) (bd:=bd) (m:=m) (f0:=f0) (bs:=bs) (es:=es) (clk:=clk) (hq:=hq) (Γ:=blk b3 [.bool l] 4::blk b2 [I x] 3::blk b1 [Y pd] 31::A::R) H hD a4
  have H:=j.l5;exact ⟨[diskA pd D,A],.inl ⟨by omega,Z,Z⟩,H.perm 5 [0,4] Z Z⟩
 obtain ⟨k,rfl⟩:∃k:Nat,x=(k:Int):=⟨x.toNat,by omega⟩;have hk:k+ps.length<=D.n:=by omega
 refine A6 (A6 (AK (Gn 1 [0] (AN (H.blk 3 Z) AH) Z J Z (Fv Z Z Z Z Z (λw=>call147 _ w) (UN U) H Z ?_))));rintro _ w _ ⟨rfl,rfl⟩ j;have H:=j.l9;refine B3 1 Z Z (AT (Gu Z (λh4=>?_) (λh4=>?_)))
 ·refine DH (Gu Z (λh5=>?_) (λh5=>?_))
  ·refine A6 (AK (B3 1 Z Z (AT (D8 (NR Z [I 11] ⟨Z,trivial⟩ (v:=I 11) Z ?_)))));replace H:=H.f7.f7.f7.f7.f4;have j:=Sep.toDisk (D:= {D with f2:=Bm D.f2}) (pd:=pd) (bd:=bd) (m:=m) (f0:=f0) (bs:=bs) (es:=es) (clk:=clk) (hq:=hq) (Γ:=blk b3 [.bool l] 4::blk b2 [I (k:Int)] 3::blk b1 [Y pd] 31::A::R) H (hD.f hD.f1 (Fh hD.f2) hD.f3 hD.left) (a4.f _ _ _ _ _)
   have H:=j.l5;exact ⟨[diskA pd {D with f2:=Bm D.f2},A],.inr (.inl ⟨by omega,by simp_all,Z,Z⟩),H.perm 5 [0,4] Z Z⟩
  exact absurd h4 h5
 refine AK (Gn 1 [0] (AN (H.blk 3 Z) AH) Z J Z (Fv Z Z Z Z Z (λw=>call148 _ w) (SP) H Z ?_));rintro _ w _ ⟨rfl,rfl⟩ j;have H:=j.l9;refine B3 1 Z Z (AT (Sh Z (λh6=>?_) (λh6=>?_)))
 ·refine A6 (AK (B3 1 Z Z (AT (D8 (NR Z [I 11] ⟨Z,trivial⟩ (v:=I 11) Z ?_)))));replace H:=H.f7.f7.f7.f7.f4;have j:=Sep.toDisk (D:= {D with f2:=Bm D.f2}) (pd:=pd) (bd:=bd) (m:=m) (f0:=f0) (bs:=bs) (es:=es) (clk:=clk) (hq:=hq) (Γ:=blk b3 [.bool l] 4::blk b2 [I (k:Int)] 3::blk b1 [Y pd] 31::A::R) H (hD.f hD.f1 (Fh hD.f2) hD.f3 hD.left) (a4.f _ _ _ _ _)
  have H:=j.l5;exact ⟨[diskA pd {D with f2:=Bm D.f2},A],.inr (.inl ⟨by omega,by simp_all,Z,Z⟩),H.perm 5 [0,4] Z Z⟩
 refine DH (A6 (A6 (AK (B3 1 Z Z (Fv Z Z Z Z Z (λw=>call150 _ w) (Jv (ps.length*256) ps.flatten (hA) U) H.f8 Z ?_)))));rintro _ w _ ⟨g,y,rest,rfl,⟨cg,cc,cl⟩,rfl⟩ j;have H:=j.l10;refine Fv Z Z Z Z Z (λw=>call149 _ w) (Yx) H Z ?_;rintro _ w _ ⟨o,t,rfl,rfl⟩ j;have H:=j.l12;refine AT (FL ?_);replace H:=H.f2.f10;obtain ⟨a0,⟨c0,b9⟩,j⟩:=UV H;clear H;have H:=j.l11;replace H:=H.f10.f1.f10.f10.f7;have j:=Sep.toDiskQ (D:= {D with f2:=Bm D.f2}) (pd:=pd) (bd:=bd) (m:=m) (f0:=f0) (bs:=bs) (es:=es) (clk:=clk) (hq:=a0) (Γ:=blk o [.slice (some ⟨g,0,none⟩) (ps.length*256) y] 47::blk t [I 256] 3::A::blk b3 [.bool l] 4::blk b2 [I (k:Int)] 3::blk b1 [Y pd] 31::R) H (hD.f hD.f1 (Fh hD.f2) hD.f3 hD.left) ((a4.f _ _ _ _ _).le c0);have H:=j.l7;replace H:=H.f3.f1.f4.f5.f6.f6.f6;have j:Sep z ((blk b1 [Y pd] 31::blk b2 [I ((k+0:Nat):Int)] 3::blk b3 [.bool l] 4::diskQ pd (Dsk.ws {D with f2:=Bm D.f2} l k (ps.take 0)) a0::A::R)++[blk o [.slice (some ⟨g,0,none⟩) (ps.length*256) y] 47,blk t [I 256] 3]) w:=Sep.swap (As:=[blk o [.slice (some ⟨g,0,none⟩) (ps.length*256) y] 47,blk t [I 256] 3]) (Bs:=blk b1 [Y pd] 31::blk b2 [I ((k+0:Nat):Int)] 3::blk b3 [.bool l] 4::diskQ pd (Dsk.ws {D with f2:=Bm D.f2} l k (ps.take 0)) a0::A::R) (by simpa [Dsk.ws] using H);clear H;have b6:=λi=>Dsk.ws_n l (ps.take i) {D with f2:=Bm D.f2} k;have b8:=λi=>Dsk.ws_f l (ps.take i) {D with f2:=Bm D.f2} k;refine X2 (λi=>blk b1 [Y pd] 31::blk b2 [I ((k+i:Nat):Int)] 3::blk b3 [.bool l] 4::diskQ pd (Dsk.ws {D with f2:=Bm D.f2} l k (ps.take i)) a0::A::R) Z (λu w=>call191 u w) Z (Vn o t g 0 ps.length y U U U) j ?_ ?_
 ·rintro ro i v hv w;obtain ⟨hi,rfl⟩:i<ps.length/\v=.slice (some ⟨g,0+i*256,none⟩) 256 256:=by
    have hl:=(Aee.1 hv).1;simp at hl;rw[Aer,List.getElem?_range hl] at hv;simp at hv;exact ⟨hl,by rw[<-hv,AfP]⟩
  obtain ⟨p,hp⟩:∃p,ps[i]?=some p:=⟨_,Aef hi⟩;have s:=b5 p (Aeg hp);have a7:=UW b9 b5 hp;refine Cg (B3 1 Z Z (AT ?_));refine λa hF=>⟨Z,λF w j=>?_⟩;revert a hF;have H:=j.l5;have j:=H.pick 4 [3,0,1,2] Z;have H:Sep z (diskQ pd (Dsk.ws {D with f2:=Bm D.f2} l k (ps.take i)) a0::blk b1 [Y pd] 31::blk b2 [I ((k+i:Nat):Int)] 3::blk b3 [.bool l] 4::A::(R++([blk o [.slice (some ⟨g,0,none⟩) (ps.length*256) y] 47,blk t [I 256] 3]++F))) w:=j;clear j;obtain ⟨bd,m,f0,bs,es,clk,a2,a1,j⟩:=H.diskQ;clear H;have H:=j.l9;have a9:=b6 i;have a8:k+i<(Dsk.ws {D with f2:=Bm D.f2} l k (ps.take i)).n:=by rw[a9];show k+i<D.n;omega
  have d4:(Dsk.ws {D with f2:=Bm D.f2} l k (ps.take i)).n=D.n:=a9;refine Ea (CT (CT (Cg (Gn 1 [0] (AN (H.blk 7 Z) AH) Z J Z (AT (Jn Z (λh7=>?_) (λh7=>?_)))))))
  ·subst h7;refine CT (Cg (Gn 2 [0,1] (AN (H.blk 5 Z) (AN (H.blk 6 Z) AH)) Z J Z (Fv Z Z Z Z Z (λw=>call151 _ w) (Xp (k+i) U U) H Z ?_)));rintro _ w _ ⟨rfl,rfl⟩ j;have H:=j.l9;refine B3 1 Z Z (E4 Z Z Z (F8 1 H Z Z J Z Z (m:=256) (news:=(p.map u8)) (.inl (H.rv 3 (λq=>a7.le q))) (by simp[u8,Value.oneCell']) (by have:=a1.len;simp;omega) (k:=256) U (out:=((bs.take ((k+i)*256)++p++bs.drop ((k+i)*256+256)).map u8)) (by simp[s,Aem])) ?_);rintro _ w ⟨rfl,j⟩;have H:=j.l9;refine AT (IS (Sep z (blk pd [.slice (some ⟨bd,0,none⟩) ((Dsk.ws {D with f2:=Bm D.f2} true k (ps.take i)).n*256) ((Dsk.ws {D with f2:=Bm D.f2} true k (ps.take i)).n*256),.map (some m),I f0,I ((Dsk.ws {D with f2:=Bm D.f2} true k (ps.take i)).f1),I ((Dsk.ws {D with f2:=Bm D.f2} true k (ps.take i)).f2),I ((Dsk.ws {D with f2:=Bm D.f2} true k (ps.take i)).f3),.bool ((Dsk.ws {D with f2:=Bm D.f2} true k (ps.take i)).cut),I ((Dsk.ws {D with f2:=Bm D.f2} true k (ps.take i)).left)] 103::blk bd ((bs.take ((k+i)*256)++p++bs.drop ((k+i)*256+256)).map u8) 5::AJ m (es.map Ent.ie) clk::poolA a0::seps (es.map Ent.row)::blk b1 [Y pd] 31::blk b2 [I ((k+i:Nat):Int)] 3::blk b3 [.bool true] 4::A::(R++([blk o [.slice (some ⟨g,0,none⟩) (ps.length*256) y] 47,blk t [I 256] 3]++F)))) 6 Z J (A4 H λw j=>?_))
   have H:=j.l9;refine Bo [0,1,2,3,4] [0,1,1,2] J (λ_ hx=>(AN (hx.blk 5 Z) (AN (hx.blk 0 Z) (AN (hx.blk 6 Z) AH)))) (by exact H.pick 9 [0,1,2,3,4,5,6,7,8] Z) Z J Z Z (Ay [5] J O (Al (Ac1 Z Z Z (ND 2 (e:=224) H Z Z J Z Z) ?_)));rintro _ w ⟨rfl,j⟩;have H:=j.l9;refine Ar (λh=>absurd Z h) (AV J ?_);obtain ⟨es2,a5,a6,a3⟩:=S3 a1 a8 s (bs':=(bs.take ((k+i)*256)++p++bs.drop ((k+i)*256+256))) Z;replace H:=H.f4;have j:=H.mono 0 Z a3;rw[a6] at j;have H:=j.l9;replace H:=H.f4.f4.f4.f4;have e3:Dsk.ws {D with f2:=Bm D.f2} true k (ps.take (i+1))=(Dsk.ws {D with f2:=Bm D.f2} true k (ps.take i)).w1 true (k+i) p:=by rw[Dsk.ws_take hp]
   have j:=Sep.toDiskQ (D:=(Dsk.ws {D with f2:=Bm D.f2} true k (ps.take i)).w1 true (k+i) p) (pd:=pd) (bd:=bd) (m:=m) (f0:=f0) (bs:=(bs.take ((k+i)*256)++p++bs.drop ((k+i)*256+256))) (es:=es2) (clk:=clk) (hq:=a0) (Γ:=blk b1 [Y pd] 31::blk b2 [I ((k+i:Nat):Int)] 3::blk b3 [.bool true] 4::A::(R++([blk o [.slice (some ⟨g,0,none⟩) (ps.length*256) y] 47,blk t [I 256] 3]++F))) H (a2.w1 s) a5;rw[<-e3] at j;have H:=j.l5;refine Cg (Gn 1 [0] (AN (H.blk 2 Z) AH) Z J Z (s_do Z Z Z (C4 Z Z Z (r:=((k+(i+1):Nat):Int)) U U) (F2 Z Z (Ip 2 H Z Z Z Z Z Z J) ?_)));rintro w j;have H:=j.l5;refine AT ?_;replace H:=H.f4.f1.f4.f4.f4;exact λ_ _=>H
  subst h7;replace H:=H.f4;obtain ⟨v0,c4,Rest,c1,c5,j,c2⟩:=S2 a1 a8 H;clear H;have H:=j.l10;have c6:c4.length<=1099511627776:=by rw[c5,Dsk.ws_ver _ _ _ _ _ (.inr (by rw[AeA];omega))];exact b0 _
  refine IS (Sep z (emp::seps Rest::blk pd [.slice (some ⟨bd,0,none⟩) ((Dsk.ws {D with f2:=Bm D.f2} false k (ps.take i)).n*256) ((Dsk.ws {D with f2:=Bm D.f2} false k (ps.take i)).n*256),.map (some m),I f0,I ((Dsk.ws {D with f2:=Bm D.f2} false k (ps.take i)).f1),I ((Dsk.ws {D with f2:=Bm D.f2} false k (ps.take i)).f2),I ((Dsk.ws {D with f2:=Bm D.f2} false k (ps.take i)).f3),.bool ((Dsk.ws {D with f2:=Bm D.f2} false k (ps.take i)).cut),I ((Dsk.ws {D with f2:=Bm D.f2} false k (ps.take i)).left)] 103::blk bd (bs.map u8) 5::AJ m (es.map Ent.ie) clk::poolA a0::blk b1 [Y pd] 31::blk b2 [I ((k+i:Nat):Int)] 3::blk b3 [.bool false] 4::A::(R++([blk o [.slice (some ⟨g,0,none⟩) (ps.length*256) y] 47,blk t [I 256] 3]++F)))) 15 Z J (A4 H λw j=>?_);have H:=j.l10;refine Bo [0,1,2,3,4,5,6,7,8,9] [0,1,1,2,0,1,1,2] J (λ_ hx=>(AN (hx.blk 6 Z) (AN (hx.blk 2 Z) (AN (hx.blk 7 Z) AH)))) (by exact Sep.mono 0 (B:=emp) (H.pick 10 [0,1,2,3,4,5,6,7,8,9] Z) Z (λ_ _=>trivial)) Z J Z Z (By 10 J Z Z J J J Z Z Z (FO (e:=224) (zv:=.slice none 0 0) Z J J Z Z (λ_ hx=>hx.bk 4 Z)) (Sep.mono 0 (B:=emp) (H.pick 10 [0,1,2,3,4,5,6,7,8,9] Z) Z (λ_ _=>trivial)) (AD 58 (v:=v0) Z c1 (Bo [11] [] J (λ_ _=>AH) (by exact Sep.mono 0 (B:=emp) (H.pick 10 [0,1,2,3,4,5,6,7,8,9] Z) Z (λ_ _=>trivial)) Z J Z Z (Ay [12] J O (Al (BU Z Z Z Z (AP H Z J (Elt.mk (P:=prog) (e:=47) (z:=.slice none 0 0) (sz:=1) (by_:=24) J Z U U) Z (by decide) (by decide) (out:=[.slice (some ⟨g,(0+i*256),none⟩) 256 256]) J) ?_))))));rintro _ w ⟨b4,rfl,j⟩;have H:=j.l11;refine Ar (λ_=>(Sep.mono 0 (B:=emp) (H.pick 11 [1,2,3,4,5,6,7,8,9,10] Z) Z (λ_ _=>trivial))) (Ay [13] J O (Al (BU Z Z Z Z (AX 1 H Z Z J (Elt.mk (P:=prog) (e:=47) (z:=.slice none 0 0) (sz:=1) (by_:=24) J Z U U) Z Z (H.rv 0 (·.rd U U O Z)) (by simp[Value.oneCell']) U) ?_)));rintro v5 w j;have H:=j.l11;refine Ar (λ_=>(Sep.mono 0 (B:=emp) (H.pick 11 [1,2,3,4,5,6,7,8,9,10] Z) Z (λ_ _=>trivial))) (Ay [14] J O (Al (Bl Z Z Z (DP 5 (e:=224) H Z Z J Z Z Z) ?_)));rintro w j;have H:=j.l11;refine Ar (λh=>absurd Z h) (AV J ?_);replace H:=H.f2.f2;obtain ⟨es2,a5,a6,a3⟩:=c2 v5 _ p s a7;have j:=Sep.made 2 H a3;rw[a6] at j;have H:=j.l10;replace H:=H.f5.f5.f5.f5;have e3:Dsk.ws {D with f2:=Bm D.f2} false k (ps.take (i+1))=(Dsk.ws {D with f2:=Bm D.f2} false k (ps.take i)).w1 false (k+i) p:=by rw[Dsk.ws_take hp]
  have j:=Sep.toDiskQ (D:=(Dsk.ws {D with f2:=Bm D.f2} false k (ps.take i)).w1 false (k+i) p) (pd:=pd) (bd:=bd) (m:=m) (f0:=f0) (bs:=bs) (es:=es2) (clk:=putC (es.map Ent.ie) ((k+i:Nat):Int) clk) (hq:=a0) (Γ:=blk b4 [.slice (some ⟨g,(0+i*256),none⟩) 256 256] 47::blk b1 [Y pd] 31::blk b2 [I ((k+i:Nat):Int)] 3::blk b3 [.bool false] 4::A::(R++([blk o [.slice (some ⟨g,0,none⟩) (ps.length*256) y] 47,blk t [I 256] 3]++F))) H (a2.w1 s) a5;rw[<-e3] at j;have H:=j.l6;refine Cg (Gn 1 [0] (AN (H.blk 3 Z) AH) Z J Z (s_do Z Z Z (C4 Z Z Z (r:=((k+(i+1):Nat):Int)) U U) (F2 Z Z (Ip 3 H Z Z Z Z Z Z J) ?_)));rintro w j;have H:=j.l6;refine AT ?_;replace H:=H.f1.d.f4.f1.f4.f4.f4;exact λ_ _=>H
 rintro D0 w j;rw[Aei,List.length_range] at j;have H:=j.l6;obtain ⟨bd,m,f0,bs,es,clk,a2,a1,j⟩:=(H.pick 6 [4,0,1,2,3,5] Z).diskQ;clear H;have H:=j.l10;have c7:=a2.left;refine A6 (BJ 9 J J (A4 H λw j=>?_));have H:=j.l10;refine PU 5 [0,0,7,1] (AN (H.blk 6 Z) (AN (H.blk 0 Z) AH)) Z J Z (Cd Z Z Z (Hy Z Z Z (r:=((Dsk.ws {D with f2:=Bm D.f2} l k (ps.take ps.length)).left)-1) U U) (Cd Z Z Z (Nj Z Z Z) (PV 2 [7] Z J (CG (F2 Z Z (AdI 0 H Z Z Z Z Z Z J) ?_)))));rintro w j;have H:=j.l10;refine AT (A6 (AK (B3 1 Z Z (AT (D8 ?_)))));replace H:=H.f5;refine NS H (rs:=[.tmp 8]) Z [I 0] (λ_=>⟨Z,trivial⟩) (v:=I 0) Z (λw j=>?_);clear H;have H:=j.l9;have c3:=(b8 ps.length).2.2.2.2;have j:=Sep.toDisk (D:= {Dsk.ws {D with f2:=Bm D.f2} l k (ps.take ps.length) with left:=max (0:Int) ((Dsk.ws {D with f2:=Bm D.f2} l k (ps.take ps.length)).left-1)}) (pd:=pd) (bd:=bd) (m:=m) (f0:=f0) (bs:=bs) (es:=es) (clk:=clk) (hq:=a0) (Γ:=blk b1 [Y pd] 31::blk b2 [I ((k+ps.length:Nat):Int)] 3::blk b3 [.bool l] 4::A::(R++[blk o [.slice (some ⟨g,0,none⟩) (ps.length*256) y] 47,blk t [I 256] 3])) H (a2.f a2.f1 a2.f2 a2.f3 U) (a1.f _ _ _ _ _);have H:=j.l5;have j:=Sep.front (As:=diskA pd {Dsk.ws {D with f2:=Bm D.f2} l k (ps.take ps.length) with left:=max (0:Int) ((Dsk.ws {D with f2:=Bm D.f2} l k (ps.take ps.length)).left-1)} ::A::R) (Bs:=[blk o [.slice (some ⟨g,0,none⟩) (ps.length*256) y] 47,blk t [I 256] 3]) (H.pick 5 [0,4] Z);exact ⟨[diskA pd {Dsk.ws {D with f2:=Bm D.f2} l k (ps.take ps.length) with left:=max (0:Int) ((Dsk.ws {D with f2:=Bm D.f2} l k (ps.take ps.length)).left-1)},A],.inr (.inr ⟨by omega,by simp_all,by rw[Afa,c3] at *;exact ⟨Z,Z⟩⟩),j⟩
theorem Ot(ps:List (List UInt8))(l:∀p∈ps,p.length=256)(r:1<=ps.length/\ps.length<=4096)(b:∀i,(D.ver i).length<=1099511627776)(o:ps.length*256=n)(s:∀h,A h->rdH 1 (.slice (some ⟨j,e,none⟩) n g) n (ps.flatten.map u8) h):
  Ak 90 [Y m,I t,.slice (some ⟨j,e,none⟩) n g,.bool false] [diskA m D,A] (λv G=>(¬(0<=t/\t+ps.length<=(D.n:Int))/\v=I 2/\G=[diskA m D,A])\/((0<=t/\t+ps.length<=(D.n:Int))/\D.bad/\v=I 11/\G=[diskA m D.wf,A])\/((0<=t/\t+ps.length<=(D.n:Int))/\¬D.bad/\v=I 0/\G=[diskA m (D.wr t.toNat ps),A])):=by
 subst o;refine Cn.mono (Qm m j e g D t false ps A l r b s) ?_;rintro v Γ (⟨a,c,d⟩|⟨a,c,d,k⟩|⟨a,⟨c,f⟩,d,k⟩)
 ·exact .inl ⟨a,c,d⟩
 ·exact .inr (.inl ⟨a,c,d,k⟩)
 exact .inr (.inr ⟨a,λq=>by rcases q with q|q;exact c q;exact f q,d,k⟩)
set_option maxHeartbeats 1000000 in
theorem Vo (o pd d:Nat) (s:Sup) (at_ sq us:Int) (r j:Bool) (v:Value) (ims:List Img) (A:Ai) (hA:∀h,A h->imgsH v ims h) (D:Dsk) (a2:s.Ok (D.n:Int)) (a3:j=decide (s.epoch<4294967296)) (b5:0<=at_/\at_<s.len) (b1:0<=sq/\sq<=2199023255552) (hu:0<=us/\us<=s.len) (u:∀i,(D.ver i).length<=1000000000000):Ak 161 [Y o,v] [lgB o pd d s at_ sq us r j,tblA d,diskA pd D,A] (λv G=>(ims.length > 40/\v=I 16/\G=[lgB o pd d s at_ sq us r j,tblA d,diskA pd D,A])\/(ims.length<=40/\(ims=[]\/¬EH ims)/\v=I 1/\G=[lgB o pd d s at_ sq us r j,tblA d,diskA pd D,A])\/((1<=ims.length/\ims.length<=40)/\EH ims/\¬(1+(ims.length:Int)<=(if r then 0 else s.len-us)/\j=true/\sq<1099511627776)/\v=I 15/\G=[lgB o pd d s at_ sq us r j,tblA d,diskA pd D,A])\/
  ((1<=ims.length/\ims.length<=40)/\EH ims/\(1+(ims.length:Int)<=(if r then 0 else s.len-us)/\j=true/\sq<1099511627776)/\∃(k:Nat),(k:Int)=min (1+(ims.length:Int)) (s.len-at_)/\((¬D.bad/\k=1+ims.length/\v=I 0/\G=[lgB o pd d s ((at_+(1+(ims.length:Int)))%s.len) (sq+1) (us+(1+(ims.length:Int))) r j,tblA d,diskA pd (D.wr (s.start+at_).toNat ((BE s.epoch sq ims).take k)),A])\/(¬D.bad/\k<1+ims.length/\¬Dsk.bad (D.wr (s.start+at_).toNat ((BE s.epoch sq ims).take k))/\v=I 0/\G=[lgB o pd d s ((at_+(1+(ims.length:Int)))%s.len) (sq+1) (us+(1+(ims.length:Int))) r j,tblA d,diskA pd ((D.wr (s.start+at_).toNat ((BE s.epoch sq ims).take k)).wr s.start.toNat ((BE s.epoch sq ims).drop k)),A])\/
    (D.bad/\v=I 11/\G=[lgB o pd d s at_ (sq+1) us true j,tblA d,diskA pd D.wf,A])\/(¬D.bad/\k<1+ims.length/\Dsk.bad (D.wr (s.start+at_).toNat ((BE s.epoch sq ims).take k))/\v=I 11/\G=[lgB o pd d s at_ (sq+1) us true j,tblA d,diskA pd (Dsk.wf (D.wr (s.start+at_).toNat ((BE s.epoch sq ims).take k))),A])))):=by
 intro z R w H;obtain ⟨ao,ic,rfl⟩:=H.sy 3 (λq=>(hA _ q).slc);have a1:=H.sy 2 (λq=>(diskA.ok q).n2);have a9:=H.sy 3 (λq=>(hA _ q).small);have b0:=Sup.get a2;have a8:=a2.2
 refine Ae func161 Z ntmps161 Z (Z0 15 [0] Z (Af Z (λh1=>?_) (λh1=>?_)))
 ·refine Zc 6 Z (Zr Z ?_);exact ⟨_,.inl ⟨by omega,Z,Z⟩,H.perm 4 [0,1,2,3] Z Z⟩
 have l:ims.length<=40:=by omega
 refine Z0 8 [0] Z (Af Z (λh2=>?_) (λh2=>?_))
 ·refine Zc 6 Z (Zr Z ?_);exact ⟨_,.inr (.inl ⟨by omega,by first|exact .inr a|exact .inl (AgB U),rfl,rfl⟩),H.perm 4 [0,1,2,3] Z Z⟩
 refine Zc 7 Z (Au Z (call201 _) (Vm hA a3 U U ⟨by omega,by omega⟩ U U) H.f3.f2.f2 ?_);rintro _ w _ (⟨a,rfl,rfl⟩|⟨a,b,rfl,rfl⟩|⟨a,b,v1,rfl,rfl⟩) g
 ·have H:=g.l4;refine Z0 22 [3] Z (Zr Z ?_);exact ⟨_,.inr (.inl ⟨by omega,by first|exact .inr a|exact .inl (AgB U),rfl,rfl⟩),H.perm 4 [0,1,3,2] Z Z⟩
 ·have H:=g.l4;refine Z0 22 [3] Z (Zr Z ?_);exact ⟨_,.inr (.inr (.inl ⟨⟨by omega,by omega⟩,a,b,Z,Z⟩)),H.perm 4 [0,1,3,2] Z Z⟩
 have H:=g.l5;have a0:=Yo (e:=s.epoch) (sq:=sq) a.1 l;refine Zc 1 Z ?_;obtain ⟨gb,gc,rfl,b4,a7⟩:=H.sy 0 (·.sl U);generalize hps:BE s.epoch sq ims=ps at H a0;obtain ⟨c,b3⟩:=a0;have b2:=U8 c;have H:Sep z (grow 5 1 (.slice (some ⟨gb,0,none⟩) ((1+ims.length)*256) gc) ((1+ims.length)*256) (ps.flatten.map u8)::lgB o pd d s at_ sq us r j::tblA d::A::diskA pd D::R) w:=H;obtain ⟨k,hk⟩:∃k:Nat,(k:Int)=min (1+(ims.length:Int)) (s.len-at_):=⟨(min (1+(ims.length:Int)) (s.len-at_)).toNat,by omega⟩;have a6:(ps.take k).length=k:=by rw[AeA];omega
 have a4:(ps.drop k).length=1+ims.length-k:=by rw[AeP];omega
 refine Z0 17 [4] Z (Bu (Sep z _) J J H.drew (Ha 13 [2,6,1,0,9,1,0] [s.len-at_,(s.len-at_)*256] Z J U (AM Z Z Z (KA Z Z Z) (AD 38 (v:=I ((k*256:Nat):Int)) Z (congrArg I U) (BS 1 [] Z J (BB (λw g=>?_)))))));have H:=g.l5;refine gn (Zc 2 Z ?_);replace H:=H.f1;refine AS (Sep z (lgB o pd d s at_ sq us r j::R)) 19 Z J (A4 H λw g=>?_);have H:=g.l5;refine HJ [0,1,2,3,4,5,6,7,8,9,10,11,12,13,14,15] [0,0,0,2,5,0,0,9,0,0] [s.start+at_] (by exact H.pick 5 [0] Z) Z J U Z (BQ 16 Z J J J Z Z Z (BM Z (z:=1) (p:=0) (q:=(k*256)) (o':=0) (l':=(k*256)) (c':=gc) J Z (.inl ⟨Z,Z⟩) (.inr ⟨_,_,_,Z,Z,Z⟩) U U U U U U) (H.pick 5 [0] Z) (AE [17] J O (Al (Br Z Z Z Z Z Z (λw=>call90 _ w) (Ot (ps.take k) (λp hp=>c p (Afi hp)) U (λi=>by have:=u i;omega) (by rw[a6]) (λh q=>by rw[Tc c];exact (grow.rdB q).pre U U)) H.f1.f4 Z ?_))));rintro _ w _ (⟨a5,rfl,rfl⟩|⟨_,x,rfl,rfl⟩|⟨_,f,rfl,rfl⟩) g
 ·exact absurd ⟨by omega,by omega⟩ a5
 ·have H:=g.l5;refine Az (H.pick 5 [2] Z) (AZ [18] [] [] (by exact H.pick 5 [2] Z) Z J Z (a_done J (gn (Z5 52 [4,3,10,2,0,10,2,12,2] [sq+1] H Z U ?_))));intro w H;refine Zr Z ?_;subst hps;exact ⟨_,.inr (.inr (.inr ⟨⟨by omega,by omega⟩,a,b,k,hk,.inr (.inr (.inl ⟨x,Z,Z⟩))⟩)),H.perm 5 [2,3,0,4] Z Z⟩
 have H:=g.l5;refine Az (H.pick 5 [2] Z) (AZ [18] [] [] (by exact H.pick 5 [2] Z) Z J Z (a_done J (gn (Z0 14 [3,0] Z (Af Z (λh3=>?_) (λh3=>?_))))))
 ·replace H:=H.f2;refine AS (Sep z (lgB o pd d s at_ sq us r j::R)) 14 Z J (A4 H λw g=>?_)
  have H:=g.l5;refine AZ [0,1,2,3,4,5,6,7,8,9,10] [0,0,0,2,5,0,0] [] (by exact H.pick 5 [0] Z) Z J Z (BQ 11 Z J J J Z Z Z (BM Z (z:=1) (p:=(k*256)) (q:=((1+ims.length)*256)) (o':=k*256) (l':=((1+ims.length)*256)-(k*256)) (c':=gc-(k*256)) J Z (.inr ⟨_,_,_,Z,Z,Z⟩) (.inl ⟨Z,Z⟩) U U U U U U) (H.pick 5 [0] Z) (AE [12] J O (Al (Br Z Z Z Z Z Z (λw=>call90 _ w) (Ot (ps.drop k) (λp hp=>c p (Afw hp)) U (λi=>by have h1:=u i;have h2:=Dsk.wr_len D (s.start+at_).toNat (ps.take k) i;omega) (by rw[a4];omega) (λh q=>by have:=(grow.rdB q).cut (lo:=k*256) (m:=(1+ims.length)*256-k*256) (c':=gc-k*256) U U U;rw[Td c];rwa[Aem (by rw[AeP];omega),AfP] at this)) H.f2.f2 Z ?_))));rintro _ w _ (⟨a1,rfl,rfl⟩|⟨_,y,rfl,rfl⟩|⟨_,t,rfl,rfl⟩) g
  ·exact absurd ⟨by omega,by rw[Dsk.wr_n];omega⟩ a1
  ·have H:=g.l5;refine Az (H.pick 5 [2] Z) (AZ [13] [] [] (by exact H.pick 5 [2] Z) Z J Z (a_done J (gn (Z5 36 [3,10,2,0,10,2,12,2] [sq+1] H Z U ?_))));intro w H;refine Zr Z ?_;subst hps;exact ⟨_,.inr (.inr (.inr ⟨⟨by omega,by omega⟩,a,b,k,hk,.inr (.inr (.inr ⟨f,by omega,y,Z,Z⟩))⟩)),H.perm 5 [2,3,0,4] Z Z⟩
  have H:=g.l5;refine Az (H.pick 5 [2] Z) (AZ [13] [] [] (by exact H.pick 5 [2] Z) Z J Z (a_done J (gn (Z1 17 [4] [1+(ims.length:Int)] Z U (z_E_ Z (call155 _) (Ke U U U U U) H.f2 ?_)))));intro w H;refine Zc 8 Z (Zr Z ?_);subst hps;exact ⟨_,.inr (.inr (.inr ⟨⟨by omega,by omega⟩,a,b,k,hk,.inr (.inl ⟨f,by omega,t,Z,Z⟩)⟩)),H.perm 5 [0,3,1,4] Z Z⟩
 refine Z1 18 [4] [1+(ims.length:Int)] Z U (z_E_ Z (call155 _) (Ke U U U U U) H.f2 ?_);intro w H;refine Zc 8 Z (Zr Z ?_);subst hps;exact ⟨_,.inr (.inr (.inr ⟨⟨by omega,by omega⟩,a,b,k,hk,.inl ⟨f,by omega,Z,Z⟩⟩)),H.perm 5 [0,3,1,4] Z Z⟩
open Go.RowKit Go.Shelf
def I1:Go.Shelf.Ren:=⟨fun|189=>199|125=>189|257=>229|128=>224|129=>225|294=>250|295=>251|296=>252|297=>253|298=>254|299=>255|216=>256|300=>257|301=>258|328=>268|329=>244|330=>245|331=>269|332=>270|215=>190|343=>277|n=>n,fun|28=>39|3=>3|46=>192|0=>0|51=>228|53=>117|4=>4|183=>312|182=>311|131=>183|5=>5|9=>9|218=>335|222=>282|228=>350|229=>275|n=>n,fun|n=>n⟩
theorem Kf:Go.Proofs.Lays.n189 prog I1:= {
 mixed:=by kernel_rfl,
 f125:=func189.trans (congrArg some J),
 f128:=func224.trans (congrArg some J),
 f129:=func225.trans (congrArg some J),
 f189:=func199.trans (congrArg some J),
 f215:=func190.trans (congrArg some J),
 f216:=func256.trans (congrArg some J),
 f257:=func229.trans (congrArg some J),
 f294:=func250.trans (congrArg some J),
 f295:=func251.trans (congrArg some J),
 f296:=func252.trans (congrArg some J),
 f297:=func253.trans (congrArg some J),
 f298:=func254.trans (congrArg some J),
 f299:=func255.trans (congrArg some J),
 f300:=func257.trans (congrArg some J),
 f301:=func258.trans (congrArg some J),
 f328:=func268.trans (congrArg some J),
 f329:=func244.trans (congrArg some J),
 f330:=func245.trans (congrArg some J),
 f331:=func269.trans (congrArg some J),
 f332:=func270.trans (congrArg some J),
 f343:=func277.trans (congrArg some J),
 t0:=underlying0,
 a0:=isAgg0,
 z0:=sizeOf0,
 v0:=zeroValue0,
 t3:=underlying3,
 a3:=isAgg3,
 z3:=sizeOf3,
 v3:=zeroValue3,
 t4:=underlying4,
 a4:=isAgg4,
 z4:=sizeOf4,
 v4:=zeroValue4,
 t5:=underlying5,
 a5:=isAgg5,
 z5:=sizeOf5,
 v5:=zeroValue5,
 t9:=underlying9,
 a9:=isAgg9,
 z9:=sizeOf9,
 v9:=zeroValue9,
 t28:=underlying39,
 a28:=isAgg39,
 z28:=sizeOf39,
 v28:=zeroValue39,
 t46:=underlying192,
 a46:=isAgg192,
 z46:=sizeOf192,
 v46:=zeroValue192,
 t51:=underlying228,
 a51:=isAgg228,
 z51:=sizeOf228,
 v51:=zeroValue228,
 t53:=underlying117,
 a53:=isAgg117,
 z53:=sizeOf117,
 v53:=zeroValue117,
 t131:=underlying183,
 a131:=isAgg183,
 z131:=sizeOf183,
 v131:=zeroValue183,
 t182:=underlying311,
 a182:=isAgg311,
 z182:=sizeOf311,
 v182:=zeroValue311,
 t183:=underlying312,
 a183:=isAgg312,
 z183:=sizeOf312,
 v183:=zeroValue312,
 t218:=underlying335,
 a218:=isAgg335,
 z218:=sizeOf335,
 v218:=zeroValue335,
 t222:=underlying282,
 a222:=isAgg282,
 z222:=sizeOf282,
 v222:=zeroValue282,
 t228:=underlying350,
 a228:=isAgg350,
 z228:=sizeOf350,
 v228:=zeroValue350,
 t229:=underlying275,
 a229:=isAgg275,
 z229:=sizeOf275,
 v229:=zeroValue275}
open Go.Sort in
theorem Vp {z w:World} {R:List Ai} {b n:Nat} {cs:List Value} {ty:TypeId} (H:Sep z (blk b cs ty::R) w) (ys:List Int) (os:Array Obj):
  Sep z (blk b ((putCells I 0 ys.toArray cs.toArray).toList) ty::R) (Go.Sort.grow (putRow I (Go.Sort.ahead w n) b 0 ys.toArray) os):=by
 have hb:w.heap[b]?=some (.cells cs.toArray ty (0,0)):=H.blk 0 Z;have h1:Sep z (blk b ((putCells I 0 ys.toArray cs.toArray).toList) ty::R) (putRow I (Go.Sort.ahead w n) b 0 ys.toArray):=by
  refine H.write 0 Z Z Z Z (o':=.cells (putCells I 0 ys.toArray cs.toArray) ty (0,0)) ?_ ?_
  ·show (w.heap.modify b _)[b]?=_
   rw[AgE,if_pos Z,hb];rfl
  intro k hk;show (w.heap.modify b _)[k]?=_;rw[AgE,if_neg (AfV hk)]
 refine h1.ext0 ⟨Z,Z,Z,?_,λk hk _=>?_⟩
 ·show _<=(_++os:Array Obj).size
  simp
 show (_++os:Array Obj)[k]?=_;rw[Ahn hk]
theorem Tn(hl:l.length<=1099511627776):Ak 199 [v] [grow 3 1 v l.length (l.map I)]
  (λu Γ=>u=.tuple #[]/\∃ys:List Int,ys=l.mergeSort (λx y=>decide (x<=y))/\Γ=[grow 3 1 v ys.length (ys.map I)]):=by
 intro z R w H;have H:Sep z (grow 3 1 v l.length (l.map I)::R) w:=H;rcases H.sy 0 (·.form) with ⟨rfl,h0⟩|⟨b,c,rfl,hc⟩
 ·obtain rfl:l=[]:=Agh.1 h0
  refine (Go.Proofs.Any.slices_Sort_int_none Kf none 0 w).mono ?_;rintro e w' ⟨rfl,rfl⟩;exact ⟨_,⟨Z,[],by simp,Z⟩,H⟩
 obtain ⟨⟨a0,a⟩,⟨k,h1,h2,h3,h4⟩,H1⟩:=H.into (σ:=Nat×List Value) (p:=λx=>c=x.1/\l.length<=x.1/\x.1<=maxLen/\x.2.length=x.1/\x.2.take l.length=l.map I) (As:=λx=>[blk b x.2 3]) (λh q=>by
  rcases q.2 with ⟨q,_⟩|⟨g,a0,a,k,hg,hc,hm,hs,ht⟩
  ·cases q
  simp only[Value.slice.injEq,Aeo,Aho,and_true,true_and] at k;obtain ⟨rfl,rfl⟩:=k;refine ⟨(c,a.toList),⟨Z,hc,hm,by simpa using hs,by simpa using ht⟩,λ_=>0,λi A hi=>?_⟩
  cases i with
  | zero=>simp at hi;subst hi;show Hp.part _ _ _ _=_;unfold Hp.part;rw[if_pos Z];simpa using hg
  | succ i=>simp at hi)
 dsimp only at k h1 h2 h3 h4 H1;subst k;have H1:Sep z (blk b a 3::R) w:=H1;have hb:w.heap[b]?=some (.cells a.toArray 3 (0,0)):=H1.blk 0 Z;have r:b<w.heap.size:=(Ae4.1 hb).1;have f:∀j,j<l.length->a[j]?=some (I l[j]!):=λj d=>by
  have:(a.take l.length)[j]? =(l.map I)[j]? :=by rw[h4]
  rw[Ae0,if_pos d,Aer,Aef d] at this;rw[this,getElem!_pos l j d];rfl
 have hH:Go.Sort.Holds I w b 0 l.toArray:=λj d=>by
  have o:j<l.length:=by simpa using d
  refine ⟨?_,?_⟩
  ·have:=f j o
   simp[World.cell?,hb,this]
  simp[World.frozen?,hb]
 refine (Go.Proofs.Any.slices_Sort_int Kf b 0 c l w hH r U).mono ?_;rintro e w' ⟨rfl,n,os,rfl⟩;have H2:=Vp (n:=n) H1 (l.mergeSort λx y=>decide (x<=y)) os;have m:(l.mergeSort λx y=>decide (x<=y)).length=l.length:=List.length_mergeSort _;refine ⟨_,⟨Z,_,Z,Z⟩,H2.mono 0 Z (λh q=>?_)⟩;rw[m];refine blk.grow q h1 (by unfold maxLen at h2;omega) ?_ ?_
 ·simp[Go.Sort.putCells,h3]
 apply Afs;intro j;rw[Ae0];simp only[AeS];by_cases d:j<l.length
 ·rw[if_pos d]
  have s:j<a.length:=by omega
  have t:j<(l.mergeSort λx y=>decide (x<=y)).length:=by omega
  simp[Go.Sort.putCells,s,t,d]
 rw[if_neg d,AeL (by simp;omega)]
def Abv(l:List IE):List IE->Value->List IE->Prop:=λs v s2=>∃p∈Cm l (s.map λp:IE=>p.2.2),v=.int .i64 p.1/\s2=s++[p]
def RD(l:List IE):List IE->Prop:=λs=>Cm l (s.map λp:IE=>p.2.2)=[]
def kC(s:List IE):List Value:=s.map λp=>.int .i64 p.1
def vecA(b:Nat)(l s:List IE):Ai:=λh=>((∀p∈s,p∈l)/\(s.map λp:IE=>p.2.2).Nodup)/\∃v,seps [blk b [v] 39,grow 3 1 v s.length (kC s)] h
theorem Sep.vec{w:World}{b:Nat}{l s:List IE}(H:Sep z (vecA b l s::Γ) w):((∀p∈s,p∈l)/\(s.map λp:IE=>p.2.2).Nodup)/\∃v,Sep z (YtkblhjdljaoghaaGreatDoor.blk b [v] 39::YtkblhjdljaoghaaGreatDoor.grow 3 1 v s.length (kC s)::Γ) w:=by
 obtain ⟨v,hp,a⟩:=H.into (σ:=Value) (p:=λ_=>(∀p∈s,p∈l)/\(s.map λp:IE=>p.2.2).Nodup) (As:=λv=>[YtkblhjdljaoghaaGreatDoor.blk b [v] 39,YtkblhjdljaoghaaGreatDoor.grow 3 1 v s.length (kC s)]) (λh q=>by obtain ⟨q,v,c⟩:=q;exact ⟨v,q,c⟩);exact ⟨hp,v,a⟩
theorem Sep.toVec{w:World}{b:Nat}{l s:List IE}(H:Sep z (YtkblhjdljaoghaaGreatDoor.blk b [v] 39::YtkblhjdljaoghaaGreatDoor.grow 3 1 v s.length (kC s)::Γ) w)(a:∀p∈s,p∈l)(c:(s.map λp:IE=>p.2.2).Nodup):Sep z (vecA b l s::Γ) w:=
 H.made 2 (A:=vecA b l s) (λh q=>⟨⟨a,c⟩,v,q⟩)
theorem Yy(s:List IE)(p:IE):kC s++[I p.1]=kC (s++[p]):=by simp[kC]
theorem F6{l s:List IE}{p:IE}(c:(∀p∈s,p∈l)/\(s.map λp:IE=>p.2.2).Nodup)(hp:p∈Cm l (s.map λp:IE=>p.2.2)):(∀q∈s++[p],q∈l)/\((s++[p]).map λp:IE=>p.2.2).Nodup:=by
 obtain ⟨h,f⟩:=C8 hp;refine ⟨λq hq=>?_,?_⟩
 ·rcases Aes.1 hq with hq|hq
  ·exact c.1 q hq
  simp at hq;subst hq;exact h
 rw[AeK,Afc];refine ⟨c.2,by simp,λa g b d=>?_⟩;simp at d;subst d;exact λe=>f (e▸g)
theorem GU{α β:Type}{f:α->β}{l:List α}(h:(l.map f).Nodup):l.Nodup:=(AfM.1 h).imp λh e=>h (congrArg f e)
theorem Jw{α:Type}:∀{s l:List α},s.Nodup->(∀p∈s,p∈l)->s.length<=l.length
 | [],_,_,_=>AeR _
 | x::s,l,hn,h=>by
  obtain ⟨l1,l2,rfl⟩:=List.append_of_mem (h x O);have a:=Afk.1 hn;have:=Jw (s:=s) (l:=l1++l2) a.2 λp hp=>by
   have:=h p (by simp[hp]);simp only[Aes,Aeq] at this ⊢;rcases this with q|rfl|q
   ·exact .inl q
   ·exact absurd hp a.1
   exact .inr q
  simp only[Aeh,Aej] at this ⊢;omega
theorem K8{l s:List IE}(h:(∀p∈s,p∈l)/\(s.map λp:IE=>p.2.2).Nodup):s.length<=l.length:=by
 have hs:s.Nodup:=GU h.2;exact Jw hs h.1
theorem Hv{l s:List IE}(a:(l.map λp:IE=>p.2.2).Nodup)(h:(∀p∈s,p∈l)/\(s.map λp:IE=>p.2.2).Nodup)(c:RD l s):s.Perm l:=by
 have hs:s.Nodup:=GU h.2;have b:l.Nodup:=GU a;refine (List.perm_ext_iff_of_nodup hs b).2 λp=>⟨h.1 p,λhp=>?_⟩;have:p.2.2∈s.map λp:IE=>p.2.2:=by
  by_cases q:p.2.2∈s.map λp:IE=>p.2.2
  ·exact q
  have:p∈Cm l (s.map λp:IE=>p.2.2):=by simpa [Cm] using ⟨hp,by simpa using q⟩
  rw[show Cm l (s.map λp:IE=>p.2.2)=[] from c] at this;cases this
 obtain ⟨q,hq,e⟩:=Aen.1 this;obtain ⟨i,hi,rfl⟩:=Agd.1 (h.1 q hq);obtain ⟨j,d,rfl⟩:=Agd.1 hp;obtain rfl:=Ga a (Aef hi) (Aef d) e;exact hq
structure PgE where
 n:Nat
 pg:Pg
 v:Value
 born:Nat
def PgE.ie(e:PgE):IE:=((e.n:Int),.agg #[.int .i64 e.pg.kind,e.v],e.born)
structure PgsIn(f:BF)(es:List PgE)(clk:Nat)(hq:Hp):Prop where
 ent:∀e∈es,f e.n=some e.pg/\e.pg.Ok/\rdH 1 e.v 240 (e.pg.body.map u8) hq
 all:∀n p,f n=some p->∃e∈es,e.n=n
 nodup:(es.map PgE.n).Nodup
 born:(es.map PgE.born).Nodup
 clk:∀e∈es,e.born<clk
def pgsA(m:Nat)(f:BF)(hq:Hp):Ai:=λh=>∃es clk,PgsIn f es clk hq/\AJ m (es.map PgE.ie) clk h
theorem Sep.pgs{w:World}(i:Nat){f:BF}{hq:Hp}(H:Sep z Γ w)(hi:Γ[i]?=some (pgsA m f hq)):∃es clk,PgsIn f es clk hq/\Sep z (Γ.set i (AJ m (es.map PgE.ie) clk)) w:=by
 obtain ⟨x,hp,b⟩:=H.exAt i (σ:=List PgE×Nat) (p:=λx=>PgsIn f x.1 x.2 hq) (B:=λx=>AJ m (x.1.map PgE.ie) x.2) hi (λh ⟨es,clk,a,c⟩=>⟨(es,clk),a,c⟩);exact ⟨x.1,x.2,hp,b⟩
theorem Sep.toPgs{w:World}(i:Nat){es:List PgE}{clk:Nat}{f:BF}{hq:Hp}(H:Sep z Γ w)(hi:Γ[i]?=some (AJ m (es.map PgE.ie) clk))(hp:PgsIn f es clk hq):Sep z (Γ.set i (pgsA m f hq)) w:=H.mono i hi λh q=>⟨es,clk,hp,q⟩
def Ev(m:Nat)(f:BF)(k:Nat)(hq:Hp):Ai:=λh=>∃es clk,PgsIn f es clk hq/\es.length=k/\AJ m (es.map PgE.ie) clk h
theorem Sep.pgsc{w:World}(i:Nat){k:Nat}{f:BF}{hq:Hp}(H:Sep z Γ w)(hi:Γ[i]?=some (Ev m f k hq)):∃es clk,PgsIn f es clk hq/\es.length=k/\Sep z (Γ.set i (AJ m (es.map PgE.ie) clk)) w:=by
 obtain ⟨x,hp,b⟩:=H.exAt i (σ:=List PgE×Nat) (p:=λx=>PgsIn f x.1 x.2 hq/\x.1.length=k) (B:=λx=>AJ m (x.1.map PgE.ie) x.2) hi (λh ⟨es,clk,a,c,d⟩=>⟨(es,clk),⟨a,c⟩,d⟩);exact ⟨x.1,x.2,hp.1,hp.2,b⟩
theorem Sep.toPgsc{w:World}(i:Nat){k:Nat}{es:List PgE}{clk:Nat}{f:BF}{hq:Hp}(H:Sep z Γ w)(hi:Γ[i]?=some (AJ m (es.map PgE.ie) clk))(hp:PgsIn f es clk hq)(a:es.length=k):Sep z (Γ.set i (Ev m f k hq)) w:=H.mono i hi λh q=>⟨es,clk,hp,a,q⟩
theorem PgsIn.le{f:BF}{es:List PgE}{clk:Nat}{hq a:Hp}(h:PgsIn f es clk hq)(s:CL hq a):PgsIn f es clk a:=⟨λe b=>⟨(h.ent e b).1,(h.ent e b).2.1,(h.ent e b).2.2.le s⟩,h.all,h.nodup,h.born,h.clk⟩
theorem pgsA.le{m:Nat}{f:BF}{hq a:Hp}(s:CL hq a):∀h,pgsA m f hq h->pgsA m f a h:=λ_ ⟨es,clk,b,c⟩=>⟨es,clk,b.le s,c⟩
theorem PgsIn.none(hq:Hp)(clk:Nat):PgsIn Dq [] clk hq:=⟨λe a=>(by cases a),λn p h=>(by cases h),by simp,by simp,λe a=>(by cases a)⟩
theorem PgsIn.get{f:BF}{es:List PgE}{clk:Nat}{hq:Hp}(h:PgsIn f es clk hq)(n:Nat):(f n=Option.none/\CQ (es.map PgE.ie) (n:Int)=Option.none)\/∃(p:Pg) (v:Value),f n=some p/\p.Ok/\rdH 1 v 240 (p.body.map u8) hq/\CQ (es.map PgE.ie) (n:Int)=some (.agg #[I p.kind,v]):=by
 have key:∀l:List PgE,(∀e∈l,e∈es)->((∀e∈l,e.n≠n)/\CQ (l.map PgE.ie) (n:Int)=Option.none)\/∃e∈es,e.n=n/\CQ (l.map PgE.ie) (n:Int)=some (.agg #[I e.pg.kind,e.v]):=by
  intro l
  induction l with
  | nil=>intro _;exact .inl ⟨λe d=>(by cases d),Z⟩
  | cons e l ih=>
   intro k;simp only[AeM,PgE.ie,CQ];by_cases q:(n:Int)=(e.n:Int)
   ·exact .inr ⟨e,k e O,by omega,by rw[if_pos q]⟩
   rw[if_neg q];rcases ih (λe d=>k e (by simp[d])) with ⟨g,i⟩|g
   ·refine .inl ⟨λm d=>?_,i⟩
    rcases Aeq.1 d with rfl|d
    ·omega
    exact g m d
   exact .inr g
 rcases key es (λ_ h=>h) with ⟨g,i⟩|⟨e,d,j,o⟩
 ·refine .inl ⟨?_,i⟩
  cases hf:f n with
  | none=>rfl
  | some p=>
   obtain ⟨e,d,j⟩:=h.all n p hf;exact absurd j (g e d)
 subst j;obtain ⟨a,b,c⟩:=h.ent e d;exact .inr ⟨e.pg,e.v,a,b,c,o⟩
theorem PgsIn.has{f:BF}{es:List PgE}{clk:Nat}{hq:Hp}(h:PgsIn f es clk hq)(n:Nat):CR (es.map PgE.ie) (n:Int)=(f n).isSome:=by
 unfold CR;rcases h.get n with ⟨a,b⟩|⟨p,v,a,_,_,b⟩<;>rw[a,b]<;>rfl
theorem upd_pgs(es:List PgE)(k:Nat)(p:Pg)(v:Value):updM (es.map PgE.ie) (k:Int) (.agg #[I p.kind,v])=(es.map λe=>if e.n=k then {e with pg:=p,v:=v} else e).map PgE.ie\/¬(es.map PgE.n).Nodup:=by
 induction es with
 | nil=>exact .inl Z
 | cons e es ih=>
  by_cases hn:((e::es).map PgE.n).Nodup
  ·left
   have a:=hn;simp only[AeM,Afk] at a;by_cases q:(k:Int)=(e.n:Int)
   ·have c:e.n=k:=by omega
    have b:(es.map λe=>if e.n=k then {e with pg:=p,v:=v} else e)=es:=by
     conv=>rhs;rw[<-List.map_id es]
     exact AfE λf d=>by
      rw[if_neg];rfl;intro e2;exact a.1 (Aen.2 ⟨f,d,by omega⟩)
    simp only[AeM,PgE.ie,updM,if_pos q,if_pos c];rw[b];subst c;rfl
   have c:¬e.n=k:=by omega
   simp only[AeM,PgE.ie,updM,if_neg q,if_neg c];rcases ih with ih|ih
   ·congr 1
   exact absurd a.2 ih
  exact .inr hn
theorem PgsIn.put{f:BF}{es:List PgE}{clk:Nat}{hq:Hp}(h:PgsIn f es clk hq){k:Nat}{p:Pg}(hp:p.Ok)(x:rdH 1 v 240 (p.body.map u8) hq):∃es2,E5 (es.map PgE.ie) (k:Int) (.agg #[I p.kind,v]) clk=es2.map PgE.ie/\PgsIn (pgSet f k p) es2 (putC (es.map PgE.ie) (k:Int) clk) hq/\es2.length=es.length+(if (f k).isSome then 0 else 1):=by
 have s:=h.has k;unfold E5 putC
 cases hs:(f k).isSome with
 | true=>
  rw[hs] at s;rw[s,if_pos Z,if_pos Z];rcases upd_pgs es k p v with e|e
  ·refine ⟨_,e,⟨λo d=>?_,λn q i=>?_,?_,?_,λo d=>?_⟩,by simp⟩
   ·obtain ⟨j,m,rfl⟩:=Aen.1 d
    obtain ⟨a,b,c⟩:=h.ent j m;by_cases g:j.n=k
    ·rw[if_pos g];exact ⟨by unfold pgSet;rw[if_pos g],hp,x⟩
    rw[if_neg g];exact ⟨by unfold pgSet;rw[if_neg g];exact a,b,c⟩
   ·unfold pgSet at i
    have:∃j∈es,j.n=n:=by
     split at i
     ·rename_i g;subst g
      obtain ⟨y,u⟩:=Afb.1 hs;exact h.all n y u
     exact h.all n q i
    obtain ⟨j,m,t⟩:=this;exact ⟨_,AeD m,by split<;>exact t⟩
   ·rw[Afp]
    rw[show (PgE.n∘λe=>if e.n=k then {e with pg:=p,v:=v} else e)=PgE.n from by funext e;simp only[AgN];split<;>rfl];exact h.nodup
   ·rw[Afp]
    rw[show (PgE.born∘λe=>if e.n=k then {e with pg:=p,v:=v} else e)=PgE.born from by funext e;simp only[AgN];split<;>rfl];exact h.born
   obtain ⟨j,m,rfl⟩:=Aen.1 d;have:=h.clk j m;split<;>exact this
  exact absurd h.nodup e
 | false=>
  rw[hs] at s;rw[s];simp only[Afu,if_false];have l:f k=Option.none:=by simpa using hs
  refine ⟨es++[⟨k,p,v,clk⟩],by simp[PgE.ie],⟨λo d=>?_,λn q i=>?_,?_,?_,λo d=>?_⟩,by simp⟩
  ·rcases Aes.1 d with g|g
   ·obtain ⟨a,b,c⟩:=h.ent o g
    have:o.n≠k:=λe=>by rw[e,l] at a;cases a
    exact ⟨by unfold pgSet;rw[if_neg this];exact a,b,c⟩
   simp at g;subst g;exact ⟨by simp[pgSet],hp,x⟩
  ·unfold pgSet at i
   split at i
   ·rename_i g;exact ⟨⟨k,p,v,clk⟩,by simp,g.symm⟩
   obtain ⟨j,m,t⟩:=h.all n q i;exact ⟨j,by simp[m],t⟩
  ·rw[AeK,Afc]
   refine ⟨h.nodup,by simp,λa w b r=>?_⟩;simp at r;subst r;obtain ⟨j,m,rfl⟩:=Aen.1 w;intro e;have:=(h.ent j m).1;rw[e,l] at this;cases this
  ·rw[AeK,Afc]
   refine ⟨h.born,by simp,λa w b r=>?_⟩;simp at r;subst r;obtain ⟨j,m,rfl⟩:=Aen.1 w;have:=h.clk j m;omega
  rcases Aes.1 d with g|g
  ·have:=h.clk o g;omega
  simp at g;subst g;simp
theorem PgsIn.keys{f:BF}{es:List PgE}{clk:Nat}{hq:Hp}{s:List IE}(h:PgsIn f es clk hq)(hs:s.Perm (es.map PgE.ie)):
  ((s.map λp:IE=>p.1).mergeSort (λx y=>decide (x<=y))).Pairwise (· < ·)/\∀k:Int,k∈(s.map λp:IE=>p.1).mergeSort (λx y=>decide (x<=y))↔0<=k/\(f k.toNat).isSome=true:=by
 have hp:((s.map λp:IE=>p.1).mergeSort (λx y=>decide (x<=y))).Perm (es.map λe:PgE=>(e.n:Int)):=by
  refine (List.mergeSort_perm _ _).trans ?_;have:=hs.map (λp:IE=>p.1);rwa[Afp] at this
 have i:((s.map λp:IE=>p.1).mergeSort (λx y=>decide (x<=y))).Nodup:=by
  refine hp.symm.nodup ?_;have d:=AfM.1 h.nodup;exact AfM.2 (d.imp λh e=>h U)
 refine ⟨?_,λk=>?_⟩
 ·have j:((s.map λp:IE=>p.1).mergeSort (λx y=>decide (x<=y))).Pairwise (λx y=>decide (x<=y)=true):=List.pairwise_mergeSort (λa b c d g=>by simp at *;omega) (λa b=>by simp;omega) _
  exact (j.and i).imp λh=>by have d:=h.1;have g:=h.2;simp at d;omega
 rw[hp.mem_iff,Aen];constructor
 ·rintro ⟨e,l,rfl⟩
  exact ⟨by omega,by rw[Ae7,(h.ent e l).1];rfl⟩
 rintro ⟨d,g⟩;obtain ⟨p,hp⟩:=Afb.1 g;obtain ⟨e,l,m⟩:=h.all _ p hp;exact ⟨e,l,by omega⟩
theorem Xv(l a:List UInt8){B:Ai}(c:∀h,A h->rdH 1 u l.length (l.map u8) h)(b:∀h,B h->rdH 1 y a.length (a.map u8) h):Ak 175 [u,y] [A,B] (λv G=>v=.bool (decide (l=a))/\G=[A,B]):=by
 intro z R w H;refine Ae func175 Z ntmps175 Z (Zc 8 Z (Ad Z (Cq (l:=l) Z J J Z (AB (H.rd 0 Z c))) (Zc 1 Z (Ad Z (Cq (l:=a) Z J J Z (AB (H.rd 1 Z b))) (Ad Z (IN Z J Z Z) (Zc 4 Z (Zr Z ?_)))))));exact ⟨_,⟨Z,Z⟩,H⟩
theorem Vq(n:Nat)(bs:List UInt8)(f:∀h,A h->rdH 1 (.slice (some ⟨m,i,none⟩) n j) n (bs.map u8) h)(g:0<n/\n<=1073741824):Ak 158 [.slice (some ⟨m,i,none⟩) n j] [A] (λv G=>(∃c,v=c/\G=[grow 5 1 c n (bs.map u8),A])):=by
 intro z R w H;refine Ae func158 Z ntmps158 Z (Zc 9 Z (Ad Z (Io Z J Z Z) (Zc 7 Z (AU Z (EY H Z J CM) ?_))));rintro _ w ⟨e,rfl,H⟩;refine Zc 1 Z ?_;replace H:=(H.mono 0 (B:=grow 5 1 (.slice (some ⟨e,0,none⟩) 0 0) 0 []) Z (λh q=>q.grow U U O Z)).l2;refine AU Z (AX 0 H Z Z J CM Z Z (H.rd 1 Z f) (by simp[u8,Value.oneCell']) U) ?_;rintro k w b;have a:([]++bs.map u8:List Value)=bs.map u8:=by simp
 rw[a] at b;rw[show (0+n:Nat)=n from by omega] at b;have H:=b.l2;refine Zc 4 Z (Zr Z ?_);exact ⟨_,⟨_,Z,Z⟩,H⟩
theorem Gb(ns:List Int):(ns.flatMap (Ag 8)).length=8*ns.length:=by
 induction ns with
 | nil=>rfl
 | cons x ns ih=>simp only[AeJ,Aeh,Ah,ih,Aej];omega
theorem RE(h:l[i]?=some t):(l.take i).flatMap (Ag 8)++Ag 8 t=(l.take (i+1)).flatMap (Ag 8):=by
 rw[AeQ,h];simp
theorem To:∀{j:Nat} {x:Int},l[j]?=some x->((l.flatMap (Ag 8)).drop (8*j)).take 8=Ag 8 x:=by
 induction l with
 | nil=>intro j x h;simp at h
 | cons y ys ih=>
  intro j x h
  cases j with
  | zero=>
   simp at h;subst h;rw[AeJ,Nat.mul_zero,Aey,AeI (Ah 8 y)]
  | succ j=>
   rw[AeJ,show 8*(j+1)=(Ag 8 y).length+8*j from by rw[Ah];omega,Ae9];rw[AeN U,AeT,show (Ag 8 y).length+8*j-(Ag 8 y).length=8*j from by omega];exact ih (by simpa using h)
theorem Sup.list_len(s:Sup):s.list.length=7:=rfl
theorem Yz(s:Sup):J9 [80,83,85,80] (DE s):=by
 have a:=GR s;refine ⟨Iz U,?_⟩;have:=Ca (l:=Kc s) U (p:=0) (k:=4) U;rw[Aey,Aey] at this;unfold DE;rw[this];rfl
theorem YA{s:Sup}(hs:∀t∈s.list,0<=t/\t<=1099511627776)(a:s.list[n]?=some t):A5 (((DE s).drop (4+8*n)).take 8)=t:=by
 have c:=GR s;have b:n<7:=(Aee.1 a).1;unfold DE;rw[Ca U U];unfold Kc;rw[Ae9,AeN O,AeT,show 4+8*n-([80,83,85,80]:List UInt8).length=8*n from by simp,To a];have:=hs t (Aeg a);exact BX this.1 U U
theorem Vr(s:Sup):rz (((DE s).drop 60).take 192)=0:=by
 have a:=GR s;have:=MG (l:=Kc s) U;rw[a] at this;exact this
theorem Abw{p:Pg}(h:p.Ok):J9 [80,80,65,71] (Ej n p):=⟨Iz (Agl (FS h)),Om h⟩
theorem YB{p:Pg}(h:p.Ok):A5 (((Ej n p).drop 4).take 1)=p.kind:=by
 have a:=FS (n:=n) h;unfold Ej;rw[Ca U U,show IK n p=[80,80,65,71]++Ag 1 p.kind++(Ag 4 (n:Int)++[0,0,0]++p.body) from by simp[IK],Hd _ _ O (by simp[Ah])];exact BX (by have:=h.1;omega) (by have:=h.1;omega) (by have:=h.1;omega)
theorem Abx{p:Pg}(h:p.Ok)(a:n<=1023):A5 (((Ej n p).drop 5).take 4)=(n:Int):=by
 have b:=FS (n:=n) h;unfold Ej;rw[Ca U U,show IK n p=([80,80,65,71]++Ag 1 p.kind)++Ag 4 (n:Int)++([0,0,0]++p.body) from by simp[IK],Hd _ _ (by simp[Ah]) (by simp[Ah])];exact BX U U U
theorem RF{p:Pg}(h:p.Ok):A5 (((Ej n p).drop 9).take 3)=0:=by
 have a:=FS (n:=n) h;unfold Ej;rw[Ca U U,show IK n p=([80,80,65,71]++Ag 1 p.kind++Ag 4 (n:Int))++[0,0,0]++p.body from by simp[IK],Hd _ _ (by simp[Ah]) O];decide
theorem YC{p:Pg}(h:p.Ok):((Ej n p).drop 12).take 240=p.body:=by
 have a:=FS (n:=n) h;unfold Ej;rw[Ca U U,show IK n p=([80,80,65,71]++Ag 1 p.kind++Ag 4 (n:Int)++[0,0,0])++p.body++[] from by simp[IK],Hd _ _ (by simp[Ah]) h.2.symm]
theorem Vs{s:Sup}(a:s.list[n]?=some t):((s.list.take n).map I++List.replicate (7-n) (I 0)).take n++[I t]++((s.list.take n).map I++List.replicate (7-n) (I 0)).drop (n+1)=(s.list.take (n+1)).map I++List.replicate (7-(n+1)) (I 0):=by
 have c:n<7:=(Aee.1 a).1;have b:((s.list.take n).map I).length=n:=by simp[Sup.list];omega
 rw[Aew U,Aem U,Ae9,AeN U,AeT,b,AgM,AeQ,a,show 7-n-(n+1-n)=7-(n+1) from by omega];simp
theorem YD{s:Sup}(a:s.list[n]?=some t):((s.list.take (n+1)).map I++List.replicate (7-(n+1)) (I 0))[n]?=some (I t):=by
 have b:n<7:=(Aee.1 a).1;have c:((s.list.take (n+1)).map I).length=n+1:=by simp[Sup.list];omega
 rw[Aep U,Aer,Ae0,if_pos U,a];rfl
theorem RG{s:Sup}(hs:∀x∈s.list,0<=x/\x<=1099511627776):Ak 152 [Y n,.agg #[I s.gen,I s.epoch,I s.pages,I s.start,I s.len,I s.head,I s.seq]] [tblA n] (λv G=>∃e,v=.tuple #[.slice (some ⟨e,0,none⟩) 256 256,I 0]/\G=[blk e (Bb (DE s) 60) 173,tblA n]):=by
 intro z R w H;have d:=Sup.list_len s;refine Ae func152 Z ntmps152 Z (Za 2 [] H Z ?_);intro b w H;refine Zc 6 Z (AU Z (Ce (P:=prog) H Z (zs:=(Bb (AL []) 0)) J) ?_);rintro _ w ⟨a,rfl,H⟩;refine Zc 4 Z (z_E_ Z (call192 _) (IZ 0 [80,83,85,80] (AW (by first|omega|(simp[Ah,Gb,-List.length_flatMap]<;>omega))) (by first|omega|(simp<;>omega))) H ?_);intro w H;rw[show Bw (AL []) ([80,83,85,80]) 0=AL ([80,83,85,80]) from BG Z (by first|omega|(simp[Ah,Gb,-List.length_flatMap]<;>omega))] at H;have H:Sep z (blk a (Bb (AL ([80,83,85,80])) 4) 173::blk b [I s.gen,I s.epoch,I s.pages,I s.start,I s.len,I s.head,I s.seq] 148::tblA n::R) w:=H;refine Z2 19 [0,1,0,1,1,0,2,1,0,3,1,0,4,1,0,5,1,0,6,1,0] H Z (Ad Z (Be Z Z (out:=[I s.gen,I s.epoch,I s.pages,I s.start,I s.len,I s.head,I s.seq]) J) (Zc 4 Z ?_));refine AF (σ:=Nat) (λk=>[(25,I (k:Int)),(0,Y n),(6,Y a),(24,.agg #[I s.gen,I s.epoch,I s.pages,I s.start,I s.len,I s.head,I s.seq])])
   (λk w=>Sep z (blk a (Bb (AL ([80,83,85,80]++(s.list.take k).flatMap (Ag 8))) ((4+8*k:Nat):Int)) 173::blk b [I s.gen,I s.epoch,I s.pages,I s.start,I s.len,I s.head,I s.seq] 148::tblA n::R) w/\(k<=7)) (λk=>7-k) 0
   fr_z ⟨(by simpa using H),by omega⟩ ?_
 clear H;rintro k w ⟨m,f⟩;have H:=m.l3;have h:=f;clear f;refine Z0 6 [0] Z (Af Z (λg=>?_) (λg=>?_))
 ·refine Zc 6 Z ?_;obtain ⟨x,c⟩:∃x,s.list[k]?=some x:=⟨_,Aef (by simp[Sup.list];omega)⟩;have o:=hs x (Aeg c)
  refine Ad Z (NE Z J Z (l:=s.list) (j:=k) Z Z Z Z c) (Zc 7 Z (z_E_ Z (call98 _) (CY) H ?_));intro w H;refine Ad Z (AG Z Z) (Zc 1 Z (An 31 Z (λi=>U) (λi=>?_)));refine Zc 10 Z (z_E_ Z (call99 _) (CH (4+8*k) 8 x (AW (by first|omega|(simp[Ah,Gb,-List.length_flatMap]<;>omega))) U) H ?_);intro w H;rw[show ((4+8*k+8:Nat):Int)=(((4+8*(k+1):Nat):Int):Int) from by omega] at H;rw[show Bw (AL ([80,83,85,80]++(s.list.take k).flatMap (Ag 8))) (Ag 8 x) (4+8*k)=AL ([80,83,85,80]++(s.list.take k).flatMap (Ag 8)++Ag 8 x) from BG (by first|omega|(simp[Ah,Gb,-List.length_flatMap]<;>omega)) (by first|omega|(simp[Ah,Gb,-List.length_flatMap]<;>omega))] at H;have H:Sep z (blk a (Bb (AL ([80,83,85,80]++(s.list.take k).flatMap (Ag 8)++Ag 8 x)) ((4+8*(k+1):Nat):Int)) 173::blk b [I s.gen,I s.epoch,I s.pages,I s.start,I s.len,I s.head,I s.seq] 148::tblA n::R) w:=H;refine Z1 7 [] [(k:Int)+1] Z U (gf ?_);intro _ p;refine ⟨(k+1),p.cz,⟨(by rw[<-RE c,<-Aek];exact H),?_⟩,?_⟩
  ·omega
  omega
 obtain rfl:k=7:=by omega
 refine Zc 2 Z (gx (Zc 3 Z ?_));have H:Sep z (blk a (Bb (AL (Kc s)) 60) 173::blk b [I s.gen,I s.epoch,I s.pages,I s.start,I s.len,I s.head,I s.seq] 148::tblA n::R) w:=H;refine Zc 2 Z (z_E_ Z (call193 _) (ID (AW (by first|omega|(simp[Ah,GR]<;>omega)))) H.f2.f1 ?_);intro w H;refine Zc 5 Z (Zr Z ?_);exact ⟨_,⟨a,Z,Z⟩,H.perm 3 [0,1] Z Z⟩
theorem Ld(sec:List UInt8)(d:∀h,A h->rdH 1 (.slice (some ⟨i,e,none⟩) 256 g) 256 (sec.map u8) h)(s:Sup)(hs:∀x∈s.list,0<=x/\x<=1099511627776)(b:sec=DE s):Ak 153 [Y n,.slice (some ⟨i,e,none⟩) 256 g] [tblA n,A] (λv G=>v=.tuple #[.agg #[I s.gen,I s.epoch,I s.pages,I s.start,I s.len,I s.head,I s.seq],.bool true]/\G=[tblA n,A]):=by
 intro z R w H;have l:=H.sy 1 (λq=>(d _ q).len);have a2:=H.sy 1 (λq=>(d _ q).cap);obtain ⟨c0,c1,c2,c3,hd⟩:=Oc l;refine Ae func153 Z ntmps153 Z (Za 2 [] H Z ?_);intro p w H;refine Zc 7 Z (Au Z (call176 _) (LW sec d) H.f2.f2 ?_);rintro _ w _ (⟨c,rfl,rfl⟩|⟨c,rfl,rfl⟩) o
 ·have H:=o.l3;refine Za 3 [] H Z ?_;intro r w H;refine Za 16 [0] H Z ?_;intro a w H;refine Z0 12 [0,1,2,3,4,5,6] Z (Ad Z (Be Z Z (out:=[Y a,.pointer (some ⟨a,1,none⟩),.pointer (some ⟨a,2,none⟩),.pointer (some ⟨a,3,none⟩),.pointer (some ⟨a,4,none⟩),.pointer (some ⟨a,5,none⟩),.pointer (some ⟨a,6,none⟩)]) J) (Zc 4 Z ?_));refine AF (σ:=Nat) (λk=>[(28,I (k:Int)),(4,Y p),(6,Y r),(8,Y a),(27,.agg #[Y a,.pointer (some ⟨a,1,none⟩),.pointer (some ⟨a,2,none⟩),.pointer (some ⟨a,3,none⟩),.pointer (some ⟨a,4,none⟩),.pointer (some ⟨a,5,none⟩),.pointer (some ⟨a,6,none⟩)])])
    (λk w=>Sep z (blk a ((s.list.take k).map I++List.replicate (7-k) (I 0)) 148::blk r [.slice (some ⟨i,(e+(4+8*k)),none⟩) (252-(4+8*k)) (g-(4+8*k))] 259::tblA n::A::blk p [I 0,I 0,I 0,I 0,I 0,I 0,I 0] 148::R) w/\(k<=7)) (λk=>7-k) 0
    fr_z ⟨H,by omega⟩ ?_
  clear H;rintro k w ⟨o,y⟩;have H:=o.l5;have a1:=y;clear y;refine Z0 6 [0] Z (Af Z (λh1=>?_) (λh1=>?_))
  ·have a0:k<7:=by omega
   refine Zc 6 Z ?_;obtain ⟨x,f⟩:∃x,s.list[k]?=some x:=⟨_,Aef (by simp[Sup.list];omega)⟩;have a3:=hs x (Aeg f);have t:A5 ((sec.drop (4+8*k)).take 8)=x:=by rw[b];exact YA hs f
   refine Ad Z (E7 (m:=7) Z J Z Z Z (j:=k) Z (u:=.pointer (some ⟨a,k,none⟩)) (by rcases (show k=0\/k=1\/k=2\/k=3\/k=4\/k=5\/k=6 by omega) with rfl|rfl|rfl|rfl|rfl|rfl|rfl<;>rfl)) (Zc 6 Z (z_E_ Z (call164 _) (CB 8 i (e+(4+8*k)) (252-(4+8*k)) (g-(4+8*k)) ((sec.drop (4+8*k)).take (252-(4+8*k))) (λh q=>(d h q).cut (lo:=(4+8*k)) (m:=(252-(4+8*k))) (c':=(g-(4+8*k))) U U U) U U ((sec.drop (4+8*k)).take 8) (by rw[AeG,AeH U]) (e+(4+8*(k+1))) (252-(4+8*(k+1))) (g-(4+8*(k+1))) U U U) H.f3.f2 ?_));intro w H;refine AD 32 (v:=I x) Z (congrArg I t) (Zc 1 Z (AC Z Z (Am 2 H Z Z Z Z (vs:=[I x]) Z (by simp[u8,u32,Value.oneCell']) J (by have:=Sup.list_len s;simp;omega) (out:=((s.list.take (k+1)).map I++List.replicate (7-(k+1)) (I 0))) (Vs f)) ?_));rintro w H;refine Zc 6 Z (Ad Z (Bn Z Z J (AB (H.cel 2 Z k (YD f)))) (z_E_ Z (call98 _) (CY) H ?_));intro w H;refine Ad Z (AG Z Z) (Zc 2 Z (Af Z (λh2=>U) (λh2=>?_)));refine Z1 7 [] [(k:Int)+1] Z U ?_;replace H:=H.f4.f2.f4.f3.f4;refine gf ?_;intro _ hF;refine ⟨(k+1),hF.cz,⟨H,?_⟩,?_⟩
   ·omega
   omega
  obtain rfl:k=7:=by omega
  refine Zc 2 Z (gx (Zc 4 Z ?_));have H:Sep z (blk a [I s.gen,I s.epoch,I s.pages,I s.start,I s.len,I s.head,I s.seq] 148::blk r [.slice (some ⟨i,(e+(4+8*7)),none⟩) (252-(4+8*7)) (g-(4+8*7))] 259::tblA n::A::blk p [I 0,I 0,I 0,I 0,I 0,I 0,I 0] 148::R) w:=H;refine Zc 1 Z (z_E_ Z (call165 _) (K6 i (e+(4+8*7)) (252-(4+8*7)) (g-(4+8*7)) ((sec.drop (4+8*7)).take (252-(4+8*7))) (λh q=>(d h q).cut (lo:=(4+8*7)) (m:=(252-(4+8*7))) (c':=(g-(4+8*7))) U U U) U) H.f3.f2 ?_);intro w H;refine Ad Z (AG Z Z) (Zc 2 Z (Af Z (λh3=>?_) (λh3=>?_)))
  ·exact absurd (by rw[b];exact Vr s) h3
  refine Z4 10 [2,7,4] H Z ?_;intro w H;refine Zl [4,7] H Z ?_;exact ⟨_,⟨Z,Z⟩,H.perm 5 [3,1] Z Z⟩
 exact absurd (b▸Yz s) c
section
section late
variable{P:Program}{ops:Array Oper}{Q:Exit->Act->World->Prop}{S:World->Prop}{E:List Nat}
def ET(ops:Array Oper):Nat->Nat->Nat->Bool
 | 0,_,_=>false
 | f+1,j,i=>match ops[j]? with
  | some o=>o.after.any λe=>Region.binds .any e&&(e.on==i||ET ops f e.on i)
  | none=>false
theorem He{listed:Array Bool}(c:Dc ops listed)(a:listed.size=ops.size):∀f j i,ET ops f j i=true->listed.getD j false=true->listed.getD i false=true
 | 0,j,i,h,_=>by cases h
 | f+1,j,i,h,hl=>by
  unfold ET at h
  cases ho:ops[j]? with
  | none=>rw[ho] at h;cases h
  | some o=>
   rw[ho] at h;simp only[Ahp] at h;obtain ⟨q,hq,he⟩:=h;simp only[AeF,Bool.or_eq_true,beq_iff_eq] at he;have g:j<ops.size:=(Ae4.1 ho).1;have b:=c j o ho (by
    have d:j<listed.size:=by omega
    simp[d] at hl ⊢;exact hl) U _ (Ahq hq) he.1
   rcases he.2 with e|e
   ·rw[<-e];exact b
   exact He c a f _ i e b
theorem ready_waits{listed:Array Bool}(f:Dc ops listed)(b:listed.size=ops.size){i:Nat}(h:ET ops m j i=true)(k:j∈Region.ready .any ops listed):listed.getD i false=true:=by
 cases m with
 | zero=>cases h
 | succ m=>
  obtain ⟨_,o,g,a⟩:=mem_ready.1 k;unfold ET at h;rw[g] at h;simp only[Ahp] at h;obtain ⟨q,hq,c⟩:=h;simp only[AeF,Bool.or_eq_true,beq_iff_eq] at c;have d:=a _ (Ahq hq) c.1;rcases c.2 with e|e
  ·rw[<-e];exact d
  exact He f b m _ i e d
def EU(P:Program)(ops:Array Oper)(Q:Exit->Act->World->Prop)(S:World->Prop)(E:List Nat):Nat->Array Bool->Act->World->Prop
 | 0,listed,a,w=>Region.ready .any ops listed=[]/\Q .normal a w
 | fuel+1,listed,a,w=>
  (Region.ready .any ops listed=[]->Q .normal a w)/\
  ∀i∈Region.ready .any ops listed,wpOp P ops Q i (λa' w'=>(E.contains i=false->S w')/\EU P ops Q S E fuel (listed.setIfInBounds i true) a' w') a w
theorem Le:∀(fuel:Nat) (listed:Array Bool) (a:Act) (w:World),EU P ops Q S E fuel listed a w->wpAny P .any ops Q fuel listed a w
 | 0,_,_,_,h=>h
 | fuel+1,_,_,_,h=>⟨h.1,λi hi=>wpOp_mono (λa' w' h'=>Le fuel _ a' w' h'.2) (h.2 i hi)⟩
theorem Ou{i:Nat}{oi:Oper}{v:Value}(hi:ops[i]?=some oi)(hE:∀j∈E,ET ops m j i=true)(l:∀(j:Nat) (o:Oper) cs b,ops[j]?=some o->o.op≠ .select cs b)
  (hQ:∀c a w,Q (.panic c) (a.put oi.dst v) w->Q (.panic c) a w):
  ∀(fuel:Nat) (listed:Array Bool) (a:Act) (w:World),Dc ops listed->listed.size=ops.size->
   (∀j p,ops[j]?=some p->j≠i->listed.getD j true=false->(∀e∈p.after,Region.binds .any e=true->e.on≠i)->oi.apart ops p=true)->
   i∈Region.ready .any ops listed->YieldsIf P ops S oi v a->S w->
   EU P ops Q S E fuel (listed.setIfInBounds i true) (a.put oi.dst v) w->EU P ops Q S E (fuel+1) listed a w:=by
 have a5:i<ops.size:=(Ae4.1 hi).1;intro fuel
 induction fuel with
 | zero=>
  intro listed a w hd s _ n hy y H;refine ⟨λh=>(by rw[h] at n;cases n),λj u=>?_⟩;by_cases hji:j=i
  ·subst hji;exact hy.wpOp hi y ⟨λ_=>y,H⟩
  have:=ready_mono u hji;rw[H.1] at this;cases this
 | succ fuel ih=>
  intro listed a w hd s d n hy y H;refine ⟨λh=>(by rw[h] at n;cases n),λj u=>?_⟩;by_cases hji:j=i
  ·subst hji;exact hy.wpOp hi y ⟨λ_=>y,H⟩
  have r:=H.2 j (ready_mono u hji);have z:E.contains j=false:=by
   cases hc:E.contains j with
   | false=>rfl
   | true=>
    have hm:j∈E:=by simpa using hc
    have h2:=ready_waits hd s (hE j hm) u;have t:=(mem_ready.1 n).1;have hh:i<listed.size:=by omega
    simp[hh] at h2 t;rw[h2] at t;cases t
  obtain ⟨g,p,q,a1⟩:=mem_ready.1 u;have a0:∀e∈p.after,Region.binds .any e=true->e.on≠i:=λe he hb a2=>by
   have r:=a1 e he hb;have t:=(mem_ready.1 n).1;rw[a2] at r;rcases Aeu i listed.size with h'|h'
   ·simp[h'] at t r;rw[t] at r;cases r
   simp[Ae3 h'] at r
  have h2:=wpOp_putIf q (d j p q hji g a0) (λcs b=>l i oi cs b hi) (λcs b=>l j p cs b q) hQ hy r;have f:∀k ok,ops[k]?=some ok->k≠i->(listed.setIfInBounds j true).getD k true=false->
    (∀e∈ok.after,Region.binds .any e=true->e.on≠i)->oi.apart ops ok=true:=λk ok hk a3 x a4=>by
   refine d k ok hk a3 ?_ a4;by_cases hjk:j=k
   ·subst hjk;exact g
   rw[getD_set_ne true hjk] at x;exact x
  refine wpOp_mono (λa' w' h3=>⟨λ_=>h3.2.1 z,ih (listed.setIfInBounds j true) a' w' (hd.next u) (by simpa using s) f (ready_mono n (AfV hji)) h3.1 (h3.2.1 z) ?_⟩) h2;rw[Agt _ _ hji];exact h3.2.2
theorem PB{listed:Array Bool}{a:Act}{w:World}(hr:Region.ready .any ops listed=[])(h:Q .normal a w):∀fuel,EU P ops Q S E fuel listed a w
 | 0=>⟨hr,h⟩
 | _+1=>⟨λ_=>h,by rw[hr];simp⟩
end late
section late2
variable{P:Program}{ops:List Oper}{N R:Act->World->Prop}{X:Nat->Act->World->Prop}{S:World->Prop}{E:List Nat}{a:Act}{w:World}{fuel:Nat}{listed:Array Bool}{n d i:Nat}{ds:List Deferred}{L:List (Nat×Value)}{v:Value}{o:Oper}
def Hw(P:Program)(ops:List Oper)(Q:Exit->Act->World->Prop)(S:World->Prop)(E:List Nat)(fuel:Nat)(listed:Array Bool)(a:Act)(w:World):Prop:=Dc ops.toArray listed->listed.size=ops.length->EU P ops.toArray Q S E fuel listed a w
theorem Ov(S:World->Prop)(E:List Nat)(k:Nat)(c:ops.length=k)(e:P.follows .mixedOrders=true)
  (h:∀b,Ext No w b->b.heap.size=w.heap.size->∀a,Fr n ds L a->Hw P ops (Qp N X R) S E k (Array.replicate k false) a b):∀a,Fr n ds L a->(Code.region m ops.toArray true).wp P (Qp N X R) a w:=λa d=>
 wp_region_any e (Le (S:=S) (E:=E) _ _ _ _ (by have:=h _ (Ext.drawn No w) Z a d (Dc.start _ _) (by simp[c]);simpa [c] using this))
theorem IF(i:Nat)(hi:ops[i]?=some o)(m:(E.all λj=>ET ops.toArray ops.length j i)=true)(hs:Region.noSelect ops.toArray=true)(u:Region.free .any ops.toArray listed i=true)(p:(Region.ready .any ops.toArray listed).contains i=true)
  (s:BN ops L o.guard=true)(r:o.dst=some d)(g:Nat.blt d n=true)(k:Av P S n ds L o v)(t:S w)
  (K:∀a',Fr n ds ((d,v)::L) a'->Hw P ops (Qp N X R) S E fuel (listed.setIfInBounds i true) a' w):∀a,Fr n ds L a->Hw P ops (Qp N X R) S E (fuel+1) listed a w:=λa l c e=>
 have f:ops.toArray[i]?=some o:=by simpa using hi
 have b:i∈Region.ready .any ops.toArray listed:=by simpa using p
 Ou (i:=i) (oi:=o) (v:=v) f (λj x=>(Af4.1 m) j x) (AgH hs) (λ_ _ _ h=>h.elim) fuel listed a w c (by simpa using e) (AgZ f u) b (.inl ⟨wantL_ok l s,λq h=>k a l q h⟩) t
  (by rw[r];exact K _ (l.put d v g) (c.next b) (by simpa using e))
theorem C7(rs:List Nat)(g:Region.ready .any ops.toArray listed=rs)(c:rs≠[])
  (h:∀i∈rs,∀a,Fr n ds L a->wpOp P ops.toArray (Qp N X R) i (λa' f=>(E.contains i=false->S f)/\Hw P ops (Qp N X R) S E fuel (listed.setIfInBounds i true) a' f) a w):∀a,Fr n ds L a->Hw P ops (Qp N X R) S E (fuel+1) listed a w:=λa j d b=>
 ⟨λe=>absurd (g▸e) c,λi hi=>wpOp_mono (λa' f q=>⟨q.1,q.2 (d.next hi) (by simpa using b)⟩) (h i (g▸hi) a j)⟩
theorem Lf{fuel:Nat}(b:Region.ready .any ops.toArray listed=[])(h:∀a,Fr n ds L a->N a w):∀a,Fr n ds L a->Hw P ops (Qp N X R) S E fuel listed a w:=λa c _ _=>PB b (h a c) _
end late2
section
variable{P:Program}{o:Oper}{w z:World}{Γ:List Ai}{n:Nat}{ds:List Deferred}{L:List (Nat×Value)}{x:Operand}
def RH(P:Program)(t:TypeId):Bool:=match P.underlying t with
 | some (.slice e)=>(match P.info? e with|some i=>(match i.zero with|some (.int .i64 0)=>true|_=>false)|none=>false)
 | _=>false
theorem Vt(h:RH P T=true):∃e i,P.underlying T=some (.slice e)/\P.info? e=some i/\i.zero=some (I 0):=by
 unfold RH at h;split at h
 ·rename_i e a
  split at h
  ·rename_i i b
   split at h
   ·rename_i c;exact ⟨e,i,a,b,c⟩
   cases h
  cases h
 cases h
theorem Vu(i:Nat){t:TypeId}{b d k c:Nat}{h:TypeId}{cs:List Value}(H:Sep z Γ w)(hi:Γ[i]?=some (blk b cs h))(ho:o.op=.call {callee:=.builtin .clear,args:= #[x],argTypes:= #[t]})(hd:RH P t=true)(u:ev L x=some (.slice (some ⟨b,d,none⟩) k c))(hk:0<k)(y:d+k<=cs.length):
  CA P n ds L o w (λv w'=>v=.tuple #[]/\Sep z (Γ.set i (blk b (cs.take d++List.replicate k (I 0)++cs.drop (d+k)) h)) w'):=λa hF=>by
 obtain ⟨e,i0,r,s,h3⟩:=Vt hd;have p:=H.blk i hi;have f:=run_storeCells_at P b d h (List.replicate k (I 0)) 0 cs.toArray w p (by simpa using y) (λc hc=>by rw[Af5.1 hc |>.2];rfl);simp only[Afl,Ag7,Af2] at f;have hz:(zeroValue e).run P w=.ok (I 0) w:=by simp[zeroValue,typeInfo,s,h3,go_sem]
 have l:(Builtin.zeroCells (Value.cells (I 0)) k).toList=List.replicate k (I 0):=by
  refine Ag0 (by simp[Builtin.zeroCells,Value.cells]) λj g1 g2=>?_;simp[Builtin.zeroCells,Value.cells,Nat.mod_one]
 have g:(Builtin.clear_ #[t] o.type #[.slice (some ⟨b,d,none⟩) k c]).run P w=.ok (.tuple #[]) (w.setRow b (cs.take d++List.replicate k (I 0)++cs.drop (d+k)).toArray):=by
  obtain ⟨m,rfl⟩:∃m,k=m+1:=⟨k-1,by omega⟩;simp only[Builtin.clear_,Afh,AeU,Aex,run_underlying r,Aet,hz,l,f,AeC]
 refine ⟨.tuple #[],w.setRow b (cs.take d++List.replicate k (I 0)++cs.drop (d+k)).toArray,?_,Z,H.write i hi Z Z Z (setRow_heap w b _ _ h (0,0) p) (λq hq=>setRow_other w b q _ hq)⟩;simp only[execOp,ho,resolve,invoke,builtin,Aex,AeC,Aet,AeZ,AeM,AfB,hF.ev u,g]
end
end
end Go.Proofs.YtkblhjdljaoghaaGreatDoor
