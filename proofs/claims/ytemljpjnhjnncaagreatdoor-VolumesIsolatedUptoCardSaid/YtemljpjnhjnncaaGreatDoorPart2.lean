/-
  Steps to: Law VolumesIsolated: what is written to one volume is read in no other one. No condition.
-/
import Derived.Test.YtemljpjnhjnncaaGreatDoorPart1
set_option maxRecDepth 100000
set_option linter.unusedSimpArgs false
set_option linter.unusedVariables false
open Go.Proofs.Tryz
namespace Go.Proofs.YtemljpjnhjnncaaGreatDoor
open Go.RowKit
variable{n m i j e g r:Nat}{t s p q:Int}{V:List Value}{B S:List UInt8}{T:TypeId}{L:List (Nat×Value)}{v u y:Value}{z:World}{l:List Int}{R:List Nat}{N:Act->World->Prop}{b c:Bool}{x:Operand}{o:List Oper}{K:Value->World->Prop}{C:Nat->Nat}{P:Program}{F:Nat->Bool}{a:Act}
variable{Γ:List Ai}{h:Hp}{A:Ai}
variable{D:Dsk}
section
section
variable{P:Program}{C:World->Prop}{o:Oper}{a:Act}{w z:World}{Γ:List Ai}{n:Nat}{ds:List Deferred}{L:List (Nat×Value)}{v:Value}{x y:Operand}{xt yt:TypeId}{f:FuncId}{args:List Operand}{vs:List Value}{tys:Array TypeId}
theorem Qb{d:World}(g:Fr n ds L a)(h:o.op=.call {callee:=.value (.func f),args:=args.toArray,argTypes:=tys})(b:evs L args=some vs)(c:(callFunc f vs.toArray).run P w=.ok (.value v) d):(execOp a.eval o).run P w=.ok (.value v) d:=by
 unfold execOp;have e:=g.evs b;simp only[h,resolve,Act.eval,Deferred.ofValue,invoke];simp only[go_sem,AeW,e,AeQ,AeV,c];simpa using c
theorem G5(e:o.op=.call {callee:=.value (.func f),args:=args.toArray,argTypes:=tys})(b:evs L args=some vs)(g:∀w,C w->(callFunc f vs.toArray).run P w=.ok (.value v) w):Au P C n ds L o v:=λa c w d=>Qb c e b (g w d)
theorem Rx(i:Nat){b p:Nat}{cs:List Value}{ty:TypeId}{u u0:Value}(H:Sep z Γ w)(hi:Γ[i]?=some (blk b cs ty))(hp:cs[p]?=some u0)(j:o.op=.call {callee:=.value (.func f),args:=args.toArray,argTypes:=tys})(c:evs L args=some vs)(m:u.oneCell'=true)
  (k:w.cell? ⟨b,p,none⟩=some u0->w.frozen? ⟨b,p,none⟩=false->(callFunc f vs.toArray).run P w=.ok (.value v) (w.setCell ⟨b,p,none⟩ u)){out:List Value}(d:cs.set p u=out):Cy P n ds L o w (λv' w'=>v'=v/\Sep z (Γ.set i (blk b out ty)) w'):=λa h=>by
 have e:=H.blk i hi;refine ⟨v,_,Qb h j c (k (e.cel p hp) (e.free p)),Z,?_⟩;subst d;have g:w.heap[b]?=some (.cells cs.toArray ty (0,0)):=e;refine H.write i hi Z Z Z ?_ (λq hq=>?_)
 ·simp only[World.setCell]
  rw[AgB,if_pos Z,g];simp
 simp[World.setCell,AgB,AfS hq]
def NP(P:Program)(s d:TypeId):Bool:=match P.underlying s,P.underlying d with
 | some (.pointer t),some .unsafePointer=>(match P.info? t with|some i=> !(decide (i.size=0))|none=>false)
 | _,_=>false
theorem NQ(g:o.op=.convert xt T x)(b:NP P xt T=true)(h:ev L x=some (.pointer (some ⟨m,j,none⟩)))(d:∀w,C w->FE m j u w):Au P C n ds L o (.pointer (some ⟨m,j,none⟩)):=λa f w e=>by
 unfold NP at b;split at b
 ·rename_i t hs k
  split at b
  ·rename_i i hi
   have c:(P.info? t).map (λi=>decide (i.size=0))=some false:=by rw[hi];simpa using b
   have:=run_convert_to_unsafe (P:=P) hs k c (d w e);simp only[execOp,g,f.ev h,Aev,this,Aer,AeA]
  cases b
 cases b
end

def Xp(P:Program)(f:FuncId)(args:List Value)(pre:List Ai)(post:Value->List Ai->Prop):Prop:=
 ∀z R u w,Sep z (pre++R) w->CallsD P f args.toArray u w (λe u' w'=>u'=u/\Ret (λv w'=>∃Γ',post v Γ'/\Sep z (Γ'++R) w') e w')
theorem NR{P:Program}{f:FuncId}{d:Func}{c:Code}{args:List Value}{u:FrameMode}{w:World}(m:P.funcs[f]?=some d)(o:d.body=some c)(n:Nat)(k:d.ntmps=n)(b:Nat.ble args.length n=true)
  (h:∀a,Fr n [] (first 0 args) a->c.wp P (Qp (Gc P d K) ID (Gc P d K)) a w):CallsD P f args.toArray u w (λe u' w'=>u'=u/\Ret K e w'):=by
 refine callsD_of_wp m o (wp_mono (h _ (by rw[k];exact Fr.start args n (by simpa using b))) λe a w q=>?_)
 cases e with
 | normal=>obtain ⟨j,v,i,g⟩:=q;exact ⟨j,v,i,g⟩
 | ret=>obtain ⟨j,v,i,g⟩:=q;exact ⟨j,v,i,g⟩
 | exit id=>exact q.elim
 | goto l=>exact q.elim
 | panic ch=>exact q.elim
 | outgrown=>exact q.elim
def Jk(P:Program)(fn:Func)(R:Value->World->Prop)(a:Act)(w:World):Prop:=Leaves P fn a.tmps (Ret R) a.defers .returning w
theorem SX{P:Program}{f:FuncId}{d:Func}{c:Code}{args:List Value}{w:World}(i:P.funcs[f]?=some d)(j:d.body=some c)(n:Nat)(g:d.ntmps=n)(b:Nat.ble args.length n=true)
  (h:∀a,Fr n [] (first 0 args) a->c.wp P (Qp (Jk P d K) ID (Jk P d K)) a w):Calls P f args.toArray w (Ret K):=by
 refine calls_of_wp_defers i j (wp_mono (h _ (by rw[g];exact Fr.start args n (by simpa using b))) λe a w q=>?_)
 cases e with
 | normal=>exact q
 | ret=>exact q
 | exit id=>exact q.elim
 | goto l=>exact q.elim
 | panic ch=>exact q.elim
 | outgrown=>exact q.elim
def dfr(f:FuncId)(vs:List Value):Deferred:= {target:=.fn (.func f) #[],args:=vs.toArray}
theorem GH{P:Program}{g:Func}{a:Array Value}{Rr:Ending->World->Prop}{ds:List Deferred}{z w:World}{Γ pre R':List Ai}{post:Value->List Ai->Prop}{f:FuncId}{vs:List Value}(h:∀w,(callFunc f vs.toArray).run P w=.ok (.enter f vs.toArray) w)
  (i:Xp P f vs pre post)(H:Sep z Γ w)(k:Nat)(c:List Nat)(d:Gf k c=true)(e:DI Γ c++Γ.drop k=pre++R')(K:∀v b Γ',post v Γ'->Sep z (Γ'++R') b->Leaves P g a Rr ds .returning b):Leaves P g a Rr (dfr f vs::ds) .returning w:=by
 refine leaves_cons (f:=f) (args:=vs.toArray) O (by simp[invoke,go_sem,h]) ?_;refine CallsD.mono (i z R' .returning w (H.perm k c d e)) λe m b q=>?_;obtain ⟨rfl,q⟩:=q
 cases e with
 | returned v=>obtain ⟨Γ',l,j⟩:=q;exact K v b Γ' l j
 | panicked ch=>exact q.elim
 | outgrown=>exact q.elim
theorem Ac3{P:Program}{b:Func}{a:Array Value}{w:World}(c:b.results= #[])(h:K (.tuple #[]) w):Leaves P b a (Ret K) [] .returning w:=⟨.tuple #[],by simp[results,c,go_sem],h⟩
section
variable{P:Program}{ops:List Oper}{Q:Exit->Act->World->Prop}{w:World}{rest:List Oper}{o:Oper}{n:Nat}{ds:List Deferred}{L:List (Nat×Value)}{f:FuncId}{args:List Operand}{vs:List Value}{tys:Array TypeId}
theorem LM(g:BM ops L o.guard=true)(i:o.dst=none)(h:o.op=.defer {callee:=.value (.func f),args:=args.toArray,argTypes:=tys})(b:evs L args=some vs)
  (K:∀a',Fr n (dfr f vs::ds) L a'->wpList P ops.toArray Q rest a' w):∀a,Fr n ds L a->wpList P ops.toArray Q (o::rest) a w:=by
 intro a d;unfold wpList;rw[if_pos (wantL_ok d g)];left;have e:=d.evs b;have c:(execOp a.eval o).run P w=.ok (.defer (dfr f vs)) w:=by
  unfold execOp;simp only[h,resolve,Act.eval,Deferred.ofValue,AeW,e];simp[go_sem,dfr]
 unfold Oper.wp;rw[c,Oper.upon_defer,i];exact K _ ⟨d.size,by show dfr f vs::a.defers=_;rw[d.defers],d.get⟩
theorem X1{z:World}{Γ pre R':List Ai}{post:Value->List Ai->Prop}{d:Nat}{x:Operand}{bs:List Value}(p:BM ops L o.guard=true)(s:o.dst=some d)(m:Nat.blt d n=true)(y:o.op=.call {callee:=.value x,args:=args.toArray,argTypes:=tys})(r:ev L x=some (.func (.func f) bs.toArray #[]))(b:evs L args=some vs)(hr:∀w,(callFunc f (bs++vs).toArray).run P w=.ok (.enter f (bs++vs).toArray) w)
  (t:Cn P f (bs++vs) pre post)(H:Sep z Γ w)(k:Nat)(l:List Nat)(j:Gf k l=true)(e:DI Γ l++Γ.drop k=pre++R')
  (K:∀v h Γ',post v Γ'->Sep z (Γ'++R') h->∀a',Fr n ds ((d,v)::L) a'->wpList P ops.toArray Q rest a' h):∀a,Fr n ds L a->wpList P ops.toArray Q (o::rest) a w:=by
 intro a i;unfold wpList;rw[if_pos (wantL_ok i p)];left;have e1:=i.evs b;have e2:=i.ev r;have g:(execOp a.eval o).run P w=.ok (.enter f (bs++vs).toArray) w:=by
  unfold execOp;simp only[y,resolve,e2,Deferred.ofValue,invoke];simp only[go_sem,AeW,e1,AeV];simpa using hr w
 unfold Oper.wp;rw[g,AgN];exact Agu (t.at H k l j e) λe h q=>by
  cases e with
  | returned v=>obtain ⟨Γ',u,q2⟩:=q;simp only[s];exact K v h Γ' u q2 _ (i.put d v m)
  | panicked c=>exact q.elim
  | outgrown=>exact q.elim
end
end
section
section
variable{P:Program}{C:World->Prop}{o:Oper}{w z:World}{Γ:List Ai}{n:Nat}{ds:List Deferred}{L:List (Nat×Value)}{x y:Operand}
theorem DJ{e:TypeId}{l:List IE}{zv:Value}(p:o.op=.lookup T x y true)(r:EO P T=some e)(c:(P.info? e).bind (·.zero)=some zv)(u:ev L x=some (.map (some m)))(v:ev L y=some (I s))
  (t:∀w,C w->w.heap[m]?=some (.map (l.map Cu).toArray j)):Au P C n ds L o (.tuple #[(CO l s).getD zv,.bool (CP l s)]):=λa f w h=>by
 obtain ⟨kt,ik,k,g⟩:=D4 r;have d:(zeroValue e).run P w=.ok zv w:=by
  cases hi:P.info? e with
  | none=>rw[hi] at c;cases c
  | some i=>rw[hi] at c;simp[zeroValue,typeInfo,hi,show i.zero=some zv from c,go_sem]
 have z:(getObj m).run P w=.ok (.map (l.map Cu).toArray j) w:=by simp[getObj,Sem.run,t w h]
 have b:=Je l s 0;simp only[execOp,p,f.ev u,f.ev v,Instr.lookup,Aev,run_underlying k,Aer,z,AeA,En g,Af0,EP g]
 cases hf:fnd l s 0 with
 | none=>rw[hf] at b;simp[d,CP,<-b,Aev,AeA]
 | some q=>rw[hf] at b;simp[CP,<-b,AeA]
theorem Ry{e:TypeId}{zv:Value}(k:o.op=.lookup T x y true)(j:EO P T=some e)(c:(P.info? e).bind (·.zero)=some zv)(l:ev L x=some (.map none))(m:ev L y=some (I s)):Au P C n ds L o (.tuple #[zv,.bool false]):=λa f w p=>by
 obtain ⟨r,q,h,g⟩:=D4 j;have d:(zeroValue e).run P w=.ok zv w:=by
  cases hi:P.info? e with
  | none=>rw[hi] at c;cases c
  | some i=>rw[hi] at c;simp[zeroValue,typeInfo,hi,show i.zero=some zv from c,go_sem]
 have b:=EP (P:=P) g [] s w;simp only[Afz,fnd] at b;simp only[execOp,k,f.ev l,f.ev m,Instr.lookup,Aev,run_underlying h,Aer,AeA,En g,b];simp[d,Aev,AeA]
theorem NS{t e:TypeId}{m clk:Nat}{l:List IE}(g:o.op=.call {callee:=.builtin .len,args:= #[x],argTypes:= #[t]})(h:EO P t=some e)(d:ev L x=some (.map (some m)))(i:∀w,C w->w.heap[m]?=some (.map (l.map Cu).toArray clk)):Au P C n ds L o (I l.length):=λa f w b=>by
 obtain ⟨p,j,c,k⟩:=D4 h;simp only[execOp,g,f.ev d,resolve,AeW,AeJ,Afz];simp[invoke,builtin,Builtin.len_,run_underlying c,goInt,go_sem,getObj,Sem.run,i w b]
theorem E6{k:IntKind}(l:o.op=.index T x y)(d:Jf P T=some m)(p:ev L x=some (.agg V.toArray))(z:V.length=m)(q:ev L y=some (.int k s))(c:s=j)(h:V[j]?=some u):Au P C n ds L o u:=λa g w _=>by
 obtain ⟨e,v,d,hi,r,t⟩:=Kw d;subst c;have hj:j<V.length:=(Aeb.1 h).1;have i:(0:Int)<=(j:Int)/\(j:Int)<(m:Int):=by omega
 have b:(part e V.toArray (j*1)).run P w=.ok u w:=by
  simp only[part,Aev,FM t,Aer,if_false,Afs,AeP,Afe,h,AeA]
 have f:(sizeOf e).run P w=.ok 1 w:=by simp[sizeOf,typeInfo,hi,r,go_sem]
 simp only[execOp,l,g.ev p,g.ev q,Instr.index,asIntOf,Aev,AeA,Aer,run_underlying d,if_pos i,Ae4,f,b]
theorem GI{c:Code}{R:Act->World->Prop}{X:Nat->Act->World->Prop}(m:Nat)(h:∀a,Fr n ds L a->Code.rounds P c (Qp N X R) m a w):∀a,Fr n ds L a->(Code.loop c).wp P (Qp N X R) a w:=λa b=>wp_loop_rounds m (h a b)
theorem X2{c:Code}{R:Act->World->Prop}{X:Nat->Act->World->Prop}(h:∀a,Fr n ds L a->c.wp P (Qp (λa w=>Code.rounds P c (Qp N X R) m a w) X R) a w):∀a,Fr n ds L a->Code.rounds P c (Qp N X R) (m+1) a w:=λa b=>by
 rw[rounds_succ];refine wp_mono (h a b) λe a w q=>?_;cases e<;>exact q
theorem DF{c:Code}{R:Act->World->Prop}{X:Nat->Act->World->Prop}(h:∀a,Fr n ds L a->BS P (λa w=>Code.rounds P c (Qp N X R) m a w) X R (.c c .fin) a w):∀a,Fr n ds L a->Code.rounds P c (Qp N X R) (m+1) a w:=X2 h
end
theorem Rz{P:Program}{b:Func}{n:Nat}{ds:List Deferred}{L:List (Nat×Value)}{w:World}(e:Fr n ds L a){rs:List ResultVar}(f:b.results=rs.toArray)(vs:List Value)(c:EN P L w rs vs)(d:GY vs=v)(h:K v w):Leaves P b a.tmps (Ret K) [] .returning w:=⟨v,by rw[<-d];exact Hi e f c,h⟩
end
def BP(F:Nat->Bool):List Value:=(List.range 16).map λk=>u64 (bw F k)
theorem Bz(F:Nat->Bool):(BP F).length=16:=by simp[BP]
theorem wsV_at(F:Nat->Bool)(a:n<16):(BP F)[n]?=some (u64 (bw F n)):=by simp[BP,a]
theorem wsV_one(F:Nat->Bool):∀u∈BP F,u.oneCell'=true:=λu h=>by
 simp only[BP,Aek] at h;obtain ⟨k,_,rfl⟩:=h;rfl
def Cw(n:Nat)(F D S:Nat->Bool):List Value:=.int .i64 n::(BP F++(BP D++(BP S++BP λ_=>false)))
abbrev alB(pa n:Nat)(F D S:Nat->Bool):Ai:=blk pa (Cw n F D S) 190
def BX:Nat->Bool:=λ_=>false
theorem Ac4{D S:Nat->Bool}:(Cw n F D S)[0]?=some (I n):=rfl
theorem Nh{D S:Nat->Bool}(a:m<16):(Cw n F D S)[1+m]?=some (u64 (bw F m)):=by
 unfold Cw;rw[AgS,Aey,Aem (by rw[Bz];exact a),wsV_at _ a]
theorem Xq{D S:Nat->Bool}(a:m<16):(Cw n F D S)[17+m]?=some (u64 (bw D m)):=by
 unfold Cw;rw[show 17+m=(16+m)+1 by omega,Aey,Aes (by rw[Bz];omega),Bz,show 16+m-16=m by omega,Aem (by rw[Bz];exact a),wsV_at _ a]
theorem SY{c:Nat->Bool}{x:BitVec 64}(d:n<16)(h:∀j,j<16->(if n=j then x else bw F j)=bw c j):(BP F).take n++[u64 x]++(BP F).drop (n+1)=BP c:=by
 have f:=Bz F;have e:=Afa (l:=BP F) (i:=n) (a:=u64 x);rw[if_pos U] at e;rw[Aeh,List.singleton_append,<-e];refine Afq λj=>?_;rw[Afo];rcases Aeq j 16 with b|b
 ·rw[wsV_at c b,<-h j b]
  split
  ·rw[if_pos U]
  rw[wsV_at F b]
 rw[if_neg U,AeI U,AeI (by rw[Bz];omega)]
theorem NT(a:Value)(l:List Value)(k:Nat)(u:Value):(a::l).take (1+k)++[u]++(a::l).drop (1+k+1)=a::(l.take k++[u]++l.drop (k+1)):=by
 rw[AgS 1 k];simp
theorem NU{m:List Value}(a:n<V.length):(V++m).take n++[u]++(V++m).drop (n+1)=(V.take n++[u]++V.drop (n+1))++m:=by
 rw[Aet U,AeT U];simp
theorem UR(l m:List Value)(k:Nat)(u:Value):(l++m).take (l.length+k)++[u]++(l++m).drop (l.length+k+1)=l++(m.take k++[u]++m.drop (k+1)):=by
 rw[AgY,Ae6,Aej U,AeK U];rw[show l.length+k-l.length=k by omega,show l.length+k+1-l.length=k+1 by omega];simp
theorem J3{b:Nat->Bool}{D S:Nat->Bool}{x:BitVec 64}(a:m<16)(h:∀j,j<16->(if m=j then x else bw F j)=bw b j):(Cw n F D S).take (1+m)++[u64 x]++(Cw n F D S).drop (1+m+1)=Cw n b D S:=by
 unfold Cw;rw[NT,NU (by rw[Bz];exact a),SY a h]
theorem NV{D D':Nat->Bool}{S:Nat->Bool}{x:BitVec 64}(a:m<16)(h:∀j,j<16->(if m=j then x else bw D j)=bw D' j):(Cw n F D S).take (17+m)++[u64 x]++(Cw n F D S).drop (17+m+1)=Cw n F D' S:=by
 have e:=UR (BP F) (BP D++(BP S++BP λ_=>false)) m (u64 x);rw[Bz] at e;unfold Cw;rw[show 17+m=1+(16+m) by omega,NT,e,NU (by rw[Bz];exact a),SY a h]
theorem EC(n:Nat)(F D S:Nat->Bool):(Cw n F D S).length=65:=by simp[Cw,Bz]
theorem Qc{D S:Nat->Bool}:BP F++BP D=((Cw n F D S).drop 1).take 32:=by
 have a:=Bz F;have b:=Bz D;unfold Cw;rw[List.drop_one,List.tail_cons,<-Aeh,AeF (by simp[a,b])]
theorem X3{D S:Nat->Bool}:BP S++BP BX=((Cw n F D S).drop 33).take 32:=by
 have b:=Bz F;have a:=Bz D;unfold Cw;rw[show (33:Nat)=32+1 from Z,Ae3,<-Aeh (BP F),AfR (by simp[b,a]),Aej (by simp[Bz])];rfl
theorem KI{S:Nat->Bool}:(Cw n F BX S).take 33++(BP F++BP BX)++(Cw n F BX S).drop (33+(BP F++BP BX).length)=Cw n F BX F:=by
 have b:=Bz F;have a:=Bz BX;have e:(Cw n F BX S).drop (33+(BP F++BP BX).length)=[]:=AeK (by simp[EC,b,a]);rw[e,AeV];unfold Cw;rw[show (33:Nat)=32+1 from Z,Ae5,<-Aeh (BP F) (BP BX) (BP S++_),AeF (by simp[Bz])];simp only[AfB,Aeh];rfl
theorem US{D S:Nat->Bool}:(Cw n F D S).take 1++(BP S++BP BX)++(Cw n F D S).drop (1+(BP S++BP BX).length)=Cw n S BX S:=by
 have d:=Bz F;have a:=Bz D;have c:=Bz S;have b:=Bz BX;rw[show 1+(BP S++BP BX).length=32+1 by simp[c,b]];unfold Cw;rw[Ae3,<-Aeh (BP F) (BP D),AfR (by simp[d,a])];simp only[Ae5,AfE,AfB,AeQ,Aeh]
theorem J4(h:∀u∈V,u.oneCell'=true):∀u∈V++BP F,u.oneCell'=true:=λu a=>by
 rcases Aep.1 a with q|q
 ·exact h u q
 exact wsV_one F u q
theorem bit_of(F:Nat->Bool)(p:Nat):(decide ((bw F (p/64))>>>(p%64)&&&1#64=1#64))=F p:=by
 rw[AaQ];cases F p<;>simp
theorem Aa9{w:World}(i:Nat)(H:Sep z Γ w)(a:Γ[i]?=some A)(h:∀h,A h->celH h n m v):FE n m v w:=H.cell i a h
def Gh(F:Nat->Bool)(p:Nat):Nat->Bool:=λq=>F q||decide (q=p)
def Dw(F:Nat->Bool)(p:Nat):Nat->Bool:=λq=>F q && !decide (q=p)
theorem X4(F:Nat->Bool)(p j:Nat):(if p/64=j then bw F (p/64)&&& ~~~Eh (p%64) else bw F j)=bw (Dw F p) j:=by
 rw[show Dw F p=λq=>F q && !decide (q=p) from Z,<-AaP];split
 ·rename_i e;rw[e]
 rfl
theorem Qd(F:Nat->Bool)(p j:Nat):(if p/64=j then bw F (p/64)|||Eh (p%64) else bw F j)=bw (Gh F p) j:=by
 rw[show Gh F p=λq=>F q||decide (q=p) from rfl,<-AaO];split
 ·rename_i e;rw[e]
 rfl
def Dg(F G:Nat->Bool):Nat->Bool:=λq=>F q||G q
def EJ(F G:Nat->Bool)(k:Nat):Nat->Bool:=λq=>if q<64*k then G q else F q
theorem Jl(F G:Nat->Bool)(k j:Nat):bw (EJ F G k) j=if j<k then bw G j else bw F j:=by
 symm;refine Kx λi hi=>?_;unfold EJ;split
 ·rw[if_pos U,DT _ _ _ hi]
 rw[if_neg U,DT _ _ _ hi]
theorem Qe(F G:Nat->Bool)(k:Nat):∀j,j<16->(if k=j then bw G k else bw (EJ F G k) j)=bw (EJ F G (k+1)) j:=λj _=>by
 rw[Jl,Jl];split
 ·rename_i e;subst e;rw[if_pos U]
 by_cases h:j<k
 ·rw[if_pos h,if_pos U]
 rw[if_neg h,if_neg U]
theorem Qf(F G:Nat->Bool):EJ F G 0=F:=by funext q;simp[EJ]
theorem Aba(n:Nat)(F G D D' S:Nat->Bool):Cw n (EJ F G 16) (EJ D D' 16) S=Cw n G D' S:=by
 have h:∀F G:Nat->Bool,BP (EJ F G 16)=BP G:=λF G=>by
  refine Afq λj=>?_;rcases Aeq j 16 with a|a
  ·rw[wsV_at _ a,wsV_at _ a,Jl,if_pos a]
  rw[AeI (by rw[Bz];omega),AeI (by rw[Bz];omega)]
 unfold Cw;rw[h,h]
theorem NW{D S:Nat->Bool}:BP F=((Cw n F D S).drop 1).take 16:=by
 unfold Cw;rw[List.drop_one,List.tail_cons,AeF (Bz F)]
theorem Abb{D S:Nat->Bool}:BP D=((Cw n F D S).drop 17).take 16:=by
 unfold Cw;rw[show (17:Nat)=16+1 from Z,Ae3,AfR (Bz F),AeF (Bz D)]
theorem Ac5(F D:Nat->Bool)(k:Nat):bw (EJ F (Dg F D) k) k|||bw D k=bw (Dg F D) k:=by
 rw[Jl,if_neg U,AcZ];rfl
theorem Abc(F D:Nat->Bool)(k:Nat):∀j,j<16->(if k=j then bw (EJ F (Dg F D) k) k|||bw D k else bw (EJ F (Dg F D) k) j)=bw (EJ F (Dg F D) (k+1)) j:=λj a=>by
 rw[Ac5];exact Qe F _ k j a
theorem Abd(D:Nat->Bool)(k:Nat):∀j,j<16->(if k=j then 0#64 else bw (EJ D BX k) j)=bw (EJ D BX (k+1)) j:=λj a=>by
 have e:(0#64)=bw BX k:=(bw_zero.2 λ_ _=>rfl).symm;rw[e];exact Qe D BX k j a
def DR(n:Nat):Nat->Bool:=λq=>decide (q<n)
theorem X5(k:Nat):Gh (DR k) k=DR (k+1):=by
 funext q;unfold Gh DR;rw[Aew];simp;omega
theorem UT(k:Nat):∀j,j<16->(if k/64=j then bw (DR k) (k/64)|||Eh (k%64) else bw (DR k) j)=bw (DR (k+1)) j:=λj _=>by
 rw[<-X5];exact Qd _ _ _
theorem UU(F:Nat->Bool)(k:Nat):(cnt F 0 (64*k):Int)+(cnt F (64*k) 64:Int)=(cnt F 0 (64*(k+1)):Int):=by
 have:=HA F 0 (64*k) 64;rw[show 64*(k+1)=64*k+64 by omega,this,AfM];omega
theorem SZ(F:Nat->Bool)(a:Nat):∀n,cnt F a n<=n
 | 0=>Aei _
 | n+1=>by
  have:=SZ F a n;have:(F (a+n)).toNat<=1:=by cases F (a+n)<;>simp
  simp only[cnt];omega
def S0(j:Nat):UInt8:=UInt8.ofNat (Go.Lib.deBruijn64tab.getD j 0)
def Hl(A:Ai):Prop:=∀h,A h->∀j,j<64->celH h 0 j (u8 (S0 j))
theorem Abe(x:BitVec 64)(i:Nat)(hi:i<64)(f:x.getLsbD i=true)(n:∀j,j<i->x.getLsbD j=false):(((x&&& -x)*285870213051353865#64)>>>58).toNat<64/\((S0 (((x&&& -x)*285870213051353865#64)>>>58).toNat).toNat:Int)=i:=by
 have d:x.toNat≠0:=λe=>by
  have:x=0#64:=Ag1 (by simpa using e);rw[this] at f;simp at f
 have b:=x.isLt;obtain ⟨m,g,p⟩:=Go.Lib.ctzFrom_spec 64 x.toNat U b;have o:Go.Lib.ctzFrom 64 x.toNat=i:=by
  generalize Go.Lib.ctzFrom 64 x.toNat=c at g p;have k:∀j,x.getLsbD j=(decide (j>=c)&&(2*m+1).testBit (j-c)):=λj=>by
   show x.toNat.testBit j=_;rw[g,Nat.testBit_two_pow_mul]
  rcases AfI i c with h|h|h
  ·have:=k i;rw[f] at this;simp at this;omega
  ·exact h.symm
  have:=k c;rw[n c h] at this;simp at this
 obtain ⟨a,_⟩:=Go.Lib.lowest_bit 64 x.toNat d b;have e2:Go.Lib.ctz 64 x.toNat=i:=by unfold Go.Lib.ctz;rw[if_neg d,o]
 rw[e2] at a;have l:(x&&& -x).toNat=2^i:=by
  rw[Agf,BitVec.toNat_neg,AfA U];exact a
 have q:(((x&&& -x)*285870213051353865#64)>>>58).toNat=2^i*285870213051353865%18446744073709551616/288230376151711744:=by
  rw[Af9,BitVec.toNat_mul,l,Af7];rfl
 obtain ⟨a1,a2⟩:=Go.Lib.deBruijn64_at i hi;rw[q];refine ⟨a1,?_⟩;unfold S0;rw[a2];simp;omega
theorem NX{D S:Nat->Bool}:Cn prog 199 [Y m,I (i:Int)] [alB m n F D S] (λv Γ=>v=.bool (decide (i<n))/\Γ=[alB m n F D S]):=by
 intro z R w H;refine Ae func199 Z ntmps199 Z (Z0 10 [0] Z (Al 7 Z (λa=>?_) (λa=>?_)))
 ·refine Z0 4 [0] Z (Ab Z (Bg Z Z J (Ay (H.cel 0 Z 0 (Ac4)))) (Z0 6 [0] Z (Zr Z ?_)));exact ⟨_,⟨congrArg Value.bool (by first|(rw[Aew];simp<;>omega)|(simp<;>omega)),Z⟩,H⟩
 refine Zc 11 Z (Zr Z ?_);exact ⟨_,⟨congrArg Value.bool (by first|(rw[Aew];simp<;>omega)|(simp<;>omega)),Z⟩,H⟩
theorem NY{D S:Nat->Bool}{p:Nat}(hp:p<n)(b:n<=1024):Cn prog 164 [Y i,I (p:Int)] [alB i n F D S] (λv Γ=>v=.bool (F p)/\Γ=[alB i n F D S]):=by
 intro z R w H;refine Ae func164 Z ntmps164 Z (Zc 9 Z (z_E_ Z (call199 _) (NX) H ?_));intro w H;refine Zc 1 Z (Al 8 Z (λa=>?_) (λa=>?_))
 ·refine Z1 7 [1,1,16,1,(p/64),1+(p/64)] [(p:Int)/64] Z U (Ab Z (Bg Z Z J (Ay (H.cel 0 Z (1+(p/64)) (Nh U)))) (Z1 2 [] [(p:Int)%64] Z U (Ab Z (Fv Z Z Z (m:=(p%64)) U U) (Ab Z (Ff (q:=1#64) Z Z Z) (Ab Z (NH (p:=((bw F (p/64))>>>(p%64))&&&(1#64)) (q:=1#64) (k:=.u64) Z J Z Z) (AD 21 (v:=.bool (F p)) Z (congrArg Value.bool (bit_of F p)) (Zc 5 Z (Zr Z ?_))))))));exact ⟨_,⟨Z,Z⟩,H⟩
 exact absurd hp a
theorem S1{D S:Nat->Bool}(p:Nat)(hp:p<n)(c:n<=1024)(a:F p=true):Cn prog 113 [Y i,I (p:Int)] [alB i n F D S] (λv Γ=>v=.bool true/\Γ=[alB i n (Dw F p) D S]):=by
 intro z R w H;refine Ae func113 Z ntmps113 Z (Zc 10 Z (z_E_ Z (call164 _) (NY U U) H ?_));intro w H;refine AD 7 (v:=.bool true) Z (congrArg Value.bool a) (Zc 7 Z (BH 16 J J (AZ H λw b=>?_)));have H:=b.l1;refine EQ 7 [1,1,16,1,(p/64),1+(p/64)] [(p:Int)/64] H Z J U (B9 Z Z Z (Bg Z Z J (Ay (H.cel 0 Z (1+(p/64)) (Nh U)))) (EQ 2 [] [(p:Int)%64] H Z J U (B9 Z Z Z (NG Z Z Z (m:=(p%64)) U U) (B9 Z Z Z (UC Z Z Z) (EQ 4 [1,1,16,1,(p/64),1+(p/64)] [] H Z J U (CF (gw (Az Z Z (Ak 0 H Z Z Z Z (vs:=[u64 ((bw F (p/64))&&& ~~~(Eh (p%64)))]) Z (Ad Z Aw) J (by simp only[EC,Aeg,AeB];omega) (out:=(Cw n (Dw F p) D S)) (J3 U (λj _=>X4 F p j))) ?_))))))));rintro w H;refine Zc 8 Z (Zr Z ?_);exact ⟨_,⟨Z,Z⟩,H⟩
theorem X6{D S:Nat->Bool}{p:Nat}(hp:p<n)(d:n<=1024)(b:F p=false)(a:D p=false):Cn prog 179 [Y i,I (p:Int)] [alB i n F D S] (λv Γ=>v=.bool true/\Γ=[alB i n F (Gh D p) S]):=by
 intro z R w H;refine Ae func179 Z ntmps179 Z (Zc 10 Z (z_E_ Z (call199 _) (NX) H ?_));intro w H;refine AD 7 (v:=.bool true) Z (congrArg Value.bool (decide_eq_true hp)) (Zc 4 Z (z_E_ Z (call164 _) (NY U U) H ?_));intro w H;refine AD 12 (v:=.bool false) Z (congrArg Value.bool b) (Z1 9 [1,17,16,1,(p/64),17+(p/64)] [(p:Int)/64] Z U (Ab Z (Bg Z Z J (Ay (H.cel 0 Z (17+(p/64)) (Xq U)))) (Z1 2 [] [(p:Int)%64] Z U (Ab Z (Fv Z Z Z (m:=(p%64)) U U) (Ab Z (Ff (q:=1#64) Z Z Z) (Ab Z (NH (p:=((bw D (p/64))>>>(p%64))&&&(1#64)) (q:=1#64) (k:=.u64) Z J Z Z) (AD 27 (v:=.bool false) Z (congrArg Value.bool ((bit_of D p).trans a)) (Zc 7 Z (BH 16 J J (AZ H λw c=>?_))))))))));have H:=c.l1;refine EQ 7 [1,17,16,1,(p/64),17+(p/64)] [(p:Int)/64] H Z J U (B9 Z Z Z (Bg Z Z J (Ay (H.cel 0 Z (17+(p/64)) (Xq U)))) (EQ 2 [] [(p:Int)%64] H Z J U (B9 Z Z Z (NG Z Z Z (m:=(p%64)) U U) (B9 Z Z Z (NF Z Z Z) (EQ 4 [1,17,16,1,(p/64),17+(p/64)] [] H Z J U (CF (gw (Az Z Z (Ak 0 H Z Z Z Z (vs:=[u64 ((bw D (p/64))|||(Eh (p%64)))]) Z (Ad Z Aw) J (by simp only[EC,Aeg,AeB];omega) (out:=(Cw n F (Gh D p) S)) (NV U (λj _=>Qd D p j))) ?_))))))));rintro w H;refine Zc 8 Z (Zr Z ?_);exact ⟨_,⟨Z,Z⟩,H⟩
abbrev pB_(F:Nat->Bool)(k:Nat):BitVec 64:=((bw F k)>>>1)&&&(6148914691236517205#64)
abbrev pC_ (F:Nat->Bool) (k:Nat):BitVec 64:=(bw F k)&&&(6148914691236517205#64)
abbrev Qg (F:Nat->Bool) (k:Nat):BitVec 64:=(((bw F k)>>>1)&&&(6148914691236517205#64))+((bw F k)&&&(6148914691236517205#64))
abbrev pD_ (F:Nat->Bool) (k:Nat):BitVec 64:=(((Qg F k)>>>2)&&&(3689348814741910323#64))
abbrev pE_ (F:Nat->Bool) (k:Nat):BitVec 64:=((Qg F k)&&&(3689348814741910323#64))
abbrev pF_ (F:Nat->Bool) (k:Nat):BitVec 64:=(pD_ F k)+(pE_ F k)
theorem X7:Cn prog 117 [u64 (bw F n)] [] (λv Γ=>v=I ((cnt F (64*n) 64:Nat):Int)/\Γ=[]):=by
 intro z R w H;refine Ae func117 Z ntmps117 Z (Zc 8 Z (Ab Z (Fv Z Z Z (m:=1) Z (by decide)) (Ab Z (Ff (q:=6148914691236517205#64) Z Z Z) (Zc 1 Z (Ab Z (Ff (q:=6148914691236517205#64) Z Z Z) (Ab Z (HB (p:=((bw F n)>>>1)&&&(6148914691236517205#64)) (q:=(bw F n)&&&(6148914691236517205#64)) Z Z Z) (Zc 6 Z (Ab Z (Fv Z Z Z (m:=2) Z (by decide)) (Ab Z (Ff (p:=(Qg F n)>>>2) (q:=3689348814741910323#64) Z Z Z) (Zc 1 Z (Ab Z (Ff (p:=(pB_ F n)+(pC_ F n)) (q:=3689348814741910323#64) Z Z Z) (Ab Z (HB (p:=((Qg F n)>>>2)&&&(3689348814741910323#64)) (q:=(Qg F n)&&&(3689348814741910323#64)) Z Z Z) (Zc 6 Z ?_)))))))))))));refine Ab Z (Fv Z Z Z (m:=4) Z (by decide)) (Zc 1 Z (Ab Z (HB (p:=(pF_ F n)>>>4) (q:=(pD_ F n)+(pE_ F n)) Z Z Z) (Ab Z (Ff (p:=((pF_ F n)>>>4)+(pF_ F n)) (q:=1085102592571150095#64) Z Z Z) (Zc 7 Z (Ab Z (Fv Z Z Z (m:=8) Z (by decide)) (Ab Z (HB (p:=(((pF_ F n)>>>4)+(pF_ F n))&&&(1085102592571150095#64)) (q:=((((pF_ F n)>>>4)+(pF_ F n))&&&(1085102592571150095#64))>>>8) Z Z Z) (Zc 7 Z (Ab Z (Fv Z Z Z (m:=16) Z (by decide)) (Ab Z (HB (p:=((((pF_ F n)>>>4)+(pF_ F n))&&&(1085102592571150095#64))+(((((pF_ F n)>>>4)+(pF_ F n))&&&(1085102592571150095#64))>>>8)) (q:=(((((pF_ F n)>>>4)+(pF_ F n))&&&(1085102592571150095#64))+(((((pF_ F n)>>>4)+(pF_ F n))&&&(1085102592571150095#64))>>>8))>>>16) Z Z Z) (Zc 7 Z (Ab Z (Fv Z Z Z (m:=32) Z (by decide)) (Ab Z (HB (p:=(((((pF_ F n)>>>4)+(pF_ F n))&&&(1085102592571150095#64))+(((((pF_ F n)>>>4)+(pF_ F n))&&&(1085102592571150095#64))>>>8))+((((((pF_ F n)>>>4)+(pF_ F n))&&&(1085102592571150095#64))+(((((pF_ F n)>>>4)+(pF_ F n))&&&(1085102592571150095#64))>>>8))>>>16)) (q:=((((((pF_ F n)>>>4)+(pF_ F n))&&&(1085102592571150095#64))+(((((pF_ F n)>>>4)+(pF_ F n))&&&(1085102592571150095#64))>>>8))+((((((pF_ F n)>>>4)+(pF_ F n))&&&(1085102592571150095#64))+(((((pF_ F n)>>>4)+(pF_ F n))&&&(1085102592571150095#64))>>>8))>>>16))>>>32) Z Z Z) (Zc 6 Z ?_)))))))))))));refine Ab Z (Ac1 Z J Z (LB F n).1) (Ab Z (XT Z Z Z (by have:=(LB F n).1;exact ⟨Int.natCast_nonneg _,by unfold Lz at this;dsimp only[Qg,pB_,pC_,pD_,pE_,pF_] at this ⊢;omega⟩)) (AD 34 (u:=I (((Lz (bw F n)).toNat:Int)%128)) (v:=I ((cnt F (64*n) 64:Nat):Int)) Z (congrArg I (by have:=(LB F n).2;omega)) (Zc 4 Z (gr (Fq Z [I ((cnt F (64*n) 64:Nat):Int)] ⟨Z,trivial⟩ (v:=I ((cnt F (64*n) 64:Nat):Int)) Z ?_)))));exact ⟨_,⟨Z,Z⟩,H⟩
theorem X8{D S:Nat->Bool}:Cn prog 64 [Y i] [alB i n F D S] (λv Γ=>v=I (cnt F 0 1024:Int)/\Γ=[alB i n F D S]):=by
 intro z R w H;refine Ae func64 Z ntmps64 Z (Z0 17 [1,1] Z (Ab Z (BU Z Z (vs:=BP F) J (Ay ((H.blk 0 Z).part 1 16 _ (NW)))) (Zc 4 Z ?_)));refine AB (σ:=Nat) (λk=>[(11,I (k:Int)),(3,I (cnt F 0 (64*k):Int)),(2,I 0),(10,.agg (BP F).toArray)])
   (λk w=>Sep z (alB i n F D S::R) w/\(k<=16)) (λk=>16-k) 0
   (λ_ a=>(a.co Z (by go_num) a.cz)) ⟨H,by omega⟩ ?_
 clear H;rintro k w ⟨f,b⟩;have H:=f.l1;have c:=b;clear b;have d:=SZ F 0 (64*(k+1));refine Z0 6 [0] Z (Af Z (λe=>?_) (λe=>?_))
 ·refine Zc 6 Z (Ab Z (E6 (m:=16) Z J Z Z Z (j:=k) Z (u:=u64 (bw F k)) (wsV_at F U)) (Zc 6 Z (z_E_ Z (call117 _) (X7) H ?_)));intro w H;refine Ab Z (C3 Z Z Z (r:=(cnt F 0 (64*(k+1)):Int)) (UU F k) U) (Z1 8 [] [(k:Int)+1] Z U (gf ?_));intro _ a;refine ⟨(k+1),a.cz,⟨H,?_⟩,?_⟩
  ·omega
  omega
 obtain rfl:k=16:=by omega
 refine Zc 2 Z (gx (Zc 9 Z (Zr Z ?_)));exact ⟨_,⟨Z,Z⟩,H⟩
theorem Mw{D S:Nat->Bool}:Cn prog 114 [Y i] [alB i n F D S] (λv Γ=>v=.tuple #[]/\Γ=[alB i n (Dg F D) BX (Dg F D)]):=by
 intro z R w H;refine Ae func114 Z ntmps114 Z (Z0 7 [1,17] Z (Ab Z (BU Z Z (vs:=BP D) J (Ay ((H.blk 0 Z).part 17 16 _ (Abb)))) (Zc 4 Z ?_)));refine AB (σ:=Nat) (λk=>[(9,I (k:Int)),(0,Y i),(8,.agg (BP D).toArray)])
   (λk w=>Sep z (alB i n (EJ F (Dg F D) k) (EJ D BX k) S::R) w/\(k<=16)) (λk=>16-k) 0
   fr_z ⟨(by rw[Qf,Qf];exact H),by omega⟩ ?_
 clear H;rintro k w ⟨a,b⟩;have H:=a.l1;have c:=b;clear b;refine Z0 6 [0] Z (Af Z (λd=>?_) (λd=>?_))
 ·refine Zc 7 Z (Ab Z (E6 (m:=16) Z J Z Z Z (j:=k) Z (u:=u64 (bw D k)) (wsV_at D U)) (Zc 5 Z (BH 13 J J (AZ H λw a=>?_))))
  have H:=a.l1;refine EQ 6 [1,1,16,1,k,1+k] [] H Z J U (B9 Z Z Z (Bg Z Z J (Ay (H.cel 0 Z (1+k) (Nh U)))) (PW 1 [] Z J (B9 Z Z Z (NF Z Z Z) (EQ 4 [1,1,16,1,k,1+k] [] H Z J U (CF (gw (Az Z Z (Ak 0 H Z Z Z Z (vs:=[u64 ((bw (EJ F (Dg F D) k) k)|||(bw D k))]) Z (Ad Z Aw) J (by simp only[EC,Aeg,AeB];omega) (out:=(Cw n (EJ F (Dg F D) (k+1)) (EJ D BX k) S)) (J3 U (Abc F D k))) ?_)))))));rintro w H;refine Z1 9 [1,17,16,1,k,17+k] [] Z U (Az Z Z (Ak 0 H Z Z Z Z (vs:=[u64 (0#64)]) Z (Ad Z Aw) J (by simp only[EC,Aeg,AeB];omega) (out:=(Cw n (EJ F (Dg F D) (k+1)) (EJ D BX (k+1)) S)) (NV U (Abd D k))) ?_);rintro w H;refine Z1 7 [] [(k:Int)+1] Z U (gf ?_);intro _ e;refine ⟨(k+1),e.cz,⟨H,?_⟩,?_⟩
  ·omega
  omega
 obtain rfl:k=16:=by omega
 refine Zc 2 Z (gx (Zc 2 Z ?_));dsimp only[alB] at H;rw[Aba] at H;refine Z0 5 [1] Z (Ab Z (BU Z Z (vs:=BP (Dg F D)++BP BX) J (Ay ((H.blk 0 Z).part 1 32 _ (Qc)))) (Z0 2 [33] Z (Az Z Z (Ak 0 H Z Z Z Z (vs:=BP (Dg F D)++BP BX) Z (J4 (wsV_one _)) J (by simp only[EC,Aee,Bz];omega) (out:=(Cw n (Dg F D) BX (Dg F D))) (KI)) ?_)));rintro w H;refine Zc 1 Z (Zf Z ?_);exact ⟨_,⟨Z,Z⟩,H⟩
theorem X9{D S:Nat->Bool}:Cn prog 203 [Y m] [alB m n F D S] (λv Γ=>v=.tuple #[]/\Γ=[alB m n S BX S]):=by
 intro z R w H;refine Ae func203 Z ntmps203 Z (Z0 5 [33] Z (Ab Z (BU Z Z (vs:=BP S++BP BX) J (Ay ((H.blk 0 Z).part 33 32 _ (X3)))) (Z0 2 [1] Z (Az Z Z (Ak 0 H Z Z Z Z (vs:=BP S++BP BX) Z (J4 (wsV_one _)) J (by simp only[EC,Aee,Bz];omega) (out:=(Cw n S BX S)) (US)) ?_))));rintro w H;refine Zc 1 Z (Zf Z ?_);exact ⟨_,⟨Z,Z⟩,H⟩
theorem Abf(j:1<=n/\n<=1024):Cn prog 110 [I (n:Int)] [] (λv Γ=>(∃d,v=Y d/\Γ=[alB d n (DR n) BX (DR n)])):=by
 intro z R w H;refine Ae func110 Z ntmps110 Z (Z0 11 [0] Z (Al 7 Z (λe=>U) (λe=>?_)));refine Z0 5 [0] Z (Af Z (λg=>U) (λg=>?_));refine Zc 5 Z (Ab Z (Bc Z Z (out:=(Cw n (DR 0) BX BX)) J) (AR Z (G0 H Z Z (cs:=(Cw n (DR 0) BX BX)) Z) ?_));rintro _ w ⟨a,rfl,H⟩;refine Zc 11 Z ?_;refine AB (σ:=Nat) (λk=>[(15,I (k:Int)),(2,.pointer none),(3,Y a),(14,I (n:Int))])
   (λk w=>Sep z (alB a n (DR k) BX BX::R) w/\(k<=n)) (λk=>n-k) 0
   fr_z ⟨H,by omega⟩ ?_
 clear H;rintro k w ⟨b,c⟩;have H:=b.l1;have f:=c;clear c;refine Z0 6 [0] Z (Af Z (λi=>?_) (λi=>?_))
 ·refine Zc 10 Z (BH 16 J J (AZ H λw b=>?_))
  have H:=b.l1;refine EQ 7 [1,1,16,1,(k/64),1+(k/64)] [(k:Int)/64] H Z J U (B9 Z Z Z (Bg Z Z J (Ay (H.cel 0 Z (1+(k/64)) (Nh U)))) (EQ 2 [] [(k:Int)%64] H Z J U (B9 Z Z Z (NG Z Z Z (m:=(k%64)) U U) (B9 Z Z Z (NF Z Z Z) (EQ 4 [1,1,16,1,(k/64),1+(k/64)] [] H Z J U (CF (gw (Az Z Z (Ak 0 H Z Z Z Z (vs:=[u64 ((bw (DR k) (k/64))|||(Eh (k%64)))]) Z (Ad Z Aw) J (by simp only[EC,Aeg,AeB];omega) (out:=(Cw n (DR (k+1)) BX BX)) (J3 U (UT k))) ?_))))))));rintro w H;refine Z1 7 [] [(k:Int)+1] Z U (gf ?_);intro _ h;refine ⟨(k+1),h.cz,⟨H,?_⟩,?_⟩
  ·omega
  omega
 obtain rfl:k=n:=by omega
 refine Zc 2 Z (gx (Z0 8 [1] Z (Ab Z (BU Z Z (vs:=BP (DR k)++BP BX) J (Ay ((H.blk 0 Z).part 1 32 _ (Qc)))) (Z0 2 [33] Z (Az Z Z (Ak 0 H Z Z Z Z (vs:=BP (DR k)++BP BX) Z (J4 (wsV_one _)) J (by simp only[EC,Aee,Bz];omega) (out:=(Cw k (DR k) BX (DR k))) (KI)) ?_)))));rintro w H;refine Zc 9 Z (Zr Z ?_);exact ⟨_,⟨a,Z,Z⟩,H⟩
theorem AdJ{x:BitVec 64}(i:Nat)(hi:i<64)(a:x.getLsbD i=true)(b:∀j,j<i->x.getLsbD j=false)(f:Hl A):Cn prog 178 [u64 x] [A] (λv Γ=>v=I ((i:Nat):Int)/\Γ=[A]):=by
 intro z R w H;obtain ⟨d,e⟩:=Abe x i hi a b;refine Ae func178 Z ntmps178 Z (Zc 9 Z (Ab Z (NH (q:=0#64) (k:=.u64) Z J Z Z) (Zc 2 Z (Af Z (λc=>?_) (λc=>?_)))))
 ·(exfalso;rw[c] at a;simp at a)
 refine Zc 6 Z (Ab Z (AaY Z Z) (Ab Z (Ff Z Z Z) (Ab Z (AaX (q:=285870213051353865#64) Z Z Z) (Ab Z (Fv Z Z Z (m:=58) Z (by decide)) (Ab Z (JQ (l:=64) Z (z:=1) (j:=(((x&&& -x)*285870213051353865#64)>>>58).toNat) (r:=(((x&&& -x)*285870213051353865#64)>>>58).toNat) J Z Z Z d U) (Ab Z (Bg Z Z J (Ay (Aa9 0 H Z (λh q=>f h q _ d)))) (Ab Z (Rn Z J Z) (AD 13 (v:=I ((i:Nat):Int)) Z (congrArg I e) (Zc 4 Z (Zr Z ?_))))))))));exact ⟨_,⟨Z,Z⟩,H⟩
theorem Abg{D S:Nat->Bool}(p:Nat)(hp:p<n)(s:n<=1024)(a:F p=true)(b:∀q,q<p->F q=false)(o:Hl A):Cn prog 135 [Y i] [alB i n F D S,A] (λv Γ=>v=.tuple #[I (p:Int),.bool true]/\Γ=[alB i n (Dw F p) D S,A]):=by
 intro z R w H;refine Ae func135 Z ntmps135 Z (Z0 13 [1,1] Z (Ab Z (BU Z Z (vs:=BP F) J (Ay ((H.blk 0 Z).part 1 16 _ (NW)))) (Zc 4 Z ?_)));refine AB (σ:=Nat) (λk=>[(12,I (k:Int)),(0,Y i),(11,.agg (BP F).toArray)])
   (λk w=>Sep z (alB i n F D S::A::R) w/\(k<=p/64)) (λk=>16-k) 0
   fr_z ⟨H,by omega⟩ ?_
 clear H;rintro k w ⟨r,g⟩;have H:=r.l2;have t:=g;clear g;refine Z0 6 [0] Z (Af Z (λh=>?_) (λh=>?_))
 ·refine Zc 7 Z (Ab Z (E6 (m:=16) Z J Z Z Z (j:=k) Z (u:=u64 (bw F k)) (wsV_at F U)) (Zc 7 Z (Ab Z (SI (q:=0#64) (k:=.u64) Z J Z Z) (Zc 2 Z (Af Z (λd=>?_) (λd=>?_))))))
  ·have c:k=p/64:=by
     rcases Aeq k (p/64) with q|q
     · exact absurd (bw_zero.2 λj x=>b _ U) d
     · omega
   have f:F (64*k+p%64)=true:=by rw[show 64*k+p%64=p by omega];exact a
   refine Z1 5 [] [64*(k:Int)] Z U (z_E_ Z (call178 _) (AdJ (p%64) U (by rw[DT _ _ _ U];exact f) (λj x=>by rw[DT _ _ _ U];exact b _ U) o) H.f1 ?_);intro w H;refine Z1 9 [] [(p:Int)] Z U (z_E_ Z (call113 _) (S1 _ hp s a) H.f1 ?_);intro w H;refine Zc 5 Z (Zr Z ?_);exact ⟨_,⟨Z,Z⟩,H⟩
  have c:k≠p/64:=λe=>by
    have:=bw_zero.1 (Aho.1 d) (p%64) U;rw[show 64*k+p%64=p by omega,a] at this;cases this
  refine Z1 7 [] [(k:Int)+1] Z U (gf ?_);intro _ l;refine ⟨(k+1),l.cz,⟨H,?_⟩,?_⟩
  ·omega
  omega
 (exfalso;omega)
theorem Ya{D S:Nat->Bool}(a:∀q,q<1024->F q=false):Cn prog 135 [Y i] [alB i n F D S] (λv Γ=>v=.tuple #[I 0,.bool false]/\Γ=[alB i n F D S]):=by
 intro z R w H;refine Ae func135 Z ntmps135 Z (Z0 13 [1,1] Z (Ab Z (BU Z Z (vs:=BP F) J (Ay ((H.blk 0 Z).part 1 16 _ (NW)))) (Zc 4 Z ?_)));refine AB (σ:=Nat) (λk=>[(12,I (k:Int)),(0,Y i),(11,.agg (BP F).toArray)])
   (λk w=>Sep z (alB i n F D S::R) w/\(k<=16)) (λk=>16-k) 0
   fr_z ⟨H,by omega⟩ ?_
 clear H;rintro k w ⟨g,b⟩;have H:=g.l1;have d:=b;clear b;refine Z0 6 [0] Z (Af Z (λe=>?_) (λe=>?_))
 ·refine Zc 7 Z (Ab Z (E6 (m:=16) Z J Z Z Z (j:=k) Z (u:=u64 (bw F k)) (wsV_at F U)) (Zc 7 Z (Ab Z (SI (q:=0#64) (k:=.u64) Z J Z Z) (Zc 2 Z (Af Z (λc=>?_) (λc=>?_))))))
  ·exact absurd (bw_zero.2 λj h=>a _ U) c
  refine Z1 7 [] [(k:Int)+1] Z U (gf ?_);intro _ f;refine ⟨(k+1),f.cz,⟨H,?_⟩,?_⟩
  ·omega
  omega
 refine Zc 2 Z (gx (Zc 9 Z (Zr Z ?_)));exact ⟨_,⟨Z,Z⟩,H⟩
def Dh{α:Type}(f:Nat->α)(i:Nat)(x:α):Nat->α:=λk=>if k=i then x else f k
theorem GJ{α:Type}(f:Nat->α)(i:Nat)(x:α):Dh f i x i=x:=by simp[Dh]
theorem upf_other{α:Type}(f:Nat->α)(x:α)(h:n≠i):Dh f i x n=f n:=by simp[Dh,h]
def Dsk.w1(D:Dsk)(fua:Bool)(i:Nat)(p:List UInt8):Dsk:=
 if fua then {D with dur:=Dh D.dur i p,ver:=Dh D.ver i []} else {D with ver:=Dh D.ver i (D.ver i++[p])}
def Dsk.ws(D:Dsk)(fua:Bool)(i:Nat):List (List UInt8)->Dsk
 | []=>D
 | p::ps=>(D.w1 fua i p).ws fua (i+1) ps
theorem Dsk.w1_n(D:Dsk)(a:Bool)(i:Nat)(p:List UInt8):(D.w1 a i p).n=D.n:=by cases a<;>rfl
theorem Dsk.w1_f(D:Dsk)(a:Bool)(i:Nat)(p:List UInt8):(D.w1 a i p).f1=D.f1/\(D.w1 a i p).f2=D.f2/\(D.w1 a i p).f3=D.f3/\(D.w1 a i p).cut=D.cut/\(D.w1 a i p).left=D.left:=by cases a<;>exact ⟨Z,Z,Z,Z,Z⟩
theorem Dsk.ws_snoc(a:Bool)(ps:List (List UInt8))(p:List UInt8):∀(D:Dsk) (i:Nat),D.ws a i (ps++[p])=(D.ws a i ps).w1 a (i+ps.length) p:=by
 induction ps with
 | nil=>intro D i;rfl
 | cons q qs ih=>intro D i;simp only[AfB,Dsk.ws,ih,Aeg];rw[show i+1+qs.length=i+(qs.length+1) from by omega]
theorem Dsk.ws_n(a:Bool)(ps:List (List UInt8)):∀(D:Dsk) (i:Nat),(D.ws a i ps).n=D.n:=by
 induction ps with
 | nil=>intro D i;rfl
 | cons q qs ih=>intro D i;simp only[Dsk.ws,ih,Dsk.w1_n]
theorem Dsk.ws_f(a:Bool)(ps:List (List UInt8)):∀(D:Dsk) (i:Nat),(D.ws a i ps).f1=D.f1/\(D.ws a i ps).f2=D.f2/\(D.ws a i ps).f3=D.f3/\(D.ws a i ps).cut=D.cut/\(D.ws a i ps).left=D.left:=by
 induction ps with
 | nil=>intro D i;exact ⟨Z,Z,Z,Z,Z⟩
 | cons q qs ih=>intro D i;simp only[Dsk.ws];rw[(ih _ _).1,(ih _ _).2.1,(ih _ _).2.2.1,(ih _ _).2.2.2.1,(ih _ _).2.2.2.2];exact Dsk.w1_f D a i q
theorem Dsk.Ok.w1{D:Dsk}(h:D.Ok){c:Bool}{i:Nat}{p:List UInt8}(hp:p.length=256):(D.w1 c i p).Ok:=by
 cases c with
 | true=>
  refine ⟨h.n1,h.n2,λj b=>?_,λj b q hq=>?_,h.f1,h.f2,h.f3,h.left⟩
  ·show (Dh D.dur i p j).length=256
   unfold Dh;split
   ·exact hp
   exact h.dur j b
  have a:q∈Dh D.ver i [] j:=hq;unfold Dh at a;split at a
  ·cases a
  exact h.ver j b q a
 | false=>
  refine ⟨h.n1,h.n2,h.dur,λj b q hq=>?_,h.f1,h.f2,h.f3,h.left⟩;have a:q∈Dh D.ver i (D.ver i++[p]) j:=hq;unfold Dh at a;split at a
  ·rename_i e;subst e
   rcases Aep.1 a with h'|h'
   ·exact h.ver j b q h'
   rw[Aft.1 h'];exact hp
  exact h.ver j b q a
theorem Ent.Ok.le{hq a:Hp}{e:Ent}(h:e.Ok hq)(s:CJ hq a):e.Ok a:=⟨h.1,h.2.1,λj c p b d=>⟨(h.2.2 j c p b d).1,(h.2.2 j c p b d).2.le s⟩⟩
theorem Dsk.In.le{D:Dsk}{bs:List UInt8}{es:List Ent}{clk:Nat}{hq a:Hp}(h:D.In bs es clk hq)(s:CJ hq a):D.In bs es clk a:=
 ⟨h.len,h.own,λe b=>⟨(h.ent e b).1,(h.ent e b).2.1,(h.ent e b).2.2.le s⟩,h.all,h.nodup,h.born,h.clk⟩

theorem KJ(hs:seps Γ h)(i:Nat)(hi:Γ[i]?=some A):seps (A::Γ.eraseIdx i) h:=by
 obtain ⟨own,b⟩:=hs;refine ⟨λk=>if own k=i then 0 else if own k<i then own k+1 else own k,λj B a=>?_⟩
 cases j with
 | zero=>
  simp only[AeS,Ael] at a;subst a;have:=b i A hi;rwa[Db (h':=h) (own':=λk=>if own k=i then 0 else if own k<i then own k+1 else own k) (j:=0) (λk=>⟨λe=>by rw[if_pos e],λe=>by
   split at e
   ·assumption
   split at e<;>omega⟩) (λ_ _=>rfl)] at this
 | succ j=>
  simp only[Aey] at a;rw[Agh] at a;split at a
  ·rename_i d
   have:=b j B a;rwa[Db (h':=h) (own':=λk=>if own k=i then 0 else if own k<i then own k+1 else own k) (j:=j+1) (λk=>⟨λe=>by rw[if_neg U,if_pos U];omega,λe=>by
    split at e
    ·omega
    split at e<;>omega⟩) (λ_ _=>rfl)] at this
  rename_i c;have:=b (j+1) B a;rwa[Db (h':=h) (own':=λk=>if own k=i then 0 else if own k<i then own k+1 else own k) (j:=j+1) (λk=>⟨λe=>by rw[if_neg U,if_neg U];omega,λe=>by
   split at e
   ·omega
   split at e<;>omega⟩) (λ_ _=>rfl)] at this
theorem S2(i:Nat)(hi:i<Γ.length)(hs:seps (A::Γ.eraseIdx i) h):seps (Γ.set i A) h:=by
 obtain ⟨own,c⟩:=hs;have d:(Γ.eraseIdx i).length=Γ.length-1:=List.length_eraseIdx_of_lt hi;refine ⟨λk=>if own k=0 then i else if own k<=i then own k-1 else own k,λj B a=>?_⟩;by_cases e:j=i
 ·subst e
  rw[Aff hi] at a;simp only[Ael] at a;subst a;have:=c 0 A Z;rwa[Db (h':=h) (own':=λk=>if own k=0 then j else if own k<=j then own k-1 else own k) (j:=j) (λk=>⟨λe=>by rw[if_pos e],λe=>by
   split at e
   ·assumption
   split at e<;>omega⟩) (λ_ _=>rfl)] at this
 rw[AfV (AfS e)] at a;have f:=(Aeb.1 a).1;rcases Aeq j i with b|hge
 ·have:=c (j+1) B (by rw[Aey,Agh,if_pos b];exact a)
  rwa[Db (h':=h) (own':=λk=>if own k=0 then i else if own k<=i then own k-1 else own k) (j:=j) (λk=>⟨λe=>by rw[if_neg U,if_pos U];omega,λe=>by
   split at e
   ·omega
   split at e<;>omega⟩) (λ_ _=>rfl)] at this
 obtain ⟨q,rfl⟩:∃q,j=q+1:=⟨j-1,by omega⟩;have:=c (q+1) B (by rw[Aey,Agh,if_neg U];exact a);rwa[Db (h':=h) (own':=λk=>if own k=0 then i else if own k<=i then own k-1 else own k) (j:=q+1) (λk=>⟨λe=>by rw[if_neg U,if_neg U];omega,λe=>by
  split at e
  ·omega
  split at e<;>omega⟩) (λ_ _=>rfl)] at this
theorem S3{As:List Ai}(hs:seps (A::As) h):seps (As++[A]) h:=DY (As:=[A]) (Bs:=As) hs
theorem S4(hs:seps (A::Γ) h):seps Γ h:=by
 have:=Mn hs 1 [] Z;exact this
theorem Yb(es:List Ent)(k:Nat)(c:Value)(f:Ent->Ent)(g:∀e,(f e).key=e.key/\(f e).v=c/\(f e).born=e.born):∀(i:Nat) (e:Ent),(es.map Ent.key).Nodup->es[i]?=some e->e.key=k->updM (es.map Ent.ie) (k:Int) c=(es.set i (f e)).map Ent.ie:=by
 induction es with
 | nil=>intro i e _ h;simp at h
 | cons x xs ih=>
  intro i e a hi d;simp only[AeJ,Afi] at a
  cases i with
  | zero=>
   simp only[AeS,Ael] at hi;subst hi;subst d;simp[updM,Ent.ie,g]
  | succ i=>
   simp only[Aey] at hi;have b:¬(k:Int)=(x.key:Int):=by
    intro q;have:x.key=e.key:=by omega
    exact a.1 (this▸Aez (Aec hi))
   simp only[AeJ,updM,List.set_cons_succ];rw[if_neg (by simpa [Ent.ie] using b),ih i e a.2 hi d]
theorem Yc(es:List Ent)(k:Nat):∀(i:Nat) (e:Ent),(es.map Ent.key).Nodup->es[i]?=some e->e.key=k->delM (es.map Ent.ie) (k:Int)=(es.eraseIdx i).map Ent.ie:=by
 induction es with
 | nil=>intro i e _ h;simp at h
 | cons x xs ih=>
  intro i e a hi c;simp only[AeJ,Afi] at a
  cases i with
  | zero=>
   simp only[AeS,Ael] at hi;subst hi;subst c;simp[delM,Ent.ie]
  | succ i=>
   simp only[Aey] at hi;have b:¬(k:Int)=(x.key:Int):=by
    intro q;have:x.key=e.key:=by omega
    exact a.1 (this▸Aez (Aec hi))
   simp only[AeJ,delM,List.eraseIdx_cons_succ];rw[if_neg (by simpa [Ent.ie] using b),ih i e a.2 hi c]
theorem F7{α β:Type}{f:α->β}{l:List α}(d:(l.map f).Nodup){a b:α}(hi:l[i]?=some a)(c:l[j]?=some b)(e:f a=f b):i=j:=by
 have g:=(Aeb.1 hi).1;have h:=(Aeb.1 c).1;refine (List.getElem_inj (xs:=l.map f) (h₀:=by simpa using g) (h₁:=by simpa using h) d).1 ?_;simp only[Ahx];rw[(Aeb.1 hi).2,(Aeb.1 c).2,e]
theorem S5{w:World}{es:List Ent}{hq:Hp}(d:D.In S es m hq)(hk:g<D.n)(H:Sep z (seps (es.map Ent.row)::Γ) w):
  ∃(v:Value) (pvs:List Value) (a0:List Ai),(CO (es.map Ent.ie) (g:Int)).getD (.slice none 0 0)=v/\pvs.length=(D.ver g).length/\Sep z (grow 46 1 v pvs.length pvs::seps a0::Γ) w/\
   ∀(l r:Value) (p:List UInt8),p.length=256->rdH 1 r 256 (p.map u8) hq->∃a3,(D.w1 false g p).In S a3 (putC (es.map Ent.ie) g m) hq/\E4 (es.map Ent.ie) g l m=a3.map Ent.ie/\
    ∀h,seps (grow 46 1 l (pvs.length+1) (pvs++[r])::[seps a0]) h->seps (a3.map Ent.row) h:=by
 rcases get_ent es g d.nodup with ⟨hg,hn⟩|⟨i,e,hi,f,hg⟩
 ·have hv:D.ver g=[]:=by
   cases hvk:D.ver g with
   | nil=>rfl
   | cons p ps=>
    obtain ⟨e,f,o⟩:=d.all g hk (by rw[hvk];simp);exact absurd o (hn e f)
  refine ⟨.slice none 0 0,[],es.map Ent.row,by simp[hg],by rw[hv];rfl,H.void λh=>grow.nil _ _ h,λl r p hp hr=>?_⟩;have hh:CP (es.map Ent.ie) (g:Int)=false:=by simp[CP,hg]
  refine ⟨es++[⟨g,l,[r],[p],m⟩],⟨d.len,d.own,?_,?_,?_,?_,?_⟩,?_,λh hs=>?_⟩
  ·intro e f
   rcases Aep.1 f with f|f
   ·obtain ⟨y,u,h3⟩:=d.ent e f
    exact ⟨y,u.trans (upf_other D.ver _ (hn e f)).symm,h3⟩
   rw[Aft.1 f];refine ⟨hk,?_,Z,by simp,λj a6 p' y u=>?_⟩
   ·show [p]=Dh D.ver g (D.ver g++[p]) g
    rw[GJ,hv];rfl
   have:j=0:=by have:=(Aeb.1 y).1;simpa using this
   subst this;simp at y u;subst y;subst u;exact ⟨hp,hr⟩
  ·intro j k a4
   by_cases e:j=g
   ·exact ⟨_,AgC _ (Aft.2 Z),e.symm⟩
   have:D.ver j≠[]:=by
    have h':Dh D.ver g (D.ver g++[p]) j≠[]:=a4;rwa[upf_other _ _ e] at h'
   obtain ⟨t,c,o⟩:=d.all j k this;exact ⟨t,Agm _ c,o⟩
  ·rw[AeH]
   refine Ae9.2 ⟨d.nodup,by simp,λa ha b hb=>?_⟩;simp at hb;subst hb;obtain ⟨t,c,rfl⟩:=Aek.1 ha;exact hn t c
  ·rw[AeH]
   refine Ae9.2 ⟨d.born,by simp,λa ha b hb=>?_⟩;simp at hb;subst hb;obtain ⟨t,c,rfl⟩:=Aek.1 ha;have:=d.clk t c;omega
  ·intro e f
   simp only[putC,hh,if_false,Afs];rcases Aep.1 f with f|f
   ·have:=d.clk e f;omega
   rw[Aft.1 f];show m<m+1;omega
  ·simp[E4,hh,Ent.ie]
  rw[AeH];refine S3 ?_;have u:=DY (As:=[grow 46 1 l 1 [r]]) (Bs:=[seps (es.map Ent.row)]) hs;have h3:=IH u;exact DY (As:=es.map Ent.row) (Bs:=[grow 46 1 l 1 [r]]) h3
 obtain ⟨_,u,h3,h4,h5⟩:=d.ent e (Aec hi);subst f;have s:=(Aeb.1 hi).1;have hh:CP (es.map Ent.ie) (e.key:Int)=true:=by simp[CP,hg]
 refine ⟨e.v,e.pvs,(es.map Ent.row).eraseIdx i,by simp[hg],h3.trans (congrArg _ u),?_,λl r p hp hr=>?_⟩
 ·have H1:=H.mono 0 (B:=seps (e.row::[seps ((es.map Ent.row).eraseIdx i)])) Z (λh hs=>by
   have y:=KJ hs i (A:=e.row) (by rw[Aeo,hi];rfl);have a8:seps ((es.map Ent.row).eraseIdx i++[e.row]) h:=DY (As:=[e.row]) (Bs:=(es.map Ent.row).eraseIdx i) y;have a1:=Mp a8;exact DY (As:=[seps ((es.map Ent.row).eraseIdx i)]) (Bs:=[e.row]) a1)
  exact Sep.opened (As:=[e.row,seps ((es.map Ent.row).eraseIdx i)]) H1
 refine ⟨es.set i {e with v:=l,pvs:=e.pvs++[r],ps:=e.ps++[p]},⟨d.len,d.own,?_,?_,?_,?_,?_⟩,?_,λh hs=>?_⟩
 ·intro t c
  obtain ⟨j,k⟩:=Ae2 c;rw[Afo] at k;split at k
  ·rename_i q
   subst q;simp only[s,if_true,Ael] at k;subst k;refine ⟨hk,?_,by simp[h3],by simp,λj' a6 p' q1 q2=>?_⟩
   ·show e.ps++[p]=Dh D.ver e.key (D.ver e.key++[p]) e.key
    rw[GJ,u]
   rcases Aeq j' e.pvs.length with q|q
   ·rw[Aem q] at q1
    rw[Aem U] at q2;exact h5 j' a6 p' q1 q2
   rw[Aes q] at q1;rw[Aes U] at q2;have:j'-e.pvs.length=0:=by have:=(Aeb.1 q1).1;simpa using this
   rw[this] at q1;rw[show j'-e.ps.length=0 from by omega] at q2;simp at q1 q2;subst q1;subst q2;exact ⟨hp,hr⟩
  rename_i q;obtain ⟨y,a1,a7⟩:=d.ent t (Aec k);have a5:t.key≠e.key:=λq'=>by
   exact q (F7 d.nodup hi k q'.symm)
  exact ⟨y,a1.trans (upf_other D.ver _ a5).symm,a7⟩
 ·intro j k a4
  by_cases q:j=e.key
  ·exact ⟨_,Aec (Aff s),q.symm⟩
  have:D.ver j≠[]:=by
   have h':Dh D.ver e.key (D.ver e.key++[p]) j≠[]:=a4;rwa[upf_other _ _ q] at h'
  obtain ⟨t,c,o⟩:=d.all j k this;obtain ⟨j',a2⟩:=Ae2 c;have a5:i≠j':=λq'=>by
   subst q';rw[hi] at a2;cases a2;exact q o.symm
  exact ⟨t,Aec (by rw[AfV a5];exact a2),o⟩
 ·rw[Ahy]
  have:(es.map Ent.key).set i e.key=es.map Ent.key:=Afq λj=>by
   rw[Afo];split
   ·rename_i q;subst q;simp[s,(Aeb.1 hi).2]
   rfl
  exact (show ((es.map Ent.key).set i e.key).Nodup by rw[this];exact d.nodup)
 ·rw[Ahy]
  have:(es.map Ent.born).set i e.born=es.map Ent.born:=Afq λj=>by
   rw[Afo];split
   ·rename_i q;subst q;simp[s,(Aeb.1 hi).2]
   rfl
  exact (show ((es.map Ent.born).set i e.born).Nodup by rw[this];exact d.born)
 ·intro t c
  simp only[putC,hh,if_true];obtain ⟨j,k⟩:=Ae2 c;rw[Afo] at k;split at k
  ·simp only[s,if_true,Ael] at k
   subst k;exact d.clk e (Aec hi)
  exact d.clk t (Aec k)
 ·simp only[E4,hh,if_true]
  exact Yb es e.key l (λx=> {x with v:=l,pvs:=x.pvs++[r],ps:=x.ps++[p]}) (λx=>⟨Z,Z,Z⟩) i e d.nodup hi Z
 rw[Ahy];refine S2 i (by simpa using s) ?_;have u:=DY (As:=[grow 46 1 l (e.pvs.length+1) (e.pvs++[r])]) (Bs:=[seps ((es.map Ent.row).eraseIdx i)]) hs;have h3:=IH u;have h4:=DY (As:=(es.map Ent.row).eraseIdx i) (Bs:=[grow 46 1 l (e.pvs.length+1) (e.pvs++[r])]) h3;have e1:grow 46 1 l (e.pvs.length+1) (e.pvs++[r])=Ent.row {e with v:=l,pvs:=e.pvs++[r],ps:=e.ps++[p]} :=by simp[Ent.row]
 rw[<-e1];exact h4
theorem S6{bs':List UInt8}{es:List Ent}{hq:Hp}(b:D.In B es m hq)(hk:g<D.n)(hp:S.length=256)(u:bs'=B.take (g*256)++S++B.drop (g*256+256)):
  ∃p,(D.w1 true g S).In bs' p m hq/\delM (es.map Ent.ie) g=p.map Ent.ie/\∀h,seps (es.map Ent.row) h->seps (p.map Ent.row) h:=by
 have hn:D.n*256=B.length:=b.len.symm;have a1:g*256+256<=B.length:=by omega
 have k:bs'.length=D.n*256:=by subst u;simp[hp];omega
 have l:∀i,i<D.n->(bs'.drop (i*256)).take 256=(D.w1 true g S).dur i:=λi hi=>by
  show _=Dh D.dur g S i;subst u;have e0:(B.take (g*256)).length=g*256:=by rw[Aex];omega
  rcases AfI i g with h|h|h
  ·rw[upf_other _ _ U,<-b.own i hi]
   rw[Aeh,AeT U,Aet (by rw[AeM,e0];omega)];rw[AfW,AeD];rw[show min 256 (g*256-i*256)=256 from by omega]
  ·subst h
   rw[GJ,Aeh,AeT U,AeK U,AeQ];rw[Aet U,Aej U]
  rw[upf_other _ _ U,<-b.own i hi];rw[Ae6,AeK (by simp[hp];omega),AeQ,AhG];congr 2;simp[hp];omega
 rcases get_ent es g b.nodup with ⟨hg,a0⟩|⟨i,e,hi,z,hg⟩
 ·refine ⟨es,⟨k,l,λe z=>?_,λj o r=>?_,b.nodup,b.born,b.clk⟩,Nx _ _ hg,λh hs=>hs⟩
  ·obtain ⟨v,y,h3⟩:=b.ent e z
   exact ⟨v,y.trans (upf_other D.ver _ (a0 e z)).symm,h3⟩
  have h':Dh D.ver g [] j≠[]:=r;by_cases q:j=g
  ·subst q;rw[GJ] at h';exact absurd Z h'
  rw[upf_other _ _ q] at h';exact b.all j o h'
 subst z;have a2:=(Aeb.1 hi).1;have c:(es.eraseIdx i).Sublist es:=List.eraseIdx_sublist es i;have x:∀f∈es.eraseIdx i,f.key≠e.key:=λf a q=>by
  obtain ⟨j,o⟩:=Ae2 a;rw[Agh] at o;have key:∀t,t≠i->es[t]?=some f->False:=λt s d=>by
   exact s (F7 b.nodup d hi q)
  split at o
  ·exact key j U o
  exact key (j+1) U o
 refine ⟨es.eraseIdx i,⟨k,l,λf a=>?_,λj o r=>?_,(c.map Ent.key).nodup b.nodup,(c.map Ent.born).nodup b.born,λf a=>b.clk f (c.subset a)⟩,Yc es e.key i e b.nodup hi Z,λh hs=>?_⟩
 ·obtain ⟨v,y,h3⟩:=b.ent f (c.subset a)
  exact ⟨v,y.trans (upf_other D.ver _ (x f a)).symm,h3⟩
 ·have h':Dh D.ver e.key [] j≠[]:=r
  by_cases q:j=e.key
  ·subst q;rw[GJ] at h';exact absurd Z h'
  rw[upf_other _ _ q] at h';obtain ⟨f,a,w⟩:=b.all j o h';refine ⟨f,?_,w⟩;obtain ⟨t,d⟩:=Ae2 a;have s:t≠i:=λq'=>by subst q';rw[hi] at d;cases d;exact q w.symm
  rw[Ag9];exact ⟨t,s,d⟩
 have v:=KJ hs i (A:=e.row) (by rw[Aeo,hi];rfl);have y:=S4 v;have e0:(es.map Ent.row).eraseIdx i=(es.eraseIdx i).map Ent.row:=by
  apply Afq;intro j;simp only[Agh,Aeo];split<;>rfl
 rwa[e0] at y
theorem UV{w:World}{hq:Hp}(H:Sep z (poolA hq::blk n V T::Γ) w):∃a,(CJ hq a/\blk n V T a)/\Sep z (poolA a::Γ) w:=by
 have H1:Sep z (seps [poolA hq,blk n V T]::Γ) w:=Sep.shut (As:=[poolA hq,blk n V T]) H;exact H1.exAt 0 (σ:=Hp) (p:=λa=>CJ hq a/\blk n V T a) (B:=λa=>poolA a) Z (λh hs=>by
  refine ⟨h,⟨λk o e=>?_,?_⟩,λk o e=>e⟩
  ·obtain ⟨h',b,c⟩:=FP hs (i:=0) Z
   exact c _ _ (b _ _ e)
  obtain ⟨h',b,c⟩:=FP hs (i:=1) Z;exact c _ _ b)

def diskQ(pd:Nat)(D:Dsk)(hq:Hp):Ai:=λh=>∃(bd m:Nat) (f0:Int) (bs:List UInt8) (es:List Ent) (clk:Nat),(D.Ok/\D.In bs es clk hq)/\seps (EY pd bd m D f0 bs es clk hq) h
structure DskY where
 bd:Nat
 m:Nat
 f0:Int
 bs:List UInt8
 es:List Ent
 clk:Nat
theorem Sep.diskQ{w:World}{pd:Nat}{hq:Hp}(H:Sep z (YtemljpjnhjnncaaGreatDoor.diskQ pd D hq::Γ) w):∃bd m f0 bs es clk,D.Ok/\D.In bs es clk hq/\Sep z (EY pd bd m D f0 bs es clk hq++Γ) w:=by
 obtain ⟨x,⟨b,c⟩,H⟩:=H.into (σ:=DskY) (p:=λx=>D.Ok/\D.In x.bs x.es x.clk hq) (As:=λx=>EY pd x.bd x.m D x.f0 x.bs x.es x.clk hq)
  (λh a=>by obtain ⟨bd,m,f0,bs,es,clk,hp,hs⟩:=a;exact ⟨⟨bd,m,f0,bs,es,clk⟩,hp,hs⟩)
 exact ⟨_,_,_,_,_,_,b,c,H⟩
theorem Sep.toDiskQ{w:World}{pd bd:Nat}{f0:Int}{bs:List UInt8}{es:List Ent}{clk:Nat}{hq:Hp}(H:Sep z (EY pd bd m D f0 bs es clk hq++Γ) w)(b:D.Ok)(c:D.In bs es clk hq):Sep z (YtemljpjnhjnncaaGreatDoor.diskQ pd D hq::Γ) w:=
 H.shut.mono 0 Z (λh a=>⟨_,_,_,_,_,_,⟨b,c⟩,a⟩)
theorem Dsk.w1_ver(D:Dsk)(a:Bool)(p:List UInt8)(h:j≠i):(D.w1 a i p).ver j=D.ver j:=by
 cases a
 ·exact upf_other D.ver _ h
 exact upf_other D.ver _ h
theorem Dsk.ws_ver(a:Bool)(ps:List (List UInt8)):∀(D:Dsk) (i j:Nat),j<i\/i+ps.length<=j->(D.ws a i ps).ver j=D.ver j:=by
 induction ps with
 | nil=>intro D i j _;rfl
 | cons q qs ih=>
  intro D i j h;simp only[Aeg] at h;simp only[Dsk.ws];rw[ih _ _ _ U,Dsk.w1_ver _ _ _ U]
theorem Dsk.ws_take{k:Nat}{ps:List (List UInt8)}{p:List UInt8}(h:ps[i]?=some p):D.ws b k (ps.take (i+1))=(D.ws b k (ps.take i)).w1 b (k+i) p:=by
 rw[AeN,h];have a:=(Aeb.1 h).1;rw[show (some p).toList=[p] from Z,Dsk.ws_snoc,Aex,AeE U]
theorem UW{hq:Hp}{ps:List (List UInt8)}(e:blk g (ps.flatten.map u8++V) T hq)(c:∀B∈ps,B.length=256)(h:ps[i]?=some B):rdH 1 (.slice (some ⟨g,0+i*256,none⟩) 256 256) 256 (B.map u8) hq:=by
 have key:∀(ps:List (List UInt8)) (i:Nat) (B:List UInt8),(∀B∈ps,B.length=256)->ps[i]?=some B->(ps.flatten.drop (i*256)).take 256=B/\i*256+256<=ps.flatten.length:=by
  intro ps
  induction ps with
  | nil=>intro i B _ h;simp at h
  | cons q qs ih=>
   intro i B b h;have a:=b q O
   cases i with
   | zero=>
    simp only[AeS,Ael] at h;subst h;simp[Aet,a]
   | succ i=>
    simp only[Aey] at h;obtain ⟨d,f⟩:=ih i B (λB hp=>b B (by simp[hp])) h;rw[Agz,show (i+1)*256=q.length+i*256 from by omega,Ae6];refine ⟨?_,by rw[Aee];omega⟩;rw[AeK U,AeQ];rw[show q.length+i*256-q.length=i*256 from by omega];exact d
 obtain ⟨d,f⟩:=key ps i B c h;have b:(ps.flatten.map u8).length=ps.flatten.length:=Aef u8;refine e.rd U U (by rw[Aee,b];omega) ?_;rw[AfM,AeP,AeT (by rw[b];omega),Aet (by rw[AeM,b];omega),<-AfU,<-Afp,d]
def Yd(c:UInt32):UInt32:=(c>>>1) ^^^ ((c&&&1)*2197175160)
def Jm:Nat->UInt32->UInt32
 | 0,c=>c
 | k+1,c=>Yd (Jm k c)
def crcTab:List UInt32:=(List.range 256).map λi:Nat=>Jm 8 (Ft (i:Int))
theorem Ir:crcTab.length=256:=by simp[crcTab]
theorem KK(h:i<256):crcTab[i]?=some (Jm 8 (Ft (i:Int))):=by simp[crcTab,h]
def HG(c:UInt32)(b:UInt8):UInt32:=(c>>>8) ^^^ (crcTab[(c.toUInt8 ^^^ b).toNat]?.getD 0)
def ED(c:UInt32)(bs:List UInt8):UInt32:=4294967295 ^^^ (bs.foldl HG (4294967295 ^^^ c))
def Ba(bs:List UInt8):UInt32:=ED 0 bs
theorem LN(c:UInt32)(a b:List UInt8):ED (ED c a) b=ED c (a++b):=by
 unfold ED;rw[<-UInt32.xor_assoc,UInt32.xor_self,UInt32.zero_xor,AgA]
def z32:Value:=.int .u32 0
def BR(x0 x1 x2:Value)(i:Nat):List Value:=[x0,x1,x2]++((crcTab.take i).map u32++List.replicate (256-i) z32)
theorem UX(h:i<=256):(BR v u y i).length=259:=by simp[BR,Ir];omega
theorem S7(a b x2:Value)(h:i<256):(BR a b x2 i).take (3+i)++[u32 (Jm 8 (Ft (i:Int)))]++(BR a b x2 i).drop (3+i+1)=BR a b x2 (i+1):=by
 have c:([a,b,x2]++(crcTab.take i).map u32).length=3+i:=by simp[Ir];omega
 have e1:BR a b x2 i=([a,b,x2]++(crcTab.take i).map u32)++List.replicate (256-i) z32:=by simp[BR]
 rw[e1,Aet U,Aej U,Ae6,AeK U,AeQ,c];rw[show 3+i+1-(3+i)=1 from by omega,AgK];unfold BR;rw[AeN,KK h];simp;omega
def AdK(pt:Nat):Ai:=blk pt (BR (.int .u32 0) (.int .i32 0) (.int .u32 0) 0) 238
def AdL(pt:Nat):Ai:=blk pt (BR (.int .u32 1) (.int .i32 0) (.int .u32 0) 256) 238
def tblA(pt:Nat):Ai:=λh=>AdK pt h\/AdL pt h
theorem S8{b:UInt8}:(BR v u y 256)[3+b.toNat]?=some (u32 (crcTab[b.toNat]?.getD 0)):=by
 have c:=b.toNat_lt;have a:=Ir;simp only[BR];rw[Aes O];simp only[Aeg,AeB];rw[show 3+b.toNat-(0+1+1+1)=b.toNat from by omega];rw[Aem (by simp[a];omega),Aeo,Aej U,KK U];rfl
def Ag(k:Nat)(x:Int):List UInt8:=(List.range k).map λi:Nat=>GC (x/2^(8*(k-1-i)))
theorem Ah(k:Nat)(x:Int):(Ag k x).length=k:=by simp[Ag]
theorem beN_get(x:Int)(h:i<n):(Ag n x)[i]?=some (GC (x/2^(8*(n-1-i)))):=by simp[Ag,h]
def Gk(bs T:List UInt8)(a i:Nat):List UInt8:=bs.take a++T.take i++bs.drop (a+i)
def Bt(bs T:List UInt8)(a:Nat):List UInt8:=bs.take a++T++bs.drop (a+T.length)
theorem Ye(h:n+i<=B.length)(hi:i<=S.length):(Gk B S n i).length=B.length:=by simp[Gk];omega
theorem UY(bs T:List UInt8)(a:Nat):Gk bs T a 0=bs:=by simp[Gk]
theorem Yf(bs T:List UInt8)(a:Nat)(h:i=T.length):Gk bs T a i=Bt bs T a:=by subst h;simp[Gk,Bt]
theorem Es(h:n+S.length<=B.length):(Bt B S n).length=B.length:=by simp[Bt];omega
theorem UZ{b:UInt8}(h:n+S.length<=B.length)(a:S[i]?=some b):
  ((Gk B S n i).map u8++V).take (n+i)++[u8 b]++((Gk B S n i).map u8++V).drop (n+i+1)=(Gk B S n (i+1)).map u8++V:=by
 have hi:=(Aeb.1 a).1;have c:(B.take n++S.take i).length=n+i:=by simp;omega
 have d:B.drop (n+i)=B[n+i]'U::B.drop (n+i+1):=AeZ U;unfold Gk;rw[AeN,a,d];simp only[AeH,AeJ,Aeh];rw[<-Aeh (List.map u8 (B.take n)),<-AeH];rw[Aet (by simp;omega),Aej (by simp;omega),Ae6,AeK (by simp;omega)];rw[show n+i+1-(List.map u8 (B.take n++S.take i)).length=1 from by rw[Aef,c];omega];simp[Agc]
def Is(s:UInt32):List UInt8:=[s.toUInt8,(s>>>8).toUInt8,(s>>>16).toUInt8,(s>>>24).toUInt8]
def EE(l:List UInt8):Nat:=l.foldl (λn b=>256*n+b.toNat) 0
theorem KL(l:List UInt8)(b:UInt8):EE (l++[b])=256*EE l+b.toNat:=by simp[EE,AgA]
theorem IQ:∀(l:List UInt8) (a:Nat),l.foldl (λn b=>256*n+b.toNat) a<(a+1)*256^l.length
 | [],a=>by simp
 | b::l,a=>by
  have h:=IQ l (256*a+b.toNat);have d:=b.toNat_lt;simp only[List.foldl_cons,Aeg,Ahz];have c:(256*a+b.toNat+1)*256^l.length<=(256*(a+1))*256^l.length:=AfG _ U;have e:256*(a+1)*256^l.length=(a+1)*(256^l.length*256):=by
   rw[AhA 256 (a+1),Nat.mul_assoc,AhA 256]
  omega
theorem U0(l:List UInt8):EE l<256^l.length:=by have:=IQ l 0;simpa [EE] using this
def AX(l:List UInt8):Int:=IntKind.i64.wrap (EE l)
theorem RA(h:B.length<=7):AX B=EE B:=by
 have a:=U0 B;have b:256^B.length<=256^7:=Aha U h;exact AfL _ U
theorem G6(x:Int):∃q,IntKind.i64.wrap x=x+q*18446744073709551616/\ -9223372036854775808<=IntKind.i64.wrap x/\IntKind.i64.wrap x<=9223372036854775807:=by
 have key:IntKind.i64.wrap x=if 9223372036854775808<=x%18446744073709551616 then x%18446744073709551616-18446744073709551616 else x%18446744073709551616:=by
  show (if (true&&decide (x%(2^64:Int)>=(2^(64-1):Int)))=true then x%(2^64:Int)-(2^64:Int) else x%(2^64:Int))=_;simp only[Bool.true_and,decide_eq_true_eq,show (2:Int)^64=18446744073709551616 from Z,show (2:Int)^(64-1)=9223372036854775808 from Z,ge_iff_le]
 rw[key];by_cases h:9223372036854775808<=x%18446744073709551616
 ·rw[if_pos h];exact ⟨-(x/18446744073709551616)-1,by omega,by omega,by omega⟩
 rw[if_neg h];exact ⟨-(x/18446744073709551616),by omega,by omega,by omega⟩
theorem Qh(x:Int)(b:UInt8):IntKind.i64.wrap (IntKind.i64.wrap x*256)%256=0/\IntKind.i64.wrap (IntKind.i64.wrap x*256)+b.toNat=IntKind.i64.wrap (256*x+b.toNat):=by
 have j:=b.toNat_lt;obtain ⟨n,g,i,k⟩:=G6 x;obtain ⟨m,l,h,c⟩:=G6 (IntKind.i64.wrap x*256);obtain ⟨d,e,a,f⟩:=G6 (256*x+b.toNat);omega
theorem Yg(k:Nat)(h:n<256^k):EE (Ag k (n:Int))=n:=by
 induction k generalizing n with
 | zero=>simp at h;subst h;rfl
 | succ k ih=>
  have e:Ag (k+1) (n:Int)=Ag k ((n/256:Nat):Int)++[GC (n:Int)]:=by
   apply Afq;intro i;rcases AfI i k with a|a|a
   ·rw[beN_get _ U,Aem (by rw[Ah];omega),beN_get _ a]
    congr 2;rw[show 8*(k+1-1-i)=8+8*(k-1-i) from by omega,Int.pow_add,<-Int.ediv_ediv_of_nonneg (by decide)];rfl
   ·subst a
    rw[beN_get _ U,Aes (by rw[Ah];omega),Ah];simp
   rw[AeI (by rw[Ah];omega),AeI (by simp[Ah];omega)]
  rw[e,KL,ih (by rw[Ahz] at h;omega)];have:(GC (n:Int)).toNat=n%256:=by simp[GC];omega
  rw[this];omega

def A5(bs:List UInt8)(a:Int):List Value:=bs.map u8++[.int .i64 a]
theorem Fh(h:B.length=256):(A5 B t).length=257:=by simp[A5,h]
theorem NZ(a:Int)(h:B.length=256):(A5 B a)[256]?=some (I a):=by simp[A5,List.getElem?_append,h]
theorem Jn(h:B.length=256):(A5 B t).take 256++[I s]++(A5 B t).drop (256+1)=A5 B s:=by
 unfold A5;rw[Aet (by simp[h]),Aej (by simp[h]),AeK (by simp[h]),AeV]
theorem U1{b:UInt8}(h:n+S.length<=B.length)(a:S[i]?=some b):
  (A5 (Gk B S n i) t).take (n+i)++[u8 b]++(A5 (Gk B S n i) t).drop (n+i+1)=A5 (Gk B S n (i+1)) t:=UZ h a
theorem N1(h:n+S.length<=B.length)(a:m=S.length):(A5 B t).take n++(S.map u8).take m++(A5 B t).drop (n+m)=A5 (Bt B S n) t:=by
 subst a;unfold A5 Bt;rw[Aet (by simp;omega),AeT (by simp;omega),Aej (l:=S.map u8) O];simp
def wrH(pw:Nat)(a:Int):Ai:=λh=>∃bs:List UInt8,bs.length=256/\blk pw (A5 bs a) 167 h
theorem wrH.at{a:Int}(w:wrH n a h):celH h n 256 (I a):=by
 obtain ⟨bs,c,b⟩:=w;exact b.celH 256 (NZ a c)
theorem HH{lo c:Nat}{ys:List UInt8}(q:blk m (A5 B s) T h)(b:B.length=256)(e:lo+n<=256)(a:n<=c)(f:c<=256)(d:(B.drop lo).take n=ys):rdH 1 (.slice (some ⟨m,lo,none⟩) n c) n (ys.map u8) h:=by
 subst d;refine q.rd a U (by rw[Fh b];omega) ?_;unfold A5;rw[AeT (by simp;omega),Aet (by simp;omega),AeP];simp
def N4(bs:List UInt8):List UInt8:=Bt bs (Is (Ba (bs.take 252))) 252
theorem Yh(h:B.length=256):(N4 B).length=256:=by
 unfold N4;rw[Es (by simp[Is,h])];exact h

theorem S9(x:Int):IntKind.i64.wrap (IntKind.i64.wrap x)=IntKind.i64.wrap x:=AfL _ (by obtain ⟨q,c,a,b⟩:=G6 x;omega)
theorem N5:IntKind.i64.wrap (AX B*2^8)%256=0:=(Qh (EE B) 0).1
theorem Mx{b:UInt8}(h:B[j]?=some b):IntKind.i64.wrap (IntKind.i64.wrap (AX (B.take j)*2^8)+(b.toNat:Int))=AX (B.take (j+1)):=by
 rw[AeN,h];show IntKind.i64.wrap (IntKind.i64.wrap (IntKind.i64.wrap (EE (B.take j))*256)+(b.toNat:Int))=IntKind.i64.wrap (EE (B.take j++[b]):Nat);rw[(Qh _ b).2,S9,KL];congr 1

def rz:List UInt8->Nat
 | []=>0
 | x::xs=>if rz xs=0/\x=0 then 0 else rz xs+1
theorem RB:∀xs:List UInt8,rz xs<=xs.length
 | []=>Aei _
 | x::xs=>by have:=RB xs;simp only[rz,Aeg];split<;>omega
theorem RC:∀(xs:List UInt8) (j:Nat) (b:UInt8),rz xs<=j->xs[j]?=some b->b=0
 | [],j,b,_,h=>by simp at h
 | x::xs,0,b,h1,h=>by
  simp only[rz] at h1;split at h1
  ·rename_i q;simp at h;exact h▸q.2
  omega
 | x::xs,j+1,b,h1,h=>by
  simp only[rz] at h1;refine RC xs j b ?_ (by simpa using h);split at h1<;>omega
theorem LO:∀(xs:List UInt8) (m:Nat),rz xs=m+1->∃b,xs[m]?=some b/\b≠0
 | [],m,h=>by simp[rz] at h
 | x::xs,m,h=>by
  simp only[rz] at h;split at h
  ·omega
  rename_i q
  cases m with
  | zero=>exact ⟨x,by simp,λe=>q ⟨by omega,e⟩⟩
  | succ m=>obtain ⟨b,h1,h2⟩:=LO xs m U;exact ⟨b,by simpa using h1,h2⟩
theorem rz_is(f:m<=B.length)(d:∀j b,m<=j->B[j]?=some b->b=0)(c:m=0\/∃b,B[m-1]?=some b/\b≠0):m=rz B:=by
 rcases AfI m (rz B) with q|q|q
 ·obtain ⟨b,e,a⟩:=LO B (rz B-1) U
  exact absurd (d _ _ U e) a
 ·exact q
 rcases c with c|⟨b,e,a⟩
 ·omega
 exact absurd (RC B _ _ U e) a
theorem LP :rz B=0↔∀b∈B,b=0:=by
 constructor
 ·intro h b c
  obtain ⟨j,a,rfl⟩:=Aga.1 c;exact RC B j _ U (Aed a)
 intro h;exact (rz_is (AeO _) (λj b _ e=>h b (Aec e)) (.inl Z)).symm
def lz:List UInt8->Nat
 | []=>0
 | x::xs=>if x=0 then lz xs+1 else 0
theorem KM:∀{xs:List UInt8} {p:Nat},p<=xs.length->(∀j b,j<p->xs[j]?=some b->b=0)->(p=xs.length\/∃b,xs[p]?=some b/\b≠0)->p=lz xs
 | [],p,hp,_,_=>by simp at hp;subst hp;rfl
 | x::xs,0,_,_,h1=>by
  rcases h1 with h1|⟨b,e,hb⟩
  ·simp at h1
  simp at e;subst e;simp[lz,hb]
 | x::xs,p+1,hp,h0,h1=>by
  have e:=h0 0 x U Z;subst e;have:=KM (xs:=xs) (p:=p) (by simpa using hp) (λj b a e=>h0 (j+1) b U (by simpa using e)) (by simpa using h1);simp[lz,this]
theorem Ac6(h:rz B≠0):lz (B.take (rz B))<rz B:=by
 obtain ⟨b,e,c⟩:=LO B (rz B-1) U;rcases Aeq (lz (B.take (rz B))) (rz B) with q|q
 ·exact q
 have key:∀(ys:List UInt8) j b,j<lz ys->ys[j]?=some b->b=0:=by
  intro ys
  induction ys with
  | nil=>intro j b a;simp[lz] at a
  | cons y ys ih=>
   intro j b a e;simp only[lz] at a;split at a
   ·rename_i q
    cases j with
    | zero=>simp at e;exact e▸q
    | succ j=>exact ih j b U (by simpa using e)
   omega
 exact absurd (key (B.take (rz B)) (rz B-1) b U (by rw[AeX,if_pos U];exact e)) c
def J5(mag sec:List UInt8):Prop:=sec.drop 252=Is (Ba (sec.take 252))/\sec.take 4=mag
instance(mag sec:List UInt8):Decidable (J5 mag sec):=by unfold J5;exact inferInstance
theorem N6(h:B.length=256):∃b c1 c2 a,B.drop 252=[b,c1,c2,a]:=by
 have c:(B.drop 252).length=4:=by simp[h]
 match hd:B.drop 252,c with
 | [b,c1,c2,a],_=>exact ⟨b,c1,c2,a,Z⟩

def AJ(l:List UInt8):List UInt8:=l++List.replicate (256-l.length) 0
theorem AS{l:List UInt8}(h:l.length<=256):(AJ l).length=256:=by simp[AJ];omega
theorem BE(a:n=B.length)(h:n+S.length<=256):Bt (AJ B) S n=AJ (B++S):=by
 subst a;unfold Bt AJ;rw[AeF Z,Ae6,AeK U,AeQ,AgK,Aee];rw[show 256-B.length-(B.length+S.length-B.length)=256-(B.length+S.length) from by omega]
theorem U2(a:B.length<=n)(h:n+S.length<=256):Bt (AJ B) S n=AJ (B++List.replicate (n-B.length) 0++S):=by
 have:AJ B=AJ (B++List.replicate (n-B.length) 0):=by
  unfold AJ;rw[Aeh,Aee,Afj,Af8];congr 2;omega
 rw[this,BE (by simp;omega) h]
def BB(l:List UInt8):List UInt8:=N4 (AJ l)
theorem sect_len{l:List UInt8}(h:l.length<=252):(BB l).length=256:=Yh (AS U)
theorem IR(h:B.length<=252):(BB B).take 252=(AJ B).take 252:=by
 unfold BB N4 Bt;rw[Aeh,Aet (by simp[AS (show B.length<=256 by omega)]),AeD];simp
theorem Iu(h:B.length<=252):(BB B).drop 252=Is (Ba ((BB B).take 252)):=by
 rw[IR h];have a:=AS (show B.length<=256 by omega);unfold BB N4 Bt;rw[Aeh,Ae6,AeK (by simp[a])];simp[a,Is]
theorem B6{l:List UInt8}(h:l.length<=252){p k:Nat}(hp:p+k<=l.length):((BB l).drop p).take k=(l.drop p).take k:=by
 have e:((BB l).drop p).take k=(((BB l).take 252).drop p).take k:=by
  rw[AfW,AeD];congr 1;omega
 rw[e,IR h,AfW,AeD];rw[show min k (252-p)=k from by omega];unfold AJ;rw[AeT U,Aet (by simp;omega)]
theorem My{l:List UInt8}(h:l.length<=252):rz (((BB l).drop l.length).take (252-l.length))=0:=by
 rw[LP];intro b a;have e:((BB l).drop l.length).take (252-l.length)=(((BB l).take 252).drop l.length):=by rw[AfW]
 rw[e,IR h,AfW] at a;unfold AJ at a;rw[AfR Z] at a;exact (Af3.1 (Afg a)).2

theorem Ci(ns:List Int):(ns.flatMap (Ag 4)).length=4*ns.length:=by
 induction ns with
 | nil=>rfl
 | cons x ns ih=>simp[Ah,ih];omega
theorem Ta(h:l[i]?=some t):(l.take i).flatMap (Ag 4)++Ag 4 t=(l.take (i+1)).flatMap (Ag 4):=by
 rw[AeN,h];simp
def BG(sec:List UInt8):Nat:=(AX ((sec.drop 24).take 2)).toNat
def Et(sec:List UInt8)(j:Nat):Int:=AX ((sec.drop (26+4*j)).take 4)
def hN(sec:List UInt8)(i:Nat):List Value:=(List.range i).map λj=>Value.int .i64 (Et sec j)
theorem Yi(sec:List UInt8)(i:Nat):hN sec i++[I (Et sec i)]=hN sec (i+1):=by simp[hN,Ag8]
def Iv(sec:List UInt8):Prop:=J5 [80,76,79,71] sec/\(0<=AX ((sec.drop 4).take 8)/\AX ((sec.drop 4).take 8)<=1099511627776)/\(0<=AX ((sec.drop 12).take 8)/\AX ((sec.drop 12).take 8)<=1099511627776)/\(1<=BG sec/\BG sec<=40)/\(∀j,j<BG sec->0<=Et sec j/\Et sec j<=1023)/\rz ((sec.drop (26+4*BG sec)).take (252-(26+4*BG sec)))=0
def IS(sec:List UInt8):Prop:=sec.drop 252=Is (Ba (sec.take 252))/\(1<=AX (sec.take 1)/\AX (sec.take 1)<=5)/\(0<=AX ((sec.drop 1).take 2)/\AX ((sec.drop 1).take 2)<=1023)
theorem Abh{sec:List UInt8}:∃m:Nat,AX ((sec.drop 24).take 2)=m/\BG sec=m:=by
 have h:AX ((sec.drop 24).take 2)=EE ((sec.drop 24).take 2):=RA (by simp;omega);exact ⟨_,h,by unfold BG;rw[h];rfl⟩
theorem RD{w:World}(H:Sep z Γ w):Sep z (poolA (λ_=>none)::Γ) w:=H.void λh k o e=>by cases e
theorem N7{w:World}{hq:Hp}(H:Sep z (poolA hq::A::Γ) w){M:Ai}(d:∀h,A h->M h)(f:∀h h',M h->CJ h h'->M h'):∃a,(CJ hq a/\M a)/\Sep z (poolA a::Γ) w:=by
 have H1:Sep z (seps [poolA hq,A]::Γ) w:=Sep.shut (As:=[poolA hq,A]) H;exact H1.exAt 0 (σ:=Hp) (p:=λa=>CJ hq a/\M a) (B:=λa=>poolA a) Z (λh hs=>by
  refine ⟨h,⟨λk o e=>?_,?_⟩,λk o e=>e⟩
  ·obtain ⟨h',b,c⟩:=FP hs (i:=0) Z
   exact c _ _ (b _ _ e)
  obtain ⟨h',b,c⟩:=FP hs (i:=1) Z;exact f _ _ (d _ b) c)
theorem DV{w:World}{hq:Hp}(H:Sep z (poolA hq::A::Γ) w)(d:∀h,A h->rdH m v n V h):∃c,(CJ hq c/\rdH m v n V c)/\Sep z (poolA c::Γ) w:=
 N7 H d (λ_ _ a b=>a.le b)
structure Img where
 num:Int
 kind:Int
 body:List UInt8
deriving DecidableEq
def Img.Ok(m:Img):Prop:=(0<=m.num/\m.num<=1023)/\(1<=m.kind/\m.kind<=5)/\m.body.length=240
instance(m:Img):Decidable m.Ok:=by unfold Img.Ok;exact inferInstance
abbrev ImE:=Img×Value
def ImE.cells(e:ImE):List Value:=[.int .i64 e.1.num,.int .i64 e.1.kind,e.2]
def Gl(es:List ImE):List Value:=es.flatMap ImE.cells
theorem Jo:∀{es:List ImE} {j:Nat} {e:ImE},es[j]?=some e->∀k u,(ImE.cells e)[k]?=some u->(Gl es)[j*3+k]?=some u
 | x::es,0,e,h,k,u,hk=>by
  simp at h;subst h;have hl:=(Aeb.1 hk).1;simp only[Gl,AeG];rw[Aem U];simpa using hk
 | x::es,j+1,e,h,k,u,hk=>by
  have:=Jo (es:=es) (j:=j) (by simpa using h) k u hk;simp only[Gl,AeG] at this ⊢;rw[Aes (by simp[ImE.cells];omega)];rw[show (j+1)*3+k-(ImE.cells x).length=j*3+k from by simp[ImE.cells];omega];exact this
theorem N9(es:List ImE)(e:ImE):Gl es++ImE.cells e=Gl (es++[e]):=by simp[Gl]
def imesOk(es:List ImE)(h:Hp):Prop:=∀e∈es,rdH 1 e.2 e.1.body.length (e.1.body.map u8) h
theorem imesOk.le{es:List ImE}{h h':Hp}(a:imesOk es h)(s:CJ h h'):imesOk es h':=λe b=>(a e b).le s
def imgsH(v:Value)(ims:List Img):Ai:=λh=>∃es:List ImE,es.map Prod.fst=ims/\rdH 3 v ims.length (Gl es) h/\imesOk es h
theorem imgsH.le{v:Value}{ims:List Img}{h h':Hp}(a:imgsH v ims h)(s:CJ h h'):imgsH v ims h':=by
 obtain ⟨es,b,c,d⟩:=a;exact ⟨es,b,c.le s,d.le s⟩
theorem imgsH.slc{v:Value}{ims:List Img}{h:Hp}(a:imgsH v ims h):∃d c,v=.slice d ims.length c:=by
 obtain ⟨es,e,b,f⟩:=a;exact b.slc
theorem imgsH.small{v:Value}{ims:List Img}{h:Hp}(a:imgsH v ims h):ims.length<=9223372036854775807:=by
 obtain ⟨es,c,b,d⟩:=a;exact b.small

structure Rc where
 seq:Int
 ims:List Img
deriving DecidableEq
abbrev RcE:=Rc×Value
def RcE.cells(e:RcE):List Value:=[.int .i64 e.1.seq,e.2]
def IT(es:List RcE):List Value:=es.flatMap RcE.cells
theorem LQ:∀{es:List RcE} {j:Nat} {e:RcE},es[j]?=some e->∀k u,(RcE.cells e)[k]?=some u->(IT es)[j*2+k]?=some u
 | x::es,0,e,h,k,u,hk=>by
  simp at h;subst h;have hl:=(Aeb.1 hk).1;simp only[IT,AeG];rw[Aem U];simpa using hk
 | x::es,j+1,e,h,k,u,hk=>by
  have:=LQ (es:=es) (j:=j) (by simpa using h) k u hk;simp only[IT,AeG] at this ⊢;rw[Aes (by simp[RcE.cells];omega)];rw[show (j+1)*2+k-(RcE.cells x).length=j*2+k from by simp[RcE.cells];omega];exact this
theorem U3(es:List RcE)(e:RcE):IT es++RcE.cells e=IT (es++[e]):=by simp[IT]
def rcesOk(es:List RcE)(h:Hp):Prop:=∀e∈es,imgsH e.2 e.1.ims h
theorem rcesOk.le{es:List RcE}{h h':Hp}(a:rcesOk es h)(s:CJ h h'):rcesOk es h':=λe b=>(a e b).le s
def recsH(v:Value)(rs:List Rc):Ai:=λh=>∃es:List RcE,es.map Prod.fst=rs/\rdH 2 v rs.length (IT es) h/\rcesOk es h
theorem recsH.slc{v:Value}{rs:List Rc}{h:Hp}(a:recsH v rs h):∃d c,v=.slice d rs.length c:=by
 obtain ⟨es,e,b,f⟩:=a;exact b.slc

def Cp(sec:List UInt8):Int:=AX ((sec.drop 4).take 8)
def Cq(sec:List UInt8):Int:=AX ((sec.drop 12).take 8)
def DK(sec:List UInt8):UInt32:=Ft (AX ((sec.drop 20).take 4))
def Fx(sec:List UInt8):Int:=AX ((sec.drop 3).take 4)
def Fy(sec:List UInt8):Int:=AX ((sec.drop 7).take 5)
def Cm(sec:List UInt8):Img:=⟨AX ((sec.drop 1).take 2),AX (sec.take 1),(sec.drop 12).take 240⟩
def ringAt(s:Sup)(x:Int):Nat:=(s.start+x%s.len).toNat
def nextP(f:Nat->List UInt8)(e sq room:Int)(ims:List Img):Prop:=
 Iv (f 0)/\Cp (f 0)=e/\Cq (f 0)=sq/\1+(BG (f 0):Int)<=room/\
 ims=(List.range (BG (f 0))).map (λj=>Cm (f (1+j)))/\
 (∀j,j<BG (f 0)->IS (f (1+j))/\Fx (f (1+j))=e/\Fy (f (1+j))=sq/\(Cm (f (1+j))).num=Et (f 0) j)/\
 Ba ((List.range (BG (f 0))).flatMap λj=>f (1+j))=DK (f 0)
theorem rdH.sl{sz:Nat}{xs:List Value}(r:rdH sz v n xs h)(a:0<xs.length):∃b o c,v=.slice (some ⟨b,o,none⟩) n c:=by
 obtain ⟨g,c,e,_,_,_,f⟩:=r;obtain ⟨b,p,d,_⟩:=f 0 xs[0] (Aed a);subst d;exact ⟨b,p,c,e⟩
theorem EF(q:blk g (B.map u8++V) T h)(b:B.length=m)(a:m<=n/\n<=9223372036854775807/\V.length=n-m):rdH 1 (.slice (some ⟨g,0,none⟩) m n) m (B.map u8) h:=by
 refine q.rd a.1 a.2.1 (by simp;omega) ?_;rw[Aeu,AeP,Aet (by simp;omega),Aej (by simp;omega)]
def Ea(F:Nat->List UInt8)(i:Nat):List UInt8:=(List.range i).flatMap λj=>F (1+j)
theorem Tc(F:Nat->List UInt8)(i:Nat):Ea F i++F (1+i)=Ea F (i+1):=by simp[Ea,Ag8]
theorem U4(F:Nat->List UInt8)(i:Nat):ED (Ba (Ea F i)) (F (1+i))=Ba (Ea F (i+1)):=by
 unfold Ba;rw[LN,Tc]
theorem AdM(F:Nat->List UInt8):Value.int .u32 0=u32 (Ba (Ea F 0)):=by
 have:Ba (Ea F 0)=0:=by show Ba []=0;decide
 rw[this];rfl
def Ct(n:Nat):Dsk:=⟨n,λ_=>List.replicate 256 0,λ_=>[],0,0,0,false,0⟩
theorem Yj(h:1<=n/\n<=4096):(Ct n).Ok:=⟨h.1,h.2,λ_ _=>by simp[Ct],λ_ _ p hp=>by simp[Ct] at hp,by simp[Ct],by simp[Ct],by simp[Ct],by simp[Ct]⟩
theorem Yk :(Ct n).In (List.replicate (n*256) 0) [] 0 (λ_=>none):=by
 refine ⟨by simp[Ct],λi hi=>?_,λe a=>absurd a O,λi _ h=>by simp[Ct] at h,by simp,by simp,λe a=>absurd a O⟩;simp only[Ct] at hi ⊢;rw[AgK,List.take_replicate];congr 1;omega
theorem diskA.f1{D:Dsk}(h:D.f1=0): {D with f1:=Bf D.f1} =D:=by
 cases D;simp at h;subst h;rfl

theorem Sep.tri{w:World}{A B C:List Ai}(H:Sep z (A++(B++C)) w):Sep z (A++(C++B)) w:=by
 have h:Sep z ([seps A]++(B++C)) w:=H.shut;have i:Sep z (B++(C++[seps A])) w:=by rw[<-Aeh];exact h.swap
 have m:Sep z ([seps B]++(C++[seps A])) w:=i.shut;have n:Sep z (C++([seps A]++[seps B])) w:=by rw[<-Aeh];exact m.swap
 have j:Sep z [seps C,seps A,seps B] w:=n.shut;have l:Sep z ([seps B]++[seps A,seps C]) w:=j.pick 3 [2,1,0] Z;have g:Sep z (B++[seps A,seps C]) w:=l.opened;have k:Sep z ([seps A]++([seps C]++B)) w:=g.swap;have f:Sep z (A++([seps C]++B)) w:=k.opened;have d:Sep z ([seps C]++(B++A)) w:=by rw[<-Aeh];exact f.swap
 have b:Sep z (C++(B++A)) w:=d.opened;have e:Sep z ((B++A)++C) w:=b.swap;have c:Sep z (B++(A++C)) w:=by rw[<-Aeh];exact e
 have a:Sep z ((A++C)++B) w:=c.swap;rwa[Aeh] at a
def dkB(pd bd m:Nat)(D:Dsk)(f0:Int):Ai:=blk pd [.slice (some ⟨bd,0,none⟩) (D.n*256) (D.n*256),.map (some m),.int .i64 f0,.int .i64 D.f1,.int .i64 D.f2,.int .i64 D.f3,.bool D.cut,.int .i64 D.left] 98
theorem Cn.onDisk{f:FuncId}{args:List Value}{pre:List Ai}{pd:Nat}{post:Value->List Ai->Prop}
  (h:D.Ok->∀bd m f0,Cn P f args (dkB pd bd m D f0::pre) (λv Γ=>∃Γ',post v Γ'/\Γ=Γ'++[dkB pd bd m D f0])):
  Cn P f args (diskA pd D::pre) (λv Γ=>∃Γ',post v Γ'/\Γ=Γ'++[diskA pd D]):=λz R w H=>by
 have H0:Sep z (diskA pd D::(pre++R)) w:=H;obtain ⟨bd,m,f0,bs,es,clk,hq,c,b,H1⟩:=H0.disk;have H2:Sep z ([dkB pd bd m D f0]++((EY pd bd m D f0 bs es clk hq).drop 1++(pre++R))) w:=H1;have H3:Sep z ((dkB pd bd m D f0::pre)++(R++(EY pd bd m D f0 bs es clk hq).drop 1)) w:=by
  have:=H2.tri;rw[Aeh] at this;exact this
 refine Ret.mono (h c bd m f0 z _ w H3) ?_;rintro v a ⟨Γ,⟨Γ',hp,rfl⟩,H4⟩;refine ⟨Γ'++[diskA pd D],⟨Γ',hp,Z⟩,?_⟩;rw[Aeh] at H4;have H5:Sep z ([dkB pd bd m D f0]++(R++((EY pd bd m D f0 bs es clk hq).drop 1++Γ'))) a:=by
  have:=H4.swap;rw[Aeh,Aeh] at this;exact this
 have H6:Sep z (EY pd bd m D f0 bs es clk hq++(Γ'++R)) a:=by
  have:=H5.tri;rw[Aeh] at this;exact this
 have H7:Sep z ([diskA pd D]++(Γ'++R)) a:=Sep.toDisk H6 c b;have H8:Sep z (Γ'++(R++[diskA pd D])) a:=by
  have:=H7.swap;rw[Aeh] at this;exact this
 have H9:=H8.tri;rw[<-Aeh] at H9;exact H9

def Iw:List Int->Nat->List IE
 | [],_=>[]
 | k::ks,n=>(k,.bool true,n)::Iw ks (n+1)
def seen(ns:List Int):List IE:=Iw ns 0
theorem IU:∀(ns:List Int) (n:Nat) (k:Int),CO (Iw ns n) k=if k∈ns then some (.bool true) else none
 | [],n,k=>rfl
 | x::xs,n,k=>by
  simp only[Iw,CO,IU xs];by_cases h:k=x
  ·simp[h]
  by_cases h2:k∈xs
  ·simp[h,h2]
  simp[h,h2]
theorem U5:(CO (seen l) t).getD (.bool false)=.bool (decide (t∈l)):=by
 unfold seen;rw[IU];split
 ·rename_i h;simp[h]
 rename_i h;simp[h]
theorem KN:∀(ns:List Int) (n:Nat) (k:Int),Iw (ns++[k]) n=Iw ns n++[(k,.bool true,n+ns.length)]
 | [],n,k=>rfl
 | x::xs,n,k=>by
  simp only[AfB,Iw,KN xs,Aeg];rw[show n+1+xs.length=n+(xs.length+1) from by omega]
theorem U6{ns:List Int}{k:Int}(h:k∉ns):E4 (seen ns) k (.bool true) ns.length=seen (ns++[k])/\putC (seen ns) k ns.length=(ns++[k]).length:=by
 have:CP (seen ns) k=false:=by unfold CP seen;rw[IU,if_neg h];rfl
 constructor
 ·unfold E4;rw[this];unfold seen;rw[KN];simp
 unfold putC;rw[this];simp
def imA(A:Ai)(v:Value)(es:List ImE):Ai:=λh=>A h/\rdH 3 v es.length (Gl es) h/\imesOk es h
theorem Sep.imA{z w:World}{Γ:List Ai}(i:Nat){A:Ai}(H:Sep z Γ w)(hi:Γ[i]?=some A){v:Value}{ims:List Img}(c:∀h,A h->imgsH v ims h):∃es:List ImE,es.map Prod.fst=ims/\Sep z (Γ.set i (YtemljpjnhjnncaaGreatDoor.imA A v es)) w:=
 H.exAt i (p:=λes:List ImE=>es.map Prod.fst=ims) (B:=λes=>YtemljpjnhjnncaaGreatDoor.imA A v es) hi (λh a=>by
  obtain ⟨es,b,d,e⟩:=c h a;subst b;exact ⟨es,Z,a,by simpa using d,e⟩)
theorem imA.at{a:Option Addr}{c:Nat}{es:List ImE}{e:ImE}{w:World}(i:Nat)(H:Sep z Γ w)(hi:Γ[i]?=some (imA A (.slice a n c) es))(g:es[j]?=some e):∀k u,(ImE.cells e)[k]?=some u->At a (j*3+k) u w:=λk u l=>by
 have d:=H.rd i hi (λh q=>q.2.1);obtain ⟨f,c',b,_,_,_,m⟩:=d;cases b;exact m _ _ (Jo g k u l)
def Fz(ims:List Img):List Value:=ims.map λm=>.int .i64 m.num
theorem U7{ims:List Img}{m:Img}(h:ims[i]?=some m):Fz (ims.take i)++[I m.num]=Fz (ims.take (i+1)):=by
 rw[AeN,h];simp[Fz]
theorem Yl(ims:List Img):Fz ims=(ims.map Img.num).map I:=by simp[Fz]
def CL(e sq:Int)(m:Img):List UInt8:=Ag 1 m.kind++Ag 2 m.num++Ag 4 e++Ag 5 sq++m.body
def CM(e sq:Int)(ims:List Img):List UInt8:=ims.flatMap λm=>BB (CL e sq m)
theorem Td{ims:List Img}{m:Img}(h:ims[i]?=some m):CM t s (ims.take i)++BB (CL t s m)=CM t s (ims.take (i+1)):=by
 rw[AeN,h];simp[CM]
def hdL(e sq:Int)(ims:List Img):List UInt8:=[80,76,79,71]++Ag 8 e++Ag 8 sq++Ag 4 ((Ba (CM e sq ims)).toNat:Int)++Ag 2 ((ims.map Img.num).length:Int)++(ims.map Img.num).flatMap (Ag 4)
theorem GK{e sq:Int}{m:Img}(h:m.body.length=240):(CL e sq m).length=252:=by simp[CL,Ah,h]
theorem Oa{e sq:Int}:∀{ims:List Img},(∀m∈ims,m.Ok)->(CM e sq ims).length=ims.length*256
 | [],_=>rfl
 | m::ims,h=>by
  have h1:=Oa (e:=e) (sq:=sq) (ims:=ims) (λm b=>h m (by simp[b]));have a:=sect_len (l:=CL e sq m) (by rw[GK (h m O).2.2];omega);simp only[CM,AeG,Aee,Aeg] at h1 ⊢;rw[h1,a];omega
def BC(e sq:Int)(ims:List Img):List (List UInt8):=BB (hdL e sq ims)::ims.map λm=>BB (CL e sq m)
theorem Te(e sq:Int)(ims:List Img):BB (hdL e sq ims)++CM e sq ims=(BC e sq ims).flatten:=by
 simp[BC,CM,List.flatMap]
theorem hdL_len(e sq:Int)(ims:List Img):(hdL e sq ims).length=26+4*ims.length:=by
 simp[hdL,Ah,Ci,-List.length_flatMap];omega
theorem KO{ims:List Img}{m:Img}(h:(ims.map Img.num).Nodup)(hi:ims[i]?=some m)(b:m.num∈(ims.take i).map Img.num):False:=by
 have a:=(Aeb.1 hi).1;rw[<-AeL i ims,AeH,Ae9] at h;refine h.2.2 _ b m.num ?_ Z;rw[AeZ a,(Aeb.1 hi).2];simp
def EG(ims:List Img):Prop:=(∀m∈ims,m.Ok)/\(ims.map Img.num).Nodup

def Dsk.wf(D:Dsk):Dsk:= {D with f2:=Bf D.f2}
def Dsk.wr(D:Dsk)(x:Nat)(ps:List (List UInt8)):Dsk:= {Dsk.ws {D with f2:=Bf D.f2} false x ps with left:=max 0 (D.left-1)}
def Dsk.bad(D:Dsk):Prop:=D.f2=1\/(D.cut=true/\D.left=0)
theorem Dsk.wr_n(D:Dsk)(x:Nat)(ps:List (List UInt8)):(D.wr x ps).n=D.n:=Dsk.ws_n _ _ _ _
theorem Dsk.ws_len(ps:List (List UInt8)):∀(D:Dsk) (i j:Nat),((D.ws false i ps).ver j).length<=(D.ver j).length+1:=by
 induction ps with
 | nil=>intro D i j;simp[Dsk.ws]
 | cons q qs ih=>
  intro D i j;rcases Aeq i j with h|h
  ·have:=ih (D.w1 false i q) (i+1) j
   rw[Dsk.w1_ver _ _ _ U] at this;exact this
  simp only[Dsk.ws];rw[Dsk.ws_ver _ _ _ _ _ (.inl U)];show ((Dh D.ver i (D.ver i++[q])) j).length<=_;unfold Dh;split
  ·rename_i e;subst e;simp
  omega
theorem Dsk.wr_len(D:Dsk)(x:Nat)(ps:List (List UInt8))(j:Nat):((D.wr x ps).ver j).length<=(D.ver j).length+1:=Dsk.ws_len ps {D with f2:=Bf D.f2} x j
theorem Tf{ps:List (List UInt8)}(h:∀p∈ps,p.length=256):∀k,(ps.take k).flatten=ps.flatten.take (k*256):=by
 induction ps with
 | nil=>intro k;simp
 | cons q qs ih=>
  intro k
  cases k with
  | zero=>simp
  | succ k=>
   have hq:=h q O;rw[Ae5,Agz,Agz,ih (λp hp=>h p (by simp[hp])),AgY,Aej (l:=q) U];rw[show (k+1)*256-q.length=k*256 from by omega]
theorem Th{ps:List (List UInt8)}(h:∀p∈ps,p.length=256):∀k,(ps.drop k).flatten=ps.flatten.drop (k*256):=by
 induction ps with
 | nil=>intro k;simp
 | cons q qs ih=>
  intro k
  cases k with
  | zero=>simp
  | succ k=>
   have hq:=h q O;rw[Ae3,Agz,ih (λp hp=>h p (by simp[hp])),Ae6,AeK (l:=q) U,AeQ];rw[show (k+1)*256-q.length=k*256 from by omega]
theorem U8{ps:List (List UInt8)}(h:∀p∈ps,p.length=256):ps.flatten.length=ps.length*256:=by
 induction ps with
 | nil=>rfl
 | cons q qs ih=>
  have hq:=h q O;rw[Agz,Aee,ih (λp hp=>h p (by simp[hp])),Aeg];omega
theorem Ym{e sq:Int}{ims:List Img}(h:∀m∈ims,m.Ok)(b:ims.length<=40):(∀p∈BC e sq ims,p.length=256)/\(BC e sq ims).length=1+ims.length:=by
 refine ⟨λp hp=>?_,by simp[BC];omega⟩;rcases Aen.1 hp with rfl|hp
 ·exact sect_len (by rw[hdL_len];omega)
 obtain ⟨m,a,rfl⟩:=Aek.1 hp;exact sect_len (Agi (GK (h m a).2.2))
theorem grow.rdB{e:TypeId}{b c:Nat}{xs:List UInt8}(q:grow e 1 (.slice (some ⟨b,0,none⟩) n c) n (xs.map u8) h):rdH 1 (.slice (some ⟨b,0,none⟩) n c) n (xs.map u8) h:=q.rd
theorem grow.sl{e:TypeId}{sz:Nat}{xs:List Value}(q:grow e sz v n xs h)(f:0<n):∃b c,v=.slice (some ⟨b,0,none⟩) n c/\n<=c/\c<=9223372036854775807:=by
 have d:=q.rd;rcases q.form with ⟨_,rfl⟩|⟨b,c,rfl,h⟩
 ·omega
 obtain ⟨_,_,e,_,a,_⟩:=d;cases e;exact ⟨b,c,Z,h,a⟩

def Di(D:Dsk)(s:Sup)(a:Int):Nat->List UInt8:=λj=>D.cont (ringAt s (a+j))
inductive Runs(D:Dsk)(s:Sup):Int->Int->Int->List Rc->Int->Int->Int->Prop
 | nil (a q u:Int):Runs D s a q u [] a q u
 | snoc {a q u a' q' u':Int} {rs:List Rc} {ims:List Img} :Runs D s a q u rs a' q' u'->u'<s.len->nextP (Di D s a') s.epoch q' (s.len-u') ims->Runs D s a q u (rs++[⟨q',ims⟩]) ((a'+(1+(ims.length:Int)))%s.len) (q'+1) (u'+(1+(ims.length:Int)))
theorem nextP.len{f:Nat->List UInt8}{e sq:Int}{ims:List Img}(h:nextP f e sq t ims):1<=ims.length/\ims.length<=40/\1+(ims.length:Int)<=t:=by
 obtain ⟨a,_,_,d,b,_⟩:=h;have c:=a.2.2.2.1;have:ims.length=BG (f 0):=by rw[b];simp
 omega
section
theorem BV(c:0<=t)(d:t<9223372036854775808)(b:t<256^m):AX (Ag m t)=t:=by
 obtain ⟨n,rfl⟩:=AfY c;have a:EE (Ag m (n:Int))=n:=Yg m (by exact_mod_cast b);unfold AX;rw[a];exact AfL _ U
theorem G7(a b:List UInt8)(hp:n=a.length)(c:m=b.length):((a++b++B).drop n).take m=b:=by
 subst hp c;rw[Aeh,AfR Z,AeF Z]
theorem U9:∀{j:Nat} {x:Int},l[j]?=some x->((l.flatMap (Ag 4)).drop (4*j)).take 4=Ag 4 x:=by
 induction l with
 | nil=>intro j x h;simp at h
 | cons y ys ih=>
  intro j x h
  cases j with
  | zero=>
   simp at h;subst h;rw[AeG,Nat.mul_zero,Aeu,AeF (Ah 4 y)]
  | succ j=>
   rw[AeG,show 4*(j+1)=(Ag 4 y).length+4*j from by rw[Ah];omega,Ae6];rw[AeK U,AeQ,show (Ag 4 y).length+4*j-(Ag 4 y).length=4*j from by omega];exact ih (by simpa using h)
variable{e sq:Int}{ims:List Img}
theorem Ob(e sq:Int)(ims:List Img):hdL e sq ims=[80,76,79,71]++Ag 8 e++(Ag 8 sq++Ag 4 ((Ba (CM e sq ims)).toNat:Int)++Ag 2 ((ims.map Img.num).length:Int)++(ims.map Img.num).flatMap (Ag 4)):=by
 simp[hdL]
theorem Va(b:ims.length<=40)(h:0<=e/\e<=1099511627776):Cp (BB (hdL e sq ims))=e:=by
 have a:=hdL_len e sq ims;unfold Cp;rw[B6 U U,Ob,G7 _ _ O (by simp[Ah])];exact BV h.1 U U
theorem Vb(b:ims.length<=40)(h:0<=sq/\sq<=1099511627776):Cq (BB (hdL e sq ims))=sq:=by
 have a:=hdL_len e sq ims;unfold Cq;rw[B6 U U,show hdL e sq ims=([80,76,79,71]++Ag 8 e)++Ag 8 sq++(Ag 4 ((Ba (CM e sq ims)).toNat:Int)++Ag 2 ((ims.map Img.num).length:Int)++(ims.map Img.num).flatMap (Ag 4)) from by simp[hdL],G7 _ _ (by simp[Ah]) (by simp[Ah])];exact BV h.1 U U
theorem AdN(b:ims.length<=40):DK (BB (hdL e sq ims))=Ba (CM e sq ims):=by
 have a:=hdL_len e sq ims;have c:=(Ba (CM e sq ims)).toNat_lt;unfold DK;rw[B6 U U,show hdL e sq ims=([80,76,79,71]++Ag 8 e++Ag 8 sq)++Ag 4 ((Ba (CM e sq ims)).toNat:Int)++(Ag 2 ((ims.map Img.num).length:Int)++(ims.map Img.num).flatMap (Ag 4)) from by simp[hdL],G7 _ _ (by simp[Ah]) (by simp[Ah])];rw[BV U U U];exact AaI
theorem RE(b:ims.length<=40):BG (BB (hdL e sq ims))=ims.length:=by
 have a:=hdL_len e sq ims;unfold BG;rw[B6 U U,show hdL e sq ims=([80,76,79,71]++Ag 8 e++Ag 8 sq++Ag 4 ((Ba (CM e sq ims)).toNat:Int))++Ag 2 ((ims.map Img.num).length:Int)++((ims.map Img.num).flatMap (Ag 4)) from by simp[hdL],G7 _ _ (by simp[Ah]) (by simp[Ah])];rw[Aef,BV U U U];rfl
theorem Abi(g:ims.length<=40){m:Img}(b:ims[j]?=some m)(d:m.Ok):Et (BB (hdL e sq ims)) j=m.num:=by
 have f:=hdL_len e sq ims;have c:=(Aeb.1 b).1;unfold Et;rw[B6 U U,show hdL e sq ims=([80,76,79,71]++Ag 8 e++Ag 8 sq++Ag 4 ((Ba (CM e sq ims)).toNat:Int)++Ag 2 ((ims.map Img.num).length:Int))++((ims.map Img.num).flatMap (Ag 4)) from by simp[hdL]];have a:([80,76,79,71]++Ag 8 e++Ag 8 sq++Ag 4 ((Ba (CM e sq ims)).toNat:Int)++Ag 2 ((ims.map Img.num).length:Int)).length=26:=by simp only[Aee,Ah];rfl
 rw[Ae6,AeK (by rw[a];omega),AeQ,a,show 26+4*j-26=4*j from by omega];rw[U9 (x:=m.num) (by simp[b])];have:=d.1;exact BV U U U
theorem Abj(b:1<=ims.length/\ims.length<=40)(h:0<=e/\e<=1099511627776)(hs:0<=sq/\sq<=1099511627776)(a:∀m∈ims,m.Ok):Iv (BB (hdL e sq ims)):=by
 have d:=hdL_len e sq ims;have g:=Va (sq:=sq) b.2 h;have i:=Vb (e:=e) b.2 hs;have f:=RE (e:=e) (sq:=sq) b.2;unfold Cp at g;unfold Cq at i;refine ⟨⟨Iu U,?_⟩,by rw[g];exact h,by rw[i];exact hs,by rw[f];exact b,λj c=>?_,?_⟩
 ·have:=B6 (l:=hdL e sq ims) U (p:=0) (k:=4) U
  rw[Aeu,Aeu] at this;rw[this,Ob,Aeh];rfl
 ·rw[f] at c
  have n:=Aed c;rw[Abi b.2 n (a _ (AfO c))];exact (a _ (AfO c)).1
 rw[f,<-d];exact My U
theorem Oc(e sq:Int)(m:Img):CL e sq m=Ag 1 m.kind++Ag 2 m.num++(Ag 4 e++Ag 5 sq++m.body):=by simp[CL]
theorem Od{m:Img}(a:m.Ok)(j:0<=e/\e<4294967296)(hs:0<=sq/\sq<1099511627776):IS (BB (CL e sq m))/\Fx (BB (CL e sq m))=e/\Fy (BB (CL e sq m))=sq/\Cm (BB (CL e sq m))=m:=by
 have h:=a.2.2;have b:=GK (e:=e) (sq:=sq) h;have i:=a.1;have f:=a.2.1;have e1:AX ((BB (CL e sq m)).take 1)=m.kind:=by
  have:=B6 (l:=CL e sq m) U (p:=0) (k:=1) U;rw[Aeu,Aeu] at this;rw[this,Oc,Aeh,AeF (by rw[Ah])];exact BV U U U
 have e2:AX (((BB (CL e sq m)).drop 1).take 2)=m.num:=by
  rw[B6 U U,Oc,G7 _ _ (by simp[Ah]) (by simp[Ah])];exact BV U U U
 have c:AX (((BB (CL e sq m)).drop 3).take 4)=e:=by
  rw[B6 U U,show CL e sq m=(Ag 1 m.kind++Ag 2 m.num)++Ag 4 e++(Ag 5 sq++m.body) from by simp[CL],G7 _ _ (by simp[Ah]) (by simp[Ah])];exact BV U U U
 have g:AX (((BB (CL e sq m)).drop 7).take 5)=sq:=by
  rw[B6 U U,show CL e sq m=(Ag 1 m.kind++Ag 2 m.num++Ag 4 e)++Ag 5 sq++m.body from by simp[CL],G7 _ _ (by simp[Ah]) (by simp[Ah])];exact BV U U U
 have d:((BB (CL e sq m)).drop 12).take 240=m.body:=by
  rw[B6 U U,show CL e sq m=(Ag 1 m.kind++Ag 2 m.num++Ag 4 e++Ag 5 sq)++m.body++[] from by simp[CL],G7 _ _ (by simp[Ah]) U]
 refine ⟨⟨Iu U,by rw[e1];exact f,by rw[e2];exact i⟩,c,g,?_⟩;unfold Cm;rw[e1,e2,d]
theorem Oe{F:Nat->List UInt8}(i:1<=ims.length/\ims.length<=40)(f:∀m∈ims,m.Ok)(r:0<=e/\e<4294967296)(hs:0<=sq/\sq<1099511627776)(s:1+(ims.length:Int)<=t)
  (q:∀(j:Nat) (p:List UInt8),(BC e sq ims)[j]?=some p->F j=p):nextP F e sq t ims:=by
 have g:F 0=BB (hdL e sq ims):=q 0 _ Z;have k:=RE (e:=e) (sq:=sq) i.2;have n:∀j (h:j<ims.length),F (1+j)=BB (CL e sq ims[j]):=λj h=>q (1+j) _ (by
  rw[AgS];simp[BC,h])
 refine ⟨?_,?_,?_,?_,?_,?_,?_⟩
 ·rw[g];exact Abj i U U f
 ·rw[g];exact Va i.2 U
 ·rw[g];exact Vb i.2 U
 ·rw[g,k];exact s
 ·rw[g,k]
  apply AgX
  ·simp
  intro j l o;simp only[Ahx,List.getElem_range];rw[n j l,(Od (f _ (AfO l)) r hs).2.2.2]
 ·intro j h
  rw[g,k] at h;obtain ⟨a,b,c,d⟩:=Od (f _ (AfO h)) r hs;rw[n j h];refine ⟨a,b,c,?_⟩;rw[d,g,Abi i.2 (Aed h) (f _ (AfO h))]
 rw[g,k,AdN i.2];congr 1;unfold CM;rw[List.flatMap_def,List.flatMap_def];congr 1;apply AgX
 ·simp
 intro j l o;simp only[Ahx,List.getElem_range];exact n j (by simpa using o)
end
theorem Yn(ps:List (List UInt8)):∀(D:Dsk) (x i:Nat),(D.ws false x ps).cont i=(if x<=i then ps[i-x]? else none).getD (D.cont i):=by
 induction ps with
 | nil=>intro D x i;simp[Dsk.ws]
 | cons q qs ih=>
  intro D x i;simp only[Dsk.ws];rw[ih];have a:(D.w1 false x q).cont i=if i=x then q else D.cont i:=by
   show ((Dh D.ver x (D.ver x++[q])) i).getLast?.getD (D.dur i)=_;unfold Dh;split
   ·rename_i h;subst h;simp
   rfl
  rw[a];rcases AfI i x with h|h|h
  ·rw[if_neg (show ¬x+1<=i by omega),if_neg (show ¬i=x by omega),if_neg (show ¬x<=i by omega)]
  ·subst h
   rw[if_neg (show ¬i+1<=i by omega),if_pos Z,if_pos (Aei i),AgD];rfl
  rw[if_pos (show x+1<=i by omega),if_neg (show ¬i=x by omega),if_pos (show x<=i by omega),show i-x=(i-(x+1))+1 from by omega,Aey]
theorem wr_cont(ps:List (List UInt8))(D:Dsk)(x i:Nat):(D.wr x ps).cont i=(if x<=i then ps[i-x]? else none).getD (D.cont i):=Yn ps {D with f2:=Bf D.f2} x i

theorem ring_low{s:Sup}(hs:0<=s.start)(a:0<=t)(h:t+j<s.len):ringAt s (t+j)=(s.start+t).toNat+j:=by
 unfold ringAt;rw[Agl U h];omega
theorem ring_high{s:Sup}(hs:0<=s.start)(a:s.len<=t+j)(h:t+j<s.len+s.len):ringAt s (t+j)=s.start.toNat+(t+j-s.len).toNat:=by
 unfold ringAt;rw[<-Int.sub_emod_right (t+j) s.len,Agl U U];omega
theorem J6{s:Sup}(a b:Int):ringAt s (a%s.len+b)=ringAt s (a+b):=by
 unfold ringAt;rw[Ahp]
theorem Ix{s:Sup}(hs:0<=s.start)(c:0<=t/\t<s.len)(hi:(i:Int)<s.len)(d:(j:Int)<s.len)(e:ringAt s (t+i)=ringAt s (t+j)):i=j:=by
 rcases Int.lt_or_le (t+i) s.len with a|a<;>rcases Int.lt_or_le (t+j) s.len with b|b
 ·rw[ring_low hs c.1 a,ring_low hs c.1 b] at e;omega
 ·rw[ring_low hs c.1 a,ring_high hs b U] at e;omega
 ·rw[ring_high hs a U,ring_low hs c.1 b] at e;omega
 rw[ring_high hs a U,ring_high hs b U] at e;omega
def E7(D:Dsk)(s:Sup)(a:Int)(k:Nat)(ps:List (List UInt8)):Dsk:=if k<ps.length then (D.wr (s.start+a).toNat (ps.take k)).wr s.start.toNat (ps.drop k) else D.wr (s.start+a).toNat (ps.take k)
theorem Yo{s:Sup}{ps:List (List UInt8)}(hs:0<=s.start)(d:0<=t/\t<s.len)(g:(ps.length:Int)<=s.len)(f:(n:Int)=min (ps.length:Int) (s.len-t))(b:ps[j]?=some B):(E7 D s t n ps).cont (ringAt s (t+j))=B:=by
 have e:=(Aeb.1 b).1;rcases Aeq j n with h|h
 ·have a:ringAt s (t+j)=(s.start+t).toNat+j:=ring_low hs d.1 U
  have c:(D.wr (s.start+t).toNat (ps.take n)).cont ((s.start+t).toNat+j)=B:=by
   rw[wr_cont,if_pos U,show (s.start+t).toNat+j-(s.start+t).toNat=j from by omega,AeX,if_pos h,b];rfl
  unfold E7;split
  ·rw[a,wr_cont]
   have:(if s.start.toNat<=(s.start+t).toNat+j then (ps.drop n)[(s.start+t).toNat+j-s.start.toNat]? else none)=none:=by
    rw[if_pos U];exact AeI (by rw[AeM];omega)
   rw[this];exact c
  rw[a];exact c
 have a:ringAt s (t+j)=s.start.toNat+(t+j-s.len).toNat:=ring_high hs U U;unfold E7;rw[if_pos U,a,wr_cont,if_pos U,show s.start.toNat+(t+j-s.len).toNat-s.start.toNat=j-n from by omega,Afl,show n+(j-n)=j from by omega,b];rfl
theorem app_old{s:Sup}{ps:List (List UInt8)}(hs:0<=s.start)(b:0<=t/\t<s.len)(e:(ps.length:Int)<=s.len)(d:(n:Int)=min (ps.length:Int) (s.len-t))(hi:∀j:Nat,j<ps.length->i≠ringAt s (t+j)):(E7 D s t n ps).cont i=D.cont i:=by
 have a:(D.wr (s.start+t).toNat (ps.take n)).cont i=D.cont i:=by
  rw[wr_cont];split
  ·rename_i h
   rw[AeI];rfl;rw[Aex];rcases Aeq (i-(s.start+t).toNat) (min n ps.length) with q|q
   ·exact absurd (by rw[ring_low hs b.1 U];omega) (hi (i-(s.start+t).toNat) U)
   exact q
  rfl
 unfold E7;split
 ·rw[wr_cont]
  split
  ·rename_i c h
   rw[AeI];exact a;rw[AeM];rcases Aeq (i-s.start.toNat) (ps.length-n) with q|q
   ·exact absurd (by rw[ring_high hs U U];omega) (hi (n+(i-s.start.toNat)) U)
   exact q
  exact a
 exact a

theorem Vc{F:Nat->List UInt8}{a b:List Img}(d:nextP F t s p a)(c:nextP F t s p b):a=b:=by
 rw[d.2.2.2.2.1,c.2.2.2.2.1]
theorem Runs.pos{s:Sup}{h:Int}{rs:List Rc}{a u:Int}(b:0<=h/\h<s.len)(r:Runs D s h t 0 rs a q u):a=(h+u)%s.len/\q=t+rs.length/\0<=u/\u<=s.len/\(rs.length:Int)<=u:=by
 induction r with
 | nil=>exact ⟨by rw[Int.add_zero,Agl b.1 b.2],by simp,by omega,by omega,by simp⟩
 | snoc r hlt hn ih=>
  obtain ⟨c,d,f,g,e⟩:=ih;have i:=hn.len;refine ⟨?_,by rw[d];simp;omega,by omega,by omega,by simp;omega⟩;rw[c,Ahp,Int.add_assoc]
theorem Mz:¬Iv (List.replicate 256 0):=λh=>by
 have:=h.1.2;simp at this
section
def Tg(c:List UInt8)(e q:Int):Prop:=(Iv c/\Cp c=e/\Cq c=q)\/(IS c/\Fx c=e/\Fy c=q)
theorem Vd:¬IS (List.replicate 256 0):=λh=>by
 have:=h.2.1.1;revert this;decide
theorem Ve{e q:Int}:¬Tg (List.replicate 256 0) e q:=by
 rintro (⟨h,_⟩|⟨h,_⟩)
 ·exact Mz h
 exact Vd h
theorem JO(h:Iv B)(g:IS B):False:=by
 have b:=h.1.2;have a:=g.2.1.2;have:B.take 1=[80]:=by
  have:=congrArg (List.take 1) b;rwa[AeD] at this
 rw[this] at a;revert a;decide
variable{e q:Int}{ims:List Img}
theorem rec_cases(hp:(BC e q ims)[n]?=some B):(n=0/\B=BB (hdL e q ims))\/∃j m,n=j+1/\ims[j]?=some m/\B=BB (CL e q m):=by
 cases n with
 | zero=>simp[BC] at hp;exact .inl ⟨Z,hp.symm⟩
 | succ j=>
  simp only[BC,Aey,Aeo,Agx] at hp;obtain ⟨m,b,a⟩:=hp;exact .inr ⟨j,m,Z,b,a.symm⟩
theorem Qi(i:1<=ims.length/\ims.length<=40)(f:∀m∈ims,m.Ok)(l:0<=e/\e<4294967296)(hq:0<=q/\q<1099511627776)(hp:(BC e q ims)[n]?=some B)(h:Tg B t s):t=e/\s=q:=by
 rcases rec_cases hp with ⟨rfl,rfl⟩|⟨j,m,rfl,k,rfl⟩
 ·have o:=Abj i (e:=e) (sq:=q) U U f
  rcases h with ⟨_,c,g⟩|⟨c,_⟩
  ·exact ⟨c.symm.trans (Va i.2 U),g.symm.trans (Vb i.2 U)⟩
  exact (JO o c).elim
 obtain ⟨a,b,d,_⟩:=Od (f m (Aec k)) l hq;rcases h with ⟨c,_⟩|⟨_,c,g⟩
 ·exact (JO c a).elim
 exact ⟨c.symm.trans b,g.symm.trans d⟩

def secs(e:Int)(rs:List Rc):List (List UInt8):=rs.flatMap λr=>BC e r.seq r.ims
theorem E8(e:Int)(rs a:List Rc):secs e (rs++a)=secs e rs++secs e a:=by simp[secs]
theorem J7(e:Int)(r:Rc):secs e [r]=BC e r.seq r.ims:=by simp[secs]
theorem FQ(e q:Int)(ims:List Img):(BC e q ims).length=1+ims.length:=by simp[BC];omega
theorem KP(e:Int){rs:List Rc}{r:Rc}(h:rs[j]?=some r):secs e rs=secs e (rs.take j)++BC e r.seq r.ims++secs e (rs.drop (j+1)):=by
 have a:=(Aeb.1 h).1;have:rs=rs.take j++[r]++rs.drop (j+1):=by
  rw[<-(Aeb.1 h).2,List.take_append_getElem a,AeL]
 conv=>lhs;rw[this]
 rw[E8,E8,J7]
theorem Vf{e:Int}{rs:List Rc}(h:B∈secs e rs):∃(j:Nat) (r:Rc) (p:Nat),rs[j]?=some r/\(BC e r.seq r.ims)[p]?=some B:=by
 obtain ⟨r,c,a⟩:=Agg.1 h;obtain ⟨j,b⟩:=Ae2 c;obtain ⟨p,hp⟩:=Ae2 a;exact ⟨j,r,p,b,hp⟩

def Do(D:Dsk)(n:Nat)(c:List UInt8):Prop:=c=D.dur n\/c∈D.ver n
def AdO(s:Sup)(c:List UInt8):Prop:=∀e q,Tg c e q->e<s.epoch\/(e=s.epoch/\q<s.seq)
structure PInv(D:Dsk)(s:Sup)(rs:List Rc)(pt:List (List UInt8))(a q u:Int)(b:Bool)(sure:Nat):Prop where
 fa:a=(s.head+u)%s.len
 fq:q=s.seq+rs.length+(if b then 1 else 0)
 fu:u=((secs s.epoch rs).length:Int)
 ul:u<=s.len
 pb:b=false->pt=[]
 part:pt=[]\/∃ims k,((1<=ims.length/\ims.length<=40)/\(∀m∈ims,m.Ok))/\pt=(BC s.epoch (s.seq+rs.length) ims).take k/\k<1+ims.length/\u+(1+(ims.length:Int))<=s.len
 recs:∀(j:Nat) (r:Rc),rs[j]?=some r->r.seq=s.seq+j/\(1<=r.ims.length/\r.ims.length<=40)/\∀m∈r.ims,m.Ok
 old:∀i:Nat,(i:Int)<s.len->∀c,Do D (ringAt s (s.head+i)) c->AdO s c\/(secs s.epoch rs++pt)[i]?=some c
 last:∀(i:Nat) (c:List UInt8),(secs s.epoch rs++pt)[i]?=some c->D.cont (ringAt s (s.head+i))=c
 dura:∀(i:Nat) (c:List UInt8),(secs s.epoch (rs.take sure))[i]?=some c->D.dur (ringAt s (s.head+i))=c/\D.ver (ringAt s (s.head+i))=[]
 sure:sure<=rs.length
structure SOk(s:Sup):Prop where
 start:0<=s.start
 head:0<=s.head/\s.head<s.len
 epoch:0<=s.epoch/\s.epoch<4294967296
 seq:0<=s.seq
theorem PInv.f{D':Dsk}{s:Sup}{rs:List Rc}{j:List (List UInt8)}{a q u:Int}(h:PInv D s rs j a q u b n)(e:D'.dur=D.dur)(g:D'.ver=D.ver):PInv D' s rs j a q u b n:=
 ⟨h.fa,h.fq,h.fu,h.ul,h.pb,h.part,h.recs,λi hi c d=>h.old i hi c (by unfold Do at d ⊢;rwa[e,g] at d),λi c d=>by have:=h.last i c d;unfold Dsk.cont at this ⊢;rw[e,g];exact this,
  λi c d=>by rw[e,g];exact h.dura i c d,h.sure⟩
theorem Of{s:Sup}(b:0<s.len)(h x:Int):∃i:Nat,(i:Int)<s.len/\ringAt s x=ringAt s (h+i):=by
 have a:=Agk (x-h) (by omega:s.len≠0);have c:=Af4 (x-h) b;refine ⟨((x-h)%s.len).toNat,by omega,?_⟩;unfold ringAt;rw[Int.toNat_of_nonneg a,Int.add_emod_emod];congr 3;omega
theorem PInv.tags{s:Sup}{rs:List Rc}{w:List (List UInt8)}{a q u:Int}(h:PInv D s rs w a q u b n)(hs:SOk s)(hq:q<=1099511627776)(hi:(i:Int)<s.len){c:List UInt8}(y:Do D (ringAt s (s.head+i)) c){l:Int}(f:Tg c t l):t<s.epoch\/(t=s.epoch/\l<q):=by
 have d:=h.fq;have x:=hs.seq;rcases h.old i hi c y with g|g
 ·rcases g _ _ f with g|⟨g1,g2⟩
  ·exact .inl g
  refine .inr ⟨g1,?_⟩;split at d<;>omega
 rcases Aep.1 (Aec g) with g|g
 ·obtain ⟨j,r,p,o,hp⟩:=Vf g
  obtain ⟨m,e,v⟩:=h.recs j r o;have z:=(Aeb.1 o).1;have:=Qi e v hs.epoch (by split at d<;>omega) hp f;exact .inr ⟨this.1,by split at d<;>omega⟩
 rcases h.part with rfl|⟨ims,k,⟨m,e⟩,rfl,v,_⟩
 ·cases g
 cases b with
 | false=>have:=h.pb Z;rw[this] at g;cases g
 | true=>
  rw[if_pos Z] at d;obtain ⟨p,hp⟩:=Ae2 g;rw[AeX] at hp;split at hp
  ·have:=Qi m e hs.epoch U hp f
   exact .inr ⟨this.1,by omega⟩
  cases hp
theorem PInv.drop{s:Sup}{rs:List Rc}{m:List (List UInt8)}{a q u:Int}(h:PInv D s rs m a q u b n)(hs:SOk s)(hq:q<=1099511627776){d:Sup}(o:d.start=s.start)(p:d.len=s.len)(x:d.epoch=s.epoch)(y:d.head=a)(k:d.seq=q)(h0:0<=d.len)(l:0<=d.head/\d.head<d.len):PInv D d [] [] a q 0 false 0:=by
 have z:0<s.len:=by have:=hs.head;omega
 refine ⟨?_,by rw[k];simp,by simp[secs],by omega,λ_=>rfl,.inl Z,λj r h=>by simp at h,λi hi c f=>.inl λe q t=>?_,λi c h=>by simp[secs] at h,λi c h=>by simp[secs] at h,Aei _⟩
 ·rw[Int.add_zero,<-y,Agl l.1 l.2]
 have v:ringAt d (d.head+i)=ringAt s (d.head+i):=by unfold ringAt;rw[o,p]
 rw[v] at f;obtain ⟨i',g,w⟩:=Of z s.head (d.head+i);rw[w] at f;have:=h.tags hs hq g f t;rw[x,k];exact this
def Dsk.fl(D:Dsk):Dsk:= {D with dur:=D.cont,ver:=λ_=>[],f3:=Bf D.f3,left:=max 0 (D.left-1)}
theorem cont_has(D:Dsk)(n:Nat):Do D n (D.cont n):=by
 unfold Do Dsk.cont
 cases hl:(D.ver n).getLast? with
 | none=>exact .inl Z
 | some p=>exact .inr (List.mem_of_getLast? hl)
theorem fl_has(h:Do D.fl n B):Do D n B:=by
 rcases h with rfl|h
 ·exact cont_has D n
 cases h
theorem PInv.flush{s:Sup}{rs:List Rc}{e:List (List UInt8)}{a q u:Int}(h:PInv D s rs e a q u b n):PInv D.fl s rs e a q u b rs.length:=
 ⟨h.fa,h.fq,h.fu,h.ul,h.pb,h.part,h.recs,λi hi c d=>h.old i hi c (fl_has d),λi c d=>h.last i c d,
  λi c d=>⟨h.last i c (by rw[Ae7] at d;rw[Aem (Aeb.1 d).1];exact d),Z⟩,Aei _⟩

theorem ws_dur(ps:List (List UInt8)):∀(D:Dsk) (x:Nat),(D.ws false x ps).dur=D.dur:=by
 induction ps with
 | nil=>intro D x;rfl
 | cons p ps ih=>intro D x;simp only[Dsk.ws];rw[ih];rfl
theorem ws_mem(ps:List (List UInt8)):∀(D:Dsk) (x i:Nat) (c:List UInt8),c∈(D.ws false x ps).ver i->c∈D.ver i\/(x<=i/\ps[i-x]?=some c):=by
 induction ps with
 | nil=>intro D x i c h;exact .inl h
 | cons p ps ih=>
  intro D x i c h;simp only[Dsk.ws] at h;rcases ih _ _ _ _ h with h|⟨b,a⟩
  ·have h:c∈(Dh D.ver x (D.ver x++[p])) i:=h
   unfold Dh at h;split at h
   ·rename_i e;subst e
    rcases Aep.1 h with h|h
    ·exact .inl h
    simp at h;subst h;exact .inr ⟨Aei _,by simp⟩
   exact .inl h
  exact .inr ⟨by omega,by rw[show i-x=(i-(x+1))+1 from by omega,Aey];exact a⟩
theorem wr_has{x:Nat}{ps:List (List UInt8)}(h:Do (D.wr x ps) i B):Do D i B\/(x<=i/\ps[i-x]?=some B):=by
 rcases h with rfl|h
 ·exact .inl (.inl (congrFun (ws_dur ps {D with f2:=Bf D.f2} x) i))
 rcases ws_mem ps {D with f2:=Bf D.f2} x i B h with h|h
 ·exact .inl (.inr h)
 exact .inr h
theorem app_has{s:Sup}{ps:List (List UInt8)}(hs:0<=s.start)(e:0<=t/\t<s.len)(f:(ps.length:Int)<=s.len)(g:(m:Int)=min (ps.length:Int) (s.len-t))(h:Do (E7 D s t m ps) n B):Do D n B\/∃j:Nat,ps[j]?=some B/\n=ringAt s (t+j):=by
 have b:∀{n:Nat} {B:List UInt8},Do (D.wr (s.start+t).toNat (ps.take m)) n B->Do D n B\/∃j:Nat,ps[j]?=some B/\n=ringAt s (t+j):=λ{n B} h=>by
  rcases wr_has h with h|⟨c,a⟩
  ·exact .inl h
  rw[AeX] at a;split at a
  ·exact .inr ⟨_,a,by rw[ring_low hs e.1 U];omega⟩
  cases a
 unfold E7 at h;split at h
 ·rcases wr_has h with h|⟨c,a⟩
  ·exact b h
  rw[Afl] at a;have d:=(Aeb.1 a).1;exact .inr ⟨_,a,by rw[ring_high hs U U];omega⟩
 exact b h
theorem Gt(D:Dsk){ps:List (List UInt8)}(j:Nat)(h:j<n\/n+ps.length<=j):(D.wr n ps).ver j=D.ver j:=Dsk.ws_ver false ps {D with f2:=Bf D.f2} n j h
theorem Pz{s:Sup}{ps:List (List UInt8)}(hs:0<=s.start)(b:0<=t/\t<s.len)(d:(ps.length:Int)<=s.len)(c:(n:Int)=min (ps.length:Int) (s.len-t))(hi:∀j:Nat,j<ps.length->i≠ringAt s (t+j)):(E7 D s t n ps).ver i=D.ver i:=by
 have a:(D.wr (s.start+t).toNat (ps.take n)).ver i=D.ver i:=by
  refine Gt _ _ ?_;rw[Aex];rcases Aeq i (s.start+t).toNat with g|g
  ·exact .inl g
  rcases Aeq (i-(s.start+t).toNat) (min n ps.length) with q|q
  ·exact absurd (by rw[ring_low hs b.1 U];omega) (hi (i-(s.start+t).toNat) U)
  exact .inr U
 unfold E7;split
 ·refine (Gt _ _ ?_).trans a
  rw[AeM];rcases Aeq i s.start.toNat with g|g
  ·exact .inl g
  rcases Aeq (i-s.start.toNat) (ps.length-n) with q|q
  ·exact absurd (by rw[ring_high hs U U];omega) (hi (n+(i-s.start.toNat)) U)
  exact .inr U
 exact a
theorem PInv.at_ok{s:Sup}{rs:List Rc}{c:List (List UInt8)}{a q u:Int}(h:PInv D s rs c a q u b n)(hs:SOk s):0<=a/\a<s.len:=by
 have:=hs.head;rw[h.fa];exact ⟨Agk _ U,Af4 _ U⟩
theorem PInv.ring{s:Sup}{rs:List Rc}{c:List (List UInt8)}{a q u:Int}(h:PInv D s rs c a q u b n)(j:Nat):ringAt s (a+j)=ringAt s (s.head+(((secs s.epoch rs).length+j:Nat):Int)):=by
 have d:=h.fu;rw[h.fa,J6];congr 1;omega
theorem PInv.app{s:Sup}{rs:List Rc}{pt:List (List UInt8)}{a q u:Int}(h:PInv D s rs pt a q u false n)(hs:SOk s){k:Nat}(hl:1<=ims.length/\ims.length<=40)(y:∀m∈ims,m.Ok)(hr:1+(ims.length:Int)<=s.len-u)(hk:(k:Int)=min (1+(ims.length:Int)) (s.len-a)):
  PInv (E7 D s a k (BC s.epoch q ims)) s (rs++[⟨q,ims⟩]) [] ((a+(1+(ims.length:Int)))%s.len) (q+1) (u+(1+(ims.length:Int))) false n:=by
 obtain rfl:=h.pb Z;have p:=h.at_ok hs;have hu:=h.fu;have hq:=h.fq;rw[if_neg (by decide)] at hq;have t:=FQ s.epoch q ims;have f:(k:Int)=min ((BC s.epoch q ims).length:Int) (s.len-a):=by rw[t];omega
 have o:(secs s.epoch (rs++[⟨q,ims⟩]))=secs s.epoch rs++BC s.epoch q ims:=by rw[E8,J7]
 have l:∀i:Nat,(i:Int)<s.len->i<(secs s.epoch rs).length->∀j:Nat,j<(BC s.epoch q ims).length->ringAt s (s.head+i)≠ringAt s (a+j):=λi hi a0 j d e=>by
  rw[h.ring] at e;have:=Ix hs.start hs.head hi U e;omega
 refine ⟨?_,by simp;omega,by rw[o,Aee,t];omega,by omega,λ_=>rfl,.inl Z,λj r d=>?_,λi hi c b=>?_,λi c b=>?_,λi c b=>?_,by have:=h.sure;simp;omega⟩
 ·rw[h.fa,Ahp,Int.add_assoc]
 ·rcases Aeq j rs.length with g|g
  ·rw[Aem g] at d;exact h.recs j r d
  rw[Aes g] at d;have:j=rs.length:=by have:=(Aeb.1 d).1;simp at this;omega
  subst this;simp at d;subst d;exact ⟨by dsimp only;omega,hl,y⟩
 ·rw[AeV,o]
  rcases app_has hs.start p U f b with b|⟨j,d,w⟩
  ·rcases h.old i hi c b with g|g
   ·exact .inl g
   rw[AeV] at g;exact .inr (by rw[Aem (Aeb.1 g).1];exact g)
  have a1:=(Aeb.1 d).1;rw[h.ring] at w;have:=Ix hs.start hs.head hi U w;subst this;exact .inr (by rw[Aes U,Agd];exact d)
 ·rw[AeV,o] at b
  rcases Aeq i (secs s.epoch rs).length with g|g
  ·rw[Aem g] at b
   rw[app_old hs.start p U f (l i U g)];exact h.last i c (by rw[AeV];exact b)
  rw[Aes g] at b;have:=Yo (D:=D) hs.start p U f b;rw[h.ring,show (secs s.epoch rs).length+(i-(secs s.epoch rs).length)=i from by omega] at this;exact this
 rw[Aet h.sure] at b;have v:i<(secs s.epoch rs).length:=by
  have h1:=(Aeb.1 b).1;have h2:(secs s.epoch rs).length=(secs s.epoch (rs.take n)).length+(secs s.epoch (rs.drop n)).length:=by
   rw[<-Aee,<-E8,AeL]
  omega
 obtain ⟨h1,h2⟩:=h.dura i c b;have key:∀c',Do (E7 D s a k (BC s.epoch q ims)) (ringAt s (s.head+i)) c'->Do D (ringAt s (s.head+i)) c':=λc' x=>by
  rcases app_has hs.start p U f x with g|⟨j,d,w⟩
  ·exact g
  exact (l i U v j (Aeb.1 d).1 w).elim
 have hd:(E7 D s a k (BC s.epoch q ims)).dur=D.dur:=by
  unfold E7;split
  ·exact (ws_dur _ _ _).trans (ws_dur _ {D with f2:=Bf D.f2} _)
  exact ws_dur _ {D with f2:=Bf D.f2} _
 refine ⟨by rw[hd];exact h1,?_⟩;have z:=Pz (D:=D) hs.start p U f (l i U v);rw[z];exact h2
end
section
variable{e q:Int}{ims:List Img}

theorem PInv.fail0{s:Sup}{rs:List Rc}{d:List (List UInt8)}{a q u:Int}(h:PInv D s rs d a q u false n):PInv D.wf s rs [] a (q+1) u true n:=by
 obtain rfl:=h.pb Z;have hq:=h.fq;rw[if_neg (by decide)] at hq;exact ⟨h.fa,by rw[if_pos Z];omega,h.fu,h.ul,λg=>(by cases g),.inl Z,h.recs,λi hi c b=>h.old i hi c b,λi c b=>h.last i c b,λi c b=>h.dura i c b,h.sure⟩
theorem PInv.fail1{s:Sup}{rs:List Rc}{pt:List (List UInt8)}{a q u:Int}(h:PInv D s rs pt a q u false r)(hs:SOk s){k:Nat}(hl:1<=ims.length/\ims.length<=40)(y:∀m∈ims,m.Ok)(hr:1+(ims.length:Int)<=s.len-u)(hk:(k:Int)=min (1+(ims.length:Int)) (s.len-a))(a0:k<1+ims.length):
  PInv (Dsk.wf (D.wr (s.start+a).toNat ((BC s.epoch q ims).take k))) s rs ((BC s.epoch q ims).take k) a (q+1) u true r:=by
 obtain rfl:=h.pb Z;have ha:=h.at_ok hs;have hu:=h.fu;have hq:=h.fq;rw[if_neg (by decide)] at hq;have a2:=FQ s.epoch q ims;have f:((BC s.epoch q ims).take k).length=k:=by rw[Aex];omega
 have d:∀j:Nat,j<k->(s.start+a).toNat+j=ringAt s (s.head+(((secs s.epoch rs).length+j:Nat):Int)):=λj o=>by
  rw[<-h.ring,ring_low hs.start ha.1 U]
 have p:∀{n:Nat} {c:List UInt8},Do (Dsk.wf (D.wr (s.start+a).toNat ((BC s.epoch q ims).take k))) n c->Do D n c\/∃j:Nat,((BC s.epoch q ims).take k)[j]?=some c/\n=ringAt s (s.head+(((secs s.epoch rs).length+j:Nat):Int)):=λ{n c} g=>by
  rcases wr_has (D:=D) (x:=(s.start+a).toNat) (ps:=(BC s.epoch q ims).take k) g with g|⟨g1,t⟩
  ·exact .inl g
  have o:=(Aeb.1 t).1;rw[f] at o;exact .inr ⟨_,t,by rw[<-d _ o];omega⟩
 have v:∀i:Nat,i<(secs s.epoch rs).length->ringAt s (s.head+i)<(s.start+a).toNat\/(s.start+a).toNat+((BC s.epoch q ims).take k).length<=ringAt s (s.head+i):=λi hi=>by
  rw[f];rcases Aeq (ringAt s (s.head+i)) (s.start+a).toNat with g|g
  ·exact .inl g
  rcases Aeq (ringAt s (s.head+i)) ((s.start+a).toNat+k) with t|t
  ·have:=d (ringAt s (s.head+i)-(s.start+a).toNat) U
   have:=Ix (i:=i) (j:=(secs s.epoch rs).length+(ringAt s (s.head+i)-(s.start+a).toNat)) hs.start hs.head U U U;omega
  exact .inr t
 have w:∀i:Nat,i<(secs s.epoch rs).length->(Dsk.wf (D.wr (s.start+a).toNat ((BC s.epoch q ims).take k))).ver (ringAt s (s.head+i))=D.ver (ringAt s (s.head+i)):=λi hi=>Gt D _ (v i hi);have l:(Dsk.wf (D.wr (s.start+a).toNat ((BC s.epoch q ims).take k))).dur=D.dur:=ws_dur ((BC s.epoch q ims).take k) {D with f2:=Bf D.f2} _;have z:q=s.seq+rs.length:=by omega
 refine ⟨h.fa,by rw[if_pos Z];omega,h.fu,h.ul,λg=>(by cases g),.inr ⟨ims,k,⟨hl,y⟩,by rw[<-z],a0,by omega⟩,h.recs,λi hi c b=>?_,λi c b=>?_,λi c b=>?_,h.sure⟩
 ·rcases p b with b|⟨j,o,hn⟩
  ·rcases h.old i hi c b with g|g
   ·exact .inl g
   rw[AeV] at g;exact .inr (by rw[Aem (Aeb.1 g).1];exact g)
  have e:=(Aeb.1 o).1;rw[f] at e;have:=Ix hs.start hs.head hi U hn;subst this;exact .inr (by rw[Aes U,Agd];exact o)
 ·rcases Aeq i (secs s.epoch rs).length with g|g
  ·rw[Aem g] at b
   have:=h.last i c (by rw[AeV];exact b);unfold Dsk.cont at this ⊢;rw[w i g,l];exact this
  rw[Aes g] at b;have e:=(Aeb.1 b).1;rw[f] at e;have e1:=d (i-(secs s.epoch rs).length) e;rw[show (secs s.epoch rs).length+(i-(secs s.epoch rs).length)=i from by omega] at e1;rw[<-e1];show (D.wr _ _).cont _=c;rw[wr_cont,if_pos U,Agd,b];rfl
 have a1:i<(secs s.epoch rs).length:=by
  have h1:=(Aeb.1 b).1;have h2:(secs s.epoch rs).length=(secs s.epoch (rs.take r)).length+(secs s.epoch (rs.drop r)).length:=by
   rw[<-Aee,<-E8,AeL]
  omega
 obtain ⟨h1,h2⟩:=h.dura i c b;exact ⟨by rw[l];exact h1,by rw[w i a1];exact h2⟩

structure Crashed(D D':Dsk):Prop where
 n:D'.n=D.n
 ver:∀i,D'.ver i=[]
 dur:∀i,Do D i (D'.dur i)
theorem Crashed.cont{D D':Dsk}(h:Crashed D D')(n:Nat):D'.cont n=D'.dur n:=by unfold Dsk.cont;rw[h.ver];rfl
theorem PInv.reads{D':Dsk}{s:Sup}{rs:List Rc}{d:List (List UInt8)}{a q u:Int}(h:PInv D s rs d a q u b n)(c:Crashed D D')(hi:(i:Int)<s.len)(hq:s.seq<=t)(e:Tg (D'.cont (ringAt s (s.head+i))) s.epoch t):(secs s.epoch rs++d)[i]?=some (D'.cont (ringAt s (s.head+i))):=by
 rcases h.old i hi (D'.cont (ringAt s (s.head+i))) (by rw[c.cont];exact c.dur _) with g|g
 ·have:=g _ _ e
  omega
 exact g
theorem PInv.one{D':Dsk}{s:Sup}{rs:List Rc}{w:List (List UInt8)}{a q u:Int}(h:PInv D s rs w a q u b m)(hs:SOk s)(hc:Crashed D D')(hq:q<=1099511627776)(hn:n<=rs.length){i v:Int}(hu:v=((secs s.epoch (rs.take n)).length:Int))(ha:t=(s.head+v)%s.len)(a5:i=s.seq+n)
  (a0:nextP (Di D' s t) s.epoch i (s.len-v) ims):∃r,rs[n]?=some r/\r=⟨i,ims⟩:=by
 obtain ⟨n1,n2,n3,n4,n5,n6,n7⟩:=a0;have hF:∀j:Nat,Di D' s t j=D'.cont (ringAt s (s.head+(((secs s.epoch (rs.take n)).length+j:Nat):Int))):=λj=>by
  show D'.cont (ringAt s (t+j))=_;rw[ha,J6];congr 2;omega
 have a3:=n1.2.2.2.1;have rd:∀j:Nat,j<=BG (Di D' s t 0)->Tg (Di D' s t j) s.epoch i->(secs s.epoch rs++w)[(secs s.epoch (rs.take n)).length+j]?=some (Di D' s t j):=λj g ht=>by
  rw[hF] at ht ⊢;exact h.reads hc U U ht
 have c:=rd 0 U (.inl ⟨n1,n2,n3⟩);have hi:∀j:Nat,j<BG (Di D' s t 0)->(secs s.epoch rs++w)[(secs s.epoch (rs.take n)).length+(1+j)]?=some (Di D' s t (1+j)):=λj g=>by
  obtain ⟨g1,g2,g3,_⟩:=n6 j g;exact rd (1+j) U (.inr ⟨g1,g2,g3⟩)
 have a2:=h.fq;have a4:=hs.seq;rcases Aeq n rs.length with a1|hge
 ·have hr:rs[n]?=some rs[n]:=Aed a1
  obtain ⟨r1,r2,r3⟩:=h.recs n _ hr;refine ⟨_,hr,?_⟩;have z:=KP s.epoch hr;have hp:=FQ s.epoch rs[n].seq rs[n].ims;have f:∀j:Nat,j<1+rs[n].ims.length->(secs s.epoch rs++w)[(secs s.epoch (rs.take n)).length+j]? =(BC s.epoch rs[n].seq rs[n].ims)[j]? :=λj g=>by
   rw[z,Aeh,Aeh,Aes U,Agd,Aem U]
  have e0:=f 0 U;rw[c] at e0;have e:Di D' s t 0=BB (hdL s.epoch rs[n].seq rs[n].ims):=by
   simp[BC] at e0;exact e0
  have hC:BG (Di D' s t 0)=rs[n].ims.length:=by rw[e,RE r2.2]
  have d:nextP (Di D' s t) s.epoch rs[n].seq (s.len-v) rs[n].ims:=by
   refine Oe r2 r3 hs.epoch (by split at a2<;>omega) U λj p g=>?_;have a6:=(Aeb.1 g).1
   cases j with
   | zero=>have:=f 0 U;rw[c,g] at this;exact Agb this
   | succ j=>
    have h1:=hi j U;rw[AgS 1 j] at h1;have:=f (j+1) U;rw[h1,g] at this;exact Agb this
  have o:nextP (Di D' s t) s.epoch i (s.len-v) ims:=⟨n1,n2,n3,n4,n5,n6,n7⟩;have e1:rs[n].seq=i:=by omega
  rw[e1] at d;have e2:=Vc o d;rw[e2,<-e1]
 have y:n=rs.length:=by omega
 subst y;rw[Ae7] at c hi;rw[Aes U,Ag4,AgD] at c;rcases h.part with rfl|⟨l,k,⟨p1,p2⟩,rfl,p3,p4⟩
 ·simp at c
 have x:0<k:=by
  have:=(Aeb.1 c).1;rw[Aex] at this;omega
 rw[AeX,if_pos x] at c;have e:Di D' s t 0=BB (hdL s.epoch (s.seq+rs.length) l):=by
  simp[BC] at c;exact c.symm
 have hC:BG (Di D' s t 0)=l.length:=by rw[e,RE p1.2]
 have:=hi (k-1) U;rw[Aes U,show (secs s.epoch rs).length+(1+(k-1))-(secs s.epoch rs).length=k from by omega,AeX,if_neg U] at this;cases this
theorem PInv.begins{D':Dsk}{s:Sup}{rs:List Rc}{l:List (List UInt8)}{a q u:Int}(h:PInv D s rs l a q u b n)(hs:SOk s)(o:Crashed D D')(hq:q<=1099511627776){c:List Rc}{f:Int}(r:Runs D' s s.head s.seq 0 c t p f):c.length<=rs.length/\c=rs.take c.length/\f=((secs s.epoch c).length:Int)/\t=(s.head+f)%s.len/\p=s.seq+c.length:=by
 have d:=r.pos hs.head;refine (λ(g:c.length<=rs.length/\c=rs.take c.length/\f=((secs s.epoch c).length:Int))=>⟨g.1,g.2.1,g.2.2,d.1,d.2.1⟩) ?_;clear d
 induction r with
 | nil=>exact ⟨by simp,by simp,by simp[secs]⟩
 | @snoc t p f c ims r hlt hn ih=>
  have d:=r.pos hs.head;obtain ⟨m,j,v⟩:=ih;obtain ⟨w,e,i⟩:=h.one hs o hq m (by rw[<-j];exact v) d.1 d.2.1 hn;have k:=(Aeb.1 e).1;refine ⟨by simp;omega,?_,?_⟩
  ·rw[Aee,List.length_singleton,AeN,<-j,e,i];rfl
  rw[E8,Aee,J7,FQ];dsimp only;omega
theorem PInv.read{D':Dsk}{s:Sup}{rs:List Rc}{pt:List (List UInt8)}{a q u:Int}(h:PInv D s rs pt a q u b n)(hs:SOk s)(m:Crashed D D')(hq:q<=1099511627776){c:List Rc}{l k:Int}(r:Runs D' s s.head s.seq 0 c t l k)(e:s.len<=k\/∀ims,¬nextP (Di D' s t) s.epoch l (s.len-k) ims):n<=c.length/\c.length<=rs.length/\c=rs.take c.length:=by
 obtain ⟨g1,g2,g3,g4,g5⟩:=h.begins hs m hq r;refine ⟨?_,g1,g2⟩;rcases Aeq c.length n with x|hge
 ·exfalso
  have a2:=h.sure;have y:=h.fq;have a0:=hs.seq;obtain ⟨d,hr⟩:∃d,rs[c.length]?=some d:=⟨_,Aed U⟩;obtain ⟨r1,r2,r3⟩:=h.recs _ _ hr;have o:(rs.take n)[c.length]?=some d:=by rw[AeX,if_pos x];exact hr
  have f:=KP s.epoch o;have hp:=FQ s.epoch d.seq d.ims;have i:(rs.take n).take c.length=c:=by rw[AeD,AeE U];exact g2.symm
  have a4:(secs s.epoch (rs.take n)).length<=(secs s.epoch rs).length:=by
   have h2:(secs s.epoch rs).length=(secs s.epoch (rs.take n)).length+(secs s.epoch (rs.drop n)).length:=by
    rw[<-Aee,<-E8,AeL]
   omega
  have z:(secs s.epoch c).length+(1+d.ims.length)<=(secs s.epoch (rs.take n)).length:=by
   rw[f,i,Aee,Aee];omega
  have hu:=h.fu;have a1:=h.ul;have w:nextP (Di D' s t) s.epoch l (s.len-k) d.ims:=by
   have e1:l=d.seq:=by omega
   rw[e1];refine Oe r2 r3 hs.epoch (by split at y<;>omega) U λj p hj=>?_;have a3:=(Aeb.1 hj).1;have v:(secs s.epoch (rs.take n))[(secs s.epoch c).length+j]?=some p:=by
    rw[f,i,Aeh,Aes U,Agd,Aem U];exact hj
   obtain ⟨d1,d2⟩:=h.dura _ _ v;show D'.cont (ringAt s (t+j))=p;rw[g4,J6,show s.head+k+(j:Int)=s.head+(((secs s.epoch c).length+j:Nat):Int) from by omega,m.cont];rcases m.dur (ringAt s (s.head+(((secs s.epoch c).length+j:Nat):Int))) with g|g
   ·rw[g,d1]
   rw[d2] at g;cases g
  rcases e with g|g
  ·omega
  exact g _ w
 exact hge
end
structure Pg where
 kind:Int
 body:List UInt8
def Pg.Ok(p:Pg):Prop:=(1<=p.kind/\p.kind<=5)/\p.body.length=240
def noPg:Pg:=⟨0,[]⟩
def IF(n:Nat)(p:Pg):List UInt8:=[80,80,65,71]++Ag 1 p.kind++Ag 4 (n:Int)++[0,0,0]++p.body
theorem FR{p:Pg}(h:p.Ok):(IF n p).length=252:=by simp[IF,Ah,h.2]
def Ei(n:Nat)(p:Pg):List UInt8:=BB (IF n p)
theorem FS{p:Pg}(h:p.Ok):(Ei n p).length=256:=sect_len (Agi (FR h))
def HomeP(c:List UInt8)(n:Nat)(p:Pg):Prop:=(c=List.replicate 256 0/\p=noPg)\/(p.Ok/\c=Ei n p)
theorem Og{p:Pg}(h:p.Ok):(Ei n p).take 4=[80,80,65,71]:=by
 have a:=FR (n:=n) h;have:=B6 (l:=IF n p) U (p:=0) (k:=4) U;rw[Aeu,Aeu] at this;unfold Ei;rw[this];rfl
theorem PA{p:Pg}(h:p.Ok):Ei n p≠List.replicate 256 0:=λe=>by
 have:=Og (n:=n) h;rw[e] at this;exact absurd this (by decide)
def J8(x:Sup):List UInt8:=[80,83,85,80]++x.list.flatMap (Ag 8)
theorem GL(x:Sup):(J8 x).length=60:=by simp[J8,Sup.list,Ah]
def DD(x:Sup):List UInt8:=BB (J8 x)
theorem GM(x:Sup):(DD x).length=256:=sect_len (by rw[GL];omega)
def GN(m:Img):Pg:=⟨m.kind,m.body⟩
theorem Qj{m:Img}(h:m.Ok):(GN m).Ok:=⟨h.2.1,h.2.2⟩
abbrev BD:=Nat->Option Pg
def pgSet(f:BD)(n:Nat)(p:Pg):BD:=λi=>if i=n then some p else f i
def Dp:BD:=λ_=>none
def Hn(f g:BD):BD:=λi=>(g i).or (f i)
def EK(f:BD)(ims:List Img):BD:=ims.foldl (λf m=>pgSet f m.num.toNat (GN m)) f
def ov(rs:List Rc):BD:=rs.foldl (λf r=>EK f r.ims) Dp
theorem Jp(rs:List Rc)(r:Rc):ov (rs++[r])=EK (ov rs) r.ims:=by simp[ov,AgA]
def pgMap(f:BD)(B:Nat->Pg):Nat->Pg:=λi=>(f i).getD (B i)
theorem Vg{f:BD}{ims:List Img}{m:Img}:EK f (ims++[m])=pgSet (EK f ims) m.num.toNat (GN m):=by simp[EK,AgA]
theorem Qk(ims:List Img):∀(f:BD) (n:Nat),(EK f ims n).isSome=((f n).isSome||ims.any λm=>decide (m.num.toNat=n)):=by
 induction ims with
 | nil=>intro f n;simp[EK]
 | cons m ims ih=>
  intro f n;have:EK f (m::ims)=EK (pgSet f m.num.toNat (GN m)) ims:=rfl;rw[this,ih];unfold pgSet;by_cases h:n=m.num.toNat
  ·subst h;simp
  have a:¬m.num.toNat=n:=λe=>h e.symm;simp[h,a]
theorem ovI_get{f:BD}{ims:List Img}{p:Pg}(h:EK f ims n=some p):f n=some p\/∃m∈ims,m.num.toNat=n/\p=GN m:=by
 induction ims generalizing f with
 | nil=>exact .inl h
 | cons m ims ih=>
  have e:EK f (m::ims)=EK (pgSet f m.num.toNat (GN m)) ims:=rfl;rw[e] at h;rcases ih h with g|⟨a,b,c,d⟩
  ·unfold pgSet at g
   split at g
   ·rename_i e;cases g;exact .inr ⟨m,by simp,e.symm,Z⟩
   exact .inl g
  exact .inr ⟨a,by simp[b],c,d⟩
theorem KQ:∀(k:Nat) (rs:List Rc),rs.length=k->∀{n:Nat} {p:Pg},ov rs n=some p->∃r∈rs,∃m∈r.ims,m.num.toNat=n/\p=GN m:=by
 intro k
 induction k with
 | zero=>intro rs d n p h;obtain rfl:=Age.1 d;cases h
 | succ k ih=>
  intro rs d n p h;obtain ⟨c,r,rfl⟩:∃c r,rs=c++[r]:=⟨rs.dropLast,rs.getLast (by intro e;subst e;simp at d),(List.dropLast_concat_getLast (by intro e;subst e;simp at d)).symm⟩;rw[Jp] at h;rcases ovI_get h with g|⟨m,f,i,l⟩
  ·obtain ⟨j,a,b⟩:=ih c (by simpa using d) g;exact ⟨j,by simp[a],b⟩
  exact ⟨r,by simp,m,f,i,l⟩
def hwD(D:Dsk)(l:List (Nat×Pg)):Dsk:=l.foldl (λD x=>D.wr (2+x.1) [Ei x.1 x.2]) D
theorem Vh(D:Dsk)(l:List (Nat×Pg))(x:Nat×Pg):hwD D (l++[x])=(hwD D l).wr (2+x.1) [Ei x.1 x.2]:=by simp[hwD,AgA]
theorem hwD_cons(D:Dsk)(l:List (Nat×Pg))(x:Nat×Pg):hwD D (x::l)=hwD (D.wr (2+x.1) [Ei x.1 x.2]) l:=rfl
theorem Ti(D:Dsk)(x:Nat)(ps:List (List UInt8)):(D.wr x ps).dur=D.dur:=ws_dur ps {D with f2:=Bf D.f2} x
theorem E9(l:List (Nat×Pg)):∀D:Dsk,(hwD D l).n=D.n:=by
 induction l with
 | nil=>intro D;rfl
 | cons x l ih=>intro D;rw[hwD_cons,ih,Dsk.wr_n]
theorem KR(l:List (Nat×Pg)):∀D:Dsk,(hwD D l).dur=D.dur:=by
 induction l with
 | nil=>intro D;rfl
 | cons x l ih=>intro D;rw[hwD_cons,ih,Ti]
theorem hw_has(l:List (Nat×Pg)):∀(D:Dsk) (i:Nat) (c:List UInt8),Do (hwD D l) i c->Do D i c\/∃x∈l,i=2+x.1/\c=Ei x.1 x.2:=by
 induction l with
 | nil=>intro D i c h;exact .inl h
 | cons x l ih=>
  intro D i c h;rw[hwD_cons] at h;rcases ih _ _ _ h with g|⟨y,b,d,e⟩
  ·rcases wr_has g with g|⟨f,a⟩
   ·exact .inl g
   have:i-(2+x.1)=0:=by
    have:=(Aeb.1 a).1;simp at this;omega
   rw[this] at a;simp at a;exact .inr ⟨x,by simp,by omega,a.symm⟩
  exact .inr ⟨y,by simp[b],d,e⟩
theorem KS(l:List (Nat×Pg)):∀(D:Dsk) (i:Nat),(∀x∈l,i≠2+x.1)->(hwD D l).ver i=D.ver i:=by
 induction l with
 | nil=>intro D i _;rfl
 | cons x l ih=>
  intro D i h;rw[hwD_cons,ih _ _ (λy a=>h y (by simp[a]))];refine Gt _ _ ?_;have:=h x O;simp only[Aeg,AeB];omega
theorem hw_cont_out(l:List (Nat×Pg))(D:Dsk)(i:Nat)(h:∀x∈l,i≠2+x.1):(hwD D l).cont i=D.cont i:=by
 unfold Dsk.cont;rw[KS l D i h,KR]
theorem Xr{l:List (Nat×Pg)}:∀(D:Dsk),(l.map Prod.fst).Nodup->∀x∈l,(hwD D l).cont (2+x.1)=Ei x.1 x.2:=by
 induction l with
 | nil=>intro D _ x h;cases h
 | cons y l ih=>
  intro D a x b;rw[hwD_cons];simp only[AeJ,Afi] at a;rcases Aen.1 b with rfl|b
  ·rw[hw_cont_out]
   ·rw[wr_cont,if_pos (Aei _),AgD];rfl
   intro z c e;exact a.1 (Aek.2 ⟨z,c,by omega⟩)
  exact ih _ a.2 x b
theorem Oh(l:List (Nat×Pg)):∀(D:Dsk) (i:Nat),(l.map Prod.fst).Nodup->((hwD D l).ver i).length<=(D.ver i).length+1:=by
 induction l with
 | nil=>intro D i _;show (D.ver i).length<=_;omega
 | cons y l ih=>
  intro D i a;rw[hwD_cons];simp only[AeJ,Afi] at a;by_cases hi:i=2+y.1
  ·rw[KS]
   ·exact Dsk.wr_len _ _ _ _
   intro z c e;exact a.1 (Aek.2 ⟨z,c,by omega⟩)
  have b:=ih (D.wr (2+y.1) [Ei y.1 y.2]) i a.2;rw[Gt D i (by simp only[Aeg,AeB];omega)] at b;exact b

def Fi(D:Dsk)(x:Sup):Dsk:= {Dsk.ws {D with f2:=Bf D.f2} true (x.gen%2).toNat [DD x] with left:=max 0 (D.left-1)}
theorem HI(D:Dsk)(x:Sup):(Fi D x).dur (x.gen%2).toNat=DD x/\(Fi D x).ver (x.gen%2).toNat=[]:=by
 constructor
 ·show (Dh D.dur _ _) _=_;simp[Dh]
 show (Dh D.ver _ _) _=_;simp[Dh]
theorem ER(D:Dsk)(x:Sup)(i:Nat)(h:i≠(x.gen%2).toNat):(Fi D x).dur i=D.dur i/\(Fi D x).ver i=D.ver i:=by
 constructor
 ·show (Dh D.dur _ _) _=_;unfold Dh;rw[if_neg h]
 show (Dh D.ver _ _) _=_;unfold Dh;rw[if_neg h]
theorem Yp{x2:Value}:Cn prog 274 [.pointer (some ⟨n,1,none⟩)] [blk n (BR y (.int .i32 0) x2 i) 238] (λv Γ=>v=.tuple #[]/\Γ=[blk n (BR y (.int .i32 1) x2 i) 238]):=by
 intro z R w H;refine Ae func274 Z ntmps274 Z (Zc 2 Z (Ab Z (G5 (v:=.tuple #[]) (vs:=[]) Z Z (λw _=>run_call_mark0 func279 J J J .disable J w)) (Z0 8 [1] Z (AR Z (Rx 0 (p:=1) (u0:=.int .i32 0) (u:=.int .i32 1) (v:=.bool true) H Z Z Z (vs:=[.pointer (some ⟨n,1,none⟩),.int .i32 0,.int .i32 1]) Z Z (λa b=>run_call_cas_hit func280 J J J .i32 J a b) (out:=(BR y (.int .i32 1) x2 i)) Z) ?_))));rintro _ w ⟨rfl,H⟩;refine Zc 7 Z (Ab Z (G5 (v:=.tuple #[]) (vs:=[]) Z Z (λw _=>run_call_mark0 func281 J J J .enable J w)) (Zc 4 Z (Ab Z (NQ Z J Z (Ay (H.cel 0 Z 1 Z))) (Ab Z (G5 (v:=.tuple #[]) (vs:=[.pointer (some ⟨n,1,none⟩)]) Z Z (λw _=>run_call_marked func282 J J J .acquire J _ w)) (Zc 3 Z (Zr Z ?_))))));exact ⟨_,⟨Z,Z⟩,H⟩
theorem Tj{x2:Value}:Cn prog 275 [.pointer (some ⟨n,1,none⟩)] [blk n (BR y (.int .i32 1) x2 i) 238] (λv Γ=>v=.tuple #[]/\Γ=[blk n (BR y (.int .i32 0) x2 i) 238]):=by
 intro z R w H;refine Ae func275 Z ntmps275 Z (Z2 13 [1,0,0] H Z (Ab Z (NQ Z J Z (Ay (H.cel 0 Z 1 Z))) (Ab Z (G5 (v:=.tuple #[]) (vs:=[.pointer (some ⟨n,1,none⟩)]) Z Z (λw _=>run_call_marked func284 J J J .releaseMerge J _ w)) (Zc 3 Z (Ab Z (G5 (v:=.tuple #[]) (vs:=[]) Z Z (λw _=>run_call_mark0 func279 J J J .disable J w)) (Z0 7 [1] Z (AR Z (Rx 0 (p:=1) (u0:=.int .i32 1) (u:=.int .i32 0) (v:=.int .i32 0) H Z Z Z (vs:=[.pointer (some ⟨n,1,none⟩),.int .i32 (-1)]) Z Z (λa b=>run_call_add func285 J J J .i32 J (s:=0) a b (by simp[go_sem];rfl)) (out:=(BR y (.int .i32 0) x2 i)) Z) ?_)))))));rintro _ w ⟨rfl,H⟩;refine Z0 14 [4] Z (Ab Z (G5 (v:=.tuple #[]) (vs:=[]) Z Z (λw _=>run_call_mark0 func281 J J J .enable J w)) (Zc 1 Z (Zf Z ?_)));exact ⟨_,⟨Z,Z⟩,H⟩
theorem Abk:Cn prog 266 [.pointer (some ⟨n,1,none⟩)] [blk n (BR u (.int .i32 0) y i) 238] (λv Γ=>v=.tuple #[]/\Γ=[blk n (BR u (.int .i32 1) y i) 238]):=by
 intro z R w H;refine Ae func266 Z ntmps266 Z (Z0 4 [1] Z (z_E_ Z (call274 _) (Yp) H ?_));intro w H;refine Zc 1 Z (Zf Z ?_);exact ⟨_,⟨Z,Z⟩,H⟩
theorem Vi(a i:Nat)(b x2:Value):Xp prog 267 [.pointer (some ⟨a,1,none⟩)] [blk a (BR b (.int .i32 1) x2 i) 238] (λv Γ=>v=.tuple #[]/\Γ=[blk a (BR b (.int .i32 0) x2 i) 238]):=by
 intro z R u w c;have H:=c.l1;refine NR func267 Z 6 ntmps267 Z (AI (Mr 3 [1] Z J (Fu Z Z Z Z Z (λw=>call275 _ w) (Tj) H Z ?_)));rintro _ w _ ⟨rfl,rfl⟩ c;have H:=c.l1;refine AQ (dn0 Z ?_);exact ⟨[blk a (BR b (.int .i32 0) x2 i) 238],⟨Z,Z⟩,H⟩
theorem Ac7:Cn prog 277 [.bool true] [] (λv Γ=>v=.int .u32 1/\Γ=[]):=by
 intro z R w H;refine Ae func277 Z ntmps277 Z (Zc 18 Z (Zr Z ?_));exact ⟨_,⟨Z,Z⟩,H⟩
theorem Oi:Cn prog 248 [Y n] [blk n (BR (.int .u32 0) u y i) 238] (λv Γ=>v=.bool false/\Γ=[blk n (BR (.int .u32 0) u y i) 238]):=by
 intro z R w H;refine Ae func248 Z ntmps248 Z (Z0 10 [0] Z (Ab Z (G5 (v:=.int .u32 0) (vs:=[Y n]) Z Z (Ay (run_call_load func265 J J J .u32 J (H.cel 0 Z 0 Z)))) (Z0 5 [4] Z (Zr Z ?_))));exact ⟨_,⟨Z,Z⟩,H⟩
theorem Vj:Cn prog 248 [Y n] [blk n (BR (.int .u32 1) u y i) 238] (λv Γ=>v=.bool true/\Γ=[blk n (BR (.int .u32 1) u y i) 238]):=by
 intro z R w H;refine Ae func248 Z ntmps248 Z (Z0 10 [0] Z (Ab Z (G5 (v:=.int .u32 1) (vs:=[Y n]) Z Z (Ay (run_call_load func265 J J J .u32 J (H.cel 0 Z 0 Z)))) (Z0 5 [3] Z (Zr Z ?_))));exact ⟨_,⟨Z,Z⟩,H⟩
theorem Vk(b i:Nat)(c x2:Value):Xp prog 268 [Y b,.bool true] [blk b (BR (.int .u32 0) c x2 i) 238] (λv Γ=>v=.tuple #[]/\Γ=[blk b (BR (.int .u32 1) c x2 i) 238]):=by
 intro z R u w a;have H:=a.l1;refine NR func268 Z 10 ntmps268 Z (Bh (Sep z (blk b (BR (.int .u32 0) c x2 i) 238::R)) 6 Z J (AZ H λw a=>?_));have H:=a.l1;refine Bu [0,1,2,3] [0] J (λ_ _=>AM) (by exact H.pick 1 [0] Z) Z J Z Z (AE [4] J O (Am (Bo Z Z Z Z Z Z (λw=>call277 _ w) (Ac7) H Z ?_)));rintro _ w _ ⟨rfl,rfl⟩ a;have H:=a.l1;refine Ar (λ_=>(H.pick 1 [0] Z)) (AE [5] J O (Am (Ca Z Z Z Z (Rx 0 (p:=0) (u0:=.int .u32 0) (u:=.int .u32 1) (v:=.tuple #[]) H Z Z Z (vs:=[Y b,.int .u32 1]) Z Z (λd e=>run_call_store func276 J J J J d e) (out:=(BR (.int .u32 1) c x2 i)) Z) ?_)));rintro _ w ⟨rfl,a⟩;have H:=a.l1;refine Ar (λh=>absurd Z h) (Bj J (dn0 Z ?_));exact ⟨[blk b (BR (.int .u32 1) c x2 i) 238],⟨Z,Z⟩,H⟩
theorem Abl(a:Nat)(d c x2:Value):Cn prog 226 [Y a] [blk a (BR d c x2 0) 238] (λv Γ=>v=.tuple #[]/\Γ=[blk a (BR d c x2 256) 238]):=by
 intro z R w H;refine Ae func226 Z ntmps226 Z (Zc 6 Z ?_);refine AB (σ:=Nat) (λi=>[(4,I (i:Int)),(0,Y a)])
   (λi w=>Sep z (blk a (BR d c x2 i) 238::R) w/\(i<=256)) (λi=>256-i) 0
   fr_z ⟨H,by omega⟩ ?_
 clear H;rintro i w ⟨f,e⟩;have H:=f.l1;have h:=e;clear e;refine Z0 6 [0] Z (Af Z (λk=>?_) (λk=>?_))
 ·have g:i<256:=by omega
  refine Zc 13 Z (Ab Z (SA Z J Z) (Zc 10 Z ?_));refine AB (σ:=Nat) (λj=>[(9,I (j:Int)),(3,u32 (Jm j (Ft (i:Int)))),(0,Y a),(2,I (i:Int)),(4,I (i:Int)),(5,.bool (decide ((i:Int)<256))),(6,I (i:Int)),(7,I (i:Int)),(8,u32 (Ft (i:Int)))])
    (λj w=>Sep z (blk a (BR d c x2 i) 238::R) w/\(j<=8)) (λj=>8-j) 0
    (λ_ b=>(b.co Z (by go_num) b.cz)) ⟨H,by omega⟩ ?_
  clear H;rintro j w ⟨f,e⟩;have H:=f.l1;have n:=e;clear e;refine Z0 6 [0] Z (Af Z (λl=>?_) (λl=>?_))
  ·refine Zc 6 Z (Ab Z (Hw Z Z (m:=1) (n':=1) Z (by decide)) (Zc 1 Z (Ab Z (XN (q:=1) Z Z Z) (Ab Z (XO (q:=2197175160) Z Z Z) (Ab Z (PR Z Z Z) (Z1 8 [] [(j:Int)+1] Z U (gf ?_)))))));intro _ b;refine ⟨(j+1),(b.co Z (by go_num) b.cz),⟨H,?_⟩,?_⟩
   ·omega
   omega
  obtain rfl:j=8:=by omega
  refine Zc 2 Z (gx (Z1 9 [3,256,1,i,3+i] [] Z U (Az Z Z (Ak 0 H Z Z Z Z (vs:=[u32 (Jm 8 (Ft (i:Int)))]) Z (by simp[u32,Value.oneCell']) J (by rw[UX U];simp;omega) (out:=BR d c x2 (i+1)) (by have:=S7 d c x2 g;simpa using this)) ?_)));rintro w H;refine Z1 7 [] [(i:Int)+1] Z U (gf ?_);intro _ b;refine ⟨(i+1),b.cz,⟨H,?_⟩,?_⟩
  ·omega
  omega
 refine Zc 2 Z (gx (Zc 1 Z (Zf Z ?_)));obtain rfl:i=256:=by omega
 exact ⟨_,⟨Z,Z⟩,H⟩
theorem Abm:Cn prog 249 [Y n,.func (.func 226) #[Y n] #[]] [blk n (BR (.int .u32 0) (.int .i32 0) (.int .u32 0) 0) 238] (λv Γ=>v=.tuple #[]/\Γ=[blk n (BR (.int .u32 1) (.int .i32 0) (.int .u32 0) 256) 238]):=by
 intro z R w b;have H:=b.l1;refine SX func249 Z 21 ntmps249 Z (AY (AI (Mr 3 [1] Z J (Fu Z Z Z Z Z (λw=>call266 _ w) (Abk) H Z ?_))));rintro _ w _ ⟨rfl,rfl⟩ b;have H:=b.l1;refine AQ (AY (AI (Mr 3 [1] Z J (LM Z Z Z Z (AQ (AY (AI (Mr 3 [0] Z J (Fu Z Z Z Z Z (λw=>call248 _ w) (Oi) H Z ?_)))))))));rintro _ w _ ⟨rfl,rfl⟩ b;have H:=b.l1;refine BZ 1 Z Z (AQ (Sj Z (AY (AI (Mr 3 [0] Z J (LM Z Z Z Z (AQ (AI (BZ 1 Z Z (X1 (bs:=[Y n]) (vs:=[]) Z Z Z Z Z Z (λw=>call226 _ w) (Abl n (.int .u32 0) (.int .i32 1) (.int .u32 0)) H 1 [0] Z Z ?_))))))))));rintro _ w _ ⟨rfl,rfl⟩ b;have H:=b.l1;refine AQ ?_;intro a c;unfold Jk;rw[c.defers];refine GH (λw=>call268 _ w) (Vk n 256 (.int .i32 1) (.int .u32 0)) H 1 [0] Z Z ?_;rintro _ w _ ⟨rfl,rfl⟩ b;clear H;have H:Sep z (blk n (BR (.int .u32 1) (.int .i32 1) (.int .u32 0) 256) 238::R) w:=b;refine GH (λw=>call267 _ w) (Vi n 256 (.int .u32 1) (.int .u32 0)) H 1 [0] Z Z ?_;rintro _ w _ ⟨rfl,rfl⟩ b;exact Ac3 Z ⟨_,⟨Z,Z⟩,b⟩
theorem Ac8(a:Nat):Cn prog 225 [Y a,.func (.func 226) #[Y a] #[]] [blk a (BR (.int .u32 0) (.int .i32 0) (.int .u32 0) 0) 238] (λv Γ=>v=.tuple #[]/\Γ=[blk a (BR (.int .u32 1) (.int .i32 0) (.int .u32 0) 256) 238]):=by
 intro z R w H;refine Ae func225 Z ntmps225 Z (Z0 5 [0] Z (z_E_ Z (call248 _) (Oi) H ?_));intro w H;refine Zc 7 Z (z_E_ Z (call249 _) (Abm) H ?_);intro w H;refine Zc 1 Z (Zf Z ?_);exact ⟨_,⟨Z,Z⟩,H⟩
theorem Ac9(a:Nat):Cn prog 225 [Y a,.func (.func 226) #[Y a] #[]] [blk a (BR (.int .u32 1) (.int .i32 0) (.int .u32 0) 256) 238] (λv Γ=>v=.tuple #[]/\Γ=[blk a (BR (.int .u32 1) (.int .i32 0) (.int .u32 0) 256) 238]):=by
 intro z R w H;refine Ae func225 Z ntmps225 Z (Z0 5 [0] Z (z_E_ Z (call248 _) (Vj) H ?_));intro w H;refine Zc 5 Z (Zf Z ?_);exact ⟨_,⟨Z,Z⟩,H⟩
theorem AdP:Cn prog 225 [Y n,.func (.func 226) #[Y n] #[]] [tblA n] (λv Γ=>v=.tuple #[]/\Γ=[blk n (BR (.int .u32 1) (.int .i32 0) (.int .u32 0) 256) 238]):=Cn.or (Ac8 n) (Ac9 n)
theorem Oj:Cn prog 93 [] [] (λv Γ=>(∃a,v=Y a/\Γ=[tblA a])):=by
 intro z R w H;refine Ae func93 Z ntmps93 Z (Zc 7 Z (Ab Z (Bc Z Z (out:=(BR (.int .u32 0) (.int .i32 0) (.int .u32 0) 0)) J) (AR Z (G0 H Z Z (cs:=(BR (.int .u32 0) (.int .i32 0) (.int .u32 0) 0)) Z) ?_)));rintro _ w ⟨b,rfl,H⟩;refine Zc 4 Z (Zr Z ?_);have H:=H.mono 0 (B:=tblA b) Z (λh q=>.inl q);exact ⟨_,⟨b,Z,Z⟩,H⟩
theorem Tk(d:Nat)(a:UInt32)(v:Value)(bs:List UInt8)(A:Ai)(g:∀h,A h->rdH 1 v bs.length (bs.map u8) h):Cn prog 193 [Y d,u32 a,v] [tblA d,A] (λv Γ=>v=u32 (ED a bs)/\Γ=[tblA d,A]):=by
 intro z R w H;obtain ⟨t,c,rfl⟩:=H.sy 1 (λq=>(g _ q).slc);have p:=H.sy 1 (λq=>(g _ q).small);refine Ae func193 Z ntmps193 Z (Z0 11 [0] Z (Ab Z (C5 Z Z Z) (z_E_ Z (call225 _) (AdP) H ?_)));intro w H;refine Zc 5 Z (Ab Z (PS Z Z) (Zc 12 Z ?_));refine AB (σ:=Nat) (λk=>[(20,I (k:Int)),(7,u32 ((bs.take k).foldl HG (4294967295 ^^^ a))),(0,Y d),(6,u32 0),(18,.slice t bs.length c),(19,I (bs.length:Int))])
   (λk w=>Sep z (blk d (BR (.int .u32 1) (.int .i32 0) (.int .u32 0) 256) 238::A::R) w/\(k<=bs.length)) (λk=>bs.length-k) 0
   (λ_ e=>(e.co Z (by go_num) e.cz)) ⟨H,by omega⟩ ?_
 clear H;rintro k w ⟨s,i⟩;have H:=s.l2;have x:=i;clear i;refine Z0 6 [0] Z (Af Z (λo=>?_) (λo=>?_))
 ·obtain ⟨b,n⟩:∃b,bs[k]?=some b:=⟨_,Aed U⟩;refine Zc 6 Z ?_;have f:=(H.rd 1 Z g).at (j:=k) (u:=u8 b) (by simp[n])
  refine Ab Z (Aj Z (z:=1) (j:=k) (r:=k) J Z Z Z U f U) (Ab Z (Ax Z Z J (Ay f)) (Zc 5 Z (Ab Z (Hw Z Z (m:=8) (n':=8) Z (by decide)) (Zc 2 Z (Ab Z (Hx Z J Z) (Zc 1 Z (Ab Z (AaJ Z Z Z) (Z0 2 [3] Z (Ab Z (JQ (l:=256) Z (z:=1) (j:=((((bs.take k).foldl HG (4294967295 ^^^ a)).toUInt8) ^^^ b).toNat) (r:=3+(((bs.take k).foldl HG (4294967295 ^^^ a)).toUInt8 ^^^ b).toNat) J Z Z Z (UInt8.toNat_lt _) U) (Ab Z (Bg Z Z J (Ay (H.cel 0 Z _ (S8)))) (Ab Z (PR Z Z Z) (Z1 8 [] [(k:Int)+1] Z U (gf ?_)))))))))))));intro _ e;refine ⟨(k+1),(e.co Z (by go_num) (e.co Z (congrArg u32 (by rw[AeN,n];simp[HG])) (e.all Z))),⟨H,?_⟩,?_⟩
  ·omega
  omega
 refine Zc 2 Z (gx (Zc 5 Z (Ab Z (PS Z Z) (Zc 4 Z (Zr Z ?_)))));obtain rfl:k=bs.length:=by omega
 have H:=H.mono 0 (B:=tblA d) Z (λh q=>.inr q);exact ⟨_,⟨congrArg u32 (by simp[ED]),Z⟩,H⟩
theorem Yq(bs:List UInt8)(a:∀h,A h->rdH 1 v bs.length (bs.map u8) h):Cn prog 193 [Y n,.int .u32 0,v] [tblA n,A] (λv Γ=>v=u32 (Ba bs)/\Γ=[tblA n,A]):=by
 have h:=Tk n 0 v bs A a;rw[show u32 0=Value.int .u32 0 from Z] at h;exact h
theorem Xs(bs:List UInt8)(a:bs.length=n)(b:∀h,A h->rdH 1 v n (bs.map u8) h):Cn prog 230 [Y m,v] [tblA m,A] (λv Γ=>v=u32 (Ba bs)/\Γ=[tblA m,A]):=by
 intro z R w H;subst a;refine Ae func230 Z ntmps230 Z (Zc 9 Z (z_E_ Z (call193 _) (Yq bs b) H ?_));intro w H;refine Zc 4 Z (Zr Z ?_);exact ⟨_,⟨Z,Z⟩,H⟩
theorem Ol(bs:List UInt8)(b:bs.length=n)(a:∀h,A h->rdH 1 v n (bs.map u8) h):Cn prog 224 [Y i,v] [tblA i,A] (λv Γ=>v=.agg #[u8 ((Ba bs).toUInt8),u8 (((Ba bs)>>>8).toUInt8),u8 (((Ba bs)>>>16).toUInt8),u8 (((Ba bs)>>>24).toUInt8)]/\Γ=[tblA i,A]):=by
 intro z R w H;refine Ae func224 Z ntmps224 Z (Zc 2 Z (AR Z (Cb (P:=prog) H Z (zs:=[u8 0,u8 0,u8 0,u8 0]) J) ?_));rintro _ w ⟨c,rfl,H⟩;refine Zc 6 Z (z_E_ Z (call230 _) (Xs bs U a) H.f2.f2 ?_);intro w H;refine Zc 6 Z (Ab Z (Hx Z J Z) (Zc 1 Z (Ab Z (Hw Z Z (m:=8) (n':=8) Z (by decide)) (Ab Z (Hx Z J Z) (Zc 1 Z (Ab Z (Hw Z Z (m:=16) (n':=16) Z (by decide)) (Ab Z (Hx Z J Z) (Zc 1 Z (Ab Z (Hw Z Z (m:=24) (n':=24) Z (by decide)) (Ab Z (Hx Z J Z) (Ab Z (Bc Z Z (out:=[u8 ((Ba bs).toUInt8),u8 (((Ba bs)>>>8).toUInt8),u8 (((Ba bs)>>>16).toUInt8),u8 (((Ba bs)>>>24).toUInt8)]) J) (Z4 4 [2] H Z ?_))))))))))));intro w H;refine Zl [2,4] H Z ?_;exact ⟨_,⟨Z,Z⟩,H.perm 3 [0,1] Z Z⟩
theorem CG(a k:Nat)(x:Int)(f:B.length=256)(l:a+k<=256/\k<=8):Cn prog 100 [Y n,I x,I (k:Int)] [blk n (A5 B (a:Int)) 167] (λv Γ=>v=.tuple #[]/\Γ=[blk n (A5 (Bt B (Ag k x) a) ((a+k:Nat):Int)) 167]):=by
 intro z R w H;refine Ae func100 Z ntmps100 Z (Zc 8 Z ?_);refine AB (σ:=Nat) (λi=>[(8,I (i:Int)),(0,Y n),(1,I x),(2,I (k:Int)),(7,I (k:Int))])
   (λi w=>Sep z (blk n (A5 (Gk B (Ag k x) a i) (a:Int)) 167::R) w/\(i<=k)) (λi=>k-i) 0
   fr_z ⟨(by rw[UY];exact H),by omega⟩ ?_
 clear H;rintro i w ⟨d,e⟩;have H:=d.l1;have j:=e;clear e;have c:(Gk B (Ag k x) a i).length=256:=by rw[Ye U (by rw[Ah];omega)];exact f
 refine Z0 6 [0] Z (Af Z (λg=>?_) (λg=>?_))
 ·have hi:i<k:=by omega
  refine Zc 10 Z (BH 18 J J (AZ H λw d=>?_));have H:=d.l1;refine PW 4 [256] Z J (B9 Z Z Z (Bg Z Z J (Ay (H.cel 0 Z 256 (NZ _ c)))) (EQ 8 [] [((a+i:Nat):Int),(k:Int)-1,((k-1-i:Nat):Int),((8*(k-1-i):Nat):Int)] H Z J U (B9 Z Z Z (AaM Z Z Z (m:=8*(k-1-i)) Z U) (B9 Z Z Z (Rm Z J Z) (EQ 3 [0,256,1,(a+i),a+i] [] H Z J U (CF (gw (Az Z Z (Ak 0 H Z Z Z Z (vs:=[u8 (GC (x/2^(8*(k-1-i))))]) Z (by simp[u8,u32,Value.oneCell']) J (by rw[Fh c];simp;omega) (out:=(A5 (Gk B (Ag k x) a (i+1)) (a:Int))) (U1 (by rw[Ah];omega) (beN_get x hi))) ?_))))))));rintro w H;refine Z1 7 [] [(i:Int)+1] Z U (gf ?_);intro _ h;refine ⟨(i+1),h.cz,⟨H,?_⟩,?_⟩
  ·omega
  omega
 obtain rfl:i=k:=by omega
 rw[Yf B (Ag i x) a (by rw[Ah])] at H;have b:(Bt B (Ag i x) a).length=256:=by rw[Es (by rw[Ah];omega)];exact f
 refine Zc 2 Z (gx (Z0 6 [256] Z (Ab Z (Bg Z Z J (Ay (H.cel 0 Z 256 (NZ _ b)))) (Z1 4 [256] [((a+i:Nat):Int)] Z U (Az Z Z (Ak 0 H Z Z Z Z (vs:=[I ((a+i:Nat):Int)]) Z (by simp[u8,u32,Value.oneCell']) J (by rw[Fh b];simp) (out:=(A5 (Bt B (Ag i x) a) ((a+i:Nat):Int))) (Jn b)) ?_)))));rintro w H;refine Zc 1 Z (Zf Z ?_);exact ⟨_,⟨Z,Z⟩,H⟩
theorem IV(a:Nat)(s:List UInt8)(b:S.length=256)(e:a+s.length<=256/\a<256):Cn prog 189 [Y n,Ck s] [blk n (A5 S (a:Int)) 167] (λv Γ=>v=.tuple #[]/\Γ=[blk n (A5 (Bt S s a) ((a+s.length:Nat):Int)) 167]):=by
 intro z R w H;refine Ae func189 Z ntmps189 Z (Bh (Sep z (wrH n (a:Int)::R)) 18 Z J (AZ H λw d=>?_));have H:=d.l1;refine Bu [0,1,2] [256] J (λ_ _=>AM) (by exact H.mono 0 (B:=wrH n (a:Int)) Z (λh q=>⟨_,b,q⟩)) Z J Z Z (BJ 3 J Z Z J J J Z Z Z (Bg Z Z J (λ_ c=>c.cell 0 Z (λh q=>wrH.at q))) (H.mono 0 (B:=wrH n (a:Int)) Z (λh q=>⟨_,b,q⟩)) (Bu [4,5,6,7,8,9] [0,256] J (λ_ _=>AM) (by exact H.mono 0 (B:=wrH n (a:Int)) Z (λh q=>⟨_,b,q⟩)) Z J Z Z (BJ 10 J Z Z J J J Z Z Z (Bg Z Z J (λ_ c=>c.cell 0 Z (λh q=>wrH.at q))) (H.mono 0 (B:=wrH n (a:Int)) Z (λh q=>⟨_,b,q⟩)) (BJ 11 J Z Z J J J Z Z Z (GD Z (n':=256) (z:=1) (p:=a) (q:=256) (o':=a) (l':=256-a) (c':=256-a) J Z (.inr ⟨_,_,_,Z,Z,Z⟩) (.inl ⟨Z,Z⟩) U U U U U U) (H.mono 0 (B:=wrH n (a:Int)) Z (λh q=>⟨_,b,q⟩)) (Bu [12] [] J (λ_ _=>AM) (by exact H.mono 0 (B:=wrH n (a:Int)) Z (λh q=>⟨_,b,q⟩)) Z J Z Z (AE [13] J O (Am (Ca Z Z Z Z (F5 0 H Z Z J Z Z (m:=s.length) (news:=(s.map u8)) (.inr ⟨s,Z,Z,Z⟩) (by simp[u8,Value.oneCell']) (by rw[Fh b];omega) (k:=s.length) U (out:=(A5 (Bt S s a) (a:Int))) (N1 U Z)) ?_))))))));rintro _ w ⟨rfl,H⟩;refine Ar (λ_=>(H.mono 0 (B:=wrH n (a:Int)) Z (λh q=>⟨_,((Es U).trans b),q⟩))) (BJ 14 J Z Z J J J Z Z Z (C3 Z Z Z (r:=((a+s.length:Nat):Int)) U U) (H.mono 0 (B:=wrH n (a:Int)) Z (λh q=>⟨_,((Es U).trans b),q⟩)) (Bu [15,16] [256] J (λ_ _=>AM) (by exact H.mono 0 (B:=wrH n (a:Int)) Z (λh q=>⟨_,((Es U).trans b),q⟩)) Z J Z Z (AE [17] J O (Am (Bi Z Z Z (Ak 0 H Z Z Z Z (vs:=[I ((a+s.length:Nat):Int)]) Z (by simp[u8,u32,Value.oneCell']) J (by rw[Fh ((Es U).trans b)];simp) (out:=(A5 (Bt S s a) ((a+s.length:Nat):Int))) (Jn ((Es U).trans b))) ?_)))));rintro w H;refine Ar (λh=>absurd Z h) (Bj J (gn (Zf Z ?_)));exact ⟨_,⟨Z,Z⟩,H⟩
theorem Iy(a:B.length=256):Cn prog 190 [Y n,Y i] [blk n (A5 B (t:Int)) 167,tblA i] (λv Γ=>v=.slice (some ⟨n,0,none⟩) 256 256/\Γ=[blk n (A5 (N4 B) (t:Int)) 167,tblA i]):=by
 intro z R w H;refine Ae func190 Z ntmps190 Z (Z0 11 [0] Z (Ab Z (GD Z (n':=256) (z:=1) (p:=0) (q:=252) (o':=0) (l':=252) (c':=256) J Z (.inl ⟨Z,Z⟩) (.inr ⟨_,_,_,Z,Z,Z⟩) U U U U U U) (z_E_ Z (call224 _) (Ol (B.take 252) (by simp[a]) (λh q=>HH q a U U U O)) H.f1 ?_)));intro w H;refine AR Z (Cb (P:=prog) H Z (zs:=[u8 0,u8 0,u8 0,u8 0]) J) ?_;rintro _ w ⟨c,rfl,H⟩;refine Z4 4 [0] H Z ?_;intro w H;refine BH 5 J J (AZ H λw b=>?_);have H:=b.l3;refine PW 3 [0] Z J (B9 Z Z Z (GD Z (n':=256) (z:=1) (p:=252) (q:=256) (o':=252) (l':=4) (c':=4) J Z (.inr ⟨_,_,_,Z,Z,Z⟩) (.inl ⟨Z,Z⟩) U U U U U U) (B9 Z Z Z (GD Z (n':=4) (z:=1) (p:=0) (q:=4) (o':=0) (l':=4) (c':=4) J Z (.inl ⟨Z,Z⟩) (.inl ⟨Z,Z⟩) U U U U U U) (CF (gw (AR Z (F5 2 H Z Z J Z Z (m:=4) (news:=((Is (Ba (B.take 252))).map u8)) (.inl (H.rv 0 (·.rd U U O Z))) (by simp[Is,u8,Value.oneCell']) (by rw[Fh a];omega) (k:=4) U (out:=(A5 (N4 B) (t:Int))) (N1 (by simp[Is,a]) Z)) ?_)))));rintro _ w ⟨rfl,H⟩;refine Z0 7 [0] Z (Ab Z (GD Z (n':=256) (z:=1) (p:=0) (q:=256) (o':=0) (l':=256) (c':=256) J Z (.inl ⟨Z,Z⟩) (.inl ⟨Z,Z⟩) U U U U U U) (Zc 4 Z (Zr Z ?_)));exact ⟨_,⟨Z,Z⟩,H.perm 3 [2,1] Z Z⟩
theorem Cz(k:Nat)(b o n c:Nat)(xs:List UInt8)(e:∀h,A h->rdH 1 (.slice (some ⟨b,o,none⟩) n c) n (xs.map u8) h)(hn:n<=c/\k<c)(hk:k<=n)(ys:List UInt8)(y:xs.take k=ys)(o2 l c2:Nat)(d:o+k=o2)(r:n-k=l)(h3:c-k=c2):Cn prog 165 [Y i,I (k:Int)] [blk i [.slice (some ⟨b,o,none⟩) n c] 258,A] (λv Γ=>v=I (AX ys)/\Γ=[blk i [.slice (some ⟨b,o2,none⟩) l c2] 258,A]):=by
 intro z R w H;subst y d r h3;have u:=H.sy 1 (λq=>(e _ q).len);have a0:=H.sy 1 (λq=>(e _ q).cap);refine Ae func165 Z ntmps165 Z (Z2 18 [0,0,0] H Z (Ab Z (BL Z (z:=1) (p:=0) (q:=k) (o':=o) (l':=k) (c':=c) J Z (.inl ⟨Z,Z⟩) (.inr ⟨_,_,_,Z,Z,Z⟩) U U U U U U) (Zc 5 Z ?_)));refine AB (σ:=Nat) (λj=>[(15,I (j:Int)),(5,I (AX (xs.take j))),(0,Y i),(1,I (k:Int)),(4,I 0),(13,.slice (some ⟨b,o,none⟩) k c),(14,I (k:Int))])
   (λj w=>Sep z (blk i [.slice (some ⟨b,o,none⟩) n c] 258::A::R) w/\(j<=k)) (λj=>k-j) 0
   (λ_ a=>(a.co Z (by go_num) a.cz)) ⟨H,by omega⟩ ?_
 clear H;rintro j w ⟨t,f⟩;have H:=t.l2;have s:=f;clear f;refine Z0 6 [0] Z (Af Z (λd=>?_) (λd=>?_))
 ·obtain ⟨x,g⟩:∃x,xs[j]?=some x:=⟨_,Aed U⟩;refine Z1 7 [1,j,o+j] [] Z U (Ab Z (Bg Z Z J (Ay (H.cell 1 Z (λh q=>(e h q).at g)))) (Zc 5 Z (Ab Z (SD Z Z Z (m:=8) Z (by decide)) (Zc 1 Z (Ab Z (Rn Z J Z) (Ab Z (Xg Z Z Z (N5) ⟨by omega,by have:=x.toNat_lt;omega⟩) (Z1 8 [] [(j:Int)+1] Z U (gf ?_))))))));intro _ a;refine ⟨(j+1),(a.co Z (by go_num) (a.co Z (congrArg I (Mx g)) (a.all Z))),⟨H,?_⟩,?_⟩
  ·omega
  omega
 obtain rfl:j=k:=by omega
 refine Zc 2 Z (gx (Z2 10 [0,0,0] H Z (Ab Z (BL Z (z:=1) (p:=j) (q:=n) (o':=o+j) (l':=n-j) (c':=c-j) J Z (.inr ⟨_,_,_,Z,Z,Z⟩) (.inl ⟨Z,Z⟩) U U U U U U) (Z4 12 [0,0] H Z ?_))));intro w H;refine Zr Z ?_;exact ⟨_,⟨Z,Z⟩,H⟩
theorem Yr(xs:List UInt8)(c:∀h,A h->rdH 1 (.slice (some ⟨i,e,none⟩) n g) n (xs.map u8) h)(hn:n<=g):Cn prog 233 [.slice (some ⟨i,e,none⟩) n g,u8 0] [A] (λv Γ=>v=.slice (some ⟨i,e,none⟩) (rz xs) g/\Γ=[A]):=by
 intro z R w H;have s:=H.sy 0 (λq=>(c _ q).len);have u:=H.sy 0 (λq=>(c _ q).cap);refine Ae func233 Z ntmps233 Z (Zc 7 Z ?_);refine AB (σ:=Nat) (λm=>[(0,.slice (some ⟨i,e,none⟩) m g),(1,u8 0),(4,.slice none 0 0)])
   (λm w=>Sep z (A::R) w/\(m<=n/\∀(j:Nat) (y:UInt8),m<=j->xs[j]?=some y->y=0)) (λm=>m) n
   (λ_ d=>(d.all Z)) ⟨H,Aei _,λj y t h=>by have:=(Aeb.1 h).1;omega⟩ ?_
 clear H;rintro m w ⟨r,o⟩;have H:=r.l1;obtain ⟨hm,f⟩:=o;refine Z0 7 [0] Z (Al 8 Z (λl=>?_) (λl=>?_))
 ·obtain ⟨x,b⟩:∃x,xs[m-1]?=some x:=⟨_,Aed U⟩;refine Z1 5 [1,(m-1),e+(m-1)] [((m-1:Nat):Int)] Z U (Ab Z (Bg Z Z J (Ay (H.cell 0 Z (λh q=>(c h q).at b)))) (Zc 1 Z (Ab Z (Sz (q:=0) (k:=.u8) Z J Z Z) (Zc 3 Z (Af Z (λa=>?_) (λa=>?_))))))
  ·refine Z1 8 [] [((m-1:Nat):Int)] Z U (Ab Z (BL Z (z:=1) (p:=0) (q:=(m-1)) (o':=e) (l':=(m-1)) (c':=g) J Z (.inl ⟨Z,Z⟩) (.inr ⟨_,_,_,Z,Z,Z⟩) U U U U U U) (Zc 3 Z (gf ?_)));intro _ d;refine ⟨(m-1),(d.all Z),⟨H,?_⟩,?_⟩
   ·refine ⟨by omega,λj y t h=>?_⟩;rcases Aeq j m with q|q
    ·obtain rfl:j=m-1:=by omega
     rw[b] at h;cases h;exact a
    exact f j y q h
   omega
  refine Zc 2 Z (gx (Zc 9 Z (Zr Z ?_)));obtain rfl:m=rz xs:=rz_is U f (by first|exact .inl U|exact .inr ⟨x,b,a⟩);exact ⟨_,⟨Z,Z⟩,H⟩
 refine Zc 14 Z (gx (Zc 9 Z (Zr Z ?_)));obtain rfl:m=rz xs:=rz_is U f (by first|exact .inl U|exact .inr ⟨x,b,a⟩);exact ⟨_,⟨Z,Z⟩,H⟩
theorem Ys(xs:List UInt8)(d:∀h,A h->rdH 1 (.slice (some ⟨m,i,none⟩) n e) n (xs.map u8) h)(hn:n<e):Cn prog 232 [.slice (some ⟨m,i,none⟩) n e,u8 0] [A] (λv Γ=>v=(if lz xs=n then .slice none 0 0 else .slice (some ⟨m,i+lz xs,none⟩) (n-lz xs) (e-lz xs))/\Γ=[A]):=by
 intro z R w H;have r:=H.sy 0 (λq=>(d _ q).len);refine Ae func232 Z ntmps232 Z (Zc 7 Z ?_);refine AB (σ:=Nat) (λp=>[(0,.slice (some ⟨m,(i+p),none⟩) (n-p) (e-p)),(1,u8 0),(4,.slice none 0 0)])
   (λp w=>Sep z (A::R) w/\(p<=n/\∀(j:Nat) (y:UInt8),j<p->xs[j]?=some y->y=0)) (λp=>n-p) 0
   fr_z ⟨H,by omega,λj y s h=>by omega⟩ ?_
 clear H;rintro p w ⟨o,g⟩;have H:=o.l1;obtain ⟨hp,c⟩:=g;refine Z0 7 [0] Z (Al 8 Z (λf=>?_) (λf=>?_))
 ·obtain ⟨x,b⟩:∃x,xs[p]?=some x:=⟨_,Aed U⟩;refine Z1 2 [1,0,i+p] [] Z U (Ab Z (Bg Z Z J (Ay (H.cell 0 Z (λh q=>(d h q).at b)))) (Zc 1 Z (Ab Z (Sz (q:=0) (k:=.u8) Z J Z Z) (Zc 3 Z (Af Z (λa=>?_) (λa=>?_))))))
  ·refine Zc 5 Z (Ab Z (BL Z (z:=1) (p:=1) (q:=(n-p)) (o':=i+(p+1)) (l':=(n-(p+1))) (c':=(e-(p+1))) J Z (.inr ⟨_,_,_,Z,Z,Z⟩) (.inl ⟨Z,Z⟩) U U U U U U) (Zc 3 Z (gf ?_)));intro _ l;refine ⟨(p+1),(l.all Z),⟨H,?_⟩,?_⟩
   ·refine ⟨by omega,λj y s h=>?_⟩;rcases Aeq j p with q|q
    ·exact c j y q h
    obtain rfl:j=p:=by omega
    rw[b] at h;cases h;exact a
   omega
  refine Zc 2 Z (gx (Z0 10 [0] Z (Af Z (λh3=>?_) (λh3=>?_))))
  ·refine Zc 6 Z (Zr Z ?_);obtain rfl:p=lz xs:=KM U c (by first|exact .inl U|exact .inr ⟨x,b,a⟩);exact ⟨_,⟨by first|(exfalso;omega)|rw[if_pos U]|rw[if_neg U],rfl⟩,H⟩
  refine Zc 9 Z (Zr Z ?_);obtain rfl:p=lz xs:=KM U c (by first|exact .inl U|exact .inr ⟨x,b,a⟩);exact ⟨_,⟨by first|(exfalso;omega)|rw[if_pos U]|rw[if_neg U],rfl⟩,H⟩
 refine Zc 11 Z (gx (Z0 10 [0] Z (Af Z (λu=>?_) (λu=>?_))))
 ·refine Zc 6 Z (Zr Z ?_);obtain rfl:p=lz xs:=KM U c (by first|exact .inl U|exact .inr ⟨x,b,a⟩);exact ⟨_,⟨by first|(exfalso;omega)|rw[if_pos U]|rw[if_neg U],rfl⟩,H⟩
 refine Zc 9 Z (Zr Z ?_);obtain rfl:p=lz xs:=KM U c (by first|exact .inl U|exact .inr ⟨x,b,a⟩);exact ⟨_,⟨by first|(exfalso;omega)|rw[if_pos U]|rw[if_neg U],rfl⟩,H⟩
theorem Abn{b:Nat}(xs:List UInt8)(a:∀h,A h->rdH 1 (.slice (some ⟨b,i,none⟩) n e) n (xs.map u8) h)(p:n<e\/(n<=e/\rz xs=0/\0<e)):Cn prog 200 [.slice (some ⟨b,i,none⟩) n e,Ck [0]] [A] (λv Γ=>(rz xs=0/\v=.slice none 0 0/\Γ=[A])\/(rz xs≠0/\∃o k1 c1,0<k1/\v=.slice (some ⟨b,o,none⟩) k1 c1/\Γ=[A])):=by
 intro z R w H;have g:=H.sy 0 (λq=>(a _ q).len);have k:=H.sy 0 (λq=>(a _ q).cap);have d:=RB xs;refine Ae func200 Z ntmps200 Z (Z0 13 [0] Z (Af Z (λc=>?_) (λc=>?_)))
 ·refine Zc 6 Z (Zr Z ?_);exact ⟨_,.inl ⟨by omega,Z,Z⟩,H⟩
 refine Zc 6 Z (Ab Z (II (l:=[0]) (m:=[]) Z J Z Z) (AD 11 (v:=.bool false) Z (congrArg Value.bool (by decide)) (Zc 9 Z (Ab Z (UA (l:=[0]) Z J Z) (Z0 3 [3] Z (Ab Z (JV (l:=[0]) (j:=0) (b:=0) Z J Z Z Z Z) (Z0 1 [0] Z (AD 19 (v:=.bool true) Z (congrArg Value.bool (by decide)) (Zc 5 Z (Bv (Sep z _) J J H.drew (B0 2 [] Z J (AL Z Z Z (JV (l:=[0]) (j:=0) (b:=0) Z J Z Z Z Z) (Dm Z Z Z Z Z (λw=>call233 _ w) (v:=.slice (some ⟨b,i,none⟩) (rz xs) e) (cq (Yr xs a U) (by rintro _ _ ⟨rfl,rfl⟩;exact ⟨Z,Z⟩) 1 [0] [0] Z Z Z Z) ?_)))))))))))));refine B0 1 [] Z J (AL Z Z Z (JV (l:=[0]) (j:=0) (b:=0) Z J Z Z Z Z) (Dm Z Z Z Z Z (λw=>call232 _ w) (v:=if lz ((xs.drop 0).take (rz xs))=(rz xs) then .slice none 0 0 else .slice (some ⟨b,i+lz ((xs.drop 0).take (rz xs)),none⟩) ((rz xs)-lz ((xs.drop 0).take (rz xs))) (e-lz ((xs.drop 0).take (rz xs)))) (cq (Ys ((xs.drop 0).take (rz xs)) (λh q=>(a h q).cut (lo:=0) (m:=rz xs) (c':=e) U U U) U) (by rintro _ _ ⟨rfl,rfl⟩;exact ⟨Z,Z⟩) 1 [0] [0] Z Z Z Z) (B0 1 [] Z J (BI (λw f=>?_)))));have H:=f.l1;refine gn (Zc 2 Z (Zr Z ?_));by_cases hz:rz xs=0
 ·exact ⟨[A],.inl ⟨hz,by rw[if_pos];simp[hz,lz],Z⟩,H⟩
 have:=Ac6 hz;exact ⟨_,.inr ⟨hz,_,rz xs-lz ((xs.drop 0).take (rz xs)),_,by simp;omega,by rw[if_neg (by simp;omega)],Z⟩,H⟩
theorem KT(b o n c:Nat)(xs:List UInt8)(e:∀h,A h->rdH 1 (.slice (some ⟨b,o,none⟩) n c) n (xs.map u8) h)(g:n<c\/(n<=c/\rz xs=0/\0<c)):Cn prog 166 [Y m] [blk m [.slice (some ⟨b,o,none⟩) n c] 258,A] (λv Γ=>v=.bool (decide (rz xs=0))/\Γ=[blk m [.slice (some ⟨b,o,none⟩) n c] 258,A]):=by
 intro z R w H;refine Ae func166 Z ntmps166 Z (Z2 11 [0,0,0] H Z (Aq Z (call200 _) (Abn xs e g) H.f1 ?_));rintro _ w _ (⟨a,rfl,rfl⟩|⟨a,i,k1,c1,f,rfl,rfl⟩) d
 ·have H:=d.l2;refine Z0 6 [3] Z (Zr Z ?_);exact ⟨_,⟨congrArg Value.bool (by first|(simp[a];done)|(rw[Aew];simp<;>omega)),Z⟩,H.perm 2 [1,0] Z Z⟩
 have H:=d.l2;refine Z0 6 [0] Z (Zr Z ?_);exact ⟨_,⟨congrArg Value.bool (by first|(simp[a];done)|(rw[Aew];simp<;>omega)),Z⟩,H.perm 2 [1,0] Z Z⟩
theorem LR(sec:List UInt8)(b:∀h,A h->rdH 1 (.slice (some ⟨i,j,none⟩) 256 e) 256 (sec.map u8) h):Cn prog 187 [Y n,.slice (some ⟨i,j,none⟩) 256 e,Ck B] [tblA n,A] (λv Γ=>(J5 B sec/\v=.tuple #[.agg #[.slice (some ⟨i,j+4,none⟩) 248 (e-4)],.bool true]/\Γ=[tblA n,A])\/(¬J5 B sec/\v=.tuple #[.agg #[.slice none 0 0],.bool false]/\Γ=[tblA n,A])):=by
 intro z R w H;have a:=H.sy 1 (λq=>(b _ q).len);have s:=H.sy 1 (λq=>(b _ q).cap);obtain ⟨o,c1,c2,r,c⟩:=N6 a;refine Ae func187 Z ntmps187 Z (Za 2 [] H Z ?_);intro t w H;refine Zc 5 Z (Bv (Sep z _) J J H.drew (GF 9 [4] [] Z J (AL Z Z Z (BL Z (z:=1) (p:=252) (q:=256) (o':=j+252) (l':=4) (c':=e-252) J Z (.inr ⟨_,_,_,Z,Z,Z⟩) (.inl ⟨Z,Z⟩) U U U U U U) (AL Z Z Z (Ms (m:=4) Z J Z U) (AL Z Z Z (BU Z Z (vs:=[u8 o,u8 c1,u8 c2,u8 r]) J (λ_ d=>d.cell4 2 Z b c)) (B0 2 [] Z J (AL Z Z Z (BL Z (z:=1) (p:=0) (q:=252) (o':=j) (l':=252) (c':=e) J Z (.inl ⟨Z,Z⟩) (.inr ⟨_,_,_,Z,Z,Z⟩) U U U U U U) (Dm Z Z Z Z Z (λw=>call224 _ w) (v:=.agg #[u8 ((Ba (sec.take 252)).toUInt8),u8 (((Ba (sec.take 252))>>>8).toUInt8),u8 (((Ba (sec.take 252))>>>16).toUInt8),u8 (((Ba (sec.take 252))>>>24).toUInt8)]) (cq (Ol (sec.take 252) (by simp[a]) (λh q=>(b h q).pre U U)) (by rintro _ _ ⟨rfl,rfl⟩;exact ⟨Z,Z⟩) 3 [1,2,0] [2,0,1] Z Z Z Z) (AL Z Z Z (PY Z J J Z Z) (B0 2 [] Z J (Cd 26 Z (λg=>?_) (λg=>?_))))))))))))
 ·refine B0 6 [] Z J (BI (λw f=>?_));have H:=f.l3;refine gn (Z4 10 [0] H Z ?_);intro w H;refine Zl [0,1] H Z ?_;exact ⟨_,.inr ⟨λhs=>by first|exact absurd (c▸hs.1) ‹_› |exact absurd hs.2 ‹_›,rfl,rfl⟩,H.perm 3 [1,2] rfl rfl⟩
 refine B0 1 [] Z J (AL Z Z Z (BL Z (z:=1) (p:=0) (q:=4) (o':=j) (l':=4) (c':=e) J Z (.inl ⟨Z,Z⟩) (.inr ⟨_,_,_,Z,Z,Z⟩) U U U U U U) (AL Z Z Z (Cg (l:=sec.take 4) Z J J Z (λ_ d=>d.rd 2 Z (λh q=>by have:=(b h q).pre (m:=4) (c':=e) U U;rwa[show (sec.take 4).length=4 from by simp[a]]))) (B0 1 [] Z J (AL Z Z Z (IJ (l:=sec.take 4) (m:=B) Z J Z Z) (B0 1 [] Z J (BI (λw f=>?_)))))));have H:=f.l3;refine gn (Zc 1 Z (Af Z (λk=>?_) (λk=>?_)))
 ·refine Z4 8 [0] H Z ?_;intro w H;refine Zl [0,1] H Z ?_;exact ⟨_,.inr ⟨λhs=>by first|exact absurd (c▸hs.1) ‹_› |exact absurd hs.2 ‹_›,rfl,rfl⟩,H.perm 3 [1,2] rfl rfl⟩
 refine Zc 5 Z (Ab Z (BL Z (z:=1) (p:=4) (q:=252) (o':=j+4) (l':=248) (c':=e-4) J Z (.inr ⟨_,_,_,Z,Z,Z⟩) (.inr ⟨_,_,_,Z,Z,Z⟩) U U U U U U) (Z4 6 [0] H Z ?_));intro w H;refine Zl [0,1] H Z ?_;exact ⟨_,.inl ⟨⟨by rw[c];exact AgJ ‹_›,AgJ ‹_›⟩,Z,Z⟩,H.perm 3 [1,2] Z Z⟩
theorem RF{a:Int}(b:List UInt8)(g:∀h,A h->rdH 1 u b.length (b.map u8) h):Cn prog 229 [Y n,I t,I s,.agg #[I p,I a,u]] [tblA n,A] (λv Γ=>(¬((0<=t/\t<=4294967295)/\(0<=s/\s<=1099511627775)/\(0<=p/\p<=1023)/\(1<=a/\a<=5)/\b.length=240)/\v=.tuple #[.slice none 0 0,I 1]/\Γ=[tblA n,A])\/(((0<=t/\t<=4294967295)/\(0<=s/\s<=1099511627775)/\(0<=p/\p<=1023)/\(1<=a/\a<=5)/\b.length=240)/\∃i,v=.tuple #[.slice (some ⟨i,0,none⟩) 256 256,I 0]/\Γ=[blk i (A5 (BB (Ag 1 a++Ag 2 p++Ag 4 t++Ag 5 s++b)) 252) 167,tblA n,A])):=by
 intro z R w H;obtain ⟨f,d,rfl⟩:=H.sy 1 (λq=>(g _ q).slc);refine Ae func229 Z ntmps229 Z (Za 2 [] H Z ?_);intro e w H;refine Zc 11 Z (z_E_ Z (call99 _) (CX) H ?_);intro w H;refine Ab Z (AF Z Z) (Zc 2 Z (Al 18 Z (λj=>?_) (λj=>?_)))
 ·refine Zc 39 Z (Zr Z ?_);exact ⟨_,.inl ⟨by omega,Z,Z⟩,H.perm 3 [1,2] Z Z⟩
 refine Zc 1 Z (z_E_ Z (call99 _) (CX) H ?_);intro w H;refine Ab Z (AF Z Z) (Zc 2 Z (Al 23 Z (λm=>?_) (λm=>?_)))
 ·refine Zc 34 Z (Zr Z ?_);exact ⟨_,.inl ⟨by omega,Z,Z⟩,H.perm 3 [1,2] Z Z⟩
 refine Z2 2 [0,0,0] H Z (z_E_ Z (call99 _) (CX) H ?_);intro w H;refine Ab Z (AF Z Z) (Zc 2 Z (Al 29 Z (λx=>?_) (λx=>?_)))
 ·refine Zc 28 Z (Zr Z ?_);exact ⟨_,.inl ⟨by omega,Z,Z⟩,H.perm 3 [1,2] Z Z⟩
 refine Z2 6 [1,1,0,0,0] H Z (Al 35 Z (λy=>?_) (λy=>?_))
 ·refine Zc 22 Z (Zr Z ?_);exact ⟨_,.inl ⟨by omega,Z,Z⟩,H.perm 3 [1,2] Z Z⟩
 refine Z2 6 [1,1,0,0,0] H Z (Al 41 Z (λo=>?_) (λo=>?_))
 ·refine Zc 16 Z (Zr Z ?_);exact ⟨_,.inl ⟨by omega,Z,Z⟩,H.perm 3 [1,2] Z Z⟩
 refine Z2 8 [1,2,0,0,0] H Z (Af Z (λr=>?_) (λr=>?_))
 ·refine Zc 7 Z (Zr Z ?_);exact ⟨_,.inl ⟨by omega,Z,Z⟩,H.perm 3 [1,2] Z Z⟩
 refine Zc 4 Z (AR Z (Cb (P:=prog) H Z (zs:=(A5 (AJ []) 0)) J) ?_);rintro _ w ⟨c,rfl,H⟩;refine Z2 7 [1,1,1,0] H Z (z_E_ Z (call100 _) (CG 0 1 a (AS (by first|omega|(simp[Ah]<;>omega))) U) H ?_);intro w H;rw[show Bt (AJ []) (Ag 1 a) 0=AJ (Ag 1 a) from BE Z (by first|omega|(simp[Ah]<;>omega))] at H;have H:Sep z (blk c (A5 (AJ (Ag 1 a)) 1) 167::blk e [I p,I a,.slice f b.length d] 161::tblA n::A::R) w:=H;refine Z2 6 [0,1,0] H Z (z_E_ Z (call100 _) (CG 1 2 p (AS (by first|omega|(simp[Ah]<;>omega))) U) H ?_);intro w H;rw[show Bt (AJ (Ag 1 a)) (Ag 2 p) 1=AJ (Ag 1 a++Ag 2 p) from BE (by first|omega|(simp[Ah]<;>omega)) (by first|omega|(simp[Ah]<;>omega))] at H;have H:Sep z (blk c (A5 (AJ (Ag 1 a++Ag 2 p)) 3) 167::blk e [I p,I a,.slice f b.length d] 161::tblA n::A::R) w:=H;refine Zc 5 Z (z_E_ Z (call100 _) (CG 3 4 t (AS (by first|omega|(simp[Ah]<;>omega))) U) H ?_);intro w H;rw[show Bt (AJ (Ag 1 a++Ag 2 p)) (Ag 4 t) 3=AJ (Ag 1 a++Ag 2 p++Ag 4 t) from BE (by first|omega|(simp[Ah]<;>omega)) (by first|omega|(simp[Ah]<;>omega))] at H;have H:Sep z (blk c (A5 (AJ (Ag 1 a++Ag 2 p++Ag 4 t)) 7) 167::blk e [I p,I a,.slice f b.length d] 161::tblA n::A::R) w:=H;refine Zc 5 Z (z_E_ Z (call100 _) (CG 7 5 s (AS (by first|omega|(simp[Ah]<;>omega))) U) H ?_);intro w H;rw[show Bt (AJ (Ag 1 a++Ag 2 p++Ag 4 t)) (Ag 5 s) 7=AJ (Ag 1 a++Ag 2 p++Ag 4 t++Ag 5 s) from BE (by first|omega|(simp[Ah]<;>omega)) (by first|omega|(simp[Ah]<;>omega))] at H;have H:Sep z (blk c (A5 (AJ (Ag 1 a++Ag 2 p++Ag 4 t++Ag 5 s)) 12) 167::blk e [I p,I a,.slice f b.length d] 161::tblA n::A::R) w:=H;refine Z2 7 [1,2,1,0] H Z (Ab Z (Cg (l:=b) Z J J Z (Ay (H.rd 3 Z g))) (z_E_ Z (call189 _) (IV 12 b (AS (by first|omega|(simp[Ah]<;>omega))) (by first|omega|(simp<;>omega))) H ?_));intro w H;rw[show ((12+b.length:Nat):Int)=(252:Int) from by omega] at H;rw[show Bt (AJ (Ag 1 a++Ag 2 p++Ag 4 t++Ag 5 s)) b 12=AJ (Ag 1 a++Ag 2 p++Ag 4 t++Ag 5 s++b) from BE (by first|omega|(simp[Ah]<;>omega)) (by first|omega|(simp[Ah]<;>omega))] at H;have H:Sep z (blk c (A5 (AJ (Ag 1 a++Ag 2 p++Ag 4 t++Ag 5 s++b)) 252) 167::blk e [I p,I a,.slice f b.length d] 161::tblA n::A::R) w:=H;refine Zc 5 Z (z_E_ Z (call190 _) (Iy (AS (by first|omega|(simp[Ah]<;>omega)))) H.f2.f1 ?_);intro w H;refine Zc 5 Z (Zr Z ?_);exact ⟨_,.inr ⟨by omega,c,Z,Z⟩,H.perm 4 [0,1,3] Z Z⟩
theorem MA(a:List UInt8)(f:∀h,A h->rdH 1 u a.length (a.map u8) h):Cn prog 158 [Y n,.agg #[I t,I s,u]] [tblA n,A] (λv Γ=>(¬((0<=t/\t<=1023)/\(1<=s/\s<=5)/\a.length=240)/\v=.tuple #[.slice none 0 0,I 1]/\Γ=[tblA n,A])\/(((0<=t/\t<=1023)/\(1<=s/\s<=5)/\a.length=240)/\∃g,v=.tuple #[.slice (some ⟨g,0,none⟩) 256 256,I 0]/\Γ=[blk g (A5 (BB ([80,80,65,71]++Ag 1 s++Ag 4 t++[0,0,0]++a)) 252) 167,tblA n,A])):=by
 intro z R w H;replace H:=H.l2;obtain ⟨e,c,rfl⟩:=H.sy 1 (λq=>(f _ q).slc);refine Ae func158 Z ntmps158 Z (Za 2 [] H Z ?_);intro d w H;refine Z2 12 [0,0,0] H Z (z_E_ Z (call99 _) (CX) H ?_);intro w H;replace H:=H.l3;refine Ab Z (AF Z Z) (Zc 2 Z (Al 15 Z (λi=>?_) (λi=>?_)))
 ·refine Zc 28 Z (Zr Z ?_);exact ⟨_,.inl ⟨by omega,Z,Z⟩,H.perm 3 [1,2] Z Z⟩
 refine Z2 6 [1,1,0,0,0] H Z (Al 21 Z (λk=>?_) (λk=>?_))
 ·refine Zc 22 Z (Zr Z ?_);exact ⟨_,.inl ⟨by omega,Z,Z⟩,H.perm 3 [1,2] Z Z⟩
 refine Z2 6 [1,1,0,0,0] H Z (Al 27 Z (λm=>?_) (λm=>?_))
 ·refine Zc 16 Z (Zr Z ?_);exact ⟨_,.inl ⟨by omega,Z,Z⟩,H.perm 3 [1,2] Z Z⟩
 refine Z2 8 [1,2,0,0,0] H Z (Af Z (λo=>?_) (λo=>?_))
 ·refine Zc 7 Z (Zr Z ?_);exact ⟨_,.inl ⟨by omega,Z,Z⟩,H.perm 3 [1,2] Z Z⟩
 refine Zc 4 Z (AR Z (Cb (P:=prog) H Z (zs:=(A5 (AJ []) 0)) J) ?_);rintro _ w ⟨b,rfl,H⟩;replace H:=H.l4;refine Zc 4 Z (z_E_ Z (call189 _) (IV 0 [80,80,65,71] (AS (by first|omega|(simp[Ah]<;>omega))) (by first|omega|(simp<;>omega))) H ?_);intro w H;replace H:=H.l4;rw[show Bt (AJ []) ([80,80,65,71]) 0=AJ ([80,80,65,71]) from BE Z (by first|omega|(simp[Ah]<;>omega))] at H;have H:Sep z (blk b (A5 (AJ ([80,80,65,71])) 4) 167::blk d [I t,I s,.slice e a.length c] 161::tblA n::A::R) w:=H;refine Z2 7 [1,1,1,0] H Z (z_E_ Z (call100 _) (CG 4 1 s (AS (by first|omega|(simp[Ah]<;>omega))) U) H ?_);intro w H;replace H:=H.l4;rw[show Bt (AJ ([80,80,65,71])) (Ag 1 s) 4=AJ ([80,80,65,71]++Ag 1 s) from BE (by first|omega|(simp[Ah]<;>omega)) (by first|omega|(simp[Ah]<;>omega))] at H;have H:Sep z (blk b (A5 (AJ ([80,80,65,71]++Ag 1 s)) 5) 167::blk d [I t,I s,.slice e a.length c] 161::tblA n::A::R) w:=H;refine Z2 6 [0,1,0] H Z (z_E_ Z (call100 _) (CG 5 4 t (AS (by first|omega|(simp[Ah]<;>omega))) U) H ?_);intro w H;replace H:=H.l4;rw[show Bt (AJ ([80,80,65,71]++Ag 1 s)) (Ag 4 t) 5=AJ ([80,80,65,71]++Ag 1 s++Ag 4 t) from BE (by first|omega|(simp[Ah]<;>omega)) (by first|omega|(simp[Ah]<;>omega))] at H;have H:Sep z (blk b (A5 (AJ ([80,80,65,71]++Ag 1 s++Ag 4 t)) 9) 167::blk d [I t,I s,.slice e a.length c] 161::tblA n::A::R) w:=H;refine Z0 5 [256] Z (Az Z Z (Ak 0 H Z Z Z Z (vs:=[I 12]) Z (by simp[u8,u32,Value.oneCell']) J (by rw[Fh (AS (by first|omega|(simp[Ah]<;>omega)))];simp) (out:=(A5 (AJ ([80,80,65,71]++Ag 1 s++Ag 4 t)) 12)) (Jn (AS (by first|omega|(simp[Ah]<;>omega))))) ?_);rintro w H;replace H:=H.l4;refine Z2 7 [1,2,1,0] H Z (Ab Z (Cg (l:=a) Z J J Z (Ay (H.rd 3 Z f))) (z_E_ Z (call189 _) (IV 12 a (AS (by first|omega|(simp[Ah]<;>omega))) (by first|omega|(simp<;>omega))) H ?_));intro w H;replace H:=H.l4;rw[show ((12+a.length:Nat):Int)=(252:Int) from by omega] at H;rw[show Bt (AJ ([80,80,65,71]++Ag 1 s++Ag 4 t)) a 12=AJ ([80,80,65,71]++Ag 1 s++Ag 4 t++[0,0,0]++a) from (U2 (by first|omega|(simp[Ah]<;>omega)) (by first|omega|(simp[Ah]<;>omega))).trans (by simp[Ah])] at H;have H:Sep z (blk b (A5 (AJ ([80,80,65,71]++Ag 1 s++Ag 4 t++[0,0,0]++a)) 252) 167::blk d [I t,I s,.slice e a.length c] 161::tblA n::A::R) w:=H;refine Zc 5 Z (z_E_ Z (call190 _) (Iy (AS (by first|omega|(simp[Ah]<;>omega)))) H.f2.f1 ?_);intro w H;refine Zc 5 Z (Zr Z ?_);exact ⟨_,.inr ⟨by omega,b,Z,Z⟩,H.perm 4 [0,1,3] Z Z⟩
theorem Tl{u:UInt32}{pv:Value}(ns:List Int)(hA:∀h,A h->rdH 1 pv ns.length (ns.map I) h):Cn prog 231 [Y n,.agg #[I t,I s,pv,u32 u]] [tblA n,A] (λv Γ=>(¬((0<=t/\t<=1099511627776)/\(0<=s/\s<=1099511627776)/\(1<=ns.length/\ns.length<=40)/\∀x∈ns,0<=x/\x<=1023)/\v=.tuple #[.slice none 0 0,I 1]/\Γ=[tblA n,A])\/(((0<=t/\t<=1099511627776)/\(0<=s/\s<=1099511627776)/\(1<=ns.length/\ns.length<=40)/\∀x∈ns,0<=x/\x<=1023)/\∃pw,v=.tuple #[.slice (some ⟨pw,0,none⟩) 256 256,I 0]/\Γ=[blk pw (A5 (BB ([80,76,79,71]++Ag 8 t++Ag 8 s++Ag 4 (u.toNat:Int)++Ag 2 (ns.length:Int)++ns.flatMap (Ag 4))) ((26+4*ns.length:Nat):Int)) 167,tblA n,A])):=by
 intro z R w H;obtain ⟨e,c,rfl⟩:=H.sy 1 (λq=>(hA _ q).slc);refine Ae func231 Z ntmps231 Z (Za 2 [] H Z ?_);intro g w H;refine Z2 12 [0,0,0] H Z (z_E_ Z (call99 _) (CX) H ?_);intro w H;refine Ab Z (AF Z Z) (Zc 2 Z (Al 17 Z (λh1=>?_) (λh1=>?_)))
 ·refine Zc 27 Z (Zr Z ?_);exact ⟨_,.inl ⟨by rintro ⟨o,l,m,d⟩;first|omega|exact absurd (d x (Aec b)) ‹_›,rfl,rfl⟩,H.perm 3 [1,2] rfl rfl⟩
 refine Z2 2 [1,0,0] H Z (z_E_ Z (call99 _) (CX) H ?_);intro w H;refine Ab Z (AF Z Z) (Zc 2 Z (Al 23 Z (λh2=>?_) (λh2=>?_)))
 ·refine Zc 21 Z (Zr Z ?_);exact ⟨_,.inl ⟨by rintro ⟨o,l,m,d⟩;first|omega|exact absurd (d x (Aec b)) ‹_›,rfl,rfl⟩,H.perm 3 [1,2] rfl rfl⟩
 refine Z2 6 [2,0,0,0] H Z (Al 29 Z (λh3=>?_) (λh3=>?_))
 ·refine Zc 15 Z (Zr Z ?_);exact ⟨_,.inl ⟨by rintro ⟨o,l,m,d⟩;first|omega|exact absurd (d x (Aec b)) ‹_›,rfl,rfl⟩,H.perm 3 [1,2] rfl rfl⟩
 refine Z2 7 [2,0,0,0] H Z (Af Z (λh4=>?_) (λh4=>?_))
 ·refine Zc 7 Z (Zr Z ?_);exact ⟨_,.inl ⟨by rintro ⟨o,l,m,d⟩;first|omega|exact absurd (d x (Aec b)) ‹_›,rfl,rfl⟩,H.perm 3 [1,2] rfl rfl⟩
 refine Zc 4 Z (AR Z (Cb (P:=prog) H Z (zs:=(A5 (AJ []) 0)) J) ?_);rintro _ w ⟨a,rfl,H⟩;refine Zc 4 Z (z_E_ Z (call189 _) (IV 0 [80,76,79,71] (AS (by first|omega|(simp[Ah,Ci,-List.length_flatMap]<;>omega))) (by first|omega|(simp<;>omega))) H ?_);intro w H;rw[show Bt (AJ []) ([80,76,79,71]) 0=AJ ([80,76,79,71]) from BE Z (by first|omega|(simp[Ah,Ci,-List.length_flatMap]<;>omega))] at H;have H:Sep z (blk a (A5 (AJ ([80,76,79,71])) 4) 167::blk g [I t,I s,.slice e ns.length c,u32 u] 287::tblA n::A::R) w:=H;refine Z2 6 [0,1,0] H Z (z_E_ Z (call100 _) (CG 4 8 t (AS (by first|omega|(simp[Ah,Ci,-List.length_flatMap]<;>omega))) U) H ?_);intro w H;rw[show Bt (AJ ([80,76,79,71])) (Ag 8 t) 4=AJ ([80,76,79,71]++Ag 8 t) from BE (by first|omega|(simp[Ah,Ci,-List.length_flatMap]<;>omega)) (by first|omega|(simp[Ah,Ci,-List.length_flatMap]<;>omega))] at H;have H:Sep z (blk a (A5 (AJ ([80,76,79,71]++Ag 8 t)) 12) 167::blk g [I t,I s,.slice e ns.length c,u32 u] 287::tblA n::A::R) w:=H;refine Z2 6 [1,1,0] H Z (z_E_ Z (call100 _) (CG 12 8 s (AS (by first|omega|(simp[Ah,Ci,-List.length_flatMap]<;>omega))) U) H ?_);intro w H;rw[show Bt (AJ ([80,76,79,71]++Ag 8 t)) (Ag 8 s) 12=AJ ([80,76,79,71]++Ag 8 t++Ag 8 s) from BE (by first|omega|(simp[Ah,Ci,-List.length_flatMap]<;>omega)) (by first|omega|(simp[Ah,Ci,-List.length_flatMap]<;>omega))] at H;have H:Sep z (blk a (A5 (AJ ([80,76,79,71]++Ag 8 t++Ag 8 s)) 20) 167::blk g [I t,I s,.slice e ns.length c,u32 u] 287::tblA n::A::R) w:=H;refine Z2 6 [3,1,0] H Z (Ab Z (AaK Z J Z) (z_E_ Z (call100 _) (CG 20 4 (u.toNat:Int) (AS (by first|omega|(simp[Ah,Ci,-List.length_flatMap]<;>omega))) U) H ?_));intro w H;rw[show Bt (AJ ([80,76,79,71]++Ag 8 t++Ag 8 s)) (Ag 4 (u.toNat:Int)) 20=AJ ([80,76,79,71]++Ag 8 t++Ag 8 s++Ag 4 (u.toNat:Int)) from BE (by first|omega|(simp[Ah,Ci,-List.length_flatMap]<;>omega)) (by first|omega|(simp[Ah,Ci,-List.length_flatMap]<;>omega))] at H;have H:Sep z (blk a (A5 (AJ ([80,76,79,71]++Ag 8 t++Ag 8 s++Ag 4 (u.toNat:Int))) 24) 167::blk g [I t,I s,.slice e ns.length c,u32 u] 287::tblA n::A::R) w:=H;refine Z2 7 [2,1,0] H Z (z_E_ Z (call100 _) (CG 24 2 (ns.length:Int) (AS (by first|omega|(simp[Ah,Ci,-List.length_flatMap]<;>omega))) U) H ?_);intro w H;rw[show Bt (AJ ([80,76,79,71]++Ag 8 t++Ag 8 s++Ag 4 (u.toNat:Int))) (Ag 2 (ns.length:Int)) 24=AJ ([80,76,79,71]++Ag 8 t++Ag 8 s++Ag 4 (u.toNat:Int)++Ag 2 (ns.length:Int)) from BE (by first|omega|(simp[Ah,Ci,-List.length_flatMap]<;>omega)) (by first|omega|(simp[Ah,Ci,-List.length_flatMap]<;>omega))] at H;have H:Sep z (blk a (A5 (AJ ([80,76,79,71]++Ag 8 t++Ag 8 s++Ag 4 (u.toNat:Int)++Ag 2 (ns.length:Int))) 26) 167::blk g [I t,I s,.slice e ns.length c,u32 u] 287::tblA n::A::R) w:=H;refine Z2 12 [2,1,0] H Z ?_;refine AB (σ:=Nat) (λi=>[(53,I (i:Int)),(0,Y n),(6,Y a),(51,.slice e ns.length c),(52,I (ns.length:Int))])
   (λi w=>Sep z (blk a (A5 (AJ ([80,76,79,71]++Ag 8 t++Ag 8 s++Ag 4 (u.toNat:Int)++Ag 2 (ns.length:Int)++(ns.take i).flatMap (Ag 4))) ((26+4*i:Nat):Int)) 167::blk g [I t,I s,.slice e ns.length c,u32 u] 287::tblA n::A::R) w/\(i<=ns.length/\∀(j:Nat) (x:Int),j<i->ns[j]?=some x->0<=x/\x<=1023)) (λi=>ns.length-i) 0
   fr_z ⟨(by simpa using H),by omega,λj x h=>by omega⟩ ?_
 clear H;rintro i w ⟨H',hI⟩;have H:=H'.l4;obtain ⟨a2,f⟩:=hI;refine Z0 6 [0] Z (Af Z (λh5=>?_) (λh5=>?_))
 ·obtain ⟨x,b⟩:∃x,ns[i]?=some x:=⟨_,Aed U⟩;refine Zc 6 Z ?_;have k:=(H.rd 3 Z hA).at (j:=i) (u:=I x) (by simp[b])
  refine Ab Z (Aj Z (z:=1) (j:=i) (r:=i) J Z Z Z U k U) (Ab Z (Ax Z Z J (Ay k)) (Zc 7 Z (z_E_ Z (call99 _) (CX) H ?_)));intro w H;refine Ab Z (AF Z Z) (Zc 2 Z (Af Z (λh6=>?_) (λh6=>?_)))
  ·refine Zc 7 Z (Zr Z ?_);exact ⟨_,.inl ⟨by rintro ⟨o,l,m,d⟩;first|omega|exact absurd (d x (Aec b)) ‹_›,rfl,rfl⟩,H.perm 4 [2,3] rfl rfl⟩
  refine Zc 4 Z (z_E_ Z (call100 _) (CG (26+4*i) 4 x (AS (by first|omega|(simp[Ah,Ci,-List.length_flatMap]<;>omega))) U) H ?_);intro w H;rw[show ((26+4*i+4:Nat):Int)=(((26+4*(i+1):Nat):Int):Int) from by omega] at H;rw[show Bt (AJ ([80,76,79,71]++Ag 8 t++Ag 8 s++Ag 4 (u.toNat:Int)++Ag 2 (ns.length:Int)++(ns.take i).flatMap (Ag 4))) (Ag 4 x) (26+4*i)=AJ ([80,76,79,71]++Ag 8 t++Ag 8 s++Ag 4 (u.toNat:Int)++Ag 2 (ns.length:Int)++(ns.take i).flatMap (Ag 4)++Ag 4 x) from BE (by first|omega|(simp[Ah,Ci,-List.length_flatMap]<;>omega)) (by first|omega|(simp[Ah,Ci,-List.length_flatMap]<;>omega))] at H;have H:Sep z (blk a (A5 (AJ ([80,76,79,71]++Ag 8 t++Ag 8 s++Ag 4 (u.toNat:Int)++Ag 2 (ns.length:Int)++(ns.take i).flatMap (Ag 4)++Ag 4 x)) ((26+4*(i+1):Nat):Int)) 167::blk g [I t,I s,.slice e ns.length c,u32 u] 287::tblA n::A::R) w:=H;refine Z1 7 [] [(i:Int)+1] Z U (gf ?_);intro _ hF;refine ⟨(i+1),hF.cz,⟨(by rw[<-Ta b,<-Aeh];exact H),?_⟩,?_⟩
  ·refine ⟨by omega,λj y p h=>?_⟩;rcases Aeq j i with q|q
   ·exact f j y q h
   obtain rfl:j=i:=by omega
   rw[b] at h;cases h;omega
  omega
 obtain rfl:i=ns.length:=by omega
 refine Zc 2 Z (gx (Zc 3 Z ?_));rw[Ae7] at H;have H:Sep z (blk a (A5 (AJ ([80,76,79,71]++Ag 8 t++Ag 8 s++Ag 4 (u.toNat:Int)++Ag 2 (ns.length:Int)++ns.flatMap (Ag 4))) ((26+4*ns.length:Nat):Int)) 167::blk g [I t,I s,.slice e ns.length c,u32 u] 287::tblA n::A::R) w:=H;refine Zc 2 Z (z_E_ Z (call190 _) (Iy (AS (by first|omega|(simp[Ah,Ci,-List.length_flatMap]<;>omega)))) H.f2.f1 ?_);intro w H;refine Zc 5 Z (Zr Z ?_);exact ⟨_,.inr ⟨⟨by omega,by omega,by omega,λx b=>by obtain ⟨j,p,rfl⟩:=Aga.1 b;exact f j _ p (Aed p)⟩,a,Z,Z⟩,H.perm 4 [0,1,3] Z Z⟩
theorem Jq(n:Nat)(bs:List UInt8)(d:∀h,A h->rdH 1 (.slice (some ⟨m,i,none⟩) n j) n (bs.map u8) h)(p:0<n/\n<=1073741824):Cn prog 151 [.slice (some ⟨m,i,none⟩) n j] [A] (λv Γ=>(∃g a rest,v=.slice (some ⟨g,0,none⟩) n a/\(n<=a/\a<=9223372036854775807/\rest.length=a-n)/\Γ=[blk g (bs.map u8++rest) 5,A])):=by
 intro z R w H;refine Ae func151 Z ntmps151 Z (Zc 9 Z (Ab Z (Ij Z J Z Z) (Zc 7 Z (AR Z (EX H Z J CK) ?_))));rintro _ w ⟨k,rfl,H⟩;refine Zc 1 Z ?_;replace H:=(H.mono 0 (B:=grow 5 1 (.slice (some ⟨k,0,none⟩) 0 0) 0 []) Z (λh q=>q.grow U U O Z)).l2;refine AR Z (A0 0 H Z Z J CK Z Z (H.rd 1 Z d) (by simp[u8,Value.oneCell']) U) ?_;rintro l w b;have c:([]++bs.map u8:List Value)=bs.map u8:=by simp
 rw[c] at b;rw[show (0+n:Nat)=n from by omega] at b;have H:=b.l2;refine Zc 4 Z (Zr Z ?_);obtain ⟨g,a,rest,f,c1,c2,o,b⟩:=H.ungrow 0 Z U;exact ⟨_,⟨g,a,rest,f,⟨c1,c2,by omega⟩,Z⟩,b⟩
theorem IW{pd:Nat}:Cn prog 143 [Y pd,I t,I 1] [diskA pd D] (λv Γ=>(¬(0<=t/\t<(D.n:Int))/\v=.tuple #[.slice none 0 0,I 2]/\Γ=[diskA pd D])\/((0<=t/\t<(D.n:Int))/\D.f1=1/\v=.tuple #[.slice none 0 0,I 10]/\Γ=[diskA pd {D with f1:=Bf D.f1}])\/((0<=t/\t<(D.n:Int))/\¬D.f1=1/\∃g b rest,v=.tuple #[.slice (some ⟨g,0,none⟩) 256 b,I 0]/\(256<=b/\b<=9223372036854775807/\rest.length=b-256)/\Γ=[blk g ((D.cont t.toNat).map u8++rest) 5,diskA pd {D with f1:=Bf D.f1}])):=by
 intro z R w H;obtain ⟨bd,m,f0,bs,es,clk,hq,a,d,u⟩:=H.disk;clear H;have a4:=a.n1;have a8:=a.n2;have b1:=a.f1;have a5:=d.len;have H:=u.l5;refine Ae func143 Z ntmps143 Z (Zc 12 Z (z_E_ Z (call147 _) (P7 U) H ?_));intro w H;refine Ab Z (AF Z Z) (Zc 2 Z (Af Z (λh1=>?_) (λh1=>?_)))
 ·refine Zc 7 Z (Zr Z ?_);replace H:=(Sep.toDisk (D:=D) (pd:=pd) (bd:=bd) (m:=m) (f0:=f0) (bs:=bs) (es:=es) (clk:=clk) (hq:=hq) (Γ:=R) H a d).l1
  exact ⟨_,.inl ⟨by omega,Z,Z⟩,H⟩
 obtain ⟨k,rfl⟩:∃k:Nat,t=(k:Int):=⟨t.toNat,by omega⟩;have y:k<D.n:=by omega
 refine Zc 6 Z (z_E_ Z (call148 _) (UM U) H ?_);intro w H;refine Zc 2 Z (Af Z (λh2=>?_) (λh2=>?_))
 ·refine Zc 7 Z (Zr Z ?_);replace H:=(Sep.toDisk (D:= {D with f1:=Bf D.f1}) (pd:=pd) (bd:=bd) (m:=m) (f0:=f0) (bs:=bs) (es:=es) (clk:=clk) (hq:=hq) (Γ:=R) H (a.f (Fg a.f1) a.f2 a.f3 a.left) (d.f _ _ _ _ _)).l1
  exact ⟨_,.inr (.inl ⟨by omega,‹_›,Z,Z⟩),H⟩
 refine Z3 14 [0,0,0] [(k:Int)*256,(k:Int)+1,((k:Int)+1)*256] H Z U (Ab Z (BL Z (z:=1) (p:=(k*256)) (q:=((k+1)*256)) (o':=k*256) (l':=256) (c':=D.n*256-k*256) J Z (.inr ⟨_,_,_,Z,Z,U⟩) (.inr ⟨_,_,_,Z,Z,U⟩) U U U U U U) (Aq Z (call151 _) (Jq 256 (D.dur k) (λh q=>q.rd U U (by simp;omega) (by rw[<-AfU,<-Afp,AeP,d.own k y])) U) H.f1 ?_));rintro _ w _ ⟨g,b,rest,rfl,⟨cg,cc,cl⟩,rfl⟩ H;refine Zc 11 Z ?_;refine AB (σ:=Nat) (λj=>[(31,I (j:Int)),(0,Y pd),(1,I (k:Int)),(6,.slice none 0 0),(7,I 0),(8,.slice (some ⟨g,0,none⟩) 256 b),(30,I 1)])
   (λj w=>Sep z (blk g ((IM D k j).map u8++rest) 5::blk bd (bs.map u8) 5::blk pd [.slice (some ⟨bd,0,none⟩) (D.n*256) (D.n*256),.map (some m),I f0,I (if D.f1=0 then 0 else D.f1-1),I D.f2,I D.f3,.bool D.cut,I D.left] 98::AH m (es.map Ent.ie) clk::poolA hq::seps (es.map Ent.row)::R) w/\(j<=1)) (λj=>1-j) 0
   fr_z ⟨H,by omega⟩ ?_
 clear H;rintro j w ⟨u,hI⟩;have H:=u.l6;refine Z0 6 [0] Z (Af Z (λh3=>?_) (λh3=>?_))
 ·obtain rfl:j=0:=by omega
  refine Zc 12 Z ?_;obtain ⟨v0,c,a3,a2,i,o⟩:=Aa7 d y;have sv:=H.sy 5 (λq=>(i _ q).slc);obtain ⟨ao,a1,rfl⟩:=sv;have a9:=H.sy 5 (λq=>(i _ q).small);refine Z3 7 [1,2,0] [(k:Int)] H Z U (Ab Z (FN (e:=223) (zv:=.slice none 0 0) Z J J Z Z (Ay (H.bk 3 Z))) (AD 41 (v:=.slice ao c.length a1) Z a3 (Z0 10 [0] Z (Af Z (λh4=>?_) (λh4=>?_)))))
  ·obtain ⟨pv,a0⟩:∃pv,c[c.length-1]?=some pv:=⟨_,Aed U⟩;obtain ⟨p,hp⟩:∃p,(D.ver k)[c.length-1]?=some p:=⟨_,Aed U⟩;have s:=Mv a2 hp
   have l:p.length=256:=by rw[<-s];exact Dsk.cont_len a y
   refine BH 10 J J (AZ H λw u=>?_);have H:=u.l6;refine EQ 3 [] [0] H Z J U (B9 Z Z Z (BL Z (z:=1) (p:=0) (q:=256) (o':=0) (l':=256) (c':=b) J Z (.inr ⟨_,_,_,Z,Z,Z⟩) (.inl ⟨Z,Z⟩) U U U U U U) (EQ 4 [] [(c.length:Int)-1] H Z J U ?_));have x:=(H.rd 5 Z i).at a0;refine B9 Z Z Z (Aj Z (z:=1) (j:=(c.length-1)) (r:=(c.length-1)) J Z Z U U x U) (B9 Z Z Z (Ax Z Z J (Ay x)) (CF (gw (AR Z (F5 0 H Z Z J Z Z (m:=256) (news:=(p.map u8)) (.inl (H.rd 4 Z (o _ _ _ a0 hp))) (by simp[u8,Value.oneCell']) (by simp[IM,a.dur k y]<;>omega) (k:=256) U (out:=((IM D k (0+1)).map u8++rest)) (by rw[show IM D k (0+1)=p from s];simp[IM,Aej,l,a.dur k y,Ae6])) ?_))));rintro _ w ⟨rfl,H⟩;refine Z1 7 [] [(0:Int)+1] Z U (gf ?_);intro _ hF;refine ⟨(0+1),hF.cz,⟨H,?_⟩,?_⟩
   ·omega
   omega
  refine Z1 7 [] [(0:Int)+1] Z U (gf ?_);intro _ hF;refine ⟨(0+1),hF.cz,⟨(by rw[show IM D k (0+1)=IM D k 0 from J0 (Agy U)];exact H),?_⟩,?_⟩
  ·omega
  omega
 refine Zc 2 Z (gx (Zc 10 Z (Zr Z ?_)));obtain rfl:j=1:=by omega
 replace H:=H.f5.f5.f5.f4.f5;replace H:=(Sep.toDisk (D:= {D with f1:=Bf D.f1}) (pd:=pd) (bd:=bd) (m:=m) (f0:=f0) (bs:=bs) (es:=es) (clk:=clk) (hq:=hq) (Γ:=blk g ((IM D k 1).map u8++rest) 5::R) H (a.f (Fg a.f1) a.f2 a.f3 a.left) (d.f _ _ _ _ _)).l2;exact ⟨_,.inr (.inr ⟨by omega,‹_›,g,b,rest,Z,⟨cg,cc,cl⟩,Z⟩),H.perm 2 [1,0] Z Z⟩
theorem Tm(sec:List UInt8)(k:∀h,A h->rdH 1 (.slice (some ⟨e,g,none⟩) 256 r) 256 (sec.map u8) h):Cn prog 192 [Y n,.slice (some ⟨e,g,none⟩) 256 r] [tblA n,A] (λv Γ=>(Iv sec/\∃v',v=.tuple #[.agg #[I (AX ((sec.drop 4).take 8)),I (AX ((sec.drop 12).take 8)),v',u32 (Ft (AX ((sec.drop 20).take 4)))],.bool true]/\Γ=[grow 3 1 v' (BG sec) (hN sec (BG sec)),tblA n,A])\/(¬Iv sec/\v=.tuple #[.agg #[I 0,I 0,.slice none 0 0,u32 0],.bool false]/\Γ=[tblA n,A])):=by
 intro z R w H;replace H:=H.l2;have a0:=H.sy 1 (λq=>(k _ q).len);have a3:=H.sy 1 (λq=>(k _ q).cap);obtain ⟨c0,c1,c2,c3,hd⟩:=N6 a0;obtain ⟨m,hm,b⟩:=Abh (sec:=sec);refine Ae func192 Z ntmps192 Z (Zc 2 Z (AR Z (Cb (P:=prog) H Z (zs:=[I 0,I 0,.slice none 0 0,u32 0]) J) ?_));rintro _ w ⟨b1,rfl,H⟩;replace H:=H.l3;refine Zc 7 Z (Aq Z (call187 _) (LR sec k) H.f2.f2 ?_);rintro _ w _ (⟨hs,rfl,rfl⟩|⟨hs,rfl,rfl⟩) f
 ·have H:=f.l3;refine Za 3 [] H Z ?_;intro x w H;refine Z4 16 [0] H Z ?_;intro w H;refine z_E_ Z (call165 _) (Cz 8 e (g+4) 248 (r-4) ((sec.drop 4).take 248) (λh q=>(k h q).cut (lo:=4) (m:=248) (c':=(r-4)) U U U) U U ((sec.drop 4).take 8) (by rw[AeD,AeE U]) (g+12) 240 (r-12) U U U) H.f2.f1 ?_;intro w H;replace H:=H.l4;refine z_E_ Z (call165 _) (Cz 8 e (g+12) 240 (r-12) ((sec.drop 12).take 240) (λh q=>(k h q).cut (lo:=12) (m:=240) (c':=(r-12)) U U U) U U ((sec.drop 12).take 8) (by rw[AeD,AeE U]) (g+20) 232 (r-20) U U U) H ?_;intro w H;replace H:=H.l4;refine z_E_ Z (call165 _) (Cz 4 e (g+20) 232 (r-20) ((sec.drop 20).take 232) (λh q=>(k h q).cut (lo:=20) (m:=232) (c':=(r-20)) U U U) U U ((sec.drop 20).take 4) (by rw[AeD,AeE U]) (g+24) 228 (r-24) U U U) H ?_;intro w H;replace H:=H.l4;refine Ab Z (SA Z J Z) (Ab Z (Bc Z Z (out:=[I (AX ((sec.drop 4).take 8)),I (AX ((sec.drop 12).take 8)),.slice none 0 0,u32 (Ft (AX ((sec.drop 20).take 4)))]) J) (AR Z (Cb (P:=prog) H Z (zs:=[I 0,I 0,.slice none 0 0,u32 0]) J) ?_))
  rintro _ w ⟨y,rfl,H⟩;replace H:=H.l5;refine Z4 5 [0] H Z ?_;intro w H;refine z_E_ Z (call165 _) (Cz 2 e (g+24) 228 (r-24) ((sec.drop 24).take 228) (λh q=>(k h q).cut (lo:=24) (m:=228) (c':=(r-24)) U U U) U U ((sec.drop 24).take 2) (by rw[AeD,AeE U]) (g+26) 226 (r-26) U U U) H.f2.f2 ?_;intro w H;refine Z2 8 [0,2,0] H Z (z_E_ Z (call99 _) (CX) H ?_);intro w H;replace H:=H.l5;refine Ab Z (AF Z Z) (Zc 1 Z (Al 30 Z (λh1=>?_) (λh1=>?_)))
  ·refine Zc 18 Z (Ab Z (Bc Z Z (out:=[I 0,I 0,.slice none 0 0,u32 0]) J) (Z4 5 [4] H Z ?_));intro w H;refine Zl [4,4] H Z ?_;exact ⟨_,.inr ⟨by first|exact λq=>hs q.1|(rintro ⟨o,t,p,s,c,a⟩;first|(exfalso;omega)|exact absurd (c i U) ‹_› |(rw[b] at a;exact absurd a ‹_›)),rfl,rfl⟩,H.perm 5 [3,1] rfl rfl⟩
  refine Z2 2 [1,2,0] H Z (z_E_ Z (call99 _) (CX) H ?_);intro w H;replace H:=H.l5;refine Ab Z (AF Z Z) (Zc 2 Z (Al 36 Z (λh2=>?_) (λh2=>?_)))
  ·refine Zc 12 Z (Ab Z (Bc Z Z (out:=[I 0,I 0,.slice none 0 0,u32 0]) J) (Z4 5 [4] H Z ?_));intro w H;refine Zl [4,4] H Z ?_;exact ⟨_,.inr ⟨by first|exact λq=>hs q.1|(rintro ⟨o,t,p,s,c,a⟩;first|(exfalso;omega)|exact absurd (c i U) ‹_› |(rw[b] at a;exact absurd a ‹_›)),rfl,rfl⟩,H.perm 5 [3,1] rfl rfl⟩
  refine Z0 4 [0] Z (Al 40 Z (λh3=>?_) (λh3=>?_))
  ·refine Zc 8 Z (Ab Z (Bc Z Z (out:=[I 0,I 0,.slice none 0 0,u32 0]) J) (Z4 5 [4] H Z ?_));intro w H;refine Zl [4,4] H Z ?_;exact ⟨_,.inr ⟨by first|exact λq=>hs q.1|(rintro ⟨o,t,p,s,c,a⟩;first|(exfalso;omega)|exact absurd (c i U) ‹_› |(rw[b] at a;exact absurd a ‹_›)),rfl,rfl⟩,H.perm 5 [3,1] rfl rfl⟩
  refine Z0 5 [0] Z (Af Z (λh4=>?_) (λh4=>?_))
  ·refine Zc 2 Z (Ab Z (Bc Z Z (out:=[I 0,I 0,.slice none 0 0,u32 0]) J) (Z4 5 [4] H Z ?_));intro w H;refine Zl [4,4] H Z ?_;exact ⟨_,.inr ⟨by first|exact λq=>hs q.1|(rintro ⟨o,t,p,s,c,a⟩;first|(exfalso;omega)|exact absurd (c i U) ‹_› |(rw[b] at a;exact absurd a ‹_›)),rfl,rfl⟩,H.perm 5 [3,1] rfl rfl⟩
  refine Zc 4 Z (AD 9 (v:=I (m:Int)) Z (congrArg I hm) ?_);replace H:=(H.nilg 3 1).l6;refine Zc 6 Z ?_;refine AB (σ:=Nat×Value) (λ⟨i,v⟩=>[(46,I (i:Int)),(4,Y b1),(6,Y x),(8,Y y),(45,I (m:Int))])
    (λ⟨i,v⟩ w=>Sep z (grow 3 1 v i (hN sec i)::blk x [.slice (some ⟨e,(g+(26+4*i)),none⟩) (252-(26+4*i)) (r-(26+4*i))] 258::A::blk y [I (AX ((sec.drop 4).take 8)),I (AX ((sec.drop 12).take 8)),v,u32 (Ft (AX ((sec.drop 20).take 4)))] 287::tblA n::blk b1 [I 0,I 0,.slice none 0 0,u32 0] 287::R) w/\(i<=m/\∀j,j<i->0<=Et sec j/\Et sec j<=1023)) (λ⟨i,v⟩=>m-i) ⟨0,.slice none 0 0⟩
    fr_z ⟨H,by omega,λj h=>by omega⟩ ?_
  clear H;rintro ⟨i,v⟩ w ⟨f,hI⟩;dsimp only at hI f ⊢;have H:=f.l6;have sv:=H.sy 0 (·.slc);obtain ⟨a2,l⟩:=hI;refine Z0 6 [0] Z (Af Z (λh5=>?_) (λh5=>?_))
  ·have a4:i<m:=by omega
   refine Zc 6 Z (z_E_ Z (call165 _) (Cz 4 e (g+(26+4*i)) (252-(26+4*i)) (r-(26+4*i)) ((sec.drop (26+4*i)).take (252-(26+4*i))) (λh q=>(k h q).cut (lo:=(26+4*i)) (m:=(252-(26+4*i))) (c':=(r-(26+4*i))) U U U) U U ((sec.drop (26+4*i)).take 4) (by rw[AeD,AeE U]) (g+(26+4*(i+1))) (252-(26+4*(i+1))) (r-(26+4*(i+1))) U U U) H.f2.f2 ?_);intro w H;refine Zc 7 Z (z_E_ Z (call99 _) (CX) H ?_);intro w H;replace H:=H.l6;refine Ab Z (AF Z Z) (Zc 2 Z (Af Z (λh6=>?_) (λh6=>?_)))
   ·refine Zc 2 Z (Ab Z (Bc Z Z (out:=[I 0,I 0,.slice none 0 0,u32 0]) J) (Z4 5 [5] H Z ?_));intro w H;refine Zl [5,4] H Z ?_;exact ⟨_,.inr ⟨by first|exact λq=>hs q.1|(rintro ⟨o,t,p,s,c,a⟩;first|(exfalso;omega)|exact absurd (c i U) ‹_› |(rw[b] at a;exact absurd a ‹_›)),rfl,rfl⟩,H.perm 6 [4,1] rfl rfl⟩
   refine Z2 6 [2,3,0] H Z (AR Z (AP H Z J BA Z (by decide) (by decide) (out:=[I (Et sec i)]) J) ?_);rintro _ w ⟨b4,rfl,H⟩;replace H:=H.l7;refine AR Z (A0 3 H Z Z J BA Z Z (H.rv 0 (·.rd U U O Z)) (by simp[Value.oneCell']) U) ?_;rintro v5 w f;have f:Sep z (blk b4 [I (Et sec i)] 3::blk x [.slice (some ⟨e,(g+(26+4*(i+1))),none⟩) (252-(26+4*(i+1))) (r-(26+4*(i+1)))] 258::A::grow 3 1 v5 (i+1) (hN sec i++[I (Et sec i)])::blk y [I (AX ((sec.drop 4).take 8)),I (AX ((sec.drop 12).take 8)),v,u32 (Ft (AX ((sec.drop 20).take 4)))] 287::tblA n::blk b1 [I 0,I 0,.slice none 0 0,u32 0] 287::R) w:=f;have a1:(hN sec i++[I (Et sec i)]:List Value)=hN sec (i+1):=Yi sec i;rw[a1] at f;have H:=f.l7;have u:=H.sy 3 (·.slc);refine Z0 1 [2] Z (Az Z Z (JT 4 H Z Z Z Z u.cells u.one J) ?_);rintro w H;replace H:=H.l7;refine Z1 7 [] [(i:Int)+1] Z U ?_;replace H:=H.d.f5.f5.f5.f4.f4.f5;refine gf ?_;intro _ hF;refine ⟨⟨i+1,v5⟩,hF.cz,⟨H,?_⟩,?_⟩
   ·refine ⟨by omega,λj h=>?_⟩;rcases Aeq j i with q|q
    ·exact l j q
    obtain rfl:j=i:=by omega
    unfold Et;omega
   omega
  obtain rfl:i=m:=by omega
  refine Zc 2 Z (gx (Zc 5 Z (z_E_ Z (call166 _) (KT e (g+(26+4*i)) (252-(26+4*i)) (r-(26+4*i)) ((sec.drop (26+4*i)).take (252-(26+4*i))) (λh q=>(k h q).cut (lo:=(26+4*i)) (m:=(252-(26+4*i))) (c':=(r-(26+4*i))) U U U) U) H.f2.f2 ?_)));intro w H;replace H:=H.l6;refine Ab Z (AF Z Z) (Zc 2 Z (Af Z (λh7=>?_) (λh7=>?_)))
  ·refine Zc 2 Z (Ab Z (Bc Z Z (out:=[I 0,I 0,.slice none 0 0,u32 0]) J) (Z4 5 [5] H Z ?_));intro w H;refine Zl [5,4] H Z ?_;exact ⟨_,.inr ⟨by first|exact λq=>hs q.1|(rintro ⟨o,t,p,s,c,a⟩;first|(exfalso;omega)|exact absurd (c i U) ‹_› |(rw[b] at a;exact absurd a ‹_›)),rfl,rfl⟩,H.perm 6 [4,1] rfl rfl⟩
  refine Z2 5 [3,4] H Z (Az Z Z (Ak 5 H Z Z Z Z (vs:=[I (AX ((sec.drop 4).take 8)),I (AX ((sec.drop 12).take 8)),v,u32 (Ft (AX ((sec.drop 20).take 4)))]) Z (Ad Z (Ad Z (Ad sv.one (Ad Z Aw)))) J O (out:=[I (AX ((sec.drop 4).take 8)),I (AX ((sec.drop 12).take 8)),v,u32 (Ft (AX ((sec.drop 20).take 4)))]) Z) ?_);rintro w H;replace H:=H.l6;refine Zc 4 Z (Zl [5,4] H Z ?_);subst b;exact ⟨_,.inl ⟨⟨hs,by omega,by omega,by omega,l,by omega⟩,v,Z,Z⟩,H.perm 6 [2,4,1] Z Z⟩
 have H:=f.l3;refine Za 3 [] H Z ?_;intro b6 w H;refine Z4 14 [0] H Z ?_;intro w H;refine Ab Z (Bc Z Z (out:=[I 0,I 0,.slice none 0 0,u32 0]) J) (Z4 5 [3] H Z ?_);intro w H;refine Zl [3,4] H Z ?_;exact ⟨_,.inr ⟨by first|exact λq=>hs q.1|(rintro ⟨o,t,p,s,c,a⟩;first|(exfalso;omega)|exact absurd (c i U) ‹_› |(rw[b] at a;exact absurd a ‹_›)),rfl,rfl⟩,H.perm 4 [1,2] rfl rfl⟩
theorem RG(sec:List UInt8)(b:∀h,A h->rdH 1 (.slice (some ⟨i,j,none⟩) 256 e) 256 (sec.map u8) h):Cn prog 194 [Y n,.slice (some ⟨i,j,none⟩) 256 e] [tblA n,A] (λv Γ=>(IS sec/\∃g a rest,v=.tuple #[I (AX ((sec.drop 3).take 4)),I (AX ((sec.drop 7).take 5)),.agg #[I (AX ((sec.drop 1).take 2)),I (AX (sec.take 1)),.slice (some ⟨g,0,none⟩) 240 a],.bool true]/\(240<=a/\a<=9223372036854775807/\rest.length=a-240)/\Γ=[blk g (((sec.drop 12).take 240).map u8++rest) 5,tblA n,A])\/(¬IS sec/\v=.tuple #[I 0,I 0,.agg #[I 0,I 0,.slice none 0 0],.bool false]/\Γ=[tblA n,A])):=by
 intro z R w H;replace H:=H.l2;have f:=H.sy 1 (λq=>(b _ q).len);have t:=H.sy 1 (λq=>(b _ q).cap);obtain ⟨r,c1,c2,y,d⟩:=N6 f;refine Ae func194 Z ntmps194 Z (Za 4 [] H Z ?_);intro b1 w H;refine Zc 5 Z (Bv (Sep z _) J J H.drew (GF 9 [4] [] Z J (AL Z Z Z (BL Z (z:=1) (p:=252) (q:=256) (o':=j+252) (l':=4) (c':=e-252) J Z (.inr ⟨_,_,_,Z,Z,Z⟩) (.inl ⟨Z,Z⟩) U U U U U U) (AL Z Z Z (Ms (m:=4) Z J Z U) (AL Z Z Z (BU Z Z (vs:=[u8 r,u8 c1,u8 c2,u8 y]) J (λ_ s=>s.cell4 2 Z b d)) (B0 2 [] Z J (AL Z Z Z (BL Z (z:=1) (p:=0) (q:=252) (o':=j) (l':=252) (c':=e) J Z (.inl ⟨Z,Z⟩) (.inr ⟨_,_,_,Z,Z,Z⟩) U U U U U U) (Dm Z Z Z Z Z (λw=>call224 _ w) (v:=.agg #[u8 ((Ba (sec.take 252)).toUInt8),u8 (((Ba (sec.take 252))>>>8).toUInt8),u8 (((Ba (sec.take 252))>>>16).toUInt8),u8 (((Ba (sec.take 252))>>>24).toUInt8)]) (cq (Ol (sec.take 252) (by simp[f]) (λh q=>(b h q).pre U U)) (by rintro _ _ ⟨rfl,rfl⟩;exact ⟨Z,Z⟩) 3 [1,2,0] [2,0,1] Z Z Z Z) (AL Z Z Z (PY Z J J Z Z) (B0 1 [] Z J (BI (λw H'=>?_))))))))))));have H:=H'.l3;refine gn (Zc 1 Z (Af Z (λo=>?_) (λo=>?_)))
 ·refine Z4 10 [0] H Z ?_;intro w H;refine Zl [0,3] H Z ?_;exact ⟨_,.inr ⟨by rintro ⟨c,k,l⟩;first|exact absurd (d▸c) ‹_› |(exfalso;omega),rfl,rfl⟩,H.perm 3 [1,2] rfl rfl⟩
 refine Zc 5 Z (Ab Z (BL Z (z:=1) (p:=0) (q:=252) (o':=j) (l':=252) (c':=e) J Z (.inl ⟨Z,Z⟩) (.inr ⟨_,_,_,Z,Z,Z⟩) U U U U U U) (Za 1 [] H Z ?_));intro b2 w H;refine Z4 5 [0] H Z ?_;intro w H;refine z_E_ Z (call165 _) (Cz 1 i j 252 e (sec.take 252) (λh q=>(b h q).pre (m:=252) (c':=e) U U) U U (sec.take 1) (by rw[AeD,AeE U]) (j+1) 251 (e-1) U U U) H.f3.f1 ?_;intro w H;replace H:=H.l4;refine z_E_ Z (call165 _) (Cz 2 i (j+1) 251 (e-1) ((sec.drop 1).take 251) (λh q=>(b h q).cut (lo:=1) (m:=251) (c':=(e-1)) U U U) U U ((sec.drop 1).take 2) (by rw[AeD,AeE U]) (j+3) 249 (e-3) U U U) H ?_;intro w H;replace H:=H.l4;refine z_E_ Z (call165 _) (Cz 4 i (j+3) 249 (e-3) ((sec.drop 3).take 249) (λh q=>(b h q).cut (lo:=3) (m:=249) (c':=(e-3)) U U U) U U ((sec.drop 3).take 4) (by rw[AeD,AeE U]) (j+7) 245 (e-7) U U U) H ?_;intro w H;replace H:=H.l4;refine z_E_ Z (call165 _) (Cz 5 i (j+7) 245 (e-7) ((sec.drop 7).take 245) (λh q=>(b h q).cut (lo:=7) (m:=245) (c':=(e-7)) U U U) U U ((sec.drop 7).take 5) (by rw[AeD,AeE U]) (j+12) 240 (e-12) U U U) H ?_;intro w H;refine Z0 12 [0] Z (Al 41 Z (λx=>?_) (λx=>?_))
 ·refine Z4 21 [2] H Z ?_;intro w H;refine Zl [2,3] H Z ?_;exact ⟨_,.inr ⟨by rintro ⟨c,k,l⟩;first|exact absurd (d▸c) ‹_› |(exfalso;omega),rfl,rfl⟩,H.perm 4 [3,1] rfl rfl⟩
 refine Z0 4 [0] Z (Al 45 Z (λh3=>?_) (λh3=>?_))
 ·refine Z4 17 [2] H Z ?_;intro w H;refine Zl [2,3] H Z ?_;exact ⟨_,.inr ⟨by rintro ⟨c,k,l⟩;first|exact absurd (d▸c) ‹_› |(exfalso;omega),rfl,rfl⟩,H.perm 4 [3,1] rfl rfl⟩
 refine Zc 1 Z (z_E_ Z (call99 _) (CX) H ?_);intro w H;replace H:=H.l4;refine Ab Z (AF Z Z) (Zc 3 Z (Af Z (λu=>?_) (λu=>?_)))
 ·refine Z4 10 [2] H Z ?_;intro w H;refine Zl [2,3] H Z ?_;exact ⟨_,.inr ⟨by rintro ⟨c,k,l⟩;first|exact absurd (d▸c) ‹_› |(exfalso;omega),rfl,rfl⟩,H.perm 4 [3,1] rfl rfl⟩
 refine Z2 10 [0,0,0] H Z (Aq Z (call151 _) (Jq 240 ((sec.drop 12).take 240) ((λh q=>(b h q).cut (lo:=12) (m:=240) (c':=(e-12)) U U U)) U) H.f1 ?_);rintro _ w _ ⟨g,a,rest,rfl,⟨cg,cc,cl⟩,rfl⟩ H;refine Z4 9 [3] H Z ?_;intro w H;refine Zl [3,3] H Z ?_;exact ⟨_,.inl ⟨⟨by rw[d];exact AgJ ‹_›,by omega,by omega⟩,g,a,rest,Z,⟨cg,cc,cl⟩,Z⟩,H.perm 5 [0,4,1] Z Z⟩
theorem HJ(s:Sup)(hn:0<=t/\t<=1152921504606846976):Cn prog 89 [.agg #[I s.gen,I s.epoch,I s.pages,I s.start,I s.len,I s.head,I s.seq],I t] [] (λv Γ=>v=I (if s.Ok t then 0 else 1)/\Γ=[]):=by
 intro z R w H;refine Ae func89 Z ntmps89 Z (Za 2 [] H Z ?_);intro u w H;refine Z2 20 [0,0,0,1,0,0,2,0,0,3,0,0,4,0,0,5,0,0,6,0,0] H Z (Ab Z (Bc Z Z (out:=[I s.gen,I s.epoch,I s.pages,I s.start,I s.len,I s.head,I s.seq]) J) (Zc 4 Z ?_));refine AB (σ:=Nat) (λk=>[(22,I (k:Int)),(1,I t),(2,Y u),(21,.agg #[I s.gen,I s.epoch,I s.pages,I s.start,I s.len,I s.head,I s.seq])])
   (λk w=>Sep z (blk u [I s.gen,I s.epoch,I s.pages,I s.start,I s.len,I s.head,I s.seq] 132::R) w/\(k<=7/\∀(j:Nat) (x:Int),j<k->s.list[j]?=some x->0<=x/\x<=1099511627776)) (λk=>7-k) 0
   fr_z ⟨H,by omega,λj x h=>by omega⟩ ?_
 clear H;rintro k w ⟨H',hI⟩;have H:=H'.l1;obtain ⟨a0,b⟩:=hI;refine Z0 6 [0] Z (Af Z (λh1=>?_) (λh1=>?_))
 ·refine Zc 6 Z ?_;obtain ⟨x,c⟩:∃x,s.list[k]?=some x:=⟨_,Aed (by simp[Sup.list];omega)⟩;refine Ab Z (Nz Z J Z (l:=s.list) (j:=k) Z Z Z Z c) (Z0 8 [0] Z (Al 27 Z (λh2=>?_) (λh2=>?_)))
  ·refine Zc 12 Z (Zr Z ?_);have a:¬s.Ok t:=λ⟨q,f,d,e,n,m,g,i⟩=>by
     first |omega|(have:=q x (Aec c);omega)
   exact ⟨_,⟨congrArg I (by rw[if_neg a]),rfl⟩,H.perm 1 [] rfl rfl⟩
  refine Z0 5 [0] Z (Af Z (λh3=>?_) (λh3=>?_))
  ·refine Zc 6 Z (Zr Z ?_);have a:¬s.Ok t:=λ⟨q,f,d,e,n,m,g,i⟩=>by
     first |omega|(have:=q x (Aec c);omega)
   exact ⟨_,⟨congrArg I (by rw[if_neg a]),rfl⟩,H.perm 1 [] rfl rfl⟩
  refine Z1 7 [] [(k:Int)+1] Z U (gf ?_);intro _ hF;refine ⟨(k+1),hF.cz,⟨H,?_⟩,?_⟩
  ·refine ⟨by omega,λj y r o=>?_⟩;rcases Aeq j k with h|h
   ·exact b j y h o
   obtain rfl:j=k:=by omega
   rw[c] at o;cases o;omega
  omega
 obtain rfl:k=7:=by omega
 have hp:=b 2 s.pages U Z;have hl:=b 4 s.len U Z;refine Zc 2 Z (gx (Z2 9 [2,0,0,0] H Z (Al 35 Z (λh4=>?_) (λh4=>?_))))
 ·refine Zc 48 Z (Zr Z ?_);have a:¬s.Ok t:=λ⟨q,f,d,e,n,m,g,i⟩=>by
    first |omega|(have:=q x (Aec c);omega)
  exact ⟨_,⟨congrArg I (by rw[if_neg a]),rfl⟩,H.perm 1 [] rfl rfl⟩
 refine Z2 5 [2,0,0,0] H Z (Al 40 Z (λh5=>?_) (λh5=>?_))
 ·refine Zc 43 Z (Zr Z ?_);have a:¬s.Ok t:=λ⟨q,f,d,e,n,m,g,i⟩=>by
    first |omega|(have:=q x (Aec c);omega)
  exact ⟨_,⟨congrArg I (by rw[if_neg a]),rfl⟩,H.perm 1 [] rfl rfl⟩
 refine Z3 8 [3,0,0,2,0,0,0] [2+s.pages] H Z U (Al 48 Z (λh6=>?_) (λh6=>?_))
 ·refine Zc 35 Z (Zr Z ?_);have a:¬s.Ok t:=λ⟨q,f,d,e,n,m,g,i⟩=>by
    first |omega|(have:=q x (Aec c);omega)
  exact ⟨_,⟨congrArg I (by rw[if_neg a]),rfl⟩,H.perm 1 [] rfl rfl⟩
 refine Z2 5 [4,0,0,0] H Z (Al 53 Z (λh7=>?_) (λh7=>?_))
 ·refine Zc 30 Z (Zr Z ?_);have a:¬s.Ok t:=λ⟨q,f,d,e,n,m,g,i⟩=>by
    first |omega|(have:=q x (Aec c);omega)
  exact ⟨_,⟨congrArg I (by rw[if_neg a]),rfl⟩,H.perm 1 [] rfl rfl⟩
 refine Z3 9 [3,0,0,4,0,0,0] [t-s.len] H Z U (Al 62 Z (λh8=>?_) (λh8=>?_))
 ·refine Zc 21 Z (Zr Z ?_);have a:¬s.Ok t:=λ⟨q,f,d,e,n,m,g,i⟩=>by
    first |omega|(have:=q x (Aec c);omega)
  exact ⟨_,⟨congrArg I (by rw[if_neg a]),rfl⟩,H.perm 1 [] rfl rfl⟩
 refine Z2 6 [4,0,0,0] H Z (Al 68 Z (λh9=>?_) (λh9=>?_))
 ·refine Zc 15 Z (Zr Z ?_);have a:¬s.Ok t:=λ⟨q,f,d,e,n,m,g,i⟩=>by
    first |omega|(have:=q x (Aec c);omega)
  exact ⟨_,⟨congrArg I (by rw[if_neg a]),rfl⟩,H.perm 1 [] rfl rfl⟩
 refine Z2 8 [5,0,0,4,0,0,0] H Z (Af Z (λp=>?_) (λp=>?_))
 ·refine Zc 6 Z (Zr Z ?_);have a:¬s.Ok t:=λ⟨q,f,d,e,n,m,g,i⟩=>by
    first |omega|(have:=q x (Aec c);omega)
  exact ⟨_,⟨congrArg I (by rw[if_neg a]),rfl⟩,H.perm 1 [] rfl rfl⟩
 refine Zc 8 Z (Zr Z ?_);have a:s.Ok t:=⟨λx c=>by
   obtain ⟨j,r,rfl⟩:=Aga.1 c;exact b j _ (by simp[Sup.list] at r;omega) (Aed r)
   ,by omega,by omega,by omega,by omega,by omega,by omega,by omega⟩
 exact ⟨_,⟨congrArg I (by rw[if_pos a]),Z⟩,H.perm 1 [] Z Z⟩
theorem Tn{s:Sup}(e: -9223372036854775808<=s.len-q/\s.len-q<=9223372036854775807):Cn prog 127 [Y n] [lgB n m i s t p q b c] (λv Γ=>v=I (if b then 0 else s.len-q)/\Γ=[lgB n m i s t p q b c]):=by
 intro z R w H;refine Ae func127 Z ntmps127 Z (Z2 14 [12,0,0] H Z (Ep Z (λd=>?_) (λd=>?_)))
 ·refine Zc 6 Z (Zr Z ?_);exact ⟨_,⟨congrArg I (by simp_all),Z⟩,H⟩
 refine Zc 3 Z (Bv (Sep z _) J J H.drew (G4 11 [2,6,0,0,11,0,0] [s.len-q] Z J U (BI (λw a=>?_))));have H:=a.l1;refine gn (Zc 2 Z (Zr Z ?_));exact ⟨_,⟨congrArg I (by simp_all),Z⟩,H⟩
theorem To{s:Sup}:Cn prog 128 [Y n] [lgB n m i s t p q b c] (λv Γ=>v=.tuple #[I t,I p]/\Γ=[lgB n m i s t p q b c]):=by
 intro z R w H;refine Ae func128 Z ntmps128 Z (Zc 7 Z (Bv (Sep z _) J J H.drew (DZ 10 [9,0,10,0] (λ_ d=>(AO (d.blk 0 Z) AM)) Z J Z (BI (λw a=>?_)))));have H:=a.l1;refine gn (Zc 2 Z (Zr Z ?_));exact ⟨_,⟨Z,Z⟩,H⟩
theorem Tp{s:Sup}:Cn prog 129 [Y n] [lgB n m i s t p q b c] (λv Γ=>v=.tuple #[]/\Γ=[lgB n m i s t p 0 false c]):=by
 intro z R w H;refine Ae func129 Z ntmps129 Z (Z4 14 [11,0,12,0] H Z ?_);intro w H;refine Zf Z ?_;exact ⟨_,⟨Z,Z⟩,H⟩
theorem J9{s:Sup}{n:Int}(e:0<=t/\t<=1099511627776)(d:0<=n/\n<=1099511627776)(g:0<s.len)(hs:0<=p/\p<=2199023255552)(f:0<=q/\q<=2199023255552):Cn prog 156 [Y m,I n] [lgB m i j s t p q b c] (λv Γ=>v=.tuple #[]/\Γ=[lgB m i j s ((t+n)%s.len) (p+1) (q+n) b c]):=by
 intro z R w H;refine Ae func156 Z ntmps156 Z (Zc 1 Z (BH 15 J J (AZ H λw a=>?_)));have H:=a.l1;refine EQ 15 [9,0,0,2,6,0,0,9] [t+n,(t+n)%s.len] H Z J U (CF (gw (Z5 26 [0,10,0,0,10,0,11,0,0,11,0] [p+1,q+n] H Z U ?_)));intro w H;refine Zf Z ?_;exact ⟨_,⟨Z,Z⟩,H⟩
theorem Yt(pd bd m N:Nat)(f0 e f h lf:Int)(a:Bool)(b:Nat)(s:Sup)(hN:N<=1152921504606846976)(c:s.Ok ((N:Int)/256)):Cn prog 98 [Y pd,Y b,.agg #[I s.gen,I s.epoch,I s.pages,I s.start,I s.len,I s.head,I s.seq]] [blk pd [.slice (some ⟨bd,0,none⟩) N N,.map (some m),I f0,I e,I f,I h,.bool a,I lf] 98] (λv Γ=>(∃g,v=Y g/\Γ=[lgB g pd b s s.head s.seq 0 false (decide (s.epoch<4294967296)),blk pd [.slice (some ⟨bd,0,none⟩) N N,.map (some m),I f0,I e,I f,I h,.bool a,I lf] 98])):=by
 intro z R w H;refine Ae func98 Z ntmps98 Z (Za 2 [] H Z ?_);intro k w H;refine Zc 5 Z (Bv (Sep z _) J J H.drew (GF 9 [0,7] [] Z J (Dm Z Z Z Z Z (λw=>call90 _ w) (v:=I ((N:Int)/256)) (cq (KF _ _ _ _ _ _ _ _ _ _ U) (by rintro _ _ ⟨rfl,rfl⟩;exact ⟨Z,Z⟩) 2 [1,0] [1,0] Z Z Z Z) (Dm Z Z Z Z Z (λw=>call89 _ w) (v:=I (if s.Ok ((N:Int)/256) then 0 else 1)) (cq (HJ _ U) (by rintro _ _ ⟨rfl,rfl⟩;exact ⟨Z,Z⟩) 0 [] [] Z Z Z Z) (B0 2 [] Z J (BI (λw j=>?_)))))));have H:=j.l2;refine gn (Zc 1 Z (Af Z (λd=>?_) (λd=>?_)))
 ·exact absurd (if_pos c) d
 refine Z2 14 [0,7,5,0,0,6,0,0,1,0,0,0] H Z (Ab Z (Bc Z Z (out:=[Y pd,Y b,I s.gen,I s.epoch,I s.pages,I s.start,I s.len,I s.head,I s.seq,I s.head,I s.seq,I 0,.bool false,.bool (decide ((s.epoch:Int)<4294967296))]) J) (Za 0 [] H Z ?_));intro i w H;refine Zc 4 Z (Zr Z ?_);exact ⟨_,⟨i,Z,Z⟩,H.perm 3 [0,2] Z Z⟩
theorem Abo(k:Nat):Cn prog 18 [I (k:Int)] [] (λv Γ=>(¬(1<=k/\k<=4096)/\v=.tuple #[.pointer none,I 1]/\Γ=[])\/((1<=k/\k<=4096)/\∃pd,v=.tuple #[Y pd,I 0]/\Γ=[diskA pd (Ct k)])):=by
 intro z R w H;refine Ae func18 Z ntmps18 Z (Z0 12 [0] Z (Al 6 Z (λf=>?_) (λf=>?_)))
 ·refine Zc 13 Z (Zr Z ?_);exact ⟨_,.inl ⟨by omega,Z,Z⟩,H⟩
 refine Z0 5 [0] Z (Af Z (λg=>?_) (λg=>?_))
 ·refine Zc 7 Z (Zr Z ?_);exact ⟨_,.inl ⟨by omega,Z,Z⟩,H⟩
 refine Z1 6 [] [((k*256:Nat):Int)] Z U (AR Z (Em (k:=(k*256)) H Z J CK Z Z Z U) ?_);rintro _ w ⟨b,rfl,H⟩;refine AR Z (F6 H Z) ?_;rintro _ w ⟨a,rfl,H⟩;refine Ab Z (Bc Z Z (out:=[.slice (some ⟨b,0,none⟩) (k*256) (k*256),.map (some a),I 0,I 0,I 0,I 0,.bool false,I 0]) J) (Za 0 [] H Z ?_);intro d w H;refine Zc 5 Z (Zr Z ?_);replace H:=(RD H).l4;replace H:=(H.void (B:=seps (([]:List Ent).map Ent.row)) (λh=>⟨λ_=>0,λi A e=>by cases e⟩)).l5;have c:List.replicate (k*256) (u8 0)=(List.replicate (k*256) (0:UInt8)).map u8:=by simp
 rw[c] at H;have H:Sep z (seps (([]:List Ent).map Ent.row)::poolA (λ_=>none)::blk d [.slice (some ⟨b,0,none⟩) (k*256) (k*256),.map (some a),I 0,I 0,I 0,I 0,.bool false,I 0] 98::AH a (([]:List Ent).map Ent.ie) 0::blk b ((List.replicate (k*256) (0:UInt8)).map u8) 5::R) w:=H;replace H:=H.f1.f3.f4.f4;replace H:=(Sep.toDisk (D:=Ct k) (pd:=d) (bd:=b) (m:=a) (f0:=0) (bs:=(List.replicate (k*256) 0)) (es:=([]:List Ent)) (clk:=0) (hq:=(λ_=>none)) (Γ:=R) H (Yj U) Yk).l1;exact ⟨_,.inr ⟨by omega,d,Z,Z⟩,H⟩
theorem Ql{s:Sup}{us:Int}{x:Int}(f:D.f1=0)(hr:0<=s.start/\0<s.len/\s.start+s.len<=D.n)(hx:0<=x/\x<=1152921504606846976)(sec:List UInt8)(d:D.cont (ringAt s x)=sec):Cn prog 191 [Y m,I x] [lgB m i j s t p us b c,diskA i D] (λv Γ=>(∃g a rest,v=.tuple #[.slice (some ⟨g,0,none⟩) 256 a,I 0]/\(256<=a/\a<=9223372036854775807/\rest.length=a-256)/\Γ=[blk g (sec.map u8++rest) 5,lgB m i j s t p us b c,diskA i D])):=by
 intro z R w H;have h:=H.sy 1 (λq=>(diskA.ok q).n2);have l:=Agk x (by omega:s.len≠0);have k:=Af4 x (by omega:0<s.len);refine Ae func191 Z ntmps191 Z (Zc 7 Z (AN (Sep z (lgB m i j s t p us b c::diskA i D::R)) 22 Z J (AZ H λw e=>?_)));have H:=e.l2;refine HD [0,1,2,3,4,5,6,7,8,9,10,11,12,13,14,15,16] [0,0,0,2,5,0,0,2,6,0,0] [x%s.len,s.start+(x%s.len)] H Z J U Z (AC [17] J O (Am (Bo Z Z Z Z Z Z (λw=>call143 _ w) (IW) H.f1 Z ?_)));rintro _ w _ (⟨o,rfl,rfl⟩|⟨_,y,_⟩|⟨_,_,g,a,rest,rfl,⟨u,cc,r⟩,rfl⟩) e
 ·exact absurd ⟨by omega,by omega⟩ o
 ·exact absurd y U
 rw[diskA.f1 f] at e;have H:=e.l3;refine Av (H.pick 3 [2,1] Z) (AT [18,19,20,21] [] [] (by exact H.pick 3 [2,1] Z) Z J Z (a_done J (gn (Zc 2 Z (Zr Z ?_)))));subst d;exact ⟨_,⟨g,a,rest,Z,⟨u,cc,r⟩,Z⟩,H.perm 3 [0,2,1] Z Z⟩
theorem Yu{a:UInt32}(n:Nat)(bs:List UInt8)(b:bs.length=n)(c:∀h,A h->rdH 1 v n (bs.map u8) h):Cn prog 193 [Y m,u32 a,v] [tblA m,A] (λv Γ=>v=u32 (ED a bs)/\Γ=[tblA m,A]):=by
 subst b;exact Tk m a v bs A c
set_option maxHeartbeats 1000000 in
theorem Abp {pd pt:Nat} {s:Sup} {us:Int} (d1:D.f1=0) (hr:0<=s.start/\0<s.len/\s.start+s.len<=D.n) (ha:0<=t/\t<=1099511627776) (hu:0<=us/\us<=1099511627776) (g4:s.len<=4096) (F:Nat->List UInt8) (hF:∀j:Nat,F j=D.cont (ringAt s (t+j))):Cn prog 155 [Y m] [lgB m pd pt s t p us b c,tblA pt,diskA pd D] (λv Γ=>((∀ims,¬nextP F s.epoch p (s.len-us) ims)/\v=.tuple #[.agg #[I 0,.slice none 0 0],I 0]/\Γ=[lgB m pd pt s t p us b c,tblA pt,diskA pd D])\/(∃ims v' hq,nextP F s.epoch p (s.len-us) ims/\v=.tuple #[.agg #[I p,v'],I 0]/\imgsH v' ims hq/\Γ=[poolA hq,lgB m pd pt s t p us b c,tblA pt,diskA pd D])):=by
 intro z R w H;replace H:=H.l3;have a2:∀j:Nat,(F j).length=256:=λj=>by
   rw[hF];refine Dsk.cont_len (H.sy 2 (λq=>diskA.ok q)) ?_;have g8:=Af4 (t+j) (by omega:0<s.len);unfold ringAt;omega
 replace H:=(RD H).l4;refine Ae func155 Z ntmps155 Z (Za 2 [] H Z ?_);intro b1 w H;refine Za 6 [] H Z ?_;intro b2 w H;refine Z4 10 [0,9,3,0] H Z ?_;intro w H;refine Aq Z (call191 _) (Ql d1 hr U (F 0) (by rw[hF];simp)) H.f5.f4 ?_;rintro _ w _ ⟨g,c3,rest,rfl,⟨cg,cc,cl⟩,rfl⟩ H;replace H:=H.l7;replace H:=H.f5;obtain ⟨e6,⟨f3,c1⟩,H⟩:=DV H (λh q=>EF q (a2 _) ⟨cg,cc,cl⟩);replace H:=H.l6;refine Z2 24 [4,1,1,0] H Z (Aq Z (call192 _) (Tm (F 0) (λh q=>c1.le q)) H.f5 ?_);rintro _ w _ (⟨hh,v1,rfl,rfl⟩|⟨hh,rfl,rfl⟩) a
 ·have H:=a.l7
  refine Zc 1 Z ?_;obtain ⟨a6,a3,rfl⟩:=H.sy 0 (·.slc);have H:Sep z (grow 3 1 (.slice a6 (BG (F 0)) a3) (BG (F 0)) (hN (F 0) (BG (F 0)))::tblA pt::poolA e6::lgB m pd pt s t p us b c::diskA pd D::blk b2 [I 0,.slice none 0 0] 159::blk b1 [I 0,.slice none 0 0] 159::R) w:=H;replace H:=H.f2;obtain ⟨c6,⟨f9,e4⟩,H⟩:=DV H (λh q=>q.rd);replace H:=H.l6;have g0:=hh.2.2.2.1;refine Zc 2 Z (AR Z (Cb (P:=prog) H Z (zs:=[I 0,I 0,.slice none 0 0,u32 0]) J) ?_);rintro _ w ⟨b3,rfl,H⟩;replace H:=H.l7;refine Z4 6 [0] H Z ?_;intro w H;refine Bv (Sep z _) J J H.drew (DZ 13 [0,0,2,3,1] (λ_ hx=>(AO (hx.blk 0 Z) (AO (hx.blk 3 Z) AM))) Z J Z (Cd 56 Z (λh1=>?_) (λh1=>?_)))
  ·refine B0 25 [] Z J (BI (λw a=>?_));have H:=a.l7;refine gn (Z4 10 [5,2,6] H Z ?_);intro w H;refine Zl [6,2] H Z ?_;exact ⟨_,.inl ⟨λims=>by rintro ⟨q1,q2,q3,q4,q5,l,q7⟩;first|exact hh q1|(exfalso;simp only[Cp,Cq] at q2 q3;omega)|exact absurd (l i U).1 hi|(have q8:=l i U;simp only[Fx,Fy,Cm,Cp,Cq] at *;exfalso;omega)|exact absurd (show Ba (Ea F (BG (F 0)))=DK (F 0) from q7) ‹_›,rfl,rfl⟩,H.perm 7 [3,2,4] rfl rfl⟩
  refine DZ 9 [1,0,10,1] (λ_ hx=>(AO (hx.blk 0 Z) (AO (hx.blk 3 Z) AM))) Z J Z (Cd 65 Z (λh2=>?_) (λh2=>?_))
  ·refine B0 16 [] Z J (BI (λw a=>?_));have H:=a.l7;refine gn (Z4 10 [5,2,6] H Z ?_);intro w H;refine Zl [6,2] H Z ?_;exact ⟨_,.inl ⟨λims=>by rintro ⟨q1,q2,q3,q4,q5,l,q7⟩;first|exact hh q1|(exfalso;simp only[Cp,Cq] at q2 q3;omega)|exact absurd (l i U).1 hi|(have q8:=l i U;simp only[Fx,Fy,Cm,Cp,Cq] at *;exfalso;omega)|exact absurd (show Ba (Ea F (BG (F 0)))=DK (F 0) from q7) ‹_›,rfl,rfl⟩,H.perm 7 [3,2,4] rfl rfl⟩
  refine G4 16 [2,0,0,2,6,3,0,11,3,0,0] [1+((BG (F 0):Nat):Int),s.len-us] Z J U (BI (λw a=>?_));have H:=a.l7;refine gn (Zc 1 Z (Af Z (λh3=>?_) (λh3=>?_)))
  ·refine Z4 8 [5,2,6] H Z ?_;intro w H;refine Zl [6,2] H Z ?_;exact ⟨_,.inl ⟨λims=>by rintro ⟨q1,q2,q3,q4,q5,l,q7⟩;first|exact hh q1|(exfalso;simp only[Cp,Cq] at q2 q3;omega)|exact absurd (l i U).1 hi|(have q8:=l i U;simp only[Fx,Fy,Cm,Cp,Cq] at *;exfalso;omega)|exact absurd (show Ba (Ea F (BG (F 0)))=DK (F 0) from q7) ‹_›,rfl,rfl⟩,H.perm 7 [3,2,4] rfl rfl⟩
  refine Zc 14 Z ?_;replace H:=(H.nilg 46 1).l8;refine Z2 8 [2,1,0] H Z ?_;refine AB (σ:=Nat×Value×List Value×Hp) (λ⟨i,v,a0,hq⟩=>[(86,I (i:Int)),(9,u32 (Ba (Ea F i))),(10,v),(0,Y m),(2,Y b1),(4,Y b2),(7,Y b3),(85,I ((BG (F 0):Nat):Int))])
    (λ⟨i,v,a0,hq⟩ w=>Sep z (grow 46 1 v i a0::blk b3 [I (Cp (F 0)),I (Cq (F 0)),.slice a6 (BG (F 0)) a3,u32 (DK (F 0))] 287::poolA hq::tblA pt::lgB m pd pt s t p us b c::diskA pd D::blk b2 [I 0,.slice none 0 0] 159::blk b1 [I 0,.slice none 0 0] 159::R) w/\(i<=BG (F 0)/\a0.length=i/\CJ c6 hq/\∀(j:Nat) (pv:Value),a0[j]?=some pv->rdH 1 pv 256 ((F (1+j)).map u8) hq)) (λ⟨i,v,a0,hq⟩=>BG (F 0)-i) ⟨0,.slice none 0 0,[],c6⟩
    (λ_ hF=>(hF.co Z (by go_num) (hF.co Z (AdM F) hF.cz))) ⟨H,by omega,Z,λk o e=>e,λj pv h=>by simp at h⟩ ?_
  clear H;rintro ⟨i,v,a0,hq⟩ w ⟨a,hI⟩;dsimp only at hI a ⊢;have H:=a.l8;have sv:=H.sy 0 (·.slc);obtain ⟨e8,c7,a8,b5⟩:=hI;refine Z0 6 [0] Z (Af Z (λh4=>?_) (λh4=>?_))
  ·have e9:i<BG (F 0):=by omega
   refine Z3 20 [9,4,0] [t+1,(t+1)+(i:Int)] H Z U (Aq Z (call191 _) (Ql d1 hr U (F (1+i)) (by rw[hF];congr 2;omega)) H.f5.f5 ?_);rintro _ w _ ⟨g,c3,rest,rfl,⟨cg,cc,cl⟩,rfl⟩ H;replace H:=H.l9;replace H:=H.f5;obtain ⟨e2,⟨a9,a4⟩,H⟩:=DV H (λh q=>EF q (a2 _) ⟨cg,cc,cl⟩);replace H:=H.l8;refine Z2 25 [4,1,1,0] H Z (z_E_ Z (call193 _) (Yu 256 (F (1+i)) (a2 _) (λh q=>a4.le q)) H.f5 ?_);intro w H;refine Zc 6 Z (AR Z (AP H Z J KE Z (by decide) (by decide) (out:=[.slice (some ⟨g,0,none⟩) 256 c3]) J) ?_);rintro _ w ⟨b4,rfl,H⟩;replace H:=H.l9;refine AR Z (A0 5 H Z Z J KE Z Z (H.rv 0 (·.rd U U O Z)) (by simp[Value.oneCell']) U) ?_;rintro v5 w H;replace H:=H.l9;have g5:=H.sy 5 (·.slc);refine Z1 8 [] [(i:Int)+1] Z U ?_;replace H:=H.d.f7.f7.f5.f5.f4.f5.f7.f7;refine gf ?_;intro _ hF;refine ⟨⟨i+1,v5,a0++[.slice (some ⟨g,0,none⟩) 256 c3],e2⟩,(hF.co Z (by go_num) (hF.co Z (congrArg u32 (U4 F i)) (hF.all Z))),⟨H,?_⟩,?_⟩
   ·refine ⟨by omega,by simp[c7],λk o e=>a9 k o (a8 k o e),λj pv h=>?_⟩;rcases Aeq j i with q|q
    ·rw[Aem U] at h;exact (b5 j pv h).le a9
    rw[Aes U] at h;obtain rfl:j=i:=by have:=(Aeb.1 h).1;simp at this;omega
    simp[c7] at h;subst h;exact a4
   omega
  obtain rfl:i=BG (F 0):=by omega
  refine Zc 2 Z (gx (Zc 3 Z ?_));obtain ⟨d6,d0,rfl⟩:=H.sy 0 (·.slc);have H:Sep z (grow 46 1 (.slice d6 (BG (F 0)) d0) (BG (F 0)) a0::blk b3 [I (Cp (F 0)),I (Cq (F 0)),.slice a6 (BG (F 0)) a3,u32 (DK (F 0))] 287::poolA hq::tblA pt::lgB m pd pt s t p us b c::diskA pd D::blk b2 [I 0,.slice none 0 0] 159::blk b1 [I 0,.slice none 0 0] 159::R) w:=H;replace H:=H.f2;obtain ⟨d5,⟨b0,d4⟩,H⟩:=DV H (λh q=>q.rd);replace H:=H.l7;have c0:=e4.le (λk o e=>b0 k o (a8 k o e));replace H:=(H.nilg 161 3).l8;refine Za 6 [10,4,0] H Z ?_;intro b6 w H;refine Z4 12 [0] H Z ?_;intro w H;refine AB (σ:=Nat×Value×List ImE×Hp) (λ⟨i,v,es,a1⟩=>[(124,I (i:Int)),(0,Y m),(2,Y b1),(4,Y b2),(7,Y b3),(9,u32 (Ba (Ea F (BG (F 0))))),(14,Y b6),(122,.slice d6 (BG (F 0)) d0),(123,I ((BG (F 0):Nat):Int))])
    (λ⟨i,v,es,a1⟩ w=>Sep z (blk b6 [I p,v] 159::grow 161 3 v i (Gl es)::poolA a1::blk b3 [I (Cp (F 0)),I (Cq (F 0)),.slice a6 (BG (F 0)) a3,u32 (DK (F 0))] 287::tblA pt::lgB m pd pt s t p us b c::diskA pd D::blk b2 [I 0,.slice none 0 0] 159::blk b1 [I 0,.slice none 0 0] 159::R) w/\(i<=BG (F 0)/\es.length=i/\es.map Prod.fst=(List.range i).map (λj=>Cm (F (1+j)))/\CJ d5 a1/\imesOk es a1/\∀j,j<i->IS (F (1+j))/\Fx (F (1+j))=s.epoch/\Fy (F (1+j))=p/\(Cm (F (1+j))).num=Et (F 0) j/\Ba (Ea F (BG (F 0)))=DK (F 0))) (λ⟨i,v,es,a1⟩=>BG (F 0)-i) ⟨0,.slice none 0 0,[],d5⟩
    fr_z ⟨H,by omega,Z,Z,λk o e=>e,λe he=>absurd he O,λj h=>by omega⟩ ?_
  clear H;rintro ⟨i,v,es,a1⟩ w ⟨a,hI⟩;dsimp only at hI a ⊢;have H:=a.l9;have sv:=H.sy 1 (·.slc);obtain ⟨e8,e1,c5,x,c9,y⟩:=hI;refine Z0 6 [0] Z (Af Z (λh5=>?_) (λh5=>?_))
  ·have e9:i<BG (F 0):=by omega
   refine Zc 5 Z ?_;obtain ⟨pv,d2⟩:∃pv,a0[i]?=some pv:=⟨_,Aed U⟩;have b9:=(b5 i pv d2).le (λk o e=>x k o (b0 k o e));obtain ⟨sb,so,sc,rfl⟩:=b9.sl (by rw[Aef,a2];decide);have a7:=(H.rv 2 (λq=>(d4.le x).le q)).at (j:=i) d2;have d7:=(H.rv 2 (λq=>(c0.le x).le q)).at (j:=i) (u:=I (Et (F 0) i)) (by simp[hN,show i<BG (F 0) from by omega]);refine Zc 2 Z (Ab Z (Aj Z (z:=1) (j:=i) (r:=i) J Z Z Z U a7 U) (Ab Z (Ax Z Z J (Ay a7)) (Z2 11 [1,5,0] H Z (Aq Z (call194 _) (RG (F (1+i)) (λh q=>b9.le q)) H.f2.f4 ?_))));rintro _ w _ (⟨hi,g3,f,e0,rfl,⟨d9,e5,e3⟩,rfl⟩|⟨hi,rfl,rfl⟩) a
   ·have H:=a.l10;refine Zc 1 Z ?_;replace H:=H.f2;obtain ⟨c8,⟨a5,c2⟩,H⟩:=DV H (λh q=>EF q (by simp[a2]) ⟨d9,e5,e3⟩);replace H:=H.l9;refine Za 4 [] H Z ?_;intro b7 w H;refine Z4 8 [0] H Z ?_;intro w H;refine Bv (Sep z _) J J H.drew (DZ 9 [0,0] (λ_ hx=>(AO (hx.blk 5 Z) AM)) Z J Z (Cd 148 Z (λh6=>?_) (λh6=>?_)))
    ·refine B0 21 [] Z J (BI (λw a=>?_));have H:=a.l10;refine gn (Z4 10 [8,2,9] H Z ?_);intro w H;refine Zl [9,2] H Z ?_;exact ⟨_,.inl ⟨λims=>by rintro ⟨q1,q2,q3,q4,q5,l,q7⟩;first|exact hh q1|(exfalso;simp only[Cp,Cq] at q2 q3;omega)|exact absurd (l i U).1 hi|(have q8:=l i U;simp only[Fx,Fy,Cm,Cp,Cq] at *;exfalso;omega)|exact absurd (show Ba (Ea F (BG (F 0)))=DK (F 0) from q7) ‹_›,rfl,rfl⟩,H.perm 10 [6,2,7] rfl rfl⟩
    refine DZ 6 [1,0] (λ_ hx=>(AO (hx.blk 5 Z) AM)) Z J Z (Cd 154 Z (λh7=>?_) (λh7=>?_))
    ·refine B0 15 [] Z J (BI (λw a=>?_));have H:=a.l10;refine gn (Z4 10 [8,2,9] H Z ?_);intro w H;refine Zl [9,2] H Z ?_;exact ⟨_,.inl ⟨λims=>by rintro ⟨q1,q2,q3,q4,q5,l,q7⟩;first|exact hh q1|(exfalso;simp only[Cp,Cq] at q2 q3;omega)|exact absurd (l i U).1 hi|(have q8:=l i U;simp only[Fx,Fy,Cm,Cp,Cq] at *;exfalso;omega)|exact absurd (show Ba (Ea F (BG (F 0)))=DK (F 0) from q7) ‹_›,rfl,rfl⟩,H.perm 10 [6,2,7] rfl rfl⟩
    refine DZ 5 [0,0,2,1] (λ_ hx=>(AO (hx.blk 0 Z) (AO (hx.blk 5 Z) AM))) Z J Z (AL Z Z Z (Aj Z (z:=1) (j:=i) (r:=i) J Z Z Z U d7 U) (AL Z Z Z (Ax Z Z J (λ_ hx=>(hx.rd 1 Z (λh q=>(c0.le (λk o e=>a5 k o (x k o e))).le q)).at (j:=i) (u:=I (Et (F 0) i)) (by simp[hN,show i<BG (F 0) from by omega]))) (B0 3 [] Z J (Cd 164 Z (λh8=>?_) (λh8=>?_)))))
    ·refine B0 5 [] Z J (BI (λw a=>?_));have H:=a.l10;refine gn (Z4 10 [8,2,9] H Z ?_);intro w H;refine Zl [9,2] H Z ?_;exact ⟨_,.inl ⟨λims=>by rintro ⟨q1,q2,q3,q4,q5,l,q7⟩;first|exact hh q1|(exfalso;simp only[Cp,Cq] at q2 q3;omega)|exact absurd (l i U).1 hi|(have q8:=l i U;simp only[Fx,Fy,Cm,Cp,Cq] at *;exfalso;omega)|exact absurd (show Ba (Ea F (BG (F 0)))=DK (F 0) from q7) ‹_›,rfl,rfl⟩,H.perm 10 [6,2,7] rfl rfl⟩
    refine DZ 3 [3,0] (λ_ hx=>(AO (hx.blk 5 Z) AM)) Z J Z (AL Z Z Z (XM (k:=.u32) Z J Z Z) (B0 1 [] Z J (BI (λw a=>?_))));have H:=a.l10;refine gn (Zc 1 Z (Af Z (λh9=>?_) (λh9=>?_)))
    ·refine Z4 8 [8,2,9] H Z ?_;intro w H;refine Zl [9,2] H Z ?_;exact ⟨_,.inl ⟨λims=>by rintro ⟨q1,q2,q3,q4,q5,l,q7⟩;first|exact hh q1|(exfalso;simp only[Cp,Cq] at q2 q3;omega)|exact absurd (l i U).1 hi|(have q8:=l i U;simp only[Fx,Fy,Cm,Cp,Cq] at *;exfalso;omega)|exact absurd (show Ba (Ea F (BG (F 0)))=DK (F 0) from q7) ‹_›,rfl,rfl⟩,H.perm 10 [6,2,7] rfl rfl⟩
    refine Z2 6 [1,3,0,0,3] H Z (AR Z (AP H Z J DA Z (by decide) (by decide) (out:=[I ((Cm (F (1+i))).num),I ((Cm (F (1+i))).kind),.slice (some ⟨g3,0,none⟩) 240 f]) J) ?_);rintro _ w ⟨b8,rfl,H⟩;replace H:=H.l11;refine AR Z (A0 5 H Z Z J DA Z Z (H.rv 0 (·.rd U U O Z)) (by simp[Value.oneCell']) U) ?_;rintro v9 w a;have a:Sep z (blk b8 [I ((Cm (F (1+i))).num),I ((Cm (F (1+i))).kind),.slice (some ⟨g3,0,none⟩) 240 f] 161::blk b7 [I ((Cm (F (1+i))).num),I ((Cm (F (1+i))).kind),.slice (some ⟨g3,0,none⟩) 240 f] 161::poolA c8::tblA pt::blk b6 [I p,v] 159::grow 161 3 v9 (i+1) (Gl es++[I ((Cm (F (1+i))).num),I ((Cm (F (1+i))).kind),.slice (some ⟨g3,0,none⟩) 240 f])::blk b3 [I (Cp (F 0)),I (Cq (F 0)),.slice a6 (BG (F 0)) a3,u32 (DK (F 0))] 287::lgB m pd pt s t p us b c::diskA pd D::blk b2 [I 0,.slice none 0 0] 159::blk b1 [I 0,.slice none 0 0] 159::R) w:=a;have e7:(Gl es++[I ((Cm (F (1+i))).num),I ((Cm (F (1+i))).kind),.slice (some ⟨g3,0,none⟩) 240 f]:List Value)=Gl (es++[(Cm (F (1+i)),.slice (some ⟨g3,0,none⟩) 240 f)]):=N9 es (Cm (F (1+i)),.slice (some ⟨g3,0,none⟩) 240 f);rw[e7] at a;have H:=a.l11;have d3:=H.sy 5 (·.slc);refine Z0 1 [1] Z (Az Z Z (Lq 4 H Z Z Z Z d3.cells d3.one J) ?_);rintro w H;replace H:=H.l11;refine Z1 7 [] [(i:Int)+1] Z U ?_;replace H:=H.f1.d.d.f8.f8.f8.f8.f5.f8.f6.f8.f8;refine gf ?_;intro _ hF;refine ⟨⟨i+1,v9,es++[(Cm (F (1+i)),.slice (some ⟨g3,0,none⟩) 240 f)],c8⟩,hF.cz,⟨H,?_⟩,?_⟩
    ·refine ⟨by omega,by simp[e1],by simp[c5,Ag8],λk o e=>a5 k o (x k o e),?_,λj hj=>?_⟩
     ·intro e he;rcases Aep.1 he with q|q
      ·exact (c9 e q).le a5
      rw[Aft.1 q];simpa [Cm,a2] using c2
     rcases Aeq j i with q|q
     ·exact y j q
     obtain rfl:j=i:=by omega
     simp only[Fx,Fy,Cp,Cq,Cm] at *;exact ⟨hi,by omega,by omega,by omega,AgJ ‹_›⟩
    omega
   have H:=a.l9;refine Za 5 [] H Z ?_;intro g1 w H;refine Z4 8 [0] H Z ?_;intro w H;refine Bv (Sep z _) J J H.drew (B0 30 [] Z J (BI (λw a=>?_)));have H:=a.l10;refine gn (Z4 10 [8,2,9] H Z ?_);intro w H;refine Zl [9,2] H Z ?_;exact ⟨_,.inl ⟨λims=>by rintro ⟨q1,q2,q3,q4,q5,l,q7⟩;first|exact hh q1|(exfalso;simp only[Cp,Cq] at q2 q3;omega)|exact absurd (l i U).1 hi|(have q8:=l i U;simp only[Fx,Fy,Cm,Cp,Cq] at *;exfalso;omega)|exact absurd (show Ba (Ea F (BG (F 0)))=DK (F 0) from q7) ‹_›,rfl,rfl⟩,H.perm 10 [6,1,7] rfl rfl⟩
  obtain rfl:i=BG (F 0):=by omega
  refine Zc 2 Z (gx (Z2 5 [0,2] H Z (Az Z Z (Ak 8 H Z Z Z Z (vs:=[I p,v]) Z (Ad Z (Ad sv.one Aw)) J O (out:=[I p,v]) Z) ?_)));rintro w H;replace H:=H.l9;refine Zc 4 Z (Zl [8,2] H Z ?_);replace H:=H.f1.f2;obtain ⟨f0,⟨d8,c4⟩,H⟩:=DV H (λh q=>q.rd);replace H:=H.l8;exact ⟨_,.inr ⟨_,v,f0,⟨hh,by unfold Cp;omega,by unfold Cq;omega,by omega,Z,λj hj=>⟨(y j hj).1,(y j hj).2.1,(y j hj).2.2.1,(y j hj).2.2.2.1⟩,(y 0 U).2.2.2.2⟩,Z,⟨es,c5,by simpa using c4,c9.le d8⟩,Z⟩,H.perm 8 [0,4,3,5] Z Z⟩
 have H:=a.l6;refine Zc 3 Z (AR Z (Cb (P:=prog) H Z (zs:=[I 0,I 0,.slice none 0 0,u32 0]) J) ?_);rintro _ w ⟨g7,rfl,H⟩;replace H:=H.l7;refine Z4 6 [0] H Z ?_;intro w H;refine Bv (Sep z _) J J H.drew (B0 38 [] Z J (BI (λw a=>?_)));have H:=a.l7;refine gn (Z4 10 [5,2,6] H Z ?_);intro w H;refine Zl [6,2] H Z ?_;exact ⟨_,.inl ⟨λims=>by rintro ⟨q1,q2,q3,q4,q5,l,q7⟩;first|exact hh q1|(exfalso;simp only[Cp,Cq] at q2 q3;omega)|exact absurd (l i U).1 hi|(have q8:=l i U;simp only[Fx,Fy,Cm,Cp,Cq] at *;exfalso;omega)|exact absurd (show Ba (Ea F (BG (F 0)))=DK (F 0) from q7) ‹_›,rfl,rfl⟩,H.perm 7 [3,1,4] rfl rfl⟩
theorem Qm(s:Sup)(b:s.Ok (D.n:Int)):Cn prog 98 [Y i,Y j,.agg #[I s.gen,I s.epoch,I s.pages,I s.start,I s.len,I s.head,I s.seq]] [diskA i D] (λv Γ=>∃a,v=Y a/\Γ=[lgB a i j s s.head s.seq 0 false (decide (s.epoch<4294967296)),diskA i D]):=by
 refine Cn.mono (Cn.onDisk (post:=λv Γ=>∃a,v=Y a/\Γ=[lgB a i j s s.head s.seq 0 false (decide (s.epoch<4294967296))]) (λc bd m f0=>?_)) ?_
 ·have d:=c.n2
  refine Cn.mono (Yt i bd m (D.n*256) f0 D.f1 D.f2 D.f3 D.left D.cut j s U (by rw[show ((D.n*256:Nat):Int)/256=(D.n:Int) from by omega];exact b)) ?_;rintro v Γ ⟨a,rfl,rfl⟩;exact ⟨_,⟨a,Z,Z⟩,Z⟩
 rintro v Γ ⟨Γ',⟨a,rfl,rfl⟩,rfl⟩;exact ⟨a,Z,Z⟩
set_option maxHeartbeats 1000000 in
theorem Abq (s:Sup) (r:s.Ok (D.n:Int)) (b5:D.f1=0):Cn prog 96 [Y m,Y i,.agg #[I s.gen,I s.epoch,I s.pages,I s.start,I s.len,I s.head,I s.seq]] [tblA i,diskA m D] (λv Γ=>∃x rs a q u v' hq,v=.tuple #[Y x,v',I 0]/\Runs D s s.head s.seq 0 rs a q u/\(s.len<=u\/∀ims,¬nextP (Di D s a) s.epoch q (s.len-u) ims)/\recsH v' rs hq/\Γ=[poolA hq,lgB x m i s a q u false (decide (s.epoch<4294967296)),tblA i,diskA m D]):=by
 intro z R w H;have c1:=H.sy 1 (λq=>(diskA.ok q).n2);have b7:=Sup.get r;have hr:0<=s.start/\0<s.len/\s.start+s.len<=D.n:=by have:=r.2;omega
 have b9:=r.2.2.2.2.2.2.2;refine Ae func96 Z ntmps96 Z (Za 2 [] H Z ?_);intro b1 w H;refine Z2 10 [0,7] H Z (Aq Z (call98 _) (Qm s r) H.f2 ?_);rintro _ w _ ⟨x,rfl,rfl⟩ H;refine Zc 17 Z ?_;replace H:=(H.nilg 159 2).l5;replace H:=(RD H).l6;refine Zc 3 Z ?_;refine AB (σ:=List RcE×Value×Int×Int×Int×Hp) (λ⟨es,v,a,q,u,hq⟩=>[(10,v),(5,Y b1),(9,Y x)])
   (λ⟨es,v,a,q,u,hq⟩ w=>Sep z (poolA hq::grow 159 2 v es.length (IT es)::lgB x m i s a q u false (decide (s.epoch<4294967296))::diskA m D::blk b1 [I s.gen,I s.epoch,I s.pages,I s.start,I s.len,I s.head,I s.seq] 132::tblA i::R) w/\(Runs D s s.head s.seq 0 (es.map Prod.fst) a q u/\rcesOk es hq/\(0<=a/\a<=4096)/\(s.seq<=q/\q<=s.seq+u)/\(0<=u/\u<=s.len)/\es.length<=u)) (λ⟨es,v,a,q,u,hq⟩=>(s.len-u).toNat) ⟨[],.slice none 0 0,s.head,s.seq,0,(λ_=>none)⟩
   fr_z ⟨H,.nil _ _ _,λe he=>absurd he O,by omega,by omega,by omega,by simp⟩ ?_
 clear H;rintro ⟨es,v,a,q,u,hq⟩ w ⟨f,hI⟩;dsimp only at hI f ⊢;have H:=f.l6;obtain ⟨g,k,ha,a6,hu,b8⟩:=hI;refine Zc 2 Z (Bv (Sep z _) J J H.drew (DZ 7 [11,0,4,1] (λ_ hx=>(AO (hx.blk 2 Z) (AO (hx.blk 4 Z) AM))) Z J Z (BI (λw f=>?_))));have H:=f.l6;refine gn (Zc 1 Z (Af Z (λh1=>?_) (λh1=>?_)))
 ·refine Zc 6 Z (Aq Z (call155 _) (Abp b5 hr U U U (Di D s a) (λj=>rfl)) H.f3.f5.f4 ?_);rintro _ w _ (⟨a5,rfl,rfl⟩|⟨ims,c,a6,t,rfl,a0,rfl⟩) f
  ·have H:=f.l6
   refine Za 3 [] H Z ?_;intro b2 w H;refine Z4 27 [0,4,1,0,0,3] H Z ?_;intro w H;refine gx (Zc 12 Z (Zr Z ?_));replace H:=H.f5.f5;obtain ⟨y,⟨l,o⟩,H⟩:=DV H (λh q=>q.rd);exact ⟨_,⟨x,es.map Prod.fst,a,q,u,v,y,Z,g,by first|exact .inl U|exact .inr a5,⟨es,rfl,by simpa using o,k.le l⟩,rfl⟩,H.perm 6 [0,2,3,4] rfl rfl⟩
  have H:=f.l7;obtain ⟨a7,b0,a1⟩:=a0.slc;have p:Slc c ims.length:=⟨a7,b0,a1⟩;clear a1;have b6:=t.len;refine Za 3 [] H Z ?_;intro b3 w H;refine Az Z Z (Ak 0 H Z Z Z Z (vs:=[I q,c]) Z (Ad Z (Ad p.one Aw)) J O (out:=[I q,c]) Z) ?_;rintro w H;refine Zc 5 Z ?_;replace H:=H.f1.f5;obtain ⟨a2,⟨a3,a4⟩,H⟩:=N7 H (M:=imgsH c ims) (λh q=>a0.le q) (λ_ _ a b=>a.le b);refine Z2 13 [4,1,1,0] H Z (Ab Z (Ed Z (sz:=3) J Z p) (Z0 3 [0] Z (Af Z (λh2=>U) (λh2=>?_))));refine Z2 6 [1,2] H Z (AR Z (AP H Z J Fw Z (by decide) (by decide) (out:=[I q,c]) J) ?_);rintro _ w ⟨b4,rfl,H⟩;refine AR Z (A0 6 H Z Z J Fw Z Z (H.rv 0 (·.rd U U O Z)) (Ad Z (Ad p.one Aw)) U) ?_;rintro v5 w f;have f:Sep z (blk b4 [I q,c] 159::poolA a2::blk b3 [I q,c] 159::lgB x m i s a q u false (decide (s.epoch<4294967296))::tblA i::diskA m D::grow 159 2 v5 (es.length+1) (IT es++[I q,c])::blk b1 [I s.gen,I s.epoch,I s.pages,I s.start,I s.len,I s.head,I s.seq] 132::R) w:=f;have a8:(IT es++[I q,c]:List Value)=IT (es++[(⟨q,ims⟩,c)]):=U3 es (⟨q,ims⟩,c);rw[a8] at f;rw[show (es.length+1:Nat)=(es++[((⟨q,ims⟩:Rc),c)]).length from by simp] at f;have H:=f.l8;refine Z2 7 [1,2,0] H Z (Ab Z (Ed Z (sz:=3) J Z p) (Z1 1 [] [1+(ims.length:Int)] Z U (z_E_ Z (call156 _) (J9 U U U U U) H.f3 ?_)));intro w H;refine Zc 2 Z ?_;replace H:=H.f3.d.f1.d.f2.f5.f4.f3.f5.f5;refine gf ?_;intro _ hF;refine ⟨⟨es++[(⟨q,ims⟩,c)],v5,(a+(1+(ims.length:Int)))%s.len,q+1,u+(1+(ims.length:Int)),a2⟩,(hF.all Z),⟨H,?_⟩,?_⟩
  ·dsimp only
   have c3:=Agk (a+(1+(ims.length:Int))) (by omega:s.len≠0);have c2:=Af4 (a+(1+(ims.length:Int))) (by omega:0<s.len);refine ⟨?_,?_,by omega,by omega,by omega,by simp;omega⟩
   ·rw[AeH];exact .snoc g U t
   intro e he;rcases Aep.1 he with q|q
   ·exact (k e q).le a3
   rw[Aft.1 q];exact a4
  (dsimp only;omega)
 refine Zc 2 Z (gx (Zc 12 Z (Zr Z ?_)));obtain ⟨y,⟨l,o⟩,H⟩:=DV H (λh q=>q.rd);exact ⟨_,⟨x,es.map Prod.fst,a,q,u,v,y,Z,g,by first|exact .inl U|exact .inr a5,⟨es,rfl,by simpa using o,k.le l⟩,rfl⟩,H.perm 5 [0,1,4,2] rfl rfl⟩
set_option maxHeartbeats 1000000 in
theorem Vm {pd o:Nat} {s:Sup} {us:Int} {br nu:Bool} {ims:List Img} (hA:∀h,A h->imgsH v ims h) (b1:nu=decide (s.epoch<4294967296)) (c3:0<=s.epoch/\s.epoch<=1099511627776) (c5:0<=p/\p<=2199023255552) (c4:1<=ims.length/\ims.length<=40) (d0:0<=s.len/\s.len<=1099511627776) (hu:0<=us/\us<=2199023255552):Cn prog 198 [Y g,v] [lgB g pd o s t p us br nu,tblA o,A] (λv Γ=>(¬EG ims/\v=.tuple #[.slice none 0 0,I 1]/\Γ=[lgB g pd o s t p us br nu,tblA o,A])\/(EG ims/\¬(1+(ims.length:Int)<=(if br then 0 else s.len-us)/\nu=true/\p<1099511627776)/\v=.tuple #[.slice none 0 0,I 15]/\Γ=[lgB g pd o s t p us br nu,tblA o,A])\/(EG ims/\(1+(ims.length:Int)<=(if br then 0 else s.len-us)/\nu=true/\p<1099511627776)/\∃v',v=.tuple #[v',I 0]/\Γ=[grow 5 1 v' ((1+ims.length)*256) ((BC s.epoch p ims).flatten.map u8),lgB g pd o s t p us br nu,tblA o,A])):=by
 intro z R w H;obtain ⟨ao,ic,rfl⟩:=H.sy 2 (λq=>(hA _ q).slc);obtain ⟨es,a7,l⟩:=Sep.imA 2 H Z hA;clear H;have c6:es.length=ims.length:=by rw[<-a7];simp
 have H:=l.l3;refine Ae func198 Z ntmps198 Z (Zc 13 Z (AR Z (F6 H Z) ?_));rintro _ w ⟨m1,rfl,H⟩;refine Zc 4 Z ?_;replace H:=H.f1;refine AN (Sep z (lgB g pd o s t p us br nu::R)) 12 Z J (AZ H λw l=>?_);have H:=l.l4;refine AT [0,1,2,3,4,5,6,7,8] [2,3,0,0,10,0,0] [] (by exact H.pick 4 [0] Z) Z J Z (BN 9 Z J J J Z Z Z (Bc Z Z (out:=[I s.epoch,I p,.slice none 0 0,u32 0]) J) (H.pick 4 [0] Z) (AC [10] J O (Am (Ca Z Z Z Z (Cb (P:=prog) H Z (zs:=[I 0,I 0,.slice none 0 0,u32 0]) J) ?_))));rintro _ w ⟨b2,rfl,H⟩;refine Av (H.pick 5 [1] Z) (AC [11] J O (Am (Bi Z Z Z (Ak 0 H Z Z Z Z (vs:=[I s.epoch,I p,.slice none 0 0,u32 0]) Z (by simp[u8,u32,Value.oneCell']) J O (out:=[I s.epoch,I p,.slice none 0 0,u32 0]) Z) ?_)));rintro w H;refine Av (H.pick 5 [1] Z) (a_done J (gn (Zc 8 Z ?_)));replace H:=(H.nilg 3 1).l6;refine Zc 2 Z ?_;refine AB (σ:=Nat×Value) (λ⟨i,u⟩=>[(32,I (i:Int)),(0,Y g),(1,.slice ao ims.length ic),(6,.slice none 0 0),(7,.map (some m1)),(8,Y b2),(30,.slice ao ims.length ic),(31,I (ims.length:Int))])
   (λ⟨i,u⟩ w=>Sep z (grow 3 1 u i (Fz (ims.take i))::blk b2 [I s.epoch,I p,u,u32 0] 287::lgB g pd o s t p us br nu::AH m1 (seen ((ims.take i).map Img.num)) (((ims.take i).map Img.num).length)::tblA o::imA A (.slice ao ims.length ic) es::R) w/\(i<=ims.length/\(∀(j:Nat) (m:Img),j<i->ims[j]?=some m->m.Ok)/\((ims.take i).map Img.num).Nodup)) (λ⟨i,u⟩=>ims.length-i) ⟨0,.slice none 0 0⟩
   fr_z ⟨H,by omega,λj m h=>by omega,by simp⟩ ?_
 clear H;rintro ⟨i,u⟩ w ⟨l,hI⟩;dsimp only at hI l ⊢;have H:=l.l6;have b8:=H.sy 0 (·.slc);obtain ⟨d1,a5,a4⟩:=hI;refine Z0 6 [0] Z (Af Z (λh1=>?_) (λh1=>?_))
 ·have c1:i<ims.length:=by omega
  refine Zc 6 Z ?_;obtain ⟨⟨f,bv⟩,he⟩:∃e:ImE,es[i]?=some e:=⟨_,Aed U⟩;have a1:ims[i]?=some f:=by rw[<-a7];simp[he]
  have a6:Slc bv f.body.length:=H.sy 5 (λq=>(q.2.2 _ (Aec he)).slc);have a3:=imA.at 5 H Z he;have a8:=a3 0 (I f.num) Z;refine Ab Z (Aj Z (z:=3) (j:=i) (r:=i*3) J Z Z Z U a8 U) (Ab Z (Bp Z Z (vs:=[I f.num,I f.kind,bv]) J O (Ay a3)) (Za 0 [] H Z ?_));intro b3 w H;refine Az Z Z (Ak 0 H Z Z Z Z (vs:=[I f.num,I f.kind,bv]) Z (Ad Z (Ad Z (Ad a6.one Aw))) J O (out:=[I f.num,I f.kind,bv]) Z) ?_;rintro w H;refine Zc 4 Z ?_;replace H:=H.f3;refine AN (Sep z (lgB g pd o s t p us br nu::blk b3 [I f.num,I f.kind,bv] 161::R)) 11 Z J (AZ H λw l=>?_);have H:=l.l7;refine AT [0,1,2,3,4] [1,0,0,1,3] [] (by exact H.pick 7 [0,1] Z) Z J Z (AC [5] J O (Am (Bo Z Z Z Z Z Z (λw=>call158 _ w) (MA f.body (λh q=>q.2.2 _ (Aec he))) H.f6.f6 Z ?_)));rintro _ w _ (⟨a2,rfl,rfl⟩|⟨a0,pw,rfl,rfl⟩) l
  ·have H:Sep z (tblA o::imA A (.slice ao ims.length ic) es::lgB g pd o s t p us br nu::blk b3 [I f.num,I f.kind,bv] 161::grow 3 1 u i (Fz (ims.take i))::blk b2 [I s.epoch,I p,u,u32 0] 287::AH m1 (seen ((ims.take i).map Img.num)) (((ims.take i).map Img.num).length)::R) w:=l
   clear l;refine Av (H.pick 7 [2,3] Z) (AT [6,7,8,9,10] [] [] (by exact H.pick 7 [2,3] Z) Z J Z (a_done J (gn (Z0 21 [3] Z (Zr Z ?_)))));replace H:=(H.mono 1 (B:=A) Z (λh q=>q.1)).l7;exact ⟨_,.inl ⟨by rintro ⟨q1,q2⟩;first|exact a2 (q1 f (Aec a1))|(exact KO q2 a1 ‹_›),rfl,rfl⟩,H.perm 7 [2,0,1] rfl rfl⟩
  have H:Sep z (blk pw (A5 (BB ([80,80,65,71]++Ag 1 f.kind++Ag 4 f.num++[0,0,0]++f.body)) 252) 167::tblA o::imA A (.slice ao ims.length ic) es::lgB g pd o s t p us br nu::blk b3 [I f.num,I f.kind,bv] 161::grow 3 1 u i (Fz (ims.take i))::blk b2 [I s.epoch,I p,u,u32 0] 287::AH m1 (seen ((ims.take i).map Img.num)) (((ims.take i).map Img.num).length)::R) w:=l;clear l;refine Av (H.pick 8 [3,4] Z) (AT [6,7,8,9,10] [] [] (by exact H.pick 8 [3,4] Z) Z J Z (a_done J (gn (Z2 9 [4,0,4,0] H Z (Ab Z (FN (e:=4) (zv:=.bool false) Z J J Z Z (Ay (H.bk 7 Z))) (AD 51 (v:=.bool (decide (f.num∈(ims.take i).map Img.num))) Z (U5) (Zc 3 Z (Af Z (λh2=>?_) (λh2=>?_)))))))))
  ·refine Zc 7 Z (Zr Z ?_);replace H:=(H.mono 2 (B:=A) Z (λh q=>q.1)).l8
   exact ⟨_,.inl ⟨by rintro ⟨q1,q2⟩;first|exact a2 (q1 f (Aec a1))|(exact KO q2 a1 ‹_›),rfl,rfl⟩,H.perm 8 [3,1,2] rfl rfl⟩
  refine Z2 7 [0,4,0] H Z (Az Z Z (DO 7 (e:=4) H Z Z J Z Z Z) ?_);rintro w H;refine Zc 2 Z ?_;have b5:(ims.take (i+1)).map Img.num=(ims.take i).map Img.num++[f.num]:=by rw[AeN,a1];simp
  have a9:=U6 (ns:=(ims.take i).map Img.num) (k:=f.num) ‹_›;rw[a9.1,a9.2,<-b5] at H;have H:Sep z (blk pw (A5 (BB ([80,80,65,71]++Ag 1 f.kind++Ag 4 f.num++[0,0,0]++f.body)) 252) 167::tblA o::imA A (.slice ao ims.length ic) es::lgB g pd o s t p us br nu::blk b3 [I f.num,I f.kind,bv] 161::grow 3 1 u i (Fz (ims.take i))::blk b2 [I s.epoch,I p,u,u32 0] 287::AH m1 (seen ((ims.take (i+1)).map Img.num)) (((ims.take (i+1)).map Img.num).length)::R) w:=H;refine Z2 5 [2,6,0,0,4,0] H Z (AR Z (AP H Z J BA Z (by decide) (by decide) (out:=[I f.num]) J) ?_);rintro _ w ⟨b4,rfl,H⟩;refine AR Z (A0 6 H Z Z J BA Z Z (H.rv 0 (·.rd U U O Z)) (by simp[Value.oneCell']) U) ?_;rintro v5 w l;have l:Sep z (blk b4 [I f.num] 3::blk pw (A5 (BB ([80,80,65,71]++Ag 1 f.kind++Ag 4 f.num++[0,0,0]++f.body)) 252) 167::tblA o::imA A (.slice ao ims.length ic) es::lgB g pd o s t p us br nu::blk b3 [I f.num,I f.kind,bv] 161::grow 3 1 v5 (i+1) (Fz (ims.take i)++[I f.num])::blk b2 [I s.epoch,I p,u,u32 0] 287::AH m1 (seen ((ims.take (i+1)).map Img.num)) (((ims.take (i+1)).map Img.num).length)::R) w:=l;have c0:(Fz (ims.take i)++[I f.num]:List Value)=Fz (ims.take (i+1)):=U7 a1;rw[c0] at l;have H:=l.l9;have b0:=H.sy 6 (·.slc);refine Z0 1 [2] Z (Az Z Z (JT 7 H Z Z Z Z b0.cells b0.one J) ?_);rintro w H;refine Z1 7 [] [(i:Int)+1] Z U ?_;replace H:=H.f5.d.f1.d.d.f1.f1.f5.f3.f5.f5;refine gf ?_;intro _ hF;refine ⟨⟨i+1,v5⟩,hF.cz,⟨H,?_⟩,?_⟩
  ·dsimp only
   refine ⟨by omega,λj m hj h=>?_,?_⟩
   ·rcases Aeq j i with q|q
    ·exact a5 j m q h
    obtain rfl:j=i:=by omega
    rw[a1] at h;cases h;exact a0
   rw[b5,Ae9];exact ⟨a4,by simp,λa ha b hb=>by simp at hb;subst hb;exact λe=>absurd (e▸ha) ‹_›⟩
  (dsimp only;omega)
 obtain rfl:i=ims.length:=by omega
 refine Zc 2 Z (gx (Zc 4 Z ?_));rw[Ae7] at H;rw[Ae7] at a4;have H:Sep z (grow 3 1 u ims.length (Fz ims)::blk b2 [I s.epoch,I p,u,u32 0] 287::lgB g pd o s t p us br nu::AH m1 (seen (ims.map Img.num)) ((ims.map Img.num).length)::tblA o::imA A (.slice ao ims.length ic) es::R) w:=H;have y:∀m∈ims,m.Ok:=λm hm=>by obtain ⟨j,hj,rfl⟩:=Aga.1 hm;exact a5 j _ hj (Aed hj)
 refine Z1 5 [] [1+(ims.length:Int)] Z U (z_E_ Z (call127 _) (Tn U) H.f2 ?_);intro w H;refine Z0 2 [0] Z (Al 70 Z (λh3=>?_) (λh3=>?_))
 ·refine Zc 23 Z (Zr Z ?_);replace H:=(H.mono 5 (B:=A) Z (λh q=>q.1)).l6
  exact ⟨_,.inr (.inl ⟨⟨y,a4⟩,by rintro ⟨q1,q2,q3⟩;first|omega|simp_all,rfl,rfl⟩),H.perm 6 [0,4,5] Z Z⟩
 refine Z2 7 [13,0,0] H Z (FO 77 Z (λh4=>?_) (λh4=>?_))
 ·refine Zc 16 Z (Zr Z ?_);replace H:=(H.mono 5 (B:=A) Z (λh q=>q.1)).l6
  exact ⟨_,.inr (.inl ⟨⟨y,a4⟩,by rintro ⟨q1,q2,q3⟩;first|omega|simp_all,rfl,rfl⟩),H.perm 6 [0,4,5] Z Z⟩
 have b9:nu=true:=by simpa using h4
 have c7:s.epoch<4294967296:=by rw[b9] at b1;simpa using b1.symm
 refine Z2 8 [10,0,0,0] H Z (Af Z (λh5=>?_) (λh5=>?_))
 ·refine Zc 7 Z (Zr Z ?_);replace H:=(H.mono 5 (B:=A) Z (λh q=>q.1)).l6
  exact ⟨_,.inr (.inl ⟨⟨y,a4⟩,by rintro ⟨q1,q2,q3⟩;first|omega|simp_all,rfl,rfl⟩),H.perm 6 [0,4,5] Z Z⟩
 refine Zc 9 Z ?_;replace H:=(H.nilg 5 1).l7;refine Zc 2 Z ?_;refine AB (σ:=Nat×Value) (λ⟨i,v2⟩=>[(86,I (i:Int)),(6,v2),(0,Y g),(8,Y b2),(84,.slice ao ims.length ic),(85,I (ims.length:Int))])
   (λ⟨i,v2⟩ w=>Sep z (grow 5 1 v2 (i*256) ((CM s.epoch p (ims.take i)).map u8)::lgB g pd o s t p us br nu::grow 3 1 u ims.length (Fz ims)::blk b2 [I s.epoch,I p,u,u32 0] 287::AH m1 (seen (ims.map Img.num)) ((ims.map Img.num).length)::tblA o::imA A (.slice ao ims.length ic) es::R) w/\(i<=ims.length)) (λ⟨i,v2⟩=>ims.length-i) ⟨0,.slice none 0 0⟩
   (λ_ hF=>(hF.co Z (by go_num) hF.cz)) ⟨H,by omega⟩ ?_
 clear H;rintro ⟨i,v2⟩ w ⟨l,hI⟩;dsimp only at hI l ⊢;have H:=l.l7;have c8:=H.sy 0 (·.slc);have c2:=hI;clear hI;refine Z0 6 [0] Z (Af Z (λh6=>?_) (λh6=>?_))
 ·have c1:i<ims.length:=by omega
  refine Zc 6 Z ?_;obtain ⟨⟨f,bv⟩,he⟩:∃e:ImE,es[i]?=some e:=⟨_,Aed U⟩;have a1:ims[i]?=some f:=by rw[<-a7];simp[he]
  have a6:Slc bv f.body.length:=H.sy 6 (λq=>(q.2.2 _ (Aec he)).slc);have a3:=imA.at 6 H Z he;have a8:=a3 0 (I f.num) Z;refine Ab Z (Aj Z (z:=3) (j:=i) (r:=i*3) J Z Z Z U a8 U) (Ab Z (Bp Z Z (vs:=[I f.num,I f.kind,bv]) J O (Ay a3)) (Za 0 [] H Z ?_));intro b6 w H;refine Az Z Z (Ak 0 H Z Z Z Z (vs:=[I f.num,I f.kind,bv]) Z (Ad Z (Ad Z (Ad a6.one Aw))) J O (out:=[I f.num,I f.kind,bv]) Z) ?_;rintro w H;refine Zc 3 Z ?_;replace H:=H.f4.f3;refine AN (Sep z (lgB g pd o s t p us br nu::blk b2 [I s.epoch,I p,u,u32 0] 287::blk b6 [I f.num,I f.kind,bv] 161::R)) 15 Z J (AZ H λw l=>?_);have H:=l.l8;refine AT [0,1,2,3,4,5,6,7,8] [1,0,0,0,1,0,1,1,0,2,3] [] (by exact H.pick 8 [0,1,2] Z) Z J Z (AC [9] J O (Am (Bo Z Z Z Z Z Z (λw=>call229 _ w) (RF f.body (λh q=>q.2.2 _ (Aec he))) H.f7.f7 Z ?_)));rintro _ w _ (⟨a2,rfl,rfl⟩|⟨a0,pw,rfl,rfl⟩) l
  ·exact absurd ⟨by omega,by omega,a5 i f U a1⟩ a2
  have H:Sep z (blk pw (A5 (BB (CL s.epoch p f)) 252) 167::tblA o::imA A (.slice ao ims.length ic) es::lgB g pd o s t p us br nu::blk b2 [I s.epoch,I p,u,u32 0] 287::blk b6 [I f.num,I f.kind,bv] 161::grow 5 1 v2 (i*256) ((CM s.epoch p (ims.take i)).map u8)::grow 3 1 u ims.length (Fz ims)::AH m1 (seen (ims.map Img.num)) ((ims.map Img.num).length)::R) w:=l;clear l;refine Av (H.pick 9 [3,4,5] Z) (AT [10,11,12,13,14] [] [] (by exact H.pick 9 [3,4,5] Z) Z J Z (a_done J (gn (Z0 14 [4] Z (AR Z (A0 6 H Z Z J CK Z Z (H.rv 0 (λq=>HH (lo:=0) (n:=256) (c:=256) (ys:=BB (CL s.epoch p f)) q (sect_len (Agi (GK a0.2.2.2.2))) U U U (by rw[Aeu];exact Aej (Agi (sect_len (Agi (GK a0.2.2.2.2))))))) (by simp[u8,Value.oneCell']) U) ?_)))));rintro v7 w l;have l:Sep z (blk pw (A5 (BB (CL s.epoch p f)) 252) 167::tblA o::imA A (.slice ao ims.length ic) es::lgB g pd o s t p us br nu::blk b2 [I s.epoch,I p,u,u32 0] 287::blk b6 [I f.num,I f.kind,bv] 161::grow 5 1 v7 ((i*256)+256) ((CM s.epoch p (ims.take i)).map u8++(BB (CL s.epoch p f)).map u8)::grow 3 1 u ims.length (Fz ims)::AH m1 (seen (ims.map Img.num)) ((ims.map Img.num).length)::R) w:=l;have b7:((CM s.epoch p (ims.take i)).map u8++(BB (CL s.epoch p f)).map u8:List Value)=(CM s.epoch p (ims.take (i+1))).map u8:=(by rw[<-AeH,Td a1]);rw[b7] at l;rw[show ((i*256)+256:Nat)=(i+1)*256 from by omega] at l;have H:=l.l9;refine Z1 8 [] [(i:Int)+1] Z U ?_;replace H:=H.f5.d.d.f1.f1.f6.f4.f6.f5.f6;refine gf ?_;intro _ hF;refine ⟨⟨i+1,v7⟩,hF.cz,⟨H,?_⟩,?_⟩
  ·dsimp only;omega
  (dsimp only;omega)
 obtain rfl:i=ims.length:=by omega
 refine Zc 2 Z (gx (Zc 3 Z ?_));rw[Ae7] at H;have H:Sep z (grow 5 1 v2 (ims.length*256) ((CM s.epoch p ims).map u8)::lgB g pd o s t p us br nu::grow 3 1 u ims.length (Fz ims)::blk b2 [I s.epoch,I p,u,u32 0] 287::AH m1 (seen (ims.map Img.num)) ((ims.map Img.num).length)::tblA o::imA A (.slice ao ims.length ic) es::R) w:=H;refine Z2 6 [1,1,0] H Z (z_E_ Z (call230 _) (Xs (CM s.epoch p ims) (Oa y) (λh q=>q.rd)) H.f5 ?_);intro w H;refine Z4 5 [3,4] H Z ?_;intro w H;replace H:=H.f4.f3;refine AN (Sep z (lgB g pd o s t p us br nu::blk b2 [I s.epoch,I p,u,u32 (Ba (CM s.epoch p ims))] 287::R)) 11 Z J (AZ H λw l=>?_);have H:=l.l7;refine AT [0,1,2,3,4] [1,0,0,1,4] [] (by exact H.pick 7 [0,1] Z) Z J Z (AC [5] J O (Am (Bo Z Z Z Z Z Z (λw=>call231 _ w) (Tl (ims.map Img.num) (λh q=>by rw[Aef,<-Yl];exact q.rd)) H.f4.f3 Z ?_)));rintro _ w _ (⟨a2,rfl,rfl⟩|⟨a0,pw,rfl,rfl⟩) l
 ·exact absurd ⟨by omega,by omega,by simp;omega,λx hx=>by obtain ⟨m,hm,rfl⟩:=Aek.1 hx;exact (y m hm).1⟩ a2
 have H:Sep z (blk pw (A5 (BB (hdL s.epoch p ims)) ((26+4*(ims.map Img.num).length:Nat):Int)) 167::tblA o::grow 3 1 u ims.length (Fz ims)::lgB g pd o s t p us br nu::blk b2 [I s.epoch,I p,u,u32 (Ba (CM s.epoch p ims))] 287::grow 5 1 v2 (ims.length*256) ((CM s.epoch p ims).map u8)::AH m1 (seen (ims.map Img.num)) ((ims.map Img.num).length)::imA A (.slice ao ims.length ic) es::R) w:=l;clear l;refine Av (H.pick 8 [3,4] Z) (AT [6,7,8,9,10] [] [] (by exact H.pick 8 [3,4] Z) Z J Z (a_done J (gn (Zc 5 Z (AR Z (SF H Z J CK Z Z (H.rv 0 (λq=>HH (lo:=0) (n:=256) (c:=256) (ys:=BB (hdL s.epoch p ims)) q (sect_len (by rw[hdL_len];omega)) U U U (by rw[Aeu];exact Aej (Agi (sect_len (by rw[hdL_len];omega)))))) (H.rv 5 (·.rd)) U (by simp[u8,Value.oneCell']) U) ?_)))));rintro v8 w l;have l:Sep z (grow 5 1 v8 (256+(ims.length*256)) ((BB (hdL s.epoch p ims)).map u8++(CM s.epoch p ims).map u8)::blk pw (A5 (BB (hdL s.epoch p ims)) ((26+4*(ims.map Img.num).length:Nat):Int)) 167::tblA o::grow 3 1 u ims.length (Fz ims)::lgB g pd o s t p us br nu::blk b2 [I s.epoch,I p,u,u32 (Ba (CM s.epoch p ims))] 287::grow 5 1 v2 (ims.length*256) ((CM s.epoch p ims).map u8)::AH m1 (seen (ims.map Img.num)) ((ims.map Img.num).length)::imA A (.slice ao ims.length ic) es::R) w:=l;rw[show ((BB (hdL s.epoch p ims)).map u8++(CM s.epoch p ims).map u8:List Value)=(BC s.epoch p ims).flatten.map u8 from (by rw[<-AeH,Te])] at l;rw[show (256+(ims.length*256):Nat)=(1+ims.length)*256 from by omega] at l;have H:=l.l9;refine Zc 6 Z (Zr Z ?_);replace H:=(H.mono 8 (B:=A) Z (λh q=>q.1)).l9;exact ⟨_,.inr (.inr ⟨⟨y,a4⟩,⟨by omega,by first|assumption|simp_all,by omega⟩,v8,rfl,rfl⟩),H.perm 9 [0,4,2,8] Z Z⟩
theorem Vn(bs f b c m a:Nat)(t:m*256<=a)(u:a<=9223372036854775807)(s:m<=1099511627776):It prog 188 [Y bs,Y f] [blk bs [.slice (some ⟨b,c,none⟩) (m*256) a] 46,blk f [I 256] 3] (((List.range m).map λi=>Value.slice (some ⟨b,c+i*256,none⟩) 256 256).map λv=>[v]):=by
 intro z l J_ o w d;have H:=d.l2;refine J2 (args:=[.func (.yield l) #[] #[],Y bs,Y f]) func188 Z Z 31 ntmps188 Z ?_;refine CS ?_;refine Ce ?_;refine s_do Z Z Z (Bl Z Z) ?_;refine AQ ?_;refine D9 ?_;refine LJ (σ:=Nat) (λi=>[(4,I ((i*256:Nat):Int)),(0,.func (.yield l) #[] #[]),(1,Y bs),(2,Y f)])
  (λi w=>Sep z (blk bs [.slice (some ⟨b,c,none⟩) (m*256) a] 46::blk f [I 256] 3::J_ i) w/\(i<=m)) (λi=>m-i) 0
  (λ_ e=>(e.co Z (congrArg I O) (e.all Z))) ⟨H,AeO _⟩ ?_
 clear H;rintro i w ⟨d,j⟩;have H:=d.l2;have n:=j;clear j;refine CS ?_;refine CS ?_;refine Ce ?_;refine s_do Z Z Z (Cj Z Z) ?_;refine s_do Z Z Z (Bg Z Z J (Ay (H.cel 0 Z 0 Z))) ?_;refine s_do Z Z Z (Fs Z (z:=1) J Z) ?_;refine s_do Z Z Z (Rj Z Z Z) ?_;refine AQ ?_;refine Aa8 Z (λk=>?_) (λk=>?_)
 ·-- yes:((i*256:Nat):Int)<((m*256:Nat):Int)
  have h:i<m:=by omega
  refine Gs ?_;refine CS ?_;refine D9 ?_;refine CS ?_;refine SU (Sep z _) J J H.drew ?_;refine AL Z Z Z (Bg Z Z J (λ_ g=>g.cel 1 Z 0 Z)) ?_;refine AL Z Z Z (Bg Z Z J (λ_ g=>g.cel 0 Z 0 Z)) ?_;refine AL Z Z Z (Cj Z Z) ?_;refine AL Z Z Z (BL Z (z:=1) (p:=(i*256)) (q:=m*256) (o':=c+i*256) (l':=(m*256-i*256)) (c':=(a-i*256)) J Z (.inr ⟨_,_,_,Z,Z,U⟩) (.inl ⟨Z,Z⟩) U U U U U U) ?_;refine AL Z Z Z (Fs Z (z:=1) J Z) ?_;refine AL Z Z Z (Ku Z Z Z) ?_;refine AD 18 (v:=I 256) Z (congrArg I U) ?_;refine AL Z Z Z (Bl Z Z) ?_;refine BI (λw d=>?_);have H:=d.l2;refine CS ?_;refine J1 ?_;refine Eq Z Z Z (Cj Z Z) ?_;refine Eq Z Z Z (Bg Z Z J (Ay (H.cel 0 Z 0 Z))) ?_;refine Eq Z Z Z (Cj Z Z) ?_;refine Eq Z Z Z (Cj Z Z) ?_;refine Eq Z Z Z (Cj Z Z) ?_;refine Eq Z Z Z (C3 Z Z Z (r:=(((i+1)*256:Nat):Int)) U U) ?_;refine Eq Z Z Z (Cj Z Z) ?_;refine Eq Z Z Z (Cj Z Z) ?_;refine Eq Z Z Z (C3 Z Z Z (r:=(((i+1)*256:Nat):Int)) U U) ?_;refine Eq Z Z Z (UB Z (sz:=1) (p:=(i*256)) (q:=((i+1)*256)) (o':=c+i*256) (l':=256) J Z Z Z Z U U U U U U U) ?_;refine LL Z Z Z Z Z Z (o i _ (by simp[List.getElem?_range h]) _ H) ?_;rintro _ w ⟨rfl,d⟩;refine ⟨_,Z,?_⟩;have H:=d.l2;refine Eq Z Z Z (Kt Z Z) ?_;refine Rw ?_;refine Iq Z ?_;refine Gs ?_;refine Ce ?_;refine s_do Z Z Z (Cj Z Z) ?_;refine s_do Z Z Z (Bg Z Z J (Ay (H.cel 1 Z 0 Z))) ?_;refine s_do Z Z Z (C3 Z Z Z (r:=(((i+1)*256:Nat):Int)) U U) ?_;refine s_do Z Z Z (Bl Z Z) ?_;refine AQ ?_;intro _ e;refine ⟨(i+1),(e.all Z),⟨H,?_⟩,?_⟩
  ·omega
  omega
 -- no:((i*256:Nat):Int)<((m*256:Nat):Int)
 refine LI ?_;refine IG ?_;obtain rfl:i=m:=by omega
 exact λ_ e=>⟨e.defers,by simpa using H⟩
theorem Yv:Cn prog 150 [.slice (some ⟨m,i,none⟩) n j,I 256] [] (λv Γ=>(∃bs a,v=.func (.func 188) #[] #[Y bs,Y a]/\Γ=[blk bs [.slice (some ⟨m,i,none⟩) n j] 46,blk a [I 256] 3])):=by
 intro z R w H;refine Ae func150 Z ntmps150 Z (Za 2 [] H Z ?_);intro c w H;refine Za 0 [] H Z ?_;intro b w H;refine Z2 15 [0,0,4] H Z (Ab Z (C5 Z Z Z) (Zc 4 Z (Zr Z ?_)));exact ⟨_,⟨c,b,Z,Z⟩,H.perm 2 [1,0] Z Z⟩
set_option maxHeartbeats 1000000 in
theorem Qn (pd b b0 c:Nat) (D:Dsk) (x:Int) (l:Bool) (ps:List (List UInt8)) (A:Ai) (b7:∀p∈ps,p.length=256) (hm:1<=ps.length/\ps.length<=4096) (a8:∀i,(D.ver i).length<=1099511627776) (hA:∀h,A h->rdH 1 (.slice (some ⟨b,b0,none⟩) (ps.length*256) c) (ps.length*256) (ps.flatten.map u8) h):Cn prog 91 [Y pd,I x,.slice (some ⟨b,b0,none⟩) (ps.length*256) c,.bool l] [diskA pd D,A] (λv Γ=>(¬(0<=x/\x+ps.length<=(D.n:Int))/\v=I 2/\Γ=[diskA pd D,A])\/((0<=x/\x+ps.length<=(D.n:Int))/\(D.f2=1\/(D.cut=true/\D.left=0))/\v=I 11/\Γ=[diskA pd {D with f2:=Bf D.f2},A])\/((0<=x/\x+ps.length<=(D.n:Int))/\(¬D.f2=1/\¬(D.cut=true/\D.left=0))/\v=I 0/\Γ=[diskA pd {Dsk.ws {D with f2:=Bf D.f2} l x.toNat ps with left:=max 0 (D.left-1)},A])):=by
 intro z R w j;have H:=j.l2;obtain ⟨bd,m,f0,bs,es,clk,hq,hD,a3,j⟩:=H.disk;clear H;have c8:=hD.n1;have d1:=hD.n2;have d5:=hD.f2;have c9:=hD.left;have d3:=a3.len;have H:=j.l6;refine NL func91 Z 73 ntmps91 Z (AY (AI (E3 Z Z Z (G0 H Z Z (cs:=[Y pd]) Z) ?_)));rintro _ w ⟨b1,rfl,j⟩;have H:=j.l7;refine E3 Z Z Z (G0 H Z Z (cs:=[I x]) Z) ?_;rintro _ w ⟨b2,rfl,j⟩;have H:=j.l8;refine E3 Z Z Z (G0 H Z Z (cs:=[.bool l]) Z) ?_;rintro _ w ⟨b3,rfl,j⟩;have H:=j.l9;refine BZ 1 Z Z (AQ (AY (FK (AY (AI (BZ 1 Z Z (s_do Z Z Z (Fs Z (z:=1) J Z) (BZ 2 Z Z (So 14 Z (λh1=>?_) (λh1=>?_))))))))))
 ·omega
 refine BZ 1 Z Z (s_do Z Z Z (Fs Z (z:=1) J Z) (s_do Z Z Z (Lo Z Z Z (r:=((ps.length*256:Nat):Int)%256) U U U) (BZ 3 Z Z (AQ (Gq Z (λh2=>?_) (λh2=>?_))))))
 ·omega
 refine AY (AI (Gj 3 [0,1] (AO (H.blk 2 Z) (AO (H.blk 1 Z) AM)) Z J Z (s_do Z Z Z (Fs Z (z:=1) J Z) (s_do Z Z Z (Ln Z Z Z (r:=(ps.length:Int)) U U U U) (Fu Z Z Z Z Z (λw=>call147 _ w) (P7 U) H.f3 Z ?_)))));rintro _ w _ ⟨rfl,rfl⟩ j;have H:=j.l9;refine s_do Z Z Z (AF Z Z) (BZ 1 Z Z (AQ (Gq Z (λh3=>?_) (λh3=>?_))))
 ·refine AY (AI (BZ 1 Z Z (AQ (D7 (NM Z [I 2] ⟨Z,trivial⟩ (v:=I 2) Z ?_)))));replace H:=H.f7.f7.f7.f7.f4;have j:=Sep.toDisk (D:=D) (pd:=pd) (bd:=bd) (m:=m) (f0:=f0) (bs:=bs) (es:=es) (clk:=clk) (hq:=hq) (Γ:=blk b3 [.bool l] 4::blk b2 [I x] 3::blk b1 [Y pd] 32::A::R) H hD a3
  have H:=j.l5;exact ⟨[diskA pd D,A],.inl ⟨by omega,Z,Z⟩,H.perm 5 [0,4] Z Z⟩
 obtain ⟨k,rfl⟩:∃k:Nat,x=(k:Int):=⟨x.toNat,by omega⟩;have hk:k+ps.length<=D.n:=by omega
 refine AY (AY (AI (Gj 1 [0] (AO (H.blk 3 Z) AM) Z J Z (Fu Z Z Z Z Z (λw=>call148 _ w) (UN U) H Z ?_))));rintro _ w _ ⟨rfl,rfl⟩ j;have H:=j.l9;refine BZ 1 Z Z (AQ (Gq Z (λh4=>?_) (λh4=>?_)))
 ·refine DG (Gq Z (λh5=>?_) (λh5=>?_))
  ·refine AY (AI (BZ 1 Z Z (AQ (D7 (NM Z [I 11] ⟨Z,trivial⟩ (v:=I 11) Z ?_)))));replace H:=H.f7.f7.f7.f7.f4;have j:=Sep.toDisk (D:= {D with f2:=Bf D.f2}) (pd:=pd) (bd:=bd) (m:=m) (f0:=f0) (bs:=bs) (es:=es) (clk:=clk) (hq:=hq) (Γ:=blk b3 [.bool l] 4::blk b2 [I (k:Int)] 3::blk b1 [Y pd] 32::A::R) H (hD.f hD.f1 (Fg hD.f2) hD.f3 hD.left) (a3.f _ _ _ _ _)
   have H:=j.l5;exact ⟨[diskA pd {D with f2:=Bf D.f2},A],.inr (.inl ⟨by omega,by simp_all,Z,Z⟩),H.perm 5 [0,4] Z Z⟩
  exact absurd h4 h5
 refine AI (Gj 1 [0] (AO (H.blk 3 Z) AM) Z J Z (Fu Z Z Z Z Z (λw=>call149 _ w) (SS) H Z ?_));rintro _ w _ ⟨rfl,rfl⟩ j;have H:=j.l9;refine BZ 1 Z Z (AQ (Sk Z (λh6=>?_) (λh6=>?_)))
 ·refine AY (AI (BZ 1 Z Z (AQ (D7 (NM Z [I 11] ⟨Z,trivial⟩ (v:=I 11) Z ?_)))));replace H:=H.f7.f7.f7.f7.f4;have j:=Sep.toDisk (D:= {D with f2:=Bf D.f2}) (pd:=pd) (bd:=bd) (m:=m) (f0:=f0) (bs:=bs) (es:=es) (clk:=clk) (hq:=hq) (Γ:=blk b3 [.bool l] 4::blk b2 [I (k:Int)] 3::blk b1 [Y pd] 32::A::R) H (hD.f hD.f1 (Fg hD.f2) hD.f3 hD.left) (a3.f _ _ _ _ _)
  have H:=j.l5;exact ⟨[diskA pd {D with f2:=Bf D.f2},A],.inr (.inl ⟨by omega,by simp_all,Z,Z⟩),H.perm 5 [0,4] Z Z⟩
 refine DG (AY (AY (AI (BZ 1 Z Z (Fu Z Z Z Z Z (λw=>call151 _ w) (Jq (ps.length*256) ps.flatten (hA) U) H.f8 Z ?_)))));rintro _ w _ ⟨g,s,rest,rfl,⟨cg,cc,cl⟩,rfl⟩ j;have H:=j.l10;refine Fu Z Z Z Z Z (λw=>call150 _ w) (Yv) H Z ?_;rintro _ w _ ⟨y,t,rfl,rfl⟩ j;have H:=j.l12;refine AQ (FK ?_);replace H:=H.f2.f10;obtain ⟨a0,⟨c1,c4⟩,j⟩:=UV H;clear H;have H:=j.l11;replace H:=H.f10.f1.f10.f10.f7;have j:=Sep.toDiskQ (D:= {D with f2:=Bf D.f2}) (pd:=pd) (bd:=bd) (m:=m) (f0:=f0) (bs:=bs) (es:=es) (clk:=clk) (hq:=a0) (Γ:=blk y [.slice (some ⟨g,0,none⟩) (ps.length*256) s] 46::blk t [I 256] 3::A::blk b3 [.bool l] 4::blk b2 [I (k:Int)] 3::blk b1 [Y pd] 32::R) H (hD.f hD.f1 (Fg hD.f2) hD.f3 hD.left) ((a3.f _ _ _ _ _).le c1);have H:=j.l7;replace H:=H.f3.f1.f4.f5.f6.f6.f6;have j:Sep z ((blk b1 [Y pd] 32::blk b2 [I ((k+0:Nat):Int)] 3::blk b3 [.bool l] 4::diskQ pd (Dsk.ws {D with f2:=Bf D.f2} l k (ps.take 0)) a0::A::R)++[blk y [.slice (some ⟨g,0,none⟩) (ps.length*256) s] 46,blk t [I 256] 3]) w:=Sep.swap (As:=[blk y [.slice (some ⟨g,0,none⟩) (ps.length*256) s] 46,blk t [I 256] 3]) (Bs:=blk b1 [Y pd] 32::blk b2 [I ((k+0:Nat):Int)] 3::blk b3 [.bool l] 4::diskQ pd (Dsk.ws {D with f2:=Bf D.f2} l k (ps.take 0)) a0::A::R) (by simpa [Dsk.ws] using H);clear H;have a9:=λi=>Dsk.ws_n l (ps.take i) {D with f2:=Bf D.f2} k;have b8:=λi=>Dsk.ws_f l (ps.take i) {D with f2:=Bf D.f2} k;refine X0 (λi=>blk b1 [Y pd] 32::blk b2 [I ((k+i:Nat):Int)] 3::blk b3 [.bool l] 4::diskQ pd (Dsk.ws {D with f2:=Bf D.f2} l k (ps.take i)) a0::A::R) Z (λu w=>call188 u w) Z (Vn y t g 0 ps.length s U U U) j ?_ ?_
 ·rintro ro i v hv w;obtain ⟨hi,rfl⟩:i<ps.length/\v=.slice (some ⟨g,0+i*256,none⟩) 256 256:=by
    have hl:=(Aeb.1 hv).1;simp at hl;rw[Aeo,List.getElem?_range hl] at hv;simp at hv;exact ⟨hl,by rw[<-hv,AfM]⟩
  obtain ⟨p,hp⟩:∃p,ps[i]?=some p:=⟨_,Aed hi⟩;have o:=b7 p (Aec hp);have b6:=UW c4 b7 hp;refine Ce (BZ 1 Z Z (AQ ?_));refine λa hF=>⟨Z,λF w j=>?_⟩;revert a hF;have H:=j.l5;have j:=H.pick 4 [3,0,1,2] Z;have H:Sep z (diskQ pd (Dsk.ws {D with f2:=Bf D.f2} l k (ps.take i)) a0::blk b1 [Y pd] 32::blk b2 [I ((k+i:Nat):Int)] 3::blk b3 [.bool l] 4::A::(R++([blk y [.slice (some ⟨g,0,none⟩) (ps.length*256) s] 46,blk t [I 256] 3]++F))) w:=j;clear j;obtain ⟨bd,m,f0,bs,es,clk,a2,a1,j⟩:=H.diskQ;clear H;have H:=j.l9;have a7:=a9 i;have b5:k+i<(Dsk.ws {D with f2:=Bf D.f2} l k (ps.take i)).n:=by rw[a7];show k+i<D.n;omega
  have d0:(Dsk.ws {D with f2:=Bf D.f2} l k (ps.take i)).n=D.n:=a7;refine D9 (CS (CS (Ce (Gj 1 [0] (AO (H.blk 7 Z) AM) Z J Z (AQ (Ji Z (λh7=>?_) (λh7=>?_)))))))
  ·subst h7;refine CS (Ce (Gj 2 [0,1] (AO (H.blk 5 Z) (AO (H.blk 6 Z) AM)) Z J Z (Fu Z Z Z Z Z (λw=>call152 _ w) (Xn (k+i) U U) H Z ?_)));rintro _ w _ ⟨rfl,rfl⟩ j;have H:=j.l9;refine BZ 1 Z Z (E3 Z Z Z (F5 1 H Z Z J Z Z (m:=256) (news:=(p.map u8)) (.inl (H.rv 3 (λq=>b6.le q))) (by simp[u8,Value.oneCell']) (by have:=a1.len;simp;omega) (k:=256) U (out:=((bs.take ((k+i)*256)++p++bs.drop ((k+i)*256+256)).map u8)) (by simp[o,Aej])) ?_);rintro _ w ⟨rfl,j⟩;have H:=j.l9;refine AQ (IN (Sep z (blk pd [.slice (some ⟨bd,0,none⟩) ((Dsk.ws {D with f2:=Bf D.f2} true k (ps.take i)).n*256) ((Dsk.ws {D with f2:=Bf D.f2} true k (ps.take i)).n*256),.map (some m),I f0,I ((Dsk.ws {D with f2:=Bf D.f2} true k (ps.take i)).f1),I ((Dsk.ws {D with f2:=Bf D.f2} true k (ps.take i)).f2),I ((Dsk.ws {D with f2:=Bf D.f2} true k (ps.take i)).f3),.bool ((Dsk.ws {D with f2:=Bf D.f2} true k (ps.take i)).cut),I ((Dsk.ws {D with f2:=Bf D.f2} true k (ps.take i)).left)] 98::blk bd ((bs.take ((k+i)*256)++p++bs.drop ((k+i)*256+256)).map u8) 5::AH m (es.map Ent.ie) clk::poolA a0::seps (es.map Ent.row)::blk b1 [Y pd] 32::blk b2 [I ((k+i:Nat):Int)] 3::blk b3 [.bool true] 4::A::(R++([blk y [.slice (some ⟨g,0,none⟩) (ps.length*256) s] 46,blk t [I 256] 3]++F)))) 6 Z J (AZ H λw j=>?_))
   have H:=j.l9;refine Bu [0,1,2,3,4] [0,1,1,2] J (λ_ hx=>(AO (hx.blk 5 Z) (AO (hx.blk 0 Z) (AO (hx.blk 6 Z) AM)))) (by exact H.pick 9 [0,1,2,3,4,5,6,7,8] Z) Z J Z Z (AE [5] J O (Am (AcY Z Z Z (Ny 2 (e:=223) H Z Z J Z Z) ?_)));rintro _ w ⟨rfl,j⟩;have H:=j.l9;refine Ar (λh=>absurd Z h) (Bj J ?_);obtain ⟨es2,a5,a6,a4⟩:=S6 a1 b5 o (bs':=(bs.take ((k+i)*256)++p++bs.drop ((k+i)*256+256))) Z;replace H:=H.f4;have j:=H.mono 0 Z a4;rw[a6] at j;have H:=j.l9;replace H:=H.f4.f4.f4.f4;have e3:Dsk.ws {D with f2:=Bf D.f2} true k (ps.take (i+1))=(Dsk.ws {D with f2:=Bf D.f2} true k (ps.take i)).w1 true (k+i) p:=by rw[Dsk.ws_take hp]
   have j:=Sep.toDiskQ (D:=(Dsk.ws {D with f2:=Bf D.f2} true k (ps.take i)).w1 true (k+i) p) (pd:=pd) (bd:=bd) (m:=m) (f0:=f0) (bs:=(bs.take ((k+i)*256)++p++bs.drop ((k+i)*256+256))) (es:=es2) (clk:=clk) (hq:=a0) (Γ:=blk b1 [Y pd] 32::blk b2 [I ((k+i:Nat):Int)] 3::blk b3 [.bool true] 4::A::(R++([blk y [.slice (some ⟨g,0,none⟩) (ps.length*256) s] 46,blk t [I 256] 3]++F))) H (a2.w1 o) a5;rw[<-e3] at j;have H:=j.l5;refine Ce (Gj 1 [0] (AO (H.blk 2 Z) AM) Z J Z (s_do Z Z Z (C3 Z Z Z (r:=((k+(i+1):Nat):Int)) U U) (F0 Z Z (Lp 2 H Z Z Z Z Z Z J) ?_)));rintro w j;have H:=j.l5;refine AQ ?_;replace H:=H.f4.f1.f4.f4.f4;exact λ_ _=>H
  subst h7;replace H:=H.f4;obtain ⟨v0,c3,Rest,c2,b9,j,c5⟩:=S5 a1 b5 H;clear H;have H:=j.l10;have c7:c3.length<=1099511627776:=by rw[b9,Dsk.ws_ver _ _ _ _ _ (.inr (by rw[Aex];omega))];exact a8 _
  refine IN (Sep z (emp::seps Rest::blk pd [.slice (some ⟨bd,0,none⟩) ((Dsk.ws {D with f2:=Bf D.f2} false k (ps.take i)).n*256) ((Dsk.ws {D with f2:=Bf D.f2} false k (ps.take i)).n*256),.map (some m),I f0,I ((Dsk.ws {D with f2:=Bf D.f2} false k (ps.take i)).f1),I ((Dsk.ws {D with f2:=Bf D.f2} false k (ps.take i)).f2),I ((Dsk.ws {D with f2:=Bf D.f2} false k (ps.take i)).f3),.bool ((Dsk.ws {D with f2:=Bf D.f2} false k (ps.take i)).cut),I ((Dsk.ws {D with f2:=Bf D.f2} false k (ps.take i)).left)] 98::blk bd (bs.map u8) 5::AH m (es.map Ent.ie) clk::poolA a0::blk b1 [Y pd] 32::blk b2 [I ((k+i:Nat):Int)] 3::blk b3 [.bool false] 4::A::(R++([blk y [.slice (some ⟨g,0,none⟩) (ps.length*256) s] 46,blk t [I 256] 3]++F)))) 15 Z J (AZ H λw j=>?_);have H:=j.l10;refine Bu [0,1,2,3,4,5,6,7,8,9] [0,1,1,2,0,1,1,2] J (λ_ hx=>(AO (hx.blk 6 Z) (AO (hx.blk 2 Z) (AO (hx.blk 7 Z) AM)))) (by exact Sep.mono 0 (B:=emp) (H.pick 10 [0,1,2,3,4,5,6,7,8,9] Z) Z (λ_ _=>trivial)) Z J Z Z (BJ 10 J Z Z J J J Z Z Z (FN (e:=223) (zv:=.slice none 0 0) Z J J Z Z (λ_ hx=>hx.bk 4 Z)) (Sep.mono 0 (B:=emp) (H.pick 10 [0,1,2,3,4,5,6,7,8,9] Z) Z (λ_ _=>trivial)) (AD 58 (v:=v0) Z c2 (Bu [11] [] J (λ_ _=>AM) (by exact Sep.mono 0 (B:=emp) (H.pick 10 [0,1,2,3,4,5,6,7,8,9] Z) Z (λ_ _=>trivial)) Z J Z Z (AE [12] J O (Am (Ca Z Z Z Z (AP H Z J (Elt.mk (P:=prog) (e:=46) (z:=.slice none 0 0) (sz:=1) (by_:=24) J Z U U) Z (by decide) (by decide) (out:=[.slice (some ⟨g,(0+i*256),none⟩) 256 256]) J) ?_))))));rintro _ w ⟨b4,rfl,j⟩;have H:=j.l11;refine Ar (λ_=>(Sep.mono 0 (B:=emp) (H.pick 11 [1,2,3,4,5,6,7,8,9,10] Z) Z (λ_ _=>trivial))) (AE [13] J O (Am (Ca Z Z Z Z (A0 1 H Z Z J (Elt.mk (P:=prog) (e:=46) (z:=.slice none 0 0) (sz:=1) (by_:=24) J Z U U) Z Z (H.rv 0 (·.rd U U O Z)) (by simp[Value.oneCell']) U) ?_)));rintro v5 w j;have H:=j.l11;refine Ar (λ_=>(Sep.mono 0 (B:=emp) (H.pick 11 [1,2,3,4,5,6,7,8,9,10] Z) Z (λ_ _=>trivial))) (AE [14] J O (Am (Bi Z Z Z (DO 5 (e:=223) H Z Z J Z Z Z) ?_)));rintro w j;have H:=j.l11;refine Ar (λh=>absurd Z h) (Bj J ?_);replace H:=H.f2.f2;obtain ⟨es2,a5,a6,a4⟩:=c5 v5 _ p o b6;have j:=Sep.made 2 H a4;rw[a6] at j;have H:=j.l10;replace H:=H.f5.f5.f5.f5;have e3:Dsk.ws {D with f2:=Bf D.f2} false k (ps.take (i+1))=(Dsk.ws {D with f2:=Bf D.f2} false k (ps.take i)).w1 false (k+i) p:=by rw[Dsk.ws_take hp]
  have j:=Sep.toDiskQ (D:=(Dsk.ws {D with f2:=Bf D.f2} false k (ps.take i)).w1 false (k+i) p) (pd:=pd) (bd:=bd) (m:=m) (f0:=f0) (bs:=bs) (es:=es2) (clk:=putC (es.map Ent.ie) ((k+i:Nat):Int) clk) (hq:=a0) (Γ:=blk b4 [.slice (some ⟨g,(0+i*256),none⟩) 256 256] 46::blk b1 [Y pd] 32::blk b2 [I ((k+i:Nat):Int)] 3::blk b3 [.bool false] 4::A::(R++([blk y [.slice (some ⟨g,0,none⟩) (ps.length*256) s] 46,blk t [I 256] 3]++F))) H (a2.w1 o) a5;rw[<-e3] at j;have H:=j.l6;refine Ce (Gj 1 [0] (AO (H.blk 3 Z) AM) Z J Z (s_do Z Z Z (C3 Z Z Z (r:=((k+(i+1):Nat):Int)) U U) (F0 Z Z (Lp 3 H Z Z Z Z Z Z J) ?_)));rintro w j;have H:=j.l6;refine AQ ?_;replace H:=H.f1.d.f4.f1.f4.f4.f4;exact λ_ _=>H
 rintro D0 w j;rw[Aef,List.length_range] at j;have H:=j.l6;obtain ⟨bd,m,f0,bs,es,clk,a2,a1,j⟩:=(H.pick 6 [4,0,1,2,3,5] Z).diskQ;clear H;have H:=j.l10;have c6:=a2.left;refine AY (BH 9 J J (AZ H λw j=>?_));have H:=j.l10;refine PV 5 [0,0,7,1] (AO (H.blk 6 Z) (AO (H.blk 0 Z) AM)) Z J Z (B9 Z Z Z (Hs Z Z Z (r:=((Dsk.ws {D with f2:=Bf D.f2} l k (ps.take ps.length)).left)-1) U U) (B9 Z Z Z (Nb Z Z Z) (PW 2 [7] Z J (CF (F0 Z Z (AdG 0 H Z Z Z Z Z Z J) ?_)))));rintro w j;have H:=j.l10;refine AQ (AY (AI (BZ 1 Z Z (AQ (D7 ?_)))));replace H:=H.f5;refine NN H (rs:=[.tmp 8]) Z [I 0] (λ_=>⟨Z,trivial⟩) (v:=I 0) Z (λw j=>?_);clear H;have H:=j.l9;have c0:=(b8 ps.length).2.2.2.2;have j:=Sep.toDisk (D:= {Dsk.ws {D with f2:=Bf D.f2} l k (ps.take ps.length) with left:=max (0:Int) ((Dsk.ws {D with f2:=Bf D.f2} l k (ps.take ps.length)).left-1)}) (pd:=pd) (bd:=bd) (m:=m) (f0:=f0) (bs:=bs) (es:=es) (clk:=clk) (hq:=a0) (Γ:=blk b1 [Y pd] 32::blk b2 [I ((k+ps.length:Nat):Int)] 3::blk b3 [.bool l] 4::A::(R++[blk y [.slice (some ⟨g,0,none⟩) (ps.length*256) s] 46,blk t [I 256] 3])) H (a2.f a2.f1 a2.f2 a2.f3 U) (a1.f _ _ _ _ _);have H:=j.l5;have j:=Sep.front (As:=diskA pd {Dsk.ws {D with f2:=Bf D.f2} l k (ps.take ps.length) with left:=max (0:Int) ((Dsk.ws {D with f2:=Bf D.f2} l k (ps.take ps.length)).left-1)} ::A::R) (Bs:=[blk y [.slice (some ⟨g,0,none⟩) (ps.length*256) s] 46,blk t [I 256] 3]) (H.pick 5 [0,4] Z);exact ⟨[diskA pd {Dsk.ws {D with f2:=Bf D.f2} l k (ps.take ps.length) with left:=max (0:Int) ((Dsk.ws {D with f2:=Bf D.f2} l k (ps.take ps.length)).left-1)},A],.inr (.inr ⟨by omega,by simp_all,by rw[Ae7,c0] at *;exact ⟨Z,Z⟩⟩),j⟩
theorem Om(ps:List (List UInt8))(f:∀p∈ps,p.length=256)(s:1<=ps.length/\ps.length<=4096)(d:∀i,(D.ver i).length<=1099511627776)(o:ps.length*256=n)(r:∀h,A h->rdH 1 (.slice (some ⟨j,e,none⟩) n g) n (ps.flatten.map u8) h):
  Cn prog 91 [Y m,I t,.slice (some ⟨j,e,none⟩) n g,.bool false] [diskA m D,A] (λv Γ=>(¬(0<=t/\t+ps.length<=(D.n:Int))/\v=I 2/\Γ=[diskA m D,A])\/((0<=t/\t+ps.length<=(D.n:Int))/\D.bad/\v=I 11/\Γ=[diskA m D.wf,A])\/((0<=t/\t+ps.length<=(D.n:Int))/\¬D.bad/\v=I 0/\Γ=[diskA m (D.wr t.toNat ps),A])):=by
 subst o;refine Cn.mono (Qn m j e g D t false ps A f s d r) ?_;rintro v Γ (⟨a,b,c⟩|⟨a,b,c,l⟩|⟨a,⟨b,k⟩,c,l⟩)
 ·exact .inl ⟨a,b,c⟩
 ·exact .inr (.inl ⟨a,b,c,l⟩)
 exact .inr (.inr ⟨a,λq=>by rcases q with q|q;exact b q;exact k q,c,l⟩)
set_option maxHeartbeats 1000000 in
theorem Vo (o pd d:Nat) (s:Sup) (at_ sq us:Int) (r l:Bool) (v:Value) (ims:List Img) (A:Ai) (hA:∀h,A h->imgsH v ims h) (D:Dsk) (a1:s.Ok (D.n:Int)) (a5:l=decide (s.epoch<4294967296)) (b4:0<=at_/\at_<s.len) (b1:0<=sq/\sq<=2199023255552) (hu:0<=us/\us<=s.len) (u:∀i,(D.ver i).length<=1000000000000):Cn prog 162 [Y o,v] [lgB o pd d s at_ sq us r l,tblA d,diskA pd D,A] (λv Γ=>(ims.length > 40/\v=I 16/\Γ=[lgB o pd d s at_ sq us r l,tblA d,diskA pd D,A])\/(ims.length<=40/\(ims=[]\/¬EG ims)/\v=I 1/\Γ=[lgB o pd d s at_ sq us r l,tblA d,diskA pd D,A])\/((1<=ims.length/\ims.length<=40)/\EG ims/\¬(1+(ims.length:Int)<=(if r then 0 else s.len-us)/\l=true/\sq<1099511627776)/\v=I 15/\Γ=[lgB o pd d s at_ sq us r l,tblA d,diskA pd D,A])\/
  ((1<=ims.length/\ims.length<=40)/\EG ims/\(1+(ims.length:Int)<=(if r then 0 else s.len-us)/\l=true/\sq<1099511627776)/\∃(k:Nat),(k:Int)=min (1+(ims.length:Int)) (s.len-at_)/\((¬D.bad/\k=1+ims.length/\v=I 0/\Γ=[lgB o pd d s ((at_+(1+(ims.length:Int)))%s.len) (sq+1) (us+(1+(ims.length:Int))) r l,tblA d,diskA pd (D.wr (s.start+at_).toNat ((BC s.epoch sq ims).take k)),A])\/(¬D.bad/\k<1+ims.length/\¬Dsk.bad (D.wr (s.start+at_).toNat ((BC s.epoch sq ims).take k))/\v=I 0/\Γ=[lgB o pd d s ((at_+(1+(ims.length:Int)))%s.len) (sq+1) (us+(1+(ims.length:Int))) r l,tblA d,diskA pd ((D.wr (s.start+at_).toNat ((BC s.epoch sq ims).take k)).wr s.start.toNat ((BC s.epoch sq ims).drop k)),A])\/
    (D.bad/\v=I 11/\Γ=[lgB o pd d s at_ (sq+1) us true l,tblA d,diskA pd D.wf,A])\/(¬D.bad/\k<1+ims.length/\Dsk.bad (D.wr (s.start+at_).toNat ((BC s.epoch sq ims).take k))/\v=I 11/\Γ=[lgB o pd d s at_ (sq+1) us true l,tblA d,diskA pd (Dsk.wf (D.wr (s.start+at_).toNat ((BC s.epoch sq ims).take k))),A])))):=by
 intro z R w H;obtain ⟨ao,ic,rfl⟩:=H.sy 3 (λq=>(hA _ q).slc);have a2:=H.sy 2 (λq=>(diskA.ok q).n2);have a8:=H.sy 3 (λq=>(hA _ q).small);have b0:=Sup.get a1;have a9:=a1.2
 refine Ae func162 Z ntmps162 Z (Z0 15 [0] Z (Af Z (λh1=>?_) (λh1=>?_)))
 ·refine Zc 6 Z (Zr Z ?_);exact ⟨_,.inl ⟨by omega,Z,Z⟩,H.perm 4 [0,1,2,3] Z Z⟩
 have j:ims.length<=40:=by omega
 refine Z0 8 [0] Z (Af Z (λh2=>?_) (λh2=>?_))
 ·refine Zc 6 Z (Zr Z ?_);exact ⟨_,.inr (.inl ⟨by omega,by first|exact .inr a|exact .inl (Agy U),rfl,rfl⟩),H.perm 4 [0,1,2,3] Z Z⟩
 refine Zc 7 Z (Aq Z (call198 _) (Vm hA a5 U U ⟨by omega,by omega⟩ U U) H.f3.f2.f2 ?_);rintro _ w _ (⟨a,rfl,rfl⟩|⟨a,b,rfl,rfl⟩|⟨a,b,v1,rfl,rfl⟩) g
 ·have H:=g.l4;refine Z0 22 [3] Z (Zr Z ?_);exact ⟨_,.inr (.inl ⟨by omega,by first|exact .inr a|exact .inl (Agy U),rfl,rfl⟩),H.perm 4 [0,1,3,2] Z Z⟩
 ·have H:=g.l4;refine Z0 22 [3] Z (Zr Z ?_);exact ⟨_,.inr (.inr (.inl ⟨⟨by omega,by omega⟩,a,b,Z,Z⟩)),H.perm 4 [0,1,3,2] Z Z⟩
 have H:=g.l5;have a0:=Ym (e:=s.epoch) (sq:=sq) a.1 j;refine Zc 1 Z ?_;obtain ⟨gb,gc,rfl,b5,a7⟩:=H.sy 0 (·.sl U);generalize hps:BC s.epoch sq ims=ps at H a0;obtain ⟨c,b2⟩:=a0;have b3:=U8 c;have H:Sep z (grow 5 1 (.slice (some ⟨gb,0,none⟩) ((1+ims.length)*256) gc) ((1+ims.length)*256) (ps.flatten.map u8)::lgB o pd d s at_ sq us r l::tblA d::A::diskA pd D::R) w:=H;obtain ⟨k,hk⟩:∃k:Nat,(k:Int)=min (1+(ims.length:Int)) (s.len-at_):=⟨(min (1+(ims.length:Int)) (s.len-at_)).toNat,by omega⟩;have a4:(ps.take k).length=k:=by rw[Aex];omega
 have a6:(ps.drop k).length=1+ims.length-k:=by rw[AeM];omega
 refine Z0 17 [4] Z (Bv (Sep z _) J J H.drew (G4 13 [2,6,1,0,9,1,0] [s.len-at_,(s.len-at_)*256] Z J U (AL Z Z Z (Ku Z Z Z) (AD 38 (v:=I ((k*256:Nat):Int)) Z (congrArg I U) (B0 1 [] Z J (BI (λw g=>?_)))))));have H:=g.l5;refine gn (Zc 2 Z ?_);replace H:=H.f1;refine AN (Sep z (lgB o pd d s at_ sq us r l::R)) 19 Z J (AZ H λw g=>?_);have H:=g.l5;refine HD [0,1,2,3,4,5,6,7,8,9,10,11,12,13,14,15] [0,0,0,2,5,0,0,9,0,0] [s.start+at_] (by exact H.pick 5 [0] Z) Z J U Z (BN 16 Z J J J Z Z Z (BL Z (z:=1) (p:=0) (q:=(k*256)) (o':=0) (l':=(k*256)) (c':=gc) J Z (.inl ⟨Z,Z⟩) (.inr ⟨_,_,_,Z,Z,Z⟩) U U U U U U) (H.pick 5 [0] Z) (AC [17] J O (Am (Bo Z Z Z Z Z Z (λw=>call91 _ w) (Om (ps.take k) (λp hp=>c p (Afg hp)) U (λi=>by have:=u i;omega) (by rw[a4]) (λh q=>by rw[Tf c];exact (grow.rdB q).pre U U)) H.f1.f4 Z ?_))));rintro _ w _ (⟨a3,rfl,rfl⟩|⟨_,x,rfl,rfl⟩|⟨_,f,rfl,rfl⟩) g
 ·exact absurd ⟨by omega,by omega⟩ a3
 ·have H:=g.l5;refine Av (H.pick 5 [2] Z) (AT [18] [] [] (by exact H.pick 5 [2] Z) Z J Z (a_done J (gn (Z5 52 [4,3,10,2,0,10,2,12,2] [sq+1] H Z U ?_))));intro w H;refine Zr Z ?_;subst hps;exact ⟨_,.inr (.inr (.inr ⟨⟨by omega,by omega⟩,a,b,k,hk,.inr (.inr (.inl ⟨x,Z,Z⟩))⟩)),H.perm 5 [2,3,0,4] Z Z⟩
 have H:=g.l5;refine Av (H.pick 5 [2] Z) (AT [18] [] [] (by exact H.pick 5 [2] Z) Z J Z (a_done J (gn (Z0 14 [3,0] Z (Af Z (λh3=>?_) (λh3=>?_))))))
 ·replace H:=H.f2;refine AN (Sep z (lgB o pd d s at_ sq us r l::R)) 14 Z J (AZ H λw g=>?_)
  have H:=g.l5;refine AT [0,1,2,3,4,5,6,7,8,9,10] [0,0,0,2,5,0,0] [] (by exact H.pick 5 [0] Z) Z J Z (BN 11 Z J J J Z Z Z (BL Z (z:=1) (p:=(k*256)) (q:=((1+ims.length)*256)) (o':=k*256) (l':=((1+ims.length)*256)-(k*256)) (c':=gc-(k*256)) J Z (.inr ⟨_,_,_,Z,Z,Z⟩) (.inl ⟨Z,Z⟩) U U U U U U) (H.pick 5 [0] Z) (AC [12] J O (Am (Bo Z Z Z Z Z Z (λw=>call91 _ w) (Om (ps.drop k) (λp hp=>c p (Afu hp)) U (λi=>by have h1:=u i;have h2:=Dsk.wr_len D (s.start+at_).toNat (ps.take k) i;omega) (by rw[a6];omega) (λh q=>by have:=(grow.rdB q).cut (lo:=k*256) (m:=(1+ims.length)*256-k*256) (c':=gc-k*256) U U U;rw[Th c];rwa[Aej (by rw[AeM];omega),AfM] at this)) H.f2.f2 Z ?_))));rintro _ w _ (⟨a2,rfl,rfl⟩|⟨_,y,rfl,rfl⟩|⟨_,t,rfl,rfl⟩) g
  ·exact absurd ⟨by omega,by rw[Dsk.wr_n];omega⟩ a2
  ·have H:=g.l5;refine Av (H.pick 5 [2] Z) (AT [13] [] [] (by exact H.pick 5 [2] Z) Z J Z (a_done J (gn (Z5 36 [3,10,2,0,10,2,12,2] [sq+1] H Z U ?_))));intro w H;refine Zr Z ?_;subst hps;exact ⟨_,.inr (.inr (.inr ⟨⟨by omega,by omega⟩,a,b,k,hk,.inr (.inr (.inr ⟨f,by omega,y,Z,Z⟩))⟩)),H.perm 5 [2,3,0,4] Z Z⟩
  have H:=g.l5;refine Av (H.pick 5 [2] Z) (AT [13] [] [] (by exact H.pick 5 [2] Z) Z J Z (a_done J (gn (Z1 17 [4] [1+(ims.length:Int)] Z U (z_E_ Z (call156 _) (J9 U U U U U) H.f2 ?_)))));intro w H;refine Zc 8 Z (Zr Z ?_);subst hps;exact ⟨_,.inr (.inr (.inr ⟨⟨by omega,by omega⟩,a,b,k,hk,.inr (.inl ⟨f,by omega,t,Z,Z⟩)⟩)),H.perm 5 [0,3,1,4] Z Z⟩
 refine Z1 18 [4] [1+(ims.length:Int)] Z U (z_E_ Z (call156 _) (J9 U U U U U) H.f2 ?_);intro w H;refine Zc 8 Z (Zr Z ?_);subst hps;exact ⟨_,.inr (.inr (.inr ⟨⟨by omega,by omega⟩,a,b,k,hk,.inl ⟨f,by omega,Z,Z⟩⟩)),H.perm 5 [0,3,1,4] Z Z⟩
open Go.RowKit Go.Shelf
def IX:Go.Shelf.Ren:=⟨fun|189=>196|125=>172|257=>228|128=>214|129=>215|294=>250|295=>251|296=>252|297=>253|298=>254|299=>255|216=>256|300=>257|301=>258|328=>269|329=>242|330=>243|331=>270|332=>271|215=>173|343=>278|n=>n,fun|28=>81|3=>3|46=>260|0=>0|51=>227|53=>185|4=>4|183=>300|182=>299|131=>176|5=>5|9=>9|218=>333|222=>283|228=>351|229=>197|n=>n,fun|n=>n⟩
theorem Ka:Go.Proofs.Lays.n189 prog IX:= {
 mixed:=by kernel_rfl,
 f125:=func172.trans (congrArg some J),
 f128:=func214.trans (congrArg some J),
 f129:=func215.trans (congrArg some J),
 f189:=func196.trans (congrArg some J),
 f215:=func173.trans (congrArg some J),
 f216:=func256.trans (congrArg some J),
 f257:=func228.trans (congrArg some J),
 f294:=func250.trans (congrArg some J),
 f295:=func251.trans (congrArg some J),
 f296:=func252.trans (congrArg some J),
 f297:=func253.trans (congrArg some J),
 f298:=func254.trans (congrArg some J),
 f299:=func255.trans (congrArg some J),
 f300:=func257.trans (congrArg some J),
 f301:=func258.trans (congrArg some J),
 f328:=func269.trans (congrArg some J),
 f329:=func242.trans (congrArg some J),
 f330:=func243.trans (congrArg some J),
 f331:=func270.trans (congrArg some J),
 f332:=func271.trans (congrArg some J),
 f343:=func278.trans (congrArg some J),
 t0:=underlying0,
 a0:=isAgg0,
 z0:=sizeOf0,
 v0:=zeroValue0,
 t3:=underlying3,
 a3:=isAgg3,
 z3:=sizeOf3,
 v3:=zeroValue3,
 t4:=underlying4,
 a4:=isAgg4,
 z4:=sizeOf4,
 v4:=zeroValue4,
 t5:=underlying5,
 a5:=isAgg5,
 z5:=sizeOf5,
 v5:=zeroValue5,
 t9:=underlying9,
 a9:=isAgg9,
 z9:=sizeOf9,
 v9:=zeroValue9,
 t28:=underlying81,
 a28:=isAgg81,
 z28:=sizeOf81,
 v28:=zeroValue81,
 t46:=underlying260,
 a46:=isAgg260,
 z46:=sizeOf260,
 v46:=zeroValue260,
 t51:=underlying227,
 a51:=isAgg227,
 z51:=sizeOf227,
 v51:=zeroValue227,
 t53:=underlying185,
 a53:=isAgg185,
 z53:=sizeOf185,
 v53:=zeroValue185,
 t131:=underlying176,
 a131:=isAgg176,
 z131:=sizeOf176,
 v131:=zeroValue176,
 t182:=underlying299,
 a182:=isAgg299,
 z182:=sizeOf299,
 v182:=zeroValue299,
 t183:=underlying300,
 a183:=isAgg300,
 z183:=sizeOf300,
 v183:=zeroValue300,
 t218:=underlying333,
 a218:=isAgg333,
 z218:=sizeOf333,
 v218:=zeroValue333,
 t222:=underlying283,
 a222:=isAgg283,
 z222:=sizeOf283,
 v222:=zeroValue283,
 t228:=underlying351,
 a228:=isAgg351,
 z228:=sizeOf351,
 v228:=zeroValue351,
 t229:=underlying197,
 a229:=isAgg197,
 z229:=sizeOf197,
 v229:=zeroValue197}
open Go.Sort in
theorem Vp {z w:World} {R:List Ai} {b n:Nat} {cs:List Value} {ty:TypeId} (H:Sep z (blk b cs ty::R) w) (ys:List Int) (os:Array Obj):
  Sep z (blk b ((putCells I 0 ys.toArray cs.toArray).toList) ty::R) (Go.Sort.grow (putRow I (Go.Sort.ahead w n) b 0 ys.toArray) os):=by
 have hb:w.heap[b]?=some (.cells cs.toArray ty (0,0)):=H.blk 0 Z;have h1:Sep z (blk b ((putCells I 0 ys.toArray cs.toArray).toList) ty::R) (putRow I (Go.Sort.ahead w n) b 0 ys.toArray):=by
  refine H.write 0 Z Z Z Z (o':=.cells (putCells I 0 ys.toArray cs.toArray) ty (0,0)) ?_ ?_
  ·show (w.heap.modify b _)[b]?=_
   rw[AgB,if_pos Z,hb];rfl
  intro k hk;show (w.heap.modify b _)[k]?=_;rw[AgB,if_neg (AfS hk)]
 refine h1.ext0 ⟨Z,Z,Z,?_,λk hk _=>?_⟩
 ·show _<=(_++os:Array Obj).size
  simp
 show (_++os:Array Obj)[k]?=_;rw[Ahk hk]
theorem Tq(hl:l.length<=1099511627776):Cn prog 196 [v] [grow 3 1 v l.length (l.map I)]
  (λu Γ=>u=.tuple #[]/\∃ys:List Int,ys=l.mergeSort (λx y=>decide (x<=y))/\Γ=[grow 3 1 v ys.length (ys.map I)]):=by
 intro z R w H;have H:Sep z (grow 3 1 v l.length (l.map I)::R) w:=H;rcases H.sy 0 (·.form) with ⟨rfl,h0⟩|⟨b,c,rfl,hc⟩
 ·obtain rfl:l=[]:=Age.1 h0
  refine (Go.Proofs.Any.slices_Sort_int_none Ka none 0 w).mono ?_;rintro e w' ⟨rfl,rfl⟩;exact ⟨_,⟨Z,[],by simp,Z⟩,H⟩
 obtain ⟨⟨s,a⟩,⟨k,h1,h2,h3,h4⟩,H1⟩:=H.into (σ:=Nat×List Value) (p:=λx=>c=x.1/\l.length<=x.1/\x.1<=maxLen/\x.2.length=x.1/\x.2.take l.length=l.map I) (As:=λx=>[blk b x.2 3]) (λh q=>by
  rcases q.2 with ⟨q,_⟩|⟨g,s,a,k,hg,hc,hm,hs,ht⟩
  ·cases q
  simp only[Value.slice.injEq,Ael,Ahl,and_true,true_and] at k;obtain ⟨rfl,rfl⟩:=k;refine ⟨(c,a.toList),⟨Z,hc,hm,by simpa using hs,by simpa using ht⟩,λ_=>0,λi A hi=>?_⟩
  cases i with
  | zero=>simp at hi;subst hi;show Hp.part _ _ _ _=_;unfold Hp.part;rw[if_pos Z];simpa using hg
  | succ i=>simp at hi)
 dsimp only at k h1 h2 h3 h4 H1;subst k;have H1:Sep z (blk b a 3::R) w:=H1;have hb:w.heap[b]?=some (.cells a.toArray 3 (0,0)):=H1.blk 0 Z;have a0:b<w.heap.size:=(Ae1.1 hb).1;have f:∀j,j<l.length->a[j]?=some (I l[j]!):=λj d=>by
  have:(a.take l.length)[j]? =(l.map I)[j]? :=by rw[h4]
  rw[AeX,if_pos d,Aeo,Aed d] at this;rw[this,getElem!_pos l j d];rfl
 have hH:Go.Sort.Holds I w b 0 l.toArray:=λj d=>by
  have m:j<l.length:=by simpa using d
  refine ⟨?_,?_⟩
  ·have:=f j m
   simp[World.cell?,hb,this]
  simp[World.frozen?,hb]
 refine (Go.Proofs.Any.slices_Sort_int Ka b 0 c l w hH a0 U).mono ?_;rintro e w' ⟨rfl,n,os,rfl⟩;have H2:=Vp (n:=n) H1 (l.mergeSort λx y=>decide (x<=y)) os;have r:(l.mergeSort λx y=>decide (x<=y)).length=l.length:=List.length_mergeSort _;refine ⟨_,⟨Z,_,Z,Z⟩,H2.mono 0 Z (λh q=>?_)⟩;rw[r];refine blk.grow q h1 (by unfold maxLen at h2;omega) ?_ ?_
 ·simp[Go.Sort.putCells,h3]
 apply Afq;intro j;rw[AeX];simp only[AeP];by_cases d:j<l.length
 ·rw[if_pos d]
  have o:j<a.length:=by omega
  have t:j<(l.mergeSort λx y=>decide (x<=y)).length:=by omega
  simp[Go.Sort.putCells,o,t,d]
 rw[if_neg d,AeI (by simp;omega)]
def Abr(l:List IE):List IE->Value->List IE->Prop:=λs v s2=>∃p∈Cl l (s.map λp:IE=>p.2.2),v=.int .i64 p.1/\s2=s++[p]
def RH(l:List IE):List IE->Prop:=λs=>Cl l (s.map λp:IE=>p.2.2)=[]
def kC(s:List IE):List Value:=s.map λp=>.int .i64 p.1
def vecA(b:Nat)(l s:List IE):Ai:=λh=>((∀p∈s,p∈l)/\(s.map λp:IE=>p.2.2).Nodup)/\∃v,seps [blk b [v] 81,grow 3 1 v s.length (kC s)] h
theorem Sep.vec{w:World}{b:Nat}{l s:List IE}(H:Sep z (vecA b l s::Γ) w):((∀p∈s,p∈l)/\(s.map λp:IE=>p.2.2).Nodup)/\∃v,Sep z (YtemljpjnhjnncaaGreatDoor.blk b [v] 81::YtemljpjnhjnncaaGreatDoor.grow 3 1 v s.length (kC s)::Γ) w:=by
 obtain ⟨v,hp,c⟩:=H.into (σ:=Value) (p:=λ_=>(∀p∈s,p∈l)/\(s.map λp:IE=>p.2.2).Nodup) (As:=λv=>[YtemljpjnhjnncaaGreatDoor.blk b [v] 81,YtemljpjnhjnncaaGreatDoor.grow 3 1 v s.length (kC s)]) (λh q=>by obtain ⟨q,v,a⟩:=q;exact ⟨v,q,a⟩);exact ⟨hp,v,c⟩
theorem Sep.toVec{w:World}{b:Nat}{l s:List IE}(H:Sep z (YtemljpjnhjnncaaGreatDoor.blk b [v] 81::YtemljpjnhjnncaaGreatDoor.grow 3 1 v s.length (kC s)::Γ) w)(a:∀p∈s,p∈l)(c:(s.map λp:IE=>p.2.2).Nodup):Sep z (vecA b l s::Γ) w:=
 H.made 2 (A:=vecA b l s) (λh q=>⟨⟨a,c⟩,v,q⟩)
theorem Yw(s:List IE)(p:IE):kC s++[I p.1]=kC (s++[p]):=by simp[kC]
theorem F3{l s:List IE}{p:IE}(c:(∀p∈s,p∈l)/\(s.map λp:IE=>p.2.2).Nodup)(hp:p∈Cl l (s.map λp:IE=>p.2.2)):(∀q∈s++[p],q∈l)/\((s++[p]).map λp:IE=>p.2.2).Nodup:=by
 obtain ⟨h,g⟩:=C7 hp;refine ⟨λq hq=>?_,?_⟩
 ·rcases Aep.1 hq with hq|hq
  ·exact c.1 q hq
  simp at hq;subst hq;exact h
 rw[AeH,Ae9];refine ⟨c.2,by simp,λa f b d=>?_⟩;simp at d;subst d;exact λe=>g (e▸f)
theorem GO{α β:Type}{f:α->β}{l:List α}(h:(l.map f).Nodup):l.Nodup:=(AfJ.1 h).imp λh e=>h (congrArg f e)
theorem Jr{α:Type}:∀{s l:List α},s.Nodup->(∀p∈s,p∈l)->s.length<=l.length
 | [],_,_,_=>AeO _
 | x::s,l,hn,h=>by
  obtain ⟨l1,l2,rfl⟩:=List.append_of_mem (h x O);have a:=Afi.1 hn;have:=Jr (s:=s) (l:=l1++l2) a.2 λp hp=>by
   have:=h p (by simp[hp]);simp only[Aep,Aen] at this ⊢;rcases this with q|rfl|q
   ·exact .inl q
   ·exact absurd hp a.1
   exact .inr q
  simp only[Aee,Aeg] at this ⊢;omega
theorem KW{l s:List IE}(h:(∀p∈s,p∈l)/\(s.map λp:IE=>p.2.2).Nodup):s.length<=l.length:=by
 have hs:s.Nodup:=GO h.2;exact Jr hs h.1
theorem Ho{l s:List IE}(a:(l.map λp:IE=>p.2.2).Nodup)(h:(∀p∈s,p∈l)/\(s.map λp:IE=>p.2.2).Nodup)(c:RH l s):s.Perm l:=by
 have hs:s.Nodup:=GO h.2;have d:l.Nodup:=GO a;refine (List.perm_ext_iff_of_nodup hs d).2 λp=>⟨h.1 p,λhp=>?_⟩;have:p.2.2∈s.map λp:IE=>p.2.2:=by
  by_cases q:p.2.2∈s.map λp:IE=>p.2.2
  ·exact q
  have:p∈Cl l (s.map λp:IE=>p.2.2):=by simpa [Cl] using ⟨hp,by simpa using q⟩
  rw[show Cl l (s.map λp:IE=>p.2.2)=[] from c] at this;cases this
 obtain ⟨q,hq,e⟩:=Aek.1 this;obtain ⟨i,hi,rfl⟩:=Aga.1 (h.1 q hq);obtain ⟨j,b,rfl⟩:=Aga.1 hp;obtain rfl:=F7 a (Aed hi) (Aed b) e;exact hq
structure PgE where
 n:Nat
 pg:Pg
 v:Value
 born:Nat
def PgE.ie(e:PgE):IE:=((e.n:Int),.agg #[.int .i64 e.pg.kind,e.v],e.born)
structure PgsIn(f:BD)(es:List PgE)(clk:Nat)(hq:Hp):Prop where
 ent:∀e∈es,f e.n=some e.pg/\e.pg.Ok/\rdH 1 e.v 240 (e.pg.body.map u8) hq
 all:∀n p,f n=some p->∃e∈es,e.n=n
 nodup:(es.map PgE.n).Nodup
 born:(es.map PgE.born).Nodup
 clk:∀e∈es,e.born<clk
def pgsA(m:Nat)(f:BD)(hq:Hp):Ai:=λh=>∃es clk,PgsIn f es clk hq/\AH m (es.map PgE.ie) clk h
theorem Sep.pgs{w:World}(i:Nat){f:BD}{hq:Hp}(H:Sep z Γ w)(hi:Γ[i]?=some (pgsA m f hq)):∃es clk,PgsIn f es clk hq/\Sep z (Γ.set i (AH m (es.map PgE.ie) clk)) w:=by
 obtain ⟨x,hp,c⟩:=H.exAt i (σ:=List PgE×Nat) (p:=λx=>PgsIn f x.1 x.2 hq) (B:=λx=>AH m (x.1.map PgE.ie) x.2) hi (λh ⟨es,clk,a,b⟩=>⟨(es,clk),a,b⟩);exact ⟨x.1,x.2,hp,c⟩
theorem Sep.toPgs{w:World}(i:Nat){es:List PgE}{clk:Nat}{f:BD}{hq:Hp}(H:Sep z Γ w)(hi:Γ[i]?=some (AH m (es.map PgE.ie) clk))(hp:PgsIn f es clk hq):Sep z (Γ.set i (pgsA m f hq)) w:=H.mono i hi λh q=>⟨es,clk,hp,q⟩
def Eu(m:Nat)(f:BD)(k:Nat)(hq:Hp):Ai:=λh=>∃es clk,PgsIn f es clk hq/\es.length=k/\AH m (es.map PgE.ie) clk h
theorem Sep.pgsc{w:World}(i:Nat){k:Nat}{f:BD}{hq:Hp}(H:Sep z Γ w)(hi:Γ[i]?=some (Eu m f k hq)):∃es clk,PgsIn f es clk hq/\es.length=k/\Sep z (Γ.set i (AH m (es.map PgE.ie) clk)) w:=by
 obtain ⟨x,hp,d⟩:=H.exAt i (σ:=List PgE×Nat) (p:=λx=>PgsIn f x.1 x.2 hq/\x.1.length=k) (B:=λx=>AH m (x.1.map PgE.ie) x.2) hi (λh ⟨es,clk,a,b,c⟩=>⟨(es,clk),⟨a,b⟩,c⟩);exact ⟨x.1,x.2,hp.1,hp.2,d⟩
theorem Sep.toPgsc{w:World}(i:Nat){k:Nat}{es:List PgE}{clk:Nat}{f:BD}{hq:Hp}(H:Sep z Γ w)(hi:Γ[i]?=some (AH m (es.map PgE.ie) clk))(hp:PgsIn f es clk hq)(a:es.length=k):Sep z (Γ.set i (Eu m f k hq)) w:=H.mono i hi λh q=>⟨es,clk,hp,a,q⟩
theorem PgsIn.le{f:BD}{es:List PgE}{clk:Nat}{hq a:Hp}(h:PgsIn f es clk hq)(s:CJ hq a):PgsIn f es clk a:=⟨λe b=>⟨(h.ent e b).1,(h.ent e b).2.1,(h.ent e b).2.2.le s⟩,h.all,h.nodup,h.born,h.clk⟩
theorem pgsA.le{m:Nat}{f:BD}{hq a:Hp}(s:CJ hq a):∀h,pgsA m f hq h->pgsA m f a h:=λ_ ⟨es,clk,b,c⟩=>⟨es,clk,b.le s,c⟩
theorem PgsIn.none(hq:Hp)(clk:Nat):PgsIn Dp [] clk hq:=⟨λe a=>(by cases a),λn p h=>(by cases h),by simp,by simp,λe a=>(by cases a)⟩
theorem PgsIn.get{f:BD}{es:List PgE}{clk:Nat}{hq:Hp}(h:PgsIn f es clk hq)(n:Nat):(f n=Option.none/\CO (es.map PgE.ie) (n:Int)=Option.none)\/∃(p:Pg) (v:Value),f n=some p/\p.Ok/\rdH 1 v 240 (p.body.map u8) hq/\CO (es.map PgE.ie) (n:Int)=some (.agg #[I p.kind,v]):=by
 have key:∀l:List PgE,(∀e∈l,e∈es)->((∀e∈l,e.n≠n)/\CO (l.map PgE.ie) (n:Int)=Option.none)\/∃e∈es,e.n=n/\CO (l.map PgE.ie) (n:Int)=some (.agg #[I e.pg.kind,e.v]):=by
  intro l
  induction l with
  | nil=>intro _;exact .inl ⟨λe d=>(by cases d),Z⟩
  | cons e l ih=>
   intro k;simp only[AeJ,PgE.ie,CO];by_cases q:(n:Int)=(e.n:Int)
   ·exact .inr ⟨e,k e O,by omega,by rw[if_pos q]⟩
   rw[if_neg q];rcases ih (λe d=>k e (by simp[d])) with ⟨g,i⟩|g
   ·refine .inl ⟨λm d=>?_,i⟩
    rcases Aen.1 d with rfl|d
    ·omega
    exact g m d
   exact .inr g
 rcases key es (λ_ h=>h) with ⟨g,i⟩|⟨e,d,j,o⟩
 ·refine .inl ⟨?_,i⟩
  cases hf:f n with
  | none=>rfl
  | some p=>
   obtain ⟨e,d,j⟩:=h.all n p hf;exact absurd j (g e d)
 subst j;obtain ⟨a,b,c⟩:=h.ent e d;exact .inr ⟨e.pg,e.v,a,b,c,o⟩
theorem PgsIn.has{f:BD}{es:List PgE}{clk:Nat}{hq:Hp}(h:PgsIn f es clk hq)(n:Nat):CP (es.map PgE.ie) (n:Int)=(f n).isSome:=by
 unfold CP;rcases h.get n with ⟨a,b⟩|⟨p,v,a,_,_,b⟩<;>rw[a,b]<;>rfl
theorem upd_pgs(es:List PgE)(k:Nat)(p:Pg)(v:Value):updM (es.map PgE.ie) (k:Int) (.agg #[I p.kind,v])=(es.map λe=>if e.n=k then {e with pg:=p,v:=v} else e).map PgE.ie\/¬(es.map PgE.n).Nodup:=by
 induction es with
 | nil=>exact .inl Z
 | cons e es ih=>
  by_cases hn:((e::es).map PgE.n).Nodup
  ·left
   have b:=hn;simp only[AeJ,Afi] at b;by_cases q:(k:Int)=(e.n:Int)
   ·have c:e.n=k:=by omega
    have a:(es.map λe=>if e.n=k then {e with pg:=p,v:=v} else e)=es:=by
     conv=>rhs;rw[<-List.map_id es]
     exact AfC λf d=>by
      rw[if_neg];rfl;intro e2;exact b.1 (Aek.2 ⟨f,d,by omega⟩)
    simp only[AeJ,PgE.ie,updM,if_pos q,if_pos c];rw[a];subst c;rfl
   have c:¬e.n=k:=by omega
   simp only[AeJ,PgE.ie,updM,if_neg q,if_neg c];rcases ih with ih|ih
   ·congr 1
   exact absurd b.2 ih
  exact .inr hn
theorem PgsIn.put{f:BD}{es:List PgE}{clk:Nat}{hq:Hp}(h:PgsIn f es clk hq){k:Nat}{p:Pg}(hp:p.Ok)(x:rdH 1 v 240 (p.body.map u8) hq):∃es2,E4 (es.map PgE.ie) (k:Int) (.agg #[I p.kind,v]) clk=es2.map PgE.ie/\PgsIn (pgSet f k p) es2 (putC (es.map PgE.ie) (k:Int) clk) hq/\es2.length=es.length+(if (f k).isSome then 0 else 1):=by
 have s:=h.has k;unfold E4 putC
 cases hs:(f k).isSome with
 | true=>
  rw[hs] at s;rw[s,if_pos Z,if_pos Z];rcases upd_pgs es k p v with e|e
  ·refine ⟨_,e,⟨λo i=>?_,λn q d=>?_,?_,?_,λo i=>?_⟩,by simp⟩
   ·obtain ⟨j,l,rfl⟩:=Aek.1 i
    obtain ⟨a,b,c⟩:=h.ent j l;by_cases g:j.n=k
    ·rw[if_pos g];exact ⟨by unfold pgSet;rw[if_pos g],hp,x⟩
    rw[if_neg g];exact ⟨by unfold pgSet;rw[if_neg g];exact a,b,c⟩
   ·unfold pgSet at d
    have:∃j∈es,j.n=n:=by
     split at d
     ·rename_i g;subst g
      obtain ⟨y,w⟩:=Ae8.1 hs;exact h.all n y w
     exact h.all n q d
    obtain ⟨j,l,u⟩:=this;exact ⟨_,Aez l,by split<;>exact u⟩
   ·rw[Afn]
    rw[show (PgE.n∘λe=>if e.n=k then {e with pg:=p,v:=v} else e)=PgE.n from by funext e;simp only[AgL];split<;>rfl];exact h.nodup
   ·rw[Afn]
    rw[show (PgE.born∘λe=>if e.n=k then {e with pg:=p,v:=v} else e)=PgE.born from by funext e;simp only[AgL];split<;>rfl];exact h.born
   obtain ⟨j,l,rfl⟩:=Aek.1 i;have:=h.clk j l;split<;>exact this
  exact absurd h.nodup e
 | false=>
  rw[hs] at s;rw[s];simp only[Afs,if_false];have m:f k=Option.none:=by simpa using hs
  refine ⟨es++[⟨k,p,v,clk⟩],by simp[PgE.ie],⟨λo i=>?_,λn q d=>?_,?_,?_,λo i=>?_⟩,by simp⟩
  ·rcases Aep.1 i with g|g
   ·obtain ⟨a,b,c⟩:=h.ent o g
    have:o.n≠k:=λe=>by rw[e,m] at a;cases a
    exact ⟨by unfold pgSet;rw[if_neg this];exact a,b,c⟩
   simp at g;subst g;exact ⟨by simp[pgSet],hp,x⟩
  ·unfold pgSet at d
   split at d
   ·rename_i g;exact ⟨⟨k,p,v,clk⟩,by simp,g.symm⟩
   obtain ⟨j,l,u⟩:=h.all n q d;exact ⟨j,by simp[l],u⟩
  ·rw[AeH,Ae9]
   refine ⟨h.nodup,by simp,λa t b r=>?_⟩;simp at r;subst r;obtain ⟨j,l,rfl⟩:=Aek.1 t;intro e;have:=(h.ent j l).1;rw[e,m] at this;cases this
  ·rw[AeH,Ae9]
   refine ⟨h.born,by simp,λa t b r=>?_⟩;simp at r;subst r;obtain ⟨j,l,rfl⟩:=Aek.1 t;have:=h.clk j l;omega
  rcases Aep.1 i with g|g
  ·have:=h.clk o g;omega
  simp at g;subst g;simp
theorem PgsIn.keys{f:BD}{es:List PgE}{clk:Nat}{hq:Hp}{s:List IE}(h:PgsIn f es clk hq)(hs:s.Perm (es.map PgE.ie)):
  ((s.map λp:IE=>p.1).mergeSort (λx y=>decide (x<=y))).Pairwise (· < ·)/\∀k:Int,k∈(s.map λp:IE=>p.1).mergeSort (λx y=>decide (x<=y))↔0<=k/\(f k.toNat).isSome=true:=by
 have hp:((s.map λp:IE=>p.1).mergeSort (λx y=>decide (x<=y))).Perm (es.map λe:PgE=>(e.n:Int)):=by
  refine (List.mergeSort_perm _ _).trans ?_;have:=hs.map (λp:IE=>p.1);rwa[Afn] at this
 have g:((s.map λp:IE=>p.1).mergeSort (λx y=>decide (x<=y))).Nodup:=by
  refine hp.symm.nodup ?_;have d:=AfJ.1 h.nodup;exact AfJ.2 (d.imp λh e=>h U)
 refine ⟨?_,λk=>?_⟩
 ·have j:((s.map λp:IE=>p.1).mergeSort (λx y=>decide (x<=y))).Pairwise (λx y=>decide (x<=y)=true):=List.pairwise_mergeSort (λa b c d i=>by simp at *;omega) (λa b=>by simp;omega) _
  exact (j.and g).imp λh=>by have d:=h.1;have i:=h.2;simp at d;omega
 rw[hp.mem_iff,Aek];constructor
 ·rintro ⟨e,l,rfl⟩
  exact ⟨by omega,by rw[Ae4,(h.ent e l).1];rfl⟩
 rintro ⟨d,i⟩;obtain ⟨p,hp⟩:=Ae8.1 i;obtain ⟨e,l,m⟩:=h.all _ p hp;exact ⟨e,l,by omega⟩
theorem Xt(l a:List UInt8){B:Ai}(c:∀h,A h->rdH 1 u l.length (l.map u8) h)(b:∀h,B h->rdH 1 y a.length (a.map u8) h):Cn prog 186 [u,y] [A,B] (λv Γ=>v=.bool (decide (l=a))/\Γ=[A,B]):=by
 intro z R w H;refine Ae func186 Z ntmps186 Z (Zc 8 Z (Ab Z (Cg (l:=l) Z J J Z (Ay (H.rd 0 Z c))) (Zc 1 Z (Ab Z (Cg (l:=a) Z J J Z (Ay (H.rd 1 Z b))) (Ab Z (II Z J Z Z) (Zc 4 Z (Zr Z ?_)))))));exact ⟨_,⟨Z,Z⟩,H⟩
theorem Vq(n:Nat)(bs:List UInt8)(e:∀h,A h->rdH 1 (.slice (some ⟨m,i,none⟩) n j) n (bs.map u8) h)(g:0<n/\n<=1073741824):Cn prog 159 [.slice (some ⟨m,i,none⟩) n j] [A] (λv Γ=>(∃c,v=c/\Γ=[grow 5 1 c n (bs.map u8),A])):=by
 intro z R w H;refine Ae func159 Z ntmps159 Z (Zc 9 Z (Ab Z (Ij Z J Z Z) (Zc 7 Z (AR Z (EX H Z J CK) ?_))));rintro _ w ⟨d,rfl,H⟩;refine Zc 1 Z ?_;replace H:=(H.mono 0 (B:=grow 5 1 (.slice (some ⟨d,0,none⟩) 0 0) 0 []) Z (λh q=>q.grow U U O Z)).l2;refine AR Z (A0 0 H Z Z J CK Z Z (H.rd 1 Z e) (by simp[u8,Value.oneCell']) U) ?_;rintro k w b;have a:([]++bs.map u8:List Value)=bs.map u8:=by simp
 rw[a] at b;rw[show (0+n:Nat)=n from by omega] at b;have H:=b.l2;refine Zc 4 Z (Zr Z ?_);exact ⟨_,⟨_,Z,Z⟩,H⟩
theorem F8(ns:List Int):(ns.flatMap (Ag 8)).length=8*ns.length:=by
 induction ns with
 | nil=>rfl
 | cons x ns ih=>simp only[AeG,Aee,Ah,ih,Aeg];omega
theorem RI(h:l[i]?=some t):(l.take i).flatMap (Ag 8)++Ag 8 t=(l.take (i+1)).flatMap (Ag 8):=by
 rw[AeN,h];simp
theorem Ts:∀{j:Nat} {x:Int},l[j]?=some x->((l.flatMap (Ag 8)).drop (8*j)).take 8=Ag 8 x:=by
 induction l with
 | nil=>intro j x h;simp at h
 | cons y ys ih=>
  intro j x h
  cases j with
  | zero=>
   simp at h;subst h;rw[AeG,Nat.mul_zero,Aeu,AeF (Ah 8 y)]
  | succ j=>
   rw[AeG,show 8*(j+1)=(Ag 8 y).length+8*j from by rw[Ah];omega,Ae6];rw[AeK U,AeQ,show (Ag 8 y).length+8*j-(Ag 8 y).length=8*j from by omega];exact ih (by simpa using h)
theorem Sup.list_len(s:Sup):s.list.length=7:=rfl
theorem Yx(s:Sup):J5 [80,83,85,80] (DD s):=by
 have a:=GL s;refine ⟨Iu U,?_⟩;have:=B6 (l:=J8 s) U (p:=0) (k:=4) U;rw[Aeu,Aeu] at this;unfold DD;rw[this];rfl
theorem Yy{s:Sup}(hs:∀t∈s.list,0<=t/\t<=1099511627776)(a:s.list[n]?=some t):AX (((DD s).drop (4+8*n)).take 8)=t:=by
 have c:=GL s;have b:n<7:=(Aeb.1 a).1;unfold DD;rw[B6 U U];unfold J8;rw[Ae6,AeK O,AeQ,show 4+8*n-([80,83,85,80]:List UInt8).length=8*n from by simp,Ts a];have:=hs t (Aec a);exact BV this.1 U U
theorem Vr(s:Sup):rz (((DD s).drop 60).take 192)=0:=by
 have a:=GL s;have:=My (l:=J8 s) U;rw[a] at this;exact this
theorem Abs{p:Pg}(h:p.Ok):J5 [80,80,65,71] (Ei n p):=⟨Iu (Agi (FR h)),Og h⟩
theorem Yz{p:Pg}(h:p.Ok):AX (((Ei n p).drop 4).take 1)=p.kind:=by
 have a:=FR (n:=n) h;unfold Ei;rw[B6 U U,show IF n p=[80,80,65,71]++Ag 1 p.kind++(Ag 4 (n:Int)++[0,0,0]++p.body) from by simp[IF],G7 _ _ O (by simp[Ah])];exact BV (by have:=h.1;omega) (by have:=h.1;omega) (by have:=h.1;omega)
theorem Abt{p:Pg}(h:p.Ok)(a:n<=1023):AX (((Ei n p).drop 5).take 4)=(n:Int):=by
 have b:=FR (n:=n) h;unfold Ei;rw[B6 U U,show IF n p=([80,80,65,71]++Ag 1 p.kind)++Ag 4 (n:Int)++([0,0,0]++p.body) from by simp[IF],G7 _ _ (by simp[Ah]) (by simp[Ah])];exact BV U U U
theorem RJ{p:Pg}(h:p.Ok):AX (((Ei n p).drop 9).take 3)=0:=by
 have a:=FR (n:=n) h;unfold Ei;rw[B6 U U,show IF n p=([80,80,65,71]++Ag 1 p.kind++Ag 4 (n:Int))++[0,0,0]++p.body from by simp[IF],G7 _ _ (by simp[Ah]) O];decide
theorem YA{p:Pg}(h:p.Ok):((Ei n p).drop 12).take 240=p.body:=by
 have a:=FR (n:=n) h;unfold Ei;rw[B6 U U,show IF n p=([80,80,65,71]++Ag 1 p.kind++Ag 4 (n:Int)++[0,0,0])++p.body++[] from by simp[IF],G7 _ _ (by simp[Ah]) h.2.symm]
theorem Vs{s:Sup}(a:s.list[n]?=some t):((s.list.take n).map I++List.replicate (7-n) (I 0)).take n++[I t]++((s.list.take n).map I++List.replicate (7-n) (I 0)).drop (n+1)=(s.list.take (n+1)).map I++List.replicate (7-(n+1)) (I 0):=by
 have c:n<7:=(Aeb.1 a).1;have b:((s.list.take n).map I).length=n:=by simp[Sup.list];omega
 rw[Aet U,Aej U,Ae6,AeK U,AeQ,b,AgK,AeN,a,show 7-n-(n+1-n)=7-(n+1) from by omega];simp
theorem YB{s:Sup}(a:s.list[n]?=some t):((s.list.take (n+1)).map I++List.replicate (7-(n+1)) (I 0))[n]?=some (I t):=by
 have c:n<7:=(Aeb.1 a).1;have b:((s.list.take (n+1)).map I).length=n+1:=by simp[Sup.list];omega
 rw[Aem U,Aeo,AeX,if_pos U,a];rfl
theorem RK{s:Sup}(hs:∀x∈s.list,0<=x/\x<=1099511627776):Cn prog 153 [Y n,.agg #[I s.gen,I s.epoch,I s.pages,I s.start,I s.len,I s.head,I s.seq]] [tblA n] (λv Γ=>∃e,v=.tuple #[.slice (some ⟨e,0,none⟩) 256 256,I 0]/\Γ=[blk e (A5 (DD s) 60) 167,tblA n]):=by
 intro z R w H;have f:=Sup.list_len s;refine Ae func153 Z ntmps153 Z (Za 2 [] H Z ?_);intro b w H;refine Zc 6 Z (AR Z (Cb (P:=prog) H Z (zs:=(A5 (AJ []) 0)) J) ?_);rintro _ w ⟨a,rfl,H⟩;refine Zc 4 Z (z_E_ Z (call189 _) (IV 0 [80,83,85,80] (AS (by first|omega|(simp[Ah,F8,-List.length_flatMap]<;>omega))) (by first|omega|(simp<;>omega))) H ?_);intro w H;rw[show Bt (AJ []) ([80,83,85,80]) 0=AJ ([80,83,85,80]) from BE Z (by first|omega|(simp[Ah,F8,-List.length_flatMap]<;>omega))] at H;have H:Sep z (blk a (A5 (AJ ([80,83,85,80])) 4) 167::blk b [I s.gen,I s.epoch,I s.pages,I s.start,I s.len,I s.head,I s.seq] 132::tblA n::R) w:=H;refine Z2 19 [0,1,0,1,1,0,2,1,0,3,1,0,4,1,0,5,1,0,6,1,0] H Z (Ab Z (Bc Z Z (out:=[I s.gen,I s.epoch,I s.pages,I s.start,I s.len,I s.head,I s.seq]) J) (Zc 4 Z ?_));refine AB (σ:=Nat) (λk=>[(25,I (k:Int)),(0,Y n),(6,Y a),(24,.agg #[I s.gen,I s.epoch,I s.pages,I s.start,I s.len,I s.head,I s.seq])])
   (λk w=>Sep z (blk a (A5 (AJ ([80,83,85,80]++(s.list.take k).flatMap (Ag 8))) ((4+8*k:Nat):Int)) 167::blk b [I s.gen,I s.epoch,I s.pages,I s.start,I s.len,I s.head,I s.seq] 132::tblA n::R) w/\(k<=7)) (λk=>7-k) 0
   fr_z ⟨(by simpa using H),by omega⟩ ?_
 clear H;rintro k w ⟨o,d⟩;have H:=o.l3;have g:=d;clear d;refine Z0 6 [0] Z (Af Z (λh=>?_) (λh=>?_))
 ·refine Zc 6 Z ?_;obtain ⟨x,c⟩:∃x,s.list[k]?=some x:=⟨_,Aed (by simp[Sup.list];omega)⟩;have p:=hs x (Aec c)
  refine Ab Z (Nz Z J Z (l:=s.list) (j:=k) Z Z Z Z c) (Zc 7 Z (z_E_ Z (call99 _) (CX) H ?_));intro w H;refine Ab Z (AF Z Z) (Zc 1 Z (Al 31 Z (λi=>U) (λi=>?_)));refine Zc 10 Z (z_E_ Z (call100 _) (CG (4+8*k) 8 x (AS (by first|omega|(simp[Ah,F8,-List.length_flatMap]<;>omega))) U) H ?_);intro w H;rw[show ((4+8*k+8:Nat):Int)=(((4+8*(k+1):Nat):Int):Int) from by omega] at H;rw[show Bt (AJ ([80,83,85,80]++(s.list.take k).flatMap (Ag 8))) (Ag 8 x) (4+8*k)=AJ ([80,83,85,80]++(s.list.take k).flatMap (Ag 8)++Ag 8 x) from BE (by first|omega|(simp[Ah,F8,-List.length_flatMap]<;>omega)) (by first|omega|(simp[Ah,F8,-List.length_flatMap]<;>omega))] at H;have H:Sep z (blk a (A5 (AJ ([80,83,85,80]++(s.list.take k).flatMap (Ag 8)++Ag 8 x)) ((4+8*(k+1):Nat):Int)) 167::blk b [I s.gen,I s.epoch,I s.pages,I s.start,I s.len,I s.head,I s.seq] 132::tblA n::R) w:=H;refine Z1 7 [] [(k:Int)+1] Z U (gf ?_);intro _ m;refine ⟨(k+1),m.cz,⟨(by rw[<-RI c,<-Aeh];exact H),?_⟩,?_⟩
  ·omega
  omega
 obtain rfl:k=7:=by omega
 refine Zc 2 Z (gx (Zc 3 Z ?_));have H:Sep z (blk a (A5 (AJ (J8 s)) 60) 167::blk b [I s.gen,I s.epoch,I s.pages,I s.start,I s.len,I s.head,I s.seq] 132::tblA n::R) w:=H;refine Zc 2 Z (z_E_ Z (call190 _) (Iy (AS (by first|omega|(simp[Ah,GL]<;>omega)))) H.f2.f1 ?_);intro w H;refine Zc 5 Z (Zr Z ?_);exact ⟨_,⟨a,Z,Z⟩,H.perm 3 [0,1] Z Z⟩
theorem KX(sec:List UInt8)(d:∀h,A h->rdH 1 (.slice (some ⟨i,e,none⟩) 256 g) 256 (sec.map u8) h)(s:Sup)(hs:∀x∈s.list,0<=x/\x<=1099511627776)(b:sec=DD s):Cn prog 154 [Y n,.slice (some ⟨i,e,none⟩) 256 g] [tblA n,A] (λv Γ=>v=.tuple #[.agg #[I s.gen,I s.epoch,I s.pages,I s.start,I s.len,I s.head,I s.seq],.bool true]/\Γ=[tblA n,A]):=by
 intro z R w H;have r:=H.sy 1 (λq=>(d _ q).len);have a2:=H.sy 1 (λq=>(d _ q).cap);obtain ⟨c0,c1,c2,c3,hd⟩:=N6 r;refine Ae func154 Z ntmps154 Z (Za 2 [] H Z ?_);intro p w H;refine Zc 7 Z (Aq Z (call187 _) (LR sec d) H.f2.f2 ?_);rintro _ w _ (⟨c,rfl,rfl⟩|⟨c,rfl,rfl⟩) t
 ·have H:=t.l3;refine Za 3 [] H Z ?_;intro l w H;refine Za 16 [0] H Z ?_;intro a w H;refine Z0 12 [0,1,2,3,4,5,6] Z (Ab Z (Bc Z Z (out:=[Y a,.pointer (some ⟨a,1,none⟩),.pointer (some ⟨a,2,none⟩),.pointer (some ⟨a,3,none⟩),.pointer (some ⟨a,4,none⟩),.pointer (some ⟨a,5,none⟩),.pointer (some ⟨a,6,none⟩)]) J) (Zc 4 Z ?_));refine AB (σ:=Nat) (λk=>[(28,I (k:Int)),(4,Y p),(6,Y l),(8,Y a),(27,.agg #[Y a,.pointer (some ⟨a,1,none⟩),.pointer (some ⟨a,2,none⟩),.pointer (some ⟨a,3,none⟩),.pointer (some ⟨a,4,none⟩),.pointer (some ⟨a,5,none⟩),.pointer (some ⟨a,6,none⟩)])])
    (λk w=>Sep z (blk a ((s.list.take k).map I++List.replicate (7-k) (I 0)) 132::blk l [.slice (some ⟨i,(e+(4+8*k)),none⟩) (252-(4+8*k)) (g-(4+8*k))] 258::tblA n::A::blk p [I 0,I 0,I 0,I 0,I 0,I 0,I 0] 132::R) w/\(k<=7)) (λk=>7-k) 0
    fr_z ⟨H,by omega⟩ ?_
  clear H;rintro k w ⟨t,y⟩;have H:=t.l5;have a1:=y;clear y;refine Z0 6 [0] Z (Af Z (λh1=>?_) (λh1=>?_))
  ·have a0:k<7:=by omega
   refine Zc 6 Z ?_;obtain ⟨x,f⟩:∃x,s.list[k]?=some x:=⟨_,Aed (by simp[Sup.list];omega)⟩;have a3:=hs x (Aec f);have o:AX ((sec.drop (4+8*k)).take 8)=x:=by rw[b];exact Yy hs f
   refine Ab Z (E6 (m:=7) Z J Z Z Z (j:=k) Z (u:=.pointer (some ⟨a,k,none⟩)) (by rcases (show k=0\/k=1\/k=2\/k=3\/k=4\/k=5\/k=6 by omega) with rfl|rfl|rfl|rfl|rfl|rfl|rfl<;>rfl)) (Zc 6 Z (z_E_ Z (call165 _) (Cz 8 i (e+(4+8*k)) (252-(4+8*k)) (g-(4+8*k)) ((sec.drop (4+8*k)).take (252-(4+8*k))) (λh q=>(d h q).cut (lo:=(4+8*k)) (m:=(252-(4+8*k))) (c':=(g-(4+8*k))) U U U) U U ((sec.drop (4+8*k)).take 8) (by rw[AeD,AeE U]) (e+(4+8*(k+1))) (252-(4+8*(k+1))) (g-(4+8*(k+1))) U U U) H.f3.f2 ?_));intro w H;refine AD 32 (v:=I x) Z (congrArg I o) (Zc 1 Z (Az Z Z (Ak 2 H Z Z Z Z (vs:=[I x]) Z (by simp[u8,u32,Value.oneCell']) J (by have:=Sup.list_len s;simp;omega) (out:=((s.list.take (k+1)).map I++List.replicate (7-(k+1)) (I 0))) (Vs f)) ?_));rintro w H;refine Zc 6 Z (Ab Z (Bg Z Z J (Ay (H.cel 2 Z k (YB f)))) (z_E_ Z (call99 _) (CX) H ?_));intro w H;refine Ab Z (AF Z Z) (Zc 2 Z (Af Z (λh2=>U) (λh2=>?_)));refine Z1 7 [] [(k:Int)+1] Z U ?_;replace H:=H.f4.f2.f4.f3.f4;refine gf ?_;intro _ hF;refine ⟨(k+1),hF.cz,⟨H,?_⟩,?_⟩
   ·omega
   omega
  obtain rfl:k=7:=by omega
  refine Zc 2 Z (gx (Zc 4 Z ?_));have H:Sep z (blk a [I s.gen,I s.epoch,I s.pages,I s.start,I s.len,I s.head,I s.seq] 132::blk l [.slice (some ⟨i,(e+(4+8*7)),none⟩) (252-(4+8*7)) (g-(4+8*7))] 258::tblA n::A::blk p [I 0,I 0,I 0,I 0,I 0,I 0,I 0] 132::R) w:=H;refine Zc 1 Z (z_E_ Z (call166 _) (KT i (e+(4+8*7)) (252-(4+8*7)) (g-(4+8*7)) ((sec.drop (4+8*7)).take (252-(4+8*7))) (λh q=>(d h q).cut (lo:=(4+8*7)) (m:=(252-(4+8*7))) (c':=(g-(4+8*7))) U U U) U) H.f3.f2 ?_);intro w H;refine Ab Z (AF Z Z) (Zc 2 Z (Af Z (λh3=>?_) (λh3=>?_)))
  ·exact absurd (by rw[b];exact Vr s) h3
  refine Z4 10 [2,7,4] H Z ?_;intro w H;refine Zl [4,7] H Z ?_;exact ⟨_,⟨Z,Z⟩,H.perm 5 [3,1] Z Z⟩
 exact absurd (b▸Yx s) c
section
section late
variable{P:Program}{ops:Array Oper}{Q:Exit->Act->World->Prop}{S:World->Prop}{E:List Nat}
def ES(ops:Array Oper):Nat->Nat->Nat->Bool
 | 0,_,_=>false
 | f+1,j,i=>match ops[j]? with
  | some o=>o.after.any λe=>Region.binds .any e&&(e.on==i||ES ops f e.on i)
  | none=>false
theorem G8{listed:Array Bool}(c:Dc ops listed)(a:listed.size=ops.size):∀f j i,ES ops f j i=true->listed.getD j false=true->listed.getD i false=true
 | 0,j,i,h,_=>by cases h
 | f+1,j,i,h,hl=>by
  unfold ES at h
  cases ho:ops[j]? with
  | none=>rw[ho] at h;cases h
  | some o=>
   rw[ho] at h;simp only[Ahm] at h;obtain ⟨q,hq,he⟩:=h;simp only[AeC,Bool.or_eq_true,beq_iff_eq] at he;have g:j<ops.size:=(Ae1.1 ho).1;have b:=c j o ho (by
    have d:j<listed.size:=by omega
    simp[d] at hl ⊢;exact hl) U _ (Ahn hq) he.1
   rcases he.2 with e|e
   ·rw[<-e];exact b
   exact G8 c a f _ i e b
theorem ready_waits{listed:Array Bool}(k:Dc ops listed)(c:listed.size=ops.size){i:Nat}(h:ES ops m j i=true)(f:j∈Region.ready .any ops listed):listed.getD i false=true:=by
 cases m with
 | zero=>cases h
 | succ m=>
  obtain ⟨_,o,g,a⟩:=mem_ready.1 f;unfold ES at h;rw[g] at h;simp only[Ahm] at h;obtain ⟨q,hq,b⟩:=h;simp only[AeC,Bool.or_eq_true,beq_iff_eq] at b;have d:=a _ (Ahn hq) b.1;rcases b.2 with e|e
  ·rw[<-e];exact d
  exact G8 k c m _ i e d
def ET(P:Program)(ops:Array Oper)(Q:Exit->Act->World->Prop)(S:World->Prop)(E:List Nat):Nat->Array Bool->Act->World->Prop
 | 0,listed,a,w=>Region.ready .any ops listed=[]/\Q .normal a w
 | fuel+1,listed,a,w=>
  (Region.ready .any ops listed=[]->Q .normal a w)/\
  ∀i∈Region.ready .any ops listed,wpOp P ops Q i (λa' w'=>(E.contains i=false->S w')/\ET P ops Q S E fuel (listed.setIfInBounds i true) a' w') a w
theorem KY:∀(fuel:Nat) (listed:Array Bool) (a:Act) (w:World),ET P ops Q S E fuel listed a w->wpAny P .any ops Q fuel listed a w
 | 0,_,_,_,h=>h
 | fuel+1,_,_,_,h=>⟨h.1,λi hi=>wpOp_mono (λa' w' h'=>KY fuel _ a' w' h'.2) (h.2 i hi)⟩
theorem On{i:Nat}{oi:Oper}{v:Value}(hi:ops[i]?=some oi)(hE:∀j∈E,ES ops m j i=true)(n:∀(j:Nat) (o:Oper) cs b,ops[j]?=some o->o.op≠ .select cs b)
  (hQ:∀c a w,Q (.panic c) (a.put oi.dst v) w->Q (.panic c) a w):
  ∀(fuel:Nat) (listed:Array Bool) (a:Act) (w:World),Dc ops listed->listed.size=ops.size->
   (∀j r,ops[j]?=some r->j≠i->listed.getD j true=false->(∀e∈r.after,Region.binds .any e=true->e.on≠i)->oi.apart ops r=true)->
   i∈Region.ready .any ops listed->YieldsIf P ops S oi v a->S w->
   ET P ops Q S E fuel (listed.setIfInBounds i true) (a.put oi.dst v) w->ET P ops Q S E (fuel+1) listed a w:=by
 have a5:i<ops.size:=(Ae1.1 hi).1;intro fuel
 induction fuel with
 | zero=>
  intro listed a w hd q _ g hy hS H;refine ⟨λh=>(by rw[h] at g;cases g),λj u=>?_⟩;by_cases hji:j=i
  ·subst hji;exact hy.wpOp hi hS ⟨λ_=>hS,H⟩
  have:=ready_mono u hji;rw[H.1] at this;cases this
 | succ fuel ih=>
  intro listed a w hd q d g hy hS H;refine ⟨λh=>(by rw[h] at g;cases g),λj u=>?_⟩;by_cases hji:j=i
  ·subst hji;exact hy.wpOp hi hS ⟨λ_=>hS,H⟩
  have p:=H.2 j (ready_mono u hji);have a0:E.contains j=false:=by
   cases hc:E.contains j with
   | false=>rfl
   | true=>
    have hm:j∈E:=by simpa using hc
    have h2:=ready_waits hd q (hE j hm) u;have t:=(mem_ready.1 g).1;have hh:i<listed.size:=by omega
    simp[hh] at h2 t;rw[h2] at t;cases t
  obtain ⟨l,r,s,x⟩:=mem_ready.1 u;have z:∀e∈r.after,Region.binds .any e=true->e.on≠i:=λe he hb a4=>by
   have p:=x e he hb;have t:=(mem_ready.1 g).1;rw[a4] at p;rcases Aeq i listed.size with h'|h'
   ·simp[h'] at t p;rw[t] at p;cases p
   simp[Ae0 h'] at p
  have h2:=wpOp_putIf s (d j r s hji l z) (λcs b=>n i oi cs b hi) (λcs b=>n j r cs b s) hQ hy p;have f:∀k y,ops[k]?=some y->k≠i->(listed.setIfInBounds j true).getD k true=false->
    (∀e∈y.after,Region.binds .any e=true->e.on≠i)->oi.apart ops y=true:=λk y hk a2 a1 a3=>by
   refine d k y hk a2 ?_ a3;by_cases hjk:j=k
   ·subst hjk;exact l
   rw[getD_set_ne true hjk] at a1;exact a1
  refine wpOp_mono (λa' w' h3=>⟨λ_=>h3.2.1 a0,ih (listed.setIfInBounds j true) a' w' (hd.next u) (by simpa using q) f (ready_mono g (AfS hji)) h3.1 (h3.2.1 a0) ?_⟩) h2;rw[Agq _ _ hji];exact h3.2.2
theorem PB{listed:Array Bool}{a:Act}{w:World}(hr:Region.ready .any ops listed=[])(h:Q .normal a w):∀fuel,ET P ops Q S E fuel listed a w
 | 0=>⟨hr,h⟩
 | _+1=>⟨λ_=>h,by rw[hr];simp⟩
end late
section late2
variable{P:Program}{ops:List Oper}{N R:Act->World->Prop}{X:Nat->Act->World->Prop}{S:World->Prop}{E:List Nat}{a:Act}{w:World}{fuel:Nat}{listed:Array Bool}{n d i:Nat}{ds:List Deferred}{L:List (Nat×Value)}{v:Value}{o:Oper}
def Hq(P:Program)(ops:List Oper)(Q:Exit->Act->World->Prop)(S:World->Prop)(E:List Nat)(fuel:Nat)(listed:Array Bool)(a:Act)(w:World):Prop:=Dc ops.toArray listed->listed.size=ops.length->ET P ops.toArray Q S E fuel listed a w
theorem Oo(S:World->Prop)(E:List Nat)(k:Nat)(c:ops.length=k)(e:P.follows .mixedOrders=true)
  (h:∀b,Ext No w b->b.heap.size=w.heap.size->∀a,Fr n ds L a->Hq P ops (Qp N X R) S E k (Array.replicate k false) a b):∀a,Fr n ds L a->(Code.region m ops.toArray true).wp P (Qp N X R) a w:=λa d=>
 wp_region_any e (KY (S:=S) (E:=E) _ _ _ _ (by have:=h _ (Ext.drawn No w) Z a d (Dc.start _ _) (by simp[c]);simpa [c] using this))
theorem Iz(i:Nat)(hi:ops[i]?=some o)(m:(E.all λj=>ES ops.toArray ops.length j i)=true)(hs:Region.noSelect ops.toArray=true)(u:Region.free .any ops.toArray listed i=true)(r:(Region.ready .any ops.toArray listed).contains i=true)
  (p:BM ops L o.guard=true)(s:o.dst=some d)(l:Nat.blt d n=true)(k:Au P S n ds L o v)(x:S w)
  (K:∀a',Fr n ds ((d,v)::L) a'->Hq P ops (Qp N X R) S E fuel (listed.setIfInBounds i true) a' w):∀a,Fr n ds L a->Hq P ops (Qp N X R) S E (fuel+1) listed a w:=λa g f c=>
 have e:ops.toArray[i]?=some o:=by simpa using hi
 have b:i∈Region.ready .any ops.toArray listed:=by simpa using r
 On (i:=i) (oi:=o) (v:=v) e (λj t=>(Af2.1 m) j t) (AgF hs) (λ_ _ _ h=>h.elim) fuel listed a w f (by simpa using c) (AgW e u) b (.inl ⟨wantL_ok g p,λq h=>k a g q h⟩) x
  (by rw[s];exact K _ (g.put d v l) (f.next b) (by simpa using c))
theorem C6(rs:List Nat)(g:Region.ready .any ops.toArray listed=rs)(b:rs≠[])
  (h:∀i∈rs,∀a,Fr n ds L a->wpOp P ops.toArray (Qp N X R) i (λa' c=>(E.contains i=false->S c)/\Hq P ops (Qp N X R) S E fuel (listed.setIfInBounds i true) a' c) a w):∀a,Fr n ds L a->Hq P ops (Qp N X R) S E (fuel+1) listed a w:=λa j f d=>
 ⟨λe=>absurd (g▸e) b,λi hi=>wpOp_mono (λa' c q=>⟨q.1,q.2 (f.next hi) (by simpa using d)⟩) (h i (g▸hi) a j)⟩
theorem KZ{fuel:Nat}(c:Region.ready .any ops.toArray listed=[])(h:∀a,Fr n ds L a->N a w):∀a,Fr n ds L a->Hq P ops (Qp N X R) S E fuel listed a w:=λa b _ _=>PB c (h a b) _
end late2
section
variable{P:Program}{o:Oper}{w z:World}{Γ:List Ai}{n:Nat}{ds:List Deferred}{L:List (Nat×Value)}{x:Operand}
def RL(P:Program)(t:TypeId):Bool:=match P.underlying t with
 | some (.slice e)=>(match P.info? e with|some i=>(match i.zero with|some (.int .i64 0)=>true|_=>false)|none=>false)
 | _=>false
theorem Vt(h:RL P T=true):∃e i,P.underlying T=some (.slice e)/\P.info? e=some i/\i.zero=some (I 0):=by
 unfold RL at h;split at h
 ·rename_i e c
  split at h
  ·rename_i i a
   split at h
   ·rename_i b;exact ⟨e,i,c,a,b⟩
   cases h
  cases h
 cases h
theorem Vu(i:Nat){t:TypeId}{b d k c:Nat}{h:TypeId}{cs:List Value}(H:Sep z Γ w)(hi:Γ[i]?=some (blk b cs h))(y:o.op=.call {callee:=.builtin .clear,args:= #[x],argTypes:= #[t]})(hd:RL P t=true)(hx:ev L x=some (.slice (some ⟨b,d,none⟩) k c))(hk:0<k)(hl:d+k<=cs.length):
  Cy P n ds L o w (λv w'=>v=.tuple #[]/\Sep z (Γ.set i (blk b (cs.take d++List.replicate k (I 0)++cs.drop (d+k)) h)) w'):=λa s=>by
 obtain ⟨e,i0,r,u,h3⟩:=Vt hd;have p:=H.blk i hi;have g:=run_storeCells_at P b d h (List.replicate k (I 0)) 0 cs.toArray w p (by simpa using hl) (λc hc=>by rw[Af3.1 hc |>.2];rfl);simp only[Afj,Ag4,Af0] at g;have hz:(zeroValue e).run P w=.ok (I 0) w:=by simp[zeroValue,typeInfo,u,h3,go_sem]
 have l:(Builtin.zeroCells (Value.cells (I 0)) k).toList=List.replicate k (I 0):=by
  refine AgX (by simp[Builtin.zeroCells,Value.cells]) λj g1 g2=>?_;simp[Builtin.zeroCells,Value.cells,Nat.mod_one]
 have f:(Builtin.clear_ #[t] o.type #[.slice (some ⟨b,d,none⟩) k c]).run P w=.ok (.tuple #[]) (w.setRow b (cs.take d++List.replicate k (I 0)++cs.drop (d+k)).toArray):=by
  obtain ⟨m,rfl⟩:∃m,k=m+1:=⟨k-1,by omega⟩;simp only[Builtin.clear_,Afe,AeS,Aev,run_underlying r,Aer,hz,l,g,AeA]
 refine ⟨.tuple #[],w.setRow b (cs.take d++List.replicate k (I 0)++cs.drop (d+k)).toArray,?_,Z,H.write i hi Z Z Z (setRow_heap w b _ _ h (0,0) p) (λq hq=>setRow_other w b q _ hq)⟩;simp only[execOp,y,resolve,invoke,builtin,Aev,AeA,Aer,AeW,AeJ,Afz,s.ev hx,f]
end
end
end Go.Proofs.YtemljpjnhjnncaaGreatDoor
