/-
  Steps to: Law VolumesPlay: volumes are maps; room is refused only where there is none. No condition.
-/
import Derived.Test.YtnifkcmmanmbbaaGreatDoorPart1
set_option maxRecDepth 100000
set_option linter.unusedSimpArgs false
set_option linter.unusedVariables false
open Go.Proofs.Tryz
namespace Go.Proofs.YtnifkcmmanmbbaaGreatDoor
open Go.RowKit
section
section
variable{P:Program}{C:World->Prop}{o:Oper}{a:Act}{w z:World}{Γ:List Af}{n:Nat}{ds:List Deferred}{L:List (Nat×Value)}{v:Value}{x y:Operand}{xt yt:TypeId}{f:FuncId}{args:List Operand}{vs:List Value}{tys:Array TypeId}
theorem PY{d:World}(g:Fr n ds L a)(h:o.op=.call {callee:=.value (.func f),args:=args.toArray,argTypes:=tys})(b:evs L args=some vs)(c:(callFunc f vs.toArray).run P w=.ok (.value v) d):(execOp a.eval o).run P w=.ok (.value v) d:=by
 unfold execOp;have e:=g.evs b;simp only[h,resolve,Act.eval,Deferred.ofValue,invoke];simp only[go_sem,AeR,e,AeL,AeQ,c];simpa using c
theorem G5(g:o.op=.call {callee:=.value (.func f),args:=args.toArray,argTypes:=tys})(b:evs L args=some vs)(c:∀w,C w->(callFunc f vs.toArray).run P w=.ok (.value v) w):Ar P C n ds L o v:=λa d w e=>PY d g b (c w e)
theorem Rl(i:Nat){b p:Nat}{cs:List Value}{ty:TypeId}{u u0:Value}(H:Sep z Γ w)(hi:Γ[i]?=some (blk b cs ty))(hp:cs[p]?=some u0)(l:o.op=.call {callee:=.value (.func f),args:=args.toArray,argTypes:=tys})(c:evs L args=some vs)(m:u.oneCell'=true)
  (j:w.cell? ⟨b,p,none⟩=some u0->w.frozen? ⟨b,p,none⟩=false->(callFunc f vs.toArray).run P w=.ok (.value v) (w.setCell ⟨b,p,none⟩ u)){out:List Value}(d:cs.set p u=out):Cy P n ds L o w (λv' w'=>v'=v/\Sep z (Γ.set i (blk b out ty)) w'):=λa h=>by
 have e:=H.blk i hi;refine ⟨v,_,PY h l c (j (e.cel p hp) (e.free p)),Z,?_⟩;subst d;have g:w.heap[b]?=some (.cells cs.toArray ty (0,0)):=e;refine H.write i hi Z Z Z ?_ (λq hq=>?_)
 ·simp only[World.setCell]
  rw[Agv,if_pos Z,g];simp
 simp[World.setCell,Agv,AfN hq]
def NL(P:Program)(s d:TypeId):Bool:=match P.underlying s,P.underlying d with
 | some (.pointer t),some .unsafePointer=>(match P.info? t with|some i=> !(decide (i.size=0))|none=>false)
 | _,_=>false
theorem NM{e:TypeId}{b p:Nat}{u:Value}(l:o.op=.convert xt e x)(c:NL P xt e=true)(j:ev L x=some (.pointer (some ⟨b,p,none⟩)))(k:∀w,C w->FD b p u w):Ar P C n ds L o (.pointer (some ⟨b,p,none⟩)):=λa g w h=>by
 unfold NL at c;split at c
 ·rename_i t hs f
  split at c
  ·rename_i i hi
   have d:(P.info? t).map (λi=>decide (i.size=0))=some false:=by rw[hi];simpa using c
   have:=run_convert_to_unsafe (P:=P) hs f d (k w h);simp only[execOp,l,g.ev j,Aeq,this,Aem,Aev]
  cases c
 cases c
end

def Xi(P:Program)(f:FuncId)(args:List Value)(pre:List Af)(post:Value->List Af->Prop):Prop:=
 ∀z R u w,Sep z (pre++R) w->CallsD P f args.toArray u w (λe u' w'=>u'=u/\Ret (λv w'=>∃Γ',post v Γ'/\Sep z (Γ'++R) w') e w')
theorem NN{P:Program}{f:FuncId}{d:Func}{c:Code}{args:List Value}{u:FrameMode}{w:World}{R:Value->World->Prop}(m:P.funcs[f]?=some d)(k:d.body=some c)(n:Nat)(o:d.ntmps=n)(b:Nat.ble args.length n=true)
  (h:∀a,Fr n [] (first 0 args) a->c.wp P (Qp (Gb P d R) IC (Gb P d R)) a w):CallsD P f args.toArray u w (λe u' w'=>u'=u/\Ret R e w'):=by
 refine callsD_of_wp m k (wp_mono (h _ (by rw[o];exact Fr.start args n (by simpa using b))) λe a w q=>?_)
 cases e with
 | normal=>obtain ⟨j,v,i,g⟩:=q;exact ⟨j,v,i,g⟩
 | ret=>obtain ⟨j,v,i,g⟩:=q;exact ⟨j,v,i,g⟩
 | exit id=>exact q.elim
 | goto l=>exact q.elim
 | panic ch=>exact q.elim
 | outgrown=>exact q.elim
def Ji(P:Program)(fn:Func)(R:Value->World->Prop)(a:Act)(w:World):Prop:=Leaves P fn a.tmps (Ret R) a.defers .returning w
theorem SM{P:Program}{f:FuncId}{d:Func}{c:Code}{args:List Value}{w:World}{R:Value->World->Prop}(i:P.funcs[f]?=some d)(g:d.body=some c)(n:Nat)(j:d.ntmps=n)(b:Nat.ble args.length n=true)
  (h:∀a,Fr n [] (first 0 args) a->c.wp P (Qp (Ji P d R) IC (Ji P d R)) a w):Calls P f args.toArray w (Ret R):=by
 refine calls_of_wp_defers i g (wp_mono (h _ (by rw[j];exact Fr.start args n (by simpa using b))) λe a w q=>?_)
 cases e with
 | normal=>exact q
 | ret=>exact q
 | exit id=>exact q.elim
 | goto l=>exact q.elim
 | panic ch=>exact q.elim
 | outgrown=>exact q.elim
def dfr(f:FuncId)(vs:List Value):Deferred:= {target:=.fn (.func f) #[],args:=vs.toArray}
theorem GH{P:Program}{g:Func}{a:Array Value}{Rr:Ending->World->Prop}{ds:List Deferred}{z w:World}{Γ pre R':List Af}{post:Value->List Af->Prop}{f:FuncId}{vs:List Value}(j:∀w,(callFunc f vs.toArray).run P w=.ok (.enter f vs.toArray) w)
  (l:Xi P f vs pre post)(H:Sep z Γ w)(k:Nat)(d:List Nat)(c:Ge k d=true)(e:DH Γ d++Γ.drop k=pre++R')(K:∀v b Γ',post v Γ'->Sep z (Γ'++R') b->Leaves P g a Rr ds .returning b):Leaves P g a Rr (dfr f vs::ds) .returning w:=by
 refine leaves_cons (f:=f) (args:=vs.toArray) O (by simp[invoke,go_sem,j]) ?_;refine CallsD.mono (l z R' .returning w (H.perm k d c e)) λe m b q=>?_;obtain ⟨rfl,q⟩:=q
 cases e with
 | returned v=>obtain ⟨Γ',h,i⟩:=q;exact K v b Γ' h i
 | panicked ch=>exact q.elim
 | outgrown=>exact q.elim
theorem AcY{P:Program}{b:Func}{R:Value->World->Prop}{a:Array Value}{w:World}(c:b.results= #[])(h:R (.tuple #[]) w):Leaves P b a (Ret R) [] .returning w:=⟨.tuple #[],by simp[results,c,go_sem],h⟩
section
variable{P:Program}{ops:List Oper}{Q:Exit->Act->World->Prop}{w:World}{rest:List Oper}{o:Oper}{n:Nat}{ds:List Deferred}{L:List (Nat×Value)}{f:FuncId}{args:List Operand}{vs:List Value}{tys:Array TypeId}
theorem LH(h:BL ops L o.guard=true)(g:o.dst=none)(i:o.op=.defer {callee:=.value (.func f),args:=args.toArray,argTypes:=tys})(b:evs L args=some vs)
  (K:∀a',Fr n (dfr f vs::ds) L a'->wpList P ops.toArray Q rest a' w):∀a,Fr n ds L a->wpList P ops.toArray Q (o::rest) a w:=by
 intro a d;unfold wpList;rw[if_pos (wantL_ok d h)];left;have e:=d.evs b;have c:(execOp a.eval o).run P w=.ok (.defer (dfr f vs)) w:=by
  unfold execOp;simp only[i,resolve,Act.eval,Deferred.ofValue,AeR,e];simp[go_sem,dfr]
 unfold Oper.wp;rw[c,Oper.upon_defer,g];exact K _ ⟨d.size,by show dfr f vs::a.defers=_;rw[d.defers],d.get⟩
theorem XV{z:World}{Γ pre R':List Af}{post:Value->List Af->Prop}{d:Nat}{x:Operand}{bs:List Value}(p:BL ops L o.guard=true)(hd:o.dst=some d)(m:Nat.blt d n=true)(u:o.op=.call {callee:=.value x,args:=args.toArray,argTypes:=tys})(s:ev L x=some (.func (.func f) bs.toArray #[]))(b:evs L args=some vs)(hr:∀w,(callFunc f (bs++vs).toArray).run P w=.ok (.enter f (bs++vs).toArray) w)
  (t:Cn P f (bs++vs) pre post)(H:Sep z Γ w)(k:Nat)(l:List Nat)(j:Ge k l=true)(e:DH Γ l++Γ.drop k=pre++R')
  (K:∀v i Γ',post v Γ'->Sep z (Γ'++R') i->∀a',Fr n ds ((d,v)::L) a'->wpList P ops.toArray Q rest a' i):∀a,Fr n ds L a->wpList P ops.toArray Q (o::rest) a w:=by
 intro a h;unfold wpList;rw[if_pos (wantL_ok h p)];left;have e1:=h.evs b;have e2:=h.ev s;have g:(execOp a.eval o).run P w=.ok (.enter f (bs++vs).toArray) w:=by
  unfold execOp;simp only[u,resolve,e2,Deferred.ofValue,invoke];simp only[go_sem,AeR,e1,AeQ];simpa using hr w
 unfold Oper.wp;rw[g,AgF];exact Ago (t.at H k l j e) λe i q=>by
  cases e with
  | returned v=>obtain ⟨Γ',r,y⟩:=q;simp only[hd];exact K v i Γ' r y _ (h.put d v m)
  | panicked c=>exact q.elim
  | outgrown=>exact q.elim
end
end
section
section
variable{P:Program}{C:World->Prop}{o:Oper}{w z:World}{Γ:List Af}{n:Nat}{ds:List Deferred}{L:List (Nat×Value)}{x y:Operand}
theorem DI{t e:TypeId}{m clk:Nat}{l:List IE}{k:Int}{zv:Value}(z:o.op=.lookup t x y true)(h:EO P t=some e)(c:(P.info? e).bind (·.zero)=some zv)(s:ev L x=some (.map (some m)))(p:ev L y=some (I k))
  (u:∀w,C w->w.heap[m]?=some (.map (l.map Cu).toArray clk)):Ar P C n ds L o (.tuple #[(CO l k).getD zv,.bool (CP l k)]):=λa f w r=>by
 obtain ⟨kt,ik,j,g⟩:=D4 h;have d:(zeroValue e).run P w=.ok zv w:=by
  cases hi:P.info? e with
  | none=>rw[hi] at c;cases c
  | some i=>rw[hi] at c;simp[zeroValue,typeInfo,hi,show i.zero=some zv from c,go_sem]
 have v:(getObj m).run P w=.ok (.map (l.map Cu).toArray clk) w:=by simp[getObj,Sem.run,u w r]
 have b:=Jc l k 0;simp only[execOp,z,f.ev s,f.ev p,Instr.lookup,Aeq,run_underlying j,Aem,v,Aev,En g,AfU,EP g]
 cases hf:fnd l k 0 with
 | none=>rw[hf] at b;simp[d,CP,<-b,Aeq,Aev]
 | some q=>rw[hf] at b;simp[CP,<-b,Aev]
theorem Rm{t e:TypeId}{k:Int}{zv:Value}(p:o.op=.lookup t x y true)(h:EO P t=some e)(c:(P.info? e).bind (·.zero)=some zv)(m:ev L x=some (.map none))(l:ev L y=some (I k)):Ar P C n ds L o (.tuple #[zv,.bool false]):=λa f w r=>by
 obtain ⟨q,s,j,g⟩:=D4 h;have d:(zeroValue e).run P w=.ok zv w:=by
  cases hi:P.info? e with
  | none=>rw[hi] at c;cases c
  | some i=>rw[hi] at c;simp[zeroValue,typeInfo,hi,show i.zero=some zv from c,go_sem]
 have b:=EP (P:=P) g [] k w;simp only[Aft,fnd] at b;simp only[execOp,p,f.ev m,f.ev l,Instr.lookup,Aeq,run_underlying j,Aem,Aev,En g,b];simp[d,Aeq,Aev]
theorem NO{t e:TypeId}{m clk:Nat}{l:List IE}(i:o.op=.call {callee:=.builtin .len,args:= #[x],argTypes:= #[t]})(b:EO P t=some e)(c:ev L x=some (.map (some m)))(d:∀w,C w->w.heap[m]?=some (.map (l.map Cu).toArray clk)):Ar P C n ds L o (I l.length):=λa g w h=>by
 obtain ⟨j,k,f,p⟩:=D4 b;simp only[execOp,i,g.ev c,resolve,AeR,AeE,Aft];simp[invoke,builtin,Builtin.len_,run_underlying f,goInt,go_sem,getObj,Sem.run,d w h]
theorem E6{t:TypeId}{vs:List Value}{i:Int}{k:IntKind}{j m:Nat}{u:Value}(v:o.op=.index t x y)(c:Jd P t=some m)(q:ev L x=some (.agg vs.toArray))(hm:vs.length=m)(p:ev L y=some (.int k i))(f:i=j)(h:vs[j]?=some u):Ar P C n ds L o u:=λa g w _=>by
 obtain ⟨e,i0,c,hi,s,r⟩:=Kr c;subst f;have z:j<vs.length:=(Ad6.1 h).1;have l:(0:Int)<=(j:Int)/\(j:Int)<(m:Int):=by omega
 have b:(part e vs.toArray (j*1)).run P w=.ok u w:=by
  simp only[part,Aeq,FL r,Aem,if_false,Afm,AeK,Ae9,h,Aev]
 have d:(sizeOf e).run P w=.ok 1 w:=by simp[sizeOf,typeInfo,hi,s,go_sem]
 simp only[execOp,v,g.ev q,g.ev p,Instr.index,asIntOf,Aeq,Aev,Aem,run_underlying c,if_pos l,AeZ,d,b]
theorem GI{c:Code}{N R:Act->World->Prop}{X:Nat->Act->World->Prop}(m:Nat)(h:∀a,Fr n ds L a->Code.rounds P c (Qp N X R) m a w):∀a,Fr n ds L a->(Code.loop c).wp P (Qp N X R) a w:=λa b=>wp_loop_rounds m (h a b)
theorem XW{c:Code}{N R:Act->World->Prop}{X:Nat->Act->World->Prop}{m:Nat}(h:∀a,Fr n ds L a->c.wp P (Qp (λa w=>Code.rounds P c (Qp N X R) m a w) X R) a w):∀a,Fr n ds L a->Code.rounds P c (Qp N X R) (m+1) a w:=λa b=>by
 rw[rounds_succ];refine wp_mono (h a b) λe a w q=>?_;cases e<;>exact q
theorem DE{c:Code}{N R:Act->World->Prop}{X:Nat->Act->World->Prop}{m:Nat}(h:∀a,Fr n ds L a->BR P (λa w=>Code.rounds P c (Qp N X R) m a w) X R (.c c .fin) a w):∀a,Fr n ds L a->Code.rounds P c (Qp N X R) (m+1) a w:=XW h
end
theorem Rn{P:Program}{b:Func}{R:Value->World->Prop}{n:Nat}{ds:List Deferred}{L:List (Nat×Value)}{a:Act}{w:World}(d:Fr n ds L a){rs:List ResultVar}(e:b.results=rs.toArray)(vs:List Value)(c:EN P L w rs vs){v:Value}(f:GY vs=v)(h:R v w):Leaves P b a.tmps (Ret R) [] .returning w:=⟨v,by rw[<-f];exact Hi d e c,h⟩
end
def BN(F:Nat->Bool):List Value:=(List.range 16).map λk=>u64 (bw F k)
theorem By(F:Nat->Bool):(BN F).length=16:=by simp[BN]
theorem wsV_at(F:Nat->Bool){k:Nat}(a:k<16):(BN F)[k]?=some (u64 (bw F k)):=by simp[BN,a]
theorem wsV_one(F:Nat->Bool):∀u∈BN F,u.oneCell'=true:=λu h=>by
 simp only[BN,Aeh] at h;obtain ⟨k,_,rfl⟩:=h;rfl
def Cw(n:Nat)(F D S:Nat->Bool):List Value:=.int .i64 n::(BN F++(BN D++(BN S++BN λ_=>false)))
abbrev alB(pa n:Nat)(F D S:Nat->Bool):Af:=blk pa (Cw n F D S) 179
def BV:Nat->Bool:=λ_=>false
theorem AcZ(n:Nat)(F D S:Nat->Bool):(Cw n F D S)[0]?=some (I n):=rfl
theorem Nc(n:Nat)(F D S:Nat->Bool){k:Nat}(a:k<16):(Cw n F D S)[1+k]?=some (u64 (bw F k)):=by
 unfold Cw;rw[AgK,Aet,Aeg (by rw[By];exact a),wsV_at _ a]
theorem Xj(n:Nat)(F D S:Nat->Bool){k:Nat}(a:k<16):(Cw n F D S)[17+k]?=some (u64 (bw D k)):=by
 unfold Cw;rw[show 17+k=(16+k)+1 by omega,Aet,Aen (by rw[By];omega),By,show 16+k-16=k by omega,Aeg (by rw[By];exact a),wsV_at _ a]
theorem SN{F c:Nat->Bool}{k:Nat}{x:BitVec 64}(d:k<16)(h:∀j,j<16->(if k=j then x else bw F j)=bw c j):(BN F).take k++[u64 x]++(BN F).drop (k+1)=BN c:=by
 have f:=By F;have e:=Ae5 (l:=BN F) (i:=k) (a:=u64 x);rw[if_pos U] at e;rw[Aec,AhG,<-e];refine Afk λj=>?_;rw[Afi];rcases Ael j 16 with b|b
 ·rw[wsV_at c b,<-h j b]
  split
  ·rw[if_pos U]
  rw[wsV_at F b]
 rw[if_neg U,AeC U,AeC (by rw[By];omega)]
theorem NP(a:Value)(l:List Value)(k:Nat)(u:Value):(a::l).take (1+k)++[u]++(a::l).drop (1+k+1)=a::(l.take k++[u]++l.drop (k+1)):=by
 rw[AgK 1 k];simp
theorem NQ(l m:List Value)(k:Nat)(u:Value)(a:k<l.length):(l++m).take k++[u]++(l++m).drop (k+1)=(l.take k++[u]++l.drop (k+1))++m:=by
 rw[Aeo U,AeO U];simp
theorem UH(l m:List Value)(k:Nat)(u:Value):(l++m).take (l.length+k)++[u]++(l++m).drop (l.length+k+1)=l++(m.take k++[u]++m.drop (k+1)):=by
 rw[AgR,Ae1,Aee U,AeF U];rw[show l.length+k-l.length=k by omega,show l.length+k+1-l.length=k+1 by omega];simp
theorem JZ(n:Nat){F b:Nat->Bool}(D S:Nat->Bool){k:Nat}{x:BitVec 64}(a:k<16)(h:∀j,j<16->(if k=j then x else bw F j)=bw b j):(Cw n F D S).take (1+k)++[u64 x]++(Cw n F D S).drop (1+k+1)=Cw n b D S:=by
 unfold Cw;rw[NP,NQ _ _ _ _ (by rw[By];exact a),SN a h]
theorem NR(n:Nat)(F:Nat->Bool){D D':Nat->Bool}(S:Nat->Bool){k:Nat}{x:BitVec 64}(a:k<16)(h:∀j,j<16->(if k=j then x else bw D j)=bw D' j):(Cw n F D S).take (17+k)++[u64 x]++(Cw n F D S).drop (17+k+1)=Cw n F D' S:=by
 have e:=UH (BN F) (BN D++(BN S++BN λ_=>false)) k (u64 x);rw[By] at e;unfold Cw;rw[show 17+k=1+(16+k) by omega,NP,e,NQ _ _ _ _ (by rw[By];exact a),SN a h]
theorem EC(n:Nat)(F D S:Nat->Bool):(Cw n F D S).length=65:=by simp[Cw,By]
theorem PZ(n:Nat)(F D S:Nat->Bool):BN F++BN D=((Cw n F D S).drop 1).take 32:=by
 have b:=By F;have a:=By D;unfold Cw;rw[List.drop_one,List.tail_cons,<-Aec,AeA (by simp[b,a])]
theorem XX(n:Nat)(F D S:Nat->Bool):BN S++BN BV=((Cw n F D S).drop 33).take 32:=by
 have b:=By F;have a:=By D;unfold Cw;rw[show (33:Nat)=32+1 from Z,AeY,<-Aec (BN F),AfM (by simp[b,a]),Aee (by simp[By])];rfl
theorem KD(n:Nat)(F S:Nat->Bool):(Cw n F BV S).take 33++(BN F++BN BV)++(Cw n F BV S).drop (33+(BN F++BN BV).length)=Cw n F BV F:=by
 have b:=By F;have a:=By BV;have e:(Cw n F BV S).drop (33+(BN F++BN BV).length)=[]:=AeF (by simp[EC,b,a]);rw[e,AeQ];unfold Cw;rw[show (33:Nat)=32+1 from Z,Ae0,<-Aec (BN F) (BN BV) (BN S++_),AeA (by simp[By])];simp only[Afv,Aec];rfl
theorem UI(n:Nat)(F D S:Nat->Bool):(Cw n F D S).take 1++(BN S++BN BV)++(Cw n F D S).drop (1+(BN S++BN BV).length)=Cw n S BV S:=by
 have a:=By F;have c:=By D;have b:=By S;have d:=By BV;rw[show 1+(BN S++BN BV).length=32+1 by simp[b,d]];unfold Cw;rw[AeY,<-Aec (BN F) (BN D),AfM (by simp[a,c])];simp only[Ae0,Afz,Afv,AeL,Aec]
theorem J0(l:List Value)(F:Nat->Bool)(h:∀u∈l,u.oneCell'=true):∀u∈l++BN F,u.oneCell'=true:=λu a=>by
 rcases Aek.1 a with q|q
 ·exact h u q
 exact wsV_one F u q
theorem bit_of(F:Nat->Bool)(p:Nat):(decide ((bw F (p/64))>>>(p%64)&&&1#64=1#64))=F p:=by
 rw[AaM];cases F p<;>simp
theorem Aa5{z w:World}{Γ:List Af}(i:Nat)(H:Sep z Γ w){A:Af}(a:Γ[i]?=some A){b o:Nat}{v:Value}(h:∀h,A h->celH h b o v):FD b o v w:=H.cell i a h
def Gg(F:Nat->Bool)(p:Nat):Nat->Bool:=λq=>F q||decide (q=p)
def Dv(F:Nat->Bool)(p:Nat):Nat->Bool:=λq=>F q && !decide (q=p)
theorem XY(F:Nat->Bool)(p j:Nat):(if p/64=j then bw F (p/64)&&& ~~~Eh (p%64) else bw F j)=bw (Dv F p) j:=by
 rw[show Dv F p=λq=>F q && !decide (q=p) from Z,<-AaL];split
 ·rename_i e;rw[e]
 rfl
theorem P0(F:Nat->Bool)(p j:Nat):(if p/64=j then bw F (p/64)|||Eh (p%64) else bw F j)=bw (Gg F p) j:=by
 rw[show Gg F p=λq=>F q||decide (q=p) from rfl,<-AaK];split
 ·rename_i e;rw[e]
 rfl
def Dg(F G:Nat->Bool):Nat->Bool:=λq=>F q||G q
def EJ(F G:Nat->Bool)(k:Nat):Nat->Bool:=λq=>if q<64*k then G q else F q
theorem Jj(F G:Nat->Bool)(k j:Nat):bw (EJ F G k) j=if j<k then bw G j else bw F j:=by
 symm;refine Ks λi hi=>?_;unfold EJ;split
 ·rw[if_pos U,DT _ _ _ hi]
 rw[if_neg U,DT _ _ _ hi]
theorem P4(F G:Nat->Bool)(k:Nat):∀j,j<16->(if k=j then bw G k else bw (EJ F G k) j)=bw (EJ F G (k+1)) j:=λj _=>by
 rw[Jj,Jj];split
 ·rename_i e;subst e;rw[if_pos U]
 by_cases h:j<k
 ·rw[if_pos h,if_pos U]
 rw[if_neg h,if_neg U]
theorem P5(F G:Nat->Bool):EJ F G 0=F:=by funext q;simp[EJ]
theorem Aa6(n:Nat)(F G D D' S:Nat->Bool):Cw n (EJ F G 16) (EJ D D' 16) S=Cw n G D' S:=by
 have h:∀F G:Nat->Bool,BN (EJ F G 16)=BN G:=λF G=>by
  refine Afk λj=>?_;rcases Ael j 16 with a|a
  ·rw[wsV_at _ a,wsV_at _ a,Jj,if_pos a]
  rw[AeC (by rw[By];omega),AeC (by rw[By];omega)]
 unfold Cw;rw[h,h]
theorem NS(n:Nat)(F D S:Nat->Bool):BN F=((Cw n F D S).drop 1).take 16:=by
 unfold Cw;rw[List.drop_one,List.tail_cons,AeA (By F)]
theorem Aa7(n:Nat)(F D S:Nat->Bool):BN D=((Cw n F D S).drop 17).take 16:=by
 unfold Cw;rw[show (17:Nat)=16+1 from Z,AeY,AfM (By F),AeA (By D)]
theorem Ac0(F D:Nat->Bool)(k:Nat):bw (EJ F (Dg F D) k) k|||bw D k=bw (Dg F D) k:=by
 rw[Jj,if_neg U,AcU];rfl
theorem Aa8(F D:Nat->Bool)(k:Nat):∀j,j<16->(if k=j then bw (EJ F (Dg F D) k) k|||bw D k else bw (EJ F (Dg F D) k) j)=bw (EJ F (Dg F D) (k+1)) j:=λj a=>by
 rw[Ac0];exact P4 F _ k j a
theorem Aa9(D:Nat->Bool)(k:Nat):∀j,j<16->(if k=j then 0#64 else bw (EJ D BV k) j)=bw (EJ D BV (k+1)) j:=λj a=>by
 have e:(0#64)=bw BV k:=(bw_zero.2 λ_ _=>rfl).symm;rw[e];exact P4 D BV k j a
def DR(n:Nat):Nat->Bool:=λq=>decide (q<n)
theorem XZ(k:Nat):Gg (DR k) k=DR (k+1):=by
 funext q;unfold Gg DR;rw[Aer];simp;omega
theorem UJ(k:Nat):∀j,j<16->(if k/64=j then bw (DR k) (k/64)|||Eh (k%64) else bw (DR k) j)=bw (DR (k+1)) j:=λj _=>by
 rw[<-XZ];exact P0 _ _ _
theorem UK(F:Nat->Bool)(k:Nat):(cnt F 0 (64*k):Int)+(cnt F (64*k) 64:Int)=(cnt F 0 (64*(k+1)):Int):=by
 have:=Hz F 0 (64*k) 64;rw[show 64*(k+1)=64*k+64 by omega,this,AfH];omega
theorem SO(F:Nat->Bool)(a:Nat):∀n,cnt F a n<=n
 | 0=>Aed _
 | n+1=>by
  have:=SO F a n;have:(F (a+n)).toNat<=1:=by cases F (a+n)<;>simp
  simp only[cnt];omega
def SP(j:Nat):UInt8:=UInt8.ofNat (Go.Lib.deBruijn64tab.getD j 0)
def Hk(A:Af):Prop:=∀h,A h->∀j,j<64->celH h 0 j (u8 (SP j))
theorem Aba(x:BitVec 64)(i:Nat)(hi:i<64)(f:x.getLsbD i=true)(n:∀j,j<i->x.getLsbD j=false):(((x&&& -x)*285870213051353865#64)>>>58).toNat<64/\((SP (((x&&& -x)*285870213051353865#64)>>>58).toNat).toNat:Int)=i:=by
 have b:x.toNat≠0:=λe=>by
  have:x=0#64:=AgU (by simpa using e);rw[this] at f;simp at f
 have d:=x.isLt;obtain ⟨m,k,l⟩:=Go.Lib.ctzFrom_spec 64 x.toNat U d;have q:Go.Lib.ctzFrom 64 x.toNat=i:=by
  generalize Go.Lib.ctzFrom 64 x.toNat=c at k l;have g:∀j,x.getLsbD j=(decide (j>=c)&&(2*m+1).testBit (j-c)):=λj=>by
   show x.toNat.testBit j=_;rw[k,Nat.testBit_two_pow_mul]
  rcases AfD i c with h|h|h
  ·have:=g i;rw[f] at this;simp at this;omega
  ·exact h.symm
  have:=g c;rw[n c h] at this;simp at this
 obtain ⟨a,_⟩:=Go.Lib.lowest_bit 64 x.toNat b d;have e2:Go.Lib.ctz 64 x.toNat=i:=by unfold Go.Lib.ctz;rw[if_neg b,q]
 rw[e2] at a;have p:(x&&& -x).toNat=2^i:=by
  rw[Af8,BitVec.toNat_neg,Afu U];exact a
 have o:(((x&&& -x)*285870213051353865#64)>>>58).toNat=2^i*285870213051353865%18446744073709551616/288230376151711744:=by
  rw[Af2,BitVec.toNat_mul,p,Af0];rfl
 obtain ⟨a1,a2⟩:=Go.Lib.deBruijn64_at i hi;rw[o];refine ⟨a1,?_⟩;unfold SP;rw[a2];simp;omega
theorem NT(a n:Nat)(F D S:Nat->Bool)(p:Nat):Cn prog 190 [Y a,I (p:Int)] [alB a n F D S] (λv Γ=>v=.bool (decide (p<n))/\Γ=[alB a n F D S]):=by
 intro z R w H;replace H:=H.l1;refine Ae func190 Z ntmps190 Z (Z0 10 [0] Z (Al 7 Z (λb=>?_) (λb=>?_)))
 ·refine Z0 4 [0] Z (Ab Z (Bf Z Z J (Ay (H.cel 0 Z 0 (AcZ _ _ _ _)))) (Z0 6 [0] Z (Zr Z ?_)));exact ⟨_,⟨congrArg Value.bool (by first|(rw[Aer];simp<;>omega)|(simp<;>omega)),Z⟩,H⟩
 refine Zc 11 Z (Zr Z ?_);exact ⟨_,⟨congrArg Value.bool (by first|(rw[Aer];simp<;>omega)|(simp<;>omega)),Z⟩,H⟩
theorem NU(a n:Nat)(F D S:Nat->Bool)(p:Nat)(hp:p<n)(c:n<=1024):Cn prog 149 [Y a,I (p:Int)] [alB a n F D S] (λv Γ=>v=.bool (F p)/\Γ=[alB a n F D S]):=by
 intro z R w H;replace H:=H.l1;refine Ae func149 Z ntmps149 Z (Zc 9 Z (z_E_ Z (call190 _) (NT _ _ _ _ _ _) H ?_));intro w H;refine Zc 1 Z (Al 8 Z (λb=>?_) (λb=>?_))
 ·refine Z1 7 [1,1,16,1,(p/64),1+(p/64)] [(p:Int)/64] Z U (Ab Z (Bf Z Z J (Ay (H.cel 0 Z (1+(p/64)) (Nc _ _ _ _ U)))) (Z1 2 [] [(p:Int)%64] Z U (Ab Z (Fu Z Z Z (m:=(p%64)) U U) (Ab Z (Ff (q:=1#64) Z Z Z) (Ab Z (ND (p:=((bw F (p/64))>>>(p%64))&&&(1#64)) (q:=1#64) (k:=.u64) Z J Z Z) (AC 21 (v:=.bool (F p)) Z (congrArg Value.bool (bit_of F p)) (Zc 5 Z (Zr Z ?_))))))));exact ⟨_,⟨Z,Z⟩,H⟩
 exact absurd hp b
theorem SQ(a n:Nat)(F D S:Nat->Bool)(p:Nat)(hp:p<n)(d:n<=1024)(b:F p=true):Cn prog 101 [Y a,I (p:Int)] [alB a n F D S] (λv Γ=>v=.bool true/\Γ=[alB a n (Dv F p) D S]):=by
 intro z R w H;replace H:=H.l1;refine Ae func101 Z ntmps101 Z (Zc 10 Z (z_E_ Z (call149 _) (NU _ _ _ _ _ _ U U) H ?_));intro w H;replace H:=H.l1;refine AC 7 (v:=.bool true) Z (congrArg Value.bool b) (Zc 7 Z (BG 16 J J (A5 H λw c=>?_)));have H:=c.l1;refine EQ 7 [1,1,16,1,(p/64),1+(p/64)] [(p:Int)/64] H Z J U (B9 Z Z Z (Bf Z Z J (Ay (H.cel 0 Z (1+(p/64)) (Nc _ _ _ _ U)))) (EQ 2 [] [(p:Int)%64] H Z J U (B9 Z Z Z (NC Z Z Z (m:=(p%64)) U U) (B9 Z Z Z (Us Z Z Z) (EQ 4 [1,1,16,1,(p/64),1+(p/64)] [] H Z J U (CD (gw (Az Z Z (Ak 0 H Z Z Z Z (vs:=[u64 ((bw F (p/64))&&& ~~~(Eh (p%64)))]) Z (Ad Z Aw) J (by simp only[EC,Aeb,Aew];omega) (out:=(Cw n (Dv F p) D S)) (JZ _ _ _ U (λj _=>XY F p j))) ?_))))))));rintro w H;replace H:=H.l1;refine Zc 8 Z (Zr Z ?_);exact ⟨_,⟨Z,Z⟩,H⟩
theorem X0(a n:Nat)(F D S:Nat->Bool)(p:Nat)(hp:p<n)(e:n<=1024)(b:F p=false)(d:D p=false):Cn prog 228 [Y a,I (p:Int)] [alB a n F D S] (λv Γ=>v=.bool true/\Γ=[alB a n F (Gg D p) S]):=by
 intro z R w H;replace H:=H.l1;refine Ae func228 Z ntmps228 Z (Zc 10 Z (z_E_ Z (call190 _) (NT _ _ _ _ _ _) H ?_));intro w H;replace H:=H.l1;refine AC 7 (v:=.bool true) Z (congrArg Value.bool (decide_eq_true hp)) (Zc 4 Z (z_E_ Z (call149 _) (NU _ _ _ _ _ _ U U) H ?_));intro w H;replace H:=H.l1;refine AC 12 (v:=.bool false) Z (congrArg Value.bool b) (Z1 9 [1,17,16,1,(p/64),17+(p/64)] [(p:Int)/64] Z U (Ab Z (Bf Z Z J (Ay (H.cel 0 Z (17+(p/64)) (Xj _ _ _ _ U)))) (Z1 2 [] [(p:Int)%64] Z U (Ab Z (Fu Z Z Z (m:=(p%64)) U U) (Ab Z (Ff (q:=1#64) Z Z Z) (Ab Z (ND (p:=((bw D (p/64))>>>(p%64))&&&(1#64)) (q:=1#64) (k:=.u64) Z J Z Z) (AC 27 (v:=.bool false) Z (congrArg Value.bool ((bit_of D p).trans d)) (Zc 7 Z (BG 16 J J (A5 H λw c=>?_))))))))));have H:=c.l1;refine EQ 7 [1,17,16,1,(p/64),17+(p/64)] [(p:Int)/64] H Z J U (B9 Z Z Z (Bf Z Z J (Ay (H.cel 0 Z (17+(p/64)) (Xj _ _ _ _ U)))) (EQ 2 [] [(p:Int)%64] H Z J U (B9 Z Z Z (NC Z Z Z (m:=(p%64)) U U) (B9 Z Z Z (NB Z Z Z) (EQ 4 [1,17,16,1,(p/64),17+(p/64)] [] H Z J U (CD (gw (Az Z Z (Ak 0 H Z Z Z Z (vs:=[u64 ((bw D (p/64))|||(Eh (p%64)))]) Z (Ad Z Aw) J (by simp only[EC,Aeb,Aew];omega) (out:=(Cw n F (Gg D p) S)) (NR _ _ _ U (λj _=>P0 D p j))) ?_))))))));rintro w H;replace H:=H.l1;refine Zc 8 Z (Zr Z ?_);exact ⟨_,⟨Z,Z⟩,H⟩
abbrev pB_(F:Nat->Bool)(k:Nat):BitVec 64:=((bw F k)>>>1)&&&(6148914691236517205#64)
abbrev pC_ (F:Nat->Bool) (k:Nat):BitVec 64:=(bw F k)&&&(6148914691236517205#64)
abbrev P6 (F:Nat->Bool) (k:Nat):BitVec 64:=(((bw F k)>>>1)&&&(6148914691236517205#64))+((bw F k)&&&(6148914691236517205#64))
abbrev pD_ (F:Nat->Bool) (k:Nat):BitVec 64:=(((P6 F k)>>>2)&&&(3689348814741910323#64))
abbrev pE_ (F:Nat->Bool) (k:Nat):BitVec 64:=((P6 F k)&&&(3689348814741910323#64))
abbrev pF_ (F:Nat->Bool) (k:Nat):BitVec 64:=(pD_ F k)+(pE_ F k)
theorem X1(F:Nat->Bool)(k:Nat):Cn prog 105 [u64 (bw F k)] [] (λv Γ=>v=I ((cnt F (64*k) 64:Nat):Int)/\Γ=[]):=by
 intro z R w H;replace H:=H.l0;refine Ae func105 Z ntmps105 Z (Zc 8 Z (Ab Z (Fu Z Z Z (m:=1) Z (by decide)) (Ab Z (Ff (q:=6148914691236517205#64) Z Z Z) (Zc 1 Z (Ab Z (Ff (q:=6148914691236517205#64) Z Z Z) (Ab Z (HA (p:=((bw F k)>>>1)&&&(6148914691236517205#64)) (q:=(bw F k)&&&(6148914691236517205#64)) Z Z Z) (Zc 6 Z (Ab Z (Fu Z Z Z (m:=2) Z (by decide)) (Ab Z (Ff (p:=(P6 F k)>>>2) (q:=3689348814741910323#64) Z Z Z) (Zc 1 Z (Ab Z (Ff (p:=(pB_ F k)+(pC_ F k)) (q:=3689348814741910323#64) Z Z Z) (Ab Z (HA (p:=((P6 F k)>>>2)&&&(3689348814741910323#64)) (q:=(P6 F k)&&&(3689348814741910323#64)) Z Z Z) (Zc 6 Z ?_)))))))))))));refine Ab Z (Fu Z Z Z (m:=4) Z (by decide)) (Zc 1 Z (Ab Z (HA (p:=(pF_ F k)>>>4) (q:=(pD_ F k)+(pE_ F k)) Z Z Z) (Ab Z (Ff (p:=((pF_ F k)>>>4)+(pF_ F k)) (q:=1085102592571150095#64) Z Z Z) (Zc 7 Z (Ab Z (Fu Z Z Z (m:=8) Z (by decide)) (Ab Z (HA (p:=(((pF_ F k)>>>4)+(pF_ F k))&&&(1085102592571150095#64)) (q:=((((pF_ F k)>>>4)+(pF_ F k))&&&(1085102592571150095#64))>>>8) Z Z Z) (Zc 7 Z (Ab Z (Fu Z Z Z (m:=16) Z (by decide)) (Ab Z (HA (p:=((((pF_ F k)>>>4)+(pF_ F k))&&&(1085102592571150095#64))+(((((pF_ F k)>>>4)+(pF_ F k))&&&(1085102592571150095#64))>>>8)) (q:=(((((pF_ F k)>>>4)+(pF_ F k))&&&(1085102592571150095#64))+(((((pF_ F k)>>>4)+(pF_ F k))&&&(1085102592571150095#64))>>>8))>>>16) Z Z Z) (Zc 7 Z (Ab Z (Fu Z Z Z (m:=32) Z (by decide)) (Ab Z (HA (p:=(((((pF_ F k)>>>4)+(pF_ F k))&&&(1085102592571150095#64))+(((((pF_ F k)>>>4)+(pF_ F k))&&&(1085102592571150095#64))>>>8))+((((((pF_ F k)>>>4)+(pF_ F k))&&&(1085102592571150095#64))+(((((pF_ F k)>>>4)+(pF_ F k))&&&(1085102592571150095#64))>>>8))>>>16)) (q:=((((((pF_ F k)>>>4)+(pF_ F k))&&&(1085102592571150095#64))+(((((pF_ F k)>>>4)+(pF_ F k))&&&(1085102592571150095#64))>>>8))+((((((pF_ F k)>>>4)+(pF_ F k))&&&(1085102592571150095#64))+(((((pF_ F k)>>>4)+(pF_ F k))&&&(1085102592571150095#64))>>>8))>>>16))>>>32) Z Z Z) (Zc 6 Z ?_)))))))))))));refine Ab Z (AcW Z J Z (Lt F k).1) (Ab Z (XN Z Z Z (by have:=(Lt F k).1;exact ⟨Int.natCast_nonneg _,by unfold Lr at this;dsimp only[P6,pB_,pC_,pD_,pE_,pF_] at this ⊢;omega⟩)) (AC 34 (u:=I (((Lr (bw F k)).toNat:Int)%128)) (v:=I ((cnt F (64*k) 64:Nat):Int)) Z (congrArg I (by have:=(Lt F k).2;omega)) (Zc 4 Z (gr (Fq Z [I ((cnt F (64*k) 64:Nat):Int)] ⟨Z,trivial⟩ (v:=I ((cnt F (64*k) 64:Nat):Int)) Z ?_)))));exact ⟨_,⟨Z,Z⟩,H⟩
theorem X2(a n:Nat)(F D S:Nat->Bool):Cn prog 50 [Y a] [alB a n F D S] (λv Γ=>v=I (cnt F 0 1024:Int)/\Γ=[alB a n F D S]):=by
 intro z R w H;replace H:=H.l1;refine Ae func50 Z ntmps50 Z (Z0 17 [1,1] Z (Ab Z (BX Z Z (vs:=BN F) J (Ay ((H.blk 0 Z).part 1 16 _ (NS _ _ _ _)))) (Zc 4 Z ?_)));refine AD (σ:=Nat) (λk=>[(11,I (k:Int)),(3,I (cnt F 0 (64*k):Int)),(2,I 0),(10,.agg (BN F).toArray)])
   (λk w=>Sep z (alB a n F D S::R) w/\(k<=16)) (λk=>16-k) 0
   (λ_ b=>(b.co Z (by go_num) b.cz)) ⟨H,by omega⟩ ?_
 clear H;rintro k w ⟨g,d⟩;have H:=g.l1;have c:=d;clear d;have f:=SO F 0 (64*(k+1));refine Z0 6 [0] Z (Ag Z (λe=>?_) (λe=>?_))
 ·refine Zc 6 Z (Ab Z (E6 (m:=16) Z J Z Z Z (j:=k) Z (u:=u64 (bw F k)) (wsV_at F U)) (Zc 6 Z (z_E_ Z (call105 _) (X1 _ _) H ?_)));intro w H;replace H:=H.l1;refine Ab Z (CZ Z Z Z (r:=(cnt F 0 (64*(k+1)):Int)) (UK F k) U) (Z1 8 [] [(k:Int)+1] Z U (gf ?_));intro _ b;refine ⟨(k+1),b.cz,⟨H,?_⟩,?_⟩
  ·omega
  omega
 obtain rfl:k=16:=by omega
 refine Zc 2 Z (gx (Zc 9 Z (Zr Z ?_)));exact ⟨_,⟨Z,Z⟩,H⟩
theorem Mt(a n:Nat)(F D S:Nat->Bool):Cn prog 102 [Y a] [alB a n F D S] (λv Γ=>v=.tuple #[]/\Γ=[alB a n (Dg F D) BV (Dg F D)]):=by
 intro z R w H;replace H:=H.l1;refine Ae func102 Z ntmps102 Z (Z0 7 [1,17] Z (Ab Z (BX Z Z (vs:=BN D) J (Ay ((H.blk 0 Z).part 17 16 _ (Aa7 _ _ _ _)))) (Zc 4 Z ?_)));refine AD (σ:=Nat) (λk=>[(9,I (k:Int)),(0,Y a),(8,.agg (BN D).toArray)])
   (λk w=>Sep z (alB a n (EJ F (Dg F D) k) (EJ D BV k) S::R) w/\(k<=16)) (λk=>16-k) 0
   fr_z ⟨(by rw[P5,P5];exact H),by omega⟩ ?_
 clear H;rintro k w ⟨b,d⟩;have H:=b.l1;have c:=d;clear d;refine Z0 6 [0] Z (Ag Z (λe=>?_) (λe=>?_))
 ·refine Zc 7 Z (Ab Z (E6 (m:=16) Z J Z Z Z (j:=k) Z (u:=u64 (bw D k)) (wsV_at D U)) (Zc 5 Z (BG 13 J J (A5 H λw b=>?_))))
  have H:=b.l1;refine EQ 6 [1,1,16,1,k,1+k] [] H Z J U (B9 Z Z Z (Bf Z Z J (Ay (H.cel 0 Z (1+k) (Nc _ _ _ _ U)))) (PO 1 [] Z J (B9 Z Z Z (NB Z Z Z) (EQ 4 [1,1,16,1,k,1+k] [] H Z J U (CD (gw (Az Z Z (Ak 0 H Z Z Z Z (vs:=[u64 ((bw (EJ F (Dg F D) k) k)|||(bw D k))]) Z (Ad Z Aw) J (by simp only[EC,Aeb,Aew];omega) (out:=(Cw n (EJ F (Dg F D) (k+1)) (EJ D BV k) S)) (JZ _ _ _ U (Aa8 F D k))) ?_)))))));rintro w H;replace H:=H.l1;refine Z1 9 [1,17,16,1,k,17+k] [] Z U (Az Z Z (Ak 0 H Z Z Z Z (vs:=[u64 (0#64)]) Z (Ad Z Aw) J (by simp only[EC,Aeb,Aew];omega) (out:=(Cw n (EJ F (Dg F D) (k+1)) (EJ D BV (k+1)) S)) (NR _ _ _ U (Aa9 D k))) ?_);rintro w H;replace H:=H.l1;refine Z1 7 [] [(k:Int)+1] Z U (gf ?_);intro _ f;refine ⟨(k+1),f.cz,⟨H,?_⟩,?_⟩
  ·omega
  omega
 obtain rfl:k=16:=by omega
 refine Zc 2 Z (gx (Zc 2 Z ?_));dsimp only[alB] at H;rw[Aa6] at H;refine Z0 5 [1] Z (Ab Z (BX Z Z (vs:=BN (Dg F D)++BN BV) J (Ay ((H.blk 0 Z).part 1 32 _ (PZ _ _ _ _)))) (Z0 2 [33] Z (Az Z Z (Ak 0 H Z Z Z Z (vs:=BN (Dg F D)++BN BV) Z (J0 _ _ (wsV_one _)) J (by simp only[EC,Ad9,By];omega) (out:=(Cw n (Dg F D) BV (Dg F D))) (KD _ _ _)) ?_)));rintro w H;replace H:=H.l1;refine Zc 1 Z (Zf Z ?_);exact ⟨_,⟨Z,Z⟩,H⟩
theorem X3(a n:Nat)(F D S:Nat->Bool):Cn prog 204 [Y a] [alB a n F D S] (λv Γ=>v=.tuple #[]/\Γ=[alB a n S BV S]):=by
 intro z R w H;replace H:=H.l1;refine Ae func204 Z ntmps204 Z (Z0 5 [33] Z (Ab Z (BX Z Z (vs:=BN S++BN BV) J (Ay ((H.blk 0 Z).part 33 32 _ (XX _ _ _ _)))) (Z0 2 [1] Z (Az Z Z (Ak 0 H Z Z Z Z (vs:=BN S++BN BV) Z (J0 _ _ (wsV_one _)) J (by simp only[EC,Ad9,By];omega) (out:=(Cw n S BV S)) (UI _ _ _ _)) ?_))));rintro w H;replace H:=H.l1;refine Zc 1 Z (Zf Z ?_);exact ⟨_,⟨Z,Z⟩,H⟩
theorem Abb(n:Nat)(j:1<=n/\n<=1024):Cn prog 97 [I (n:Int)] [] (λv Γ=>(∃c,v=Y c/\Γ=[alB c n (DR n) BV (DR n)])):=by
 intro z R w H;replace H:=H.l0;refine Ae func97 Z ntmps97 Z (Z0 11 [0] Z (Al 7 Z (λf=>U) (λf=>?_)));refine Z0 5 [0] Z (Ag Z (λi=>U) (λi=>?_));refine Zc 5 Z (Ab Z (Bc Z Z (out:=(Cw n (DR 0) BV BV)) J) (AQ Z (G0 H Z Z (cs:=(Cw n (DR 0) BV BV)) Z) ?_));rintro _ w ⟨a,rfl,H⟩;replace H:=H.l1;refine Zc 11 Z ?_;refine AD (σ:=Nat) (λk=>[(15,I (k:Int)),(2,.pointer none),(3,Y a),(14,I (n:Int))])
   (λk w=>Sep z (alB a n (DR k) BV BV::R) w/\(k<=n)) (λk=>n-k) 0
   fr_z ⟨H,by omega⟩ ?_
 clear H;rintro k w ⟨b,d⟩;have H:=b.l1;have g:=d;clear d;refine Z0 6 [0] Z (Ag Z (λh=>?_) (λh=>?_))
 ·refine Zc 10 Z (BG 16 J J (A5 H λw b=>?_))
  have H:=b.l1;refine EQ 7 [1,1,16,1,(k/64),1+(k/64)] [(k:Int)/64] H Z J U (B9 Z Z Z (Bf Z Z J (Ay (H.cel 0 Z (1+(k/64)) (Nc _ _ _ _ U)))) (EQ 2 [] [(k:Int)%64] H Z J U (B9 Z Z Z (NC Z Z Z (m:=(k%64)) U U) (B9 Z Z Z (NB Z Z Z) (EQ 4 [1,1,16,1,(k/64),1+(k/64)] [] H Z J U (CD (gw (Az Z Z (Ak 0 H Z Z Z Z (vs:=[u64 ((bw (DR k) (k/64))|||(Eh (k%64)))]) Z (Ad Z Aw) J (by simp only[EC,Aeb,Aew];omega) (out:=(Cw n (DR (k+1)) BV BV)) (JZ _ _ _ U (UJ k))) ?_))))))));rintro w H;replace H:=H.l1;refine Z1 7 [] [(k:Int)+1] Z U (gf ?_);intro _ e;refine ⟨(k+1),e.cz,⟨H,?_⟩,?_⟩
  ·omega
  omega
 obtain rfl:k=n:=by omega
 refine Zc 2 Z (gx (Z0 8 [1] Z (Ab Z (BX Z Z (vs:=BN (DR k)++BN BV) J (Ay ((H.blk 0 Z).part 1 32 _ (PZ _ _ _ _)))) (Z0 2 [33] Z (Az Z Z (Ak 0 H Z Z Z Z (vs:=BN (DR k)++BN BV) Z (J0 _ _ (wsV_one _)) J (by simp only[EC,Ad9,By];omega) (out:=(Cw k (DR k) BV (DR k))) (KD _ _ _)) ?_)))));rintro w H;replace H:=H.l1;refine Zc 9 Z (Zr Z ?_);exact ⟨_,⟨a,Z,Z⟩,H⟩
theorem AdD(x:BitVec 64)(i:Nat)(hi:i<64)(a:x.getLsbD i=true)(b:∀j,j<i->x.getLsbD j=false)(A:Af)(e:Hk A):Cn prog 227 [u64 x] [A] (λv Γ=>v=I ((i:Nat):Int)/\Γ=[A]):=by
 intro z R w H;replace H:=H.l1;obtain ⟨c,f⟩:=Aba x i hi a b;refine Ae func227 Z ntmps227 Z (Zc 9 Z (Ab Z (ND (q:=0#64) (k:=.u64) Z J Z Z) (Zc 2 Z (Ag Z (λd=>?_) (λd=>?_)))))
 ·(exfalso;rw[d] at a;simp at a)
 refine Zc 6 Z (Ab Z (AaU Z Z) (Ab Z (Ff Z Z Z) (Ab Z (AaT (q:=285870213051353865#64) Z Z Z) (Ab Z (Fu Z Z Z (m:=58) Z (by decide)) (Ab Z (JM (l:=64) Z (z:=1) (j:=(((x&&& -x)*285870213051353865#64)>>>58).toNat) (r:=(((x&&& -x)*285870213051353865#64)>>>58).toNat) J Z Z Z c U) (Ab Z (Bf Z Z J (Ay (Aa5 0 H Z (λh q=>e h q _ c)))) (Ab Z (Q9 Z J Z) (AC 13 (v:=I ((i:Nat):Int)) Z (congrArg I f) (Zc 4 Z (Zr Z ?_))))))))));exact ⟨_,⟨Z,Z⟩,H⟩
theorem Abc(b n:Nat)(F D S:Nat->Bool)(p:Nat)(hp:p<n)(x:n<=1024)(a:F p=true)(c:∀q,q<p->F q=false)(A:Af)(s:Hk A):Cn prog 193 [Y b] [alB b n F D S,A] (λv Γ=>v=.tuple #[I (p:Int),.bool true]/\Γ=[alB b n (Dv F p) D S,A]):=by
 intro z R w H;replace H:=H.l2;refine Ae func193 Z ntmps193 Z (Z0 13 [1,1] Z (Ab Z (BX Z Z (vs:=BN F) J (Ay ((H.blk 0 Z).part 1 16 _ (NS _ _ _ _)))) (Zc 4 Z ?_)));refine AD (σ:=Nat) (λk=>[(12,I (k:Int)),(0,Y b),(11,.agg (BN F).toArray)])
   (λk w=>Sep z (alB b n F D S::A::R) w/\(k<=p/64)) (λk=>16-k) 0
   fr_z ⟨H,by omega⟩ ?_
 clear H;rintro k w ⟨r,h⟩;have H:=r.l2;have t:=h;clear h;refine Z0 6 [0] Z (Ag Z (λl=>?_) (λl=>?_))
 ·refine Zc 7 Z (Ab Z (E6 (m:=16) Z J Z Z Z (j:=k) Z (u:=u64 (bw F k)) (wsV_at F U)) (Zc 7 Z (Ab Z (Sx (q:=0#64) (k:=.u64) Z J Z Z) (Zc 2 Z (Ag Z (λg=>?_) (λg=>?_))))))
  ·have d:k=p/64:=by
     rcases Ael k (p/64) with q|q
     · exact absurd (bw_zero.2 λj i=>c _ U) g
     · omega
   have f:F (64*k+p%64)=true:=by rw[show 64*k+p%64=p by omega];exact a
   refine Z1 5 [] [64*(k:Int)] Z U (z_E_ Z (call227 _) (AdD _ (p%64) U (by rw[DT _ _ _ U];exact f) (λj i=>by rw[DT _ _ _ U];exact c _ U) _ s) H.f1 ?_);intro w H;refine Z1 9 [] [(p:Int)] Z U (z_E_ Z (call101 _) (SQ _ _ _ _ _ _ hp x a) H.f1 ?_);intro w H;refine Zc 5 Z (Zr Z ?_);exact ⟨_,⟨Z,Z⟩,H⟩
  have d:k≠p/64:=λe=>by
    have:=bw_zero.1 (Ahj.1 g) (p%64) U;rw[show 64*k+p%64=p by omega,a] at this;cases this
  refine Z1 7 [] [(k:Int)+1] Z U (gf ?_);intro _ o;refine ⟨(k+1),o.cz,⟨H,?_⟩,?_⟩
  ·omega
  omega
 (exfalso;omega)
theorem X4(a n:Nat)(F D S:Nat->Bool)(b:∀q,q<1024->F q=false):Cn prog 193 [Y a] [alB a n F D S] (λv Γ=>v=.tuple #[I 0,.bool false]/\Γ=[alB a n F D S]):=by
 intro z R w H;replace H:=H.l1;refine Ae func193 Z ntmps193 Z (Z0 13 [1,1] Z (Ab Z (BX Z Z (vs:=BN F) J (Ay ((H.blk 0 Z).part 1 16 _ (NS _ _ _ _)))) (Zc 4 Z ?_)));refine AD (σ:=Nat) (λk=>[(12,I (k:Int)),(0,Y a),(11,.agg (BN F).toArray)])
   (λk w=>Sep z (alB a n F D S::R) w/\(k<=16)) (λk=>16-k) 0
   fr_z ⟨H,by omega⟩ ?_
 clear H;rintro k w ⟨g,c⟩;have H:=g.l1;have h:=c;clear c;refine Z0 6 [0] Z (Ag Z (λe=>?_) (λe=>?_))
 ·refine Zc 7 Z (Ab Z (E6 (m:=16) Z J Z Z Z (j:=k) Z (u:=u64 (bw F k)) (wsV_at F U)) (Zc 7 Z (Ab Z (Sx (q:=0#64) (k:=.u64) Z J Z Z) (Zc 2 Z (Ag Z (λd=>?_) (λd=>?_))))))
  ·exact absurd (bw_zero.2 λj i=>b _ U) d
  refine Z1 7 [] [(k:Int)+1] Z U (gf ?_);intro _ f;refine ⟨(k+1),f.cz,⟨H,?_⟩,?_⟩
  ·omega
  omega
 refine Zc 2 Z (gx (Zc 9 Z (Zr Z ?_)));exact ⟨_,⟨Z,Z⟩,H⟩
def Dh{α:Type}(f:Nat->α)(i:Nat)(x:α):Nat->α:=λk=>if k=i then x else f k
theorem GJ{α:Type}(f:Nat->α)(i:Nat)(x:α):Dh f i x i=x:=by simp[Dh]
theorem upf_other{α:Type}(f:Nat->α){i k:Nat}(x:α)(h:k≠i):Dh f i x k=f k:=by simp[Dh,h]
def Dsk.w1(D:Dsk)(fua:Bool)(i:Nat)(p:List UInt8):Dsk:=
 if fua then {D with dur:=Dh D.dur i p,ver:=Dh D.ver i []} else {D with ver:=Dh D.ver i (D.ver i++[p])}
def Dsk.ws(D:Dsk)(fua:Bool)(i:Nat):List (List UInt8)->Dsk
 | []=>D
 | p::ps=>(D.w1 fua i p).ws fua (i+1) ps
theorem Dsk.w1_n(D:Dsk)(a:Bool)(i:Nat)(p:List UInt8):(D.w1 a i p).n=D.n:=by cases a<;>rfl
theorem Dsk.w1_f(D:Dsk)(a:Bool)(i:Nat)(p:List UInt8):(D.w1 a i p).f1=D.f1/\(D.w1 a i p).f2=D.f2/\(D.w1 a i p).f3=D.f3/\(D.w1 a i p).cut=D.cut/\(D.w1 a i p).left=D.left:=by cases a<;>exact ⟨Z,Z,Z,Z,Z⟩
theorem Dsk.ws_snoc(a:Bool)(ps:List (List UInt8))(p:List UInt8):∀(D:Dsk) (i:Nat),D.ws a i (ps++[p])=(D.ws a i ps).w1 a (i+ps.length) p:=by
 induction ps with
 | nil=>intro D i;rfl
 | cons q qs ih=>intro D i;simp only[Afv,Dsk.ws,ih,Aeb];rw[show i+1+qs.length=i+(qs.length+1) from by omega]
theorem Dsk.ws_n(a:Bool)(ps:List (List UInt8)):∀(D:Dsk) (i:Nat),(D.ws a i ps).n=D.n:=by
 induction ps with
 | nil=>intro D i;rfl
 | cons q qs ih=>intro D i;simp only[Dsk.ws,ih,Dsk.w1_n]
theorem Dsk.ws_f(a:Bool)(ps:List (List UInt8)):∀(D:Dsk) (i:Nat),(D.ws a i ps).f1=D.f1/\(D.ws a i ps).f2=D.f2/\(D.ws a i ps).f3=D.f3/\(D.ws a i ps).cut=D.cut/\(D.ws a i ps).left=D.left:=by
 induction ps with
 | nil=>intro D i;exact ⟨Z,Z,Z,Z,Z⟩
 | cons q qs ih=>intro D i;simp only[Dsk.ws];rw[(ih _ _).1,(ih _ _).2.1,(ih _ _).2.2.1,(ih _ _).2.2.2.1,(ih _ _).2.2.2.2];exact Dsk.w1_f D a i q
theorem Dsk.Ok.w1{D:Dsk}(h:D.Ok){c:Bool}{i:Nat}{p:List UInt8}(hp:p.length=256):(D.w1 c i p).Ok:=by
 cases c with
 | true=>
  refine ⟨h.n1,h.n2,λj b=>?_,λj b q hq=>?_,h.f1,h.f2,h.f3,h.left⟩
  ·show (Dh D.dur i p j).length=256
   unfold Dh;split
   ·exact hp
   exact h.dur j b
  have a:q∈Dh D.ver i [] j:=hq;unfold Dh at a;split at a
  ·cases a
  exact h.ver j b q a
 | false=>
  refine ⟨h.n1,h.n2,h.dur,λj b q hq=>?_,h.f1,h.f2,h.f3,h.left⟩;have a:q∈Dh D.ver i (D.ver i++[p]) j:=hq;unfold Dh at a;split at a
  ·rename_i e;subst e
   rcases Aek.1 a with h'|h'
   ·exact h.ver j b q h'
   rw[Afn.1 h'];exact hp
  exact h.ver j b q a
theorem Ent.Ok.le{hq a:Hp}{e:Ent}(h:e.Ok hq)(s:CJ hq a):e.Ok a:=⟨h.1,h.2.1,λj c p b d=>⟨(h.2.2 j c p b d).1,(h.2.2 j c p b d).2.le s⟩⟩
theorem Dsk.In.le{D:Dsk}{bs:List UInt8}{es:List Ent}{clk:Nat}{hq a:Hp}(h:D.In bs es clk hq)(s:CJ hq a):D.In bs es clk a:=
 ⟨h.len,h.own,λe b=>⟨(h.ent e b).1,(h.ent e b).2.1,(h.ent e b).2.2.le s⟩,h.all,h.nodup,h.born,h.clk⟩

theorem KE{As:List Af}{h:Hp}(hs:seps As h)(i:Nat){A:Af}(hi:As[i]?=some A):seps (A::As.eraseIdx i) h:=by
 obtain ⟨own,b⟩:=hs;refine ⟨λk=>if own k=i then 0 else if own k<i then own k+1 else own k,λj B a=>?_⟩
 cases j with
 | zero=>
  simp only[AeM,Aef] at a;subst a;have:=b i A hi;rwa[Db (h':=h) (own':=λk=>if own k=i then 0 else if own k<i then own k+1 else own k) (j:=0) (λk=>⟨λe=>by rw[if_pos e],λe=>by
   split at e
   ·assumption
   split at e<;>omega⟩) (λ_ _=>rfl)] at this
 | succ j=>
  simp only[Aet] at a;rw[Aga] at a;split at a
  ·rename_i d
   have:=b j B a;rwa[Db (h':=h) (own':=λk=>if own k=i then 0 else if own k<i then own k+1 else own k) (j:=j+1) (λk=>⟨λe=>by rw[if_neg U,if_pos U];omega,λe=>by
    split at e
    ·omega
    split at e<;>omega⟩) (λ_ _=>rfl)] at this
  rename_i c;have:=b (j+1) B a;rwa[Db (h':=h) (own':=λk=>if own k=i then 0 else if own k<i then own k+1 else own k) (j:=j+1) (λk=>⟨λe=>by rw[if_neg U,if_neg U];omega,λe=>by
   split at e
   ·omega
   split at e<;>omega⟩) (λ_ _=>rfl)] at this
theorem SR{As:List Af}{h:Hp}(i:Nat){A:Af}(hi:i<As.length)(hs:seps (A::As.eraseIdx i) h):seps (As.set i A) h:=by
 obtain ⟨own,c⟩:=hs;have d:(As.eraseIdx i).length=As.length-1:=List.length_eraseIdx_of_lt hi;refine ⟨λk=>if own k=0 then i else if own k<=i then own k-1 else own k,λj B a=>?_⟩;by_cases e:j=i
 ·subst e
  rw[Afq hi] at a;simp only[Aef] at a;subst a;have:=c 0 A Z;rwa[Db (h':=h) (own':=λk=>if own k=0 then j else if own k<=j then own k-1 else own k) (j:=j) (λk=>⟨λe=>by rw[if_pos e],λe=>by
   split at e
   ·assumption
   split at e<;>omega⟩) (λ_ _=>rfl)] at this
 rw[Agg (AfN e)] at a;have f:=(Ad6.1 a).1;rcases Ael j i with b|hge
 ·have:=c (j+1) B (by rw[Aet,Aga,if_pos b];exact a)
  rwa[Db (h':=h) (own':=λk=>if own k=0 then i else if own k<=i then own k-1 else own k) (j:=j) (λk=>⟨λe=>by rw[if_neg U,if_pos U];omega,λe=>by
   split at e
   ·omega
   split at e<;>omega⟩) (λ_ _=>rfl)] at this
 obtain ⟨q,rfl⟩:∃q,j=q+1:=⟨j-1,by omega⟩;have:=c (q+1) B (by rw[Aet,Aga,if_neg U];exact a);rwa[Db (h':=h) (own':=λk=>if own k=0 then i else if own k<=i then own k-1 else own k) (j:=q+1) (λk=>⟨λe=>by rw[if_neg U,if_neg U];omega,λe=>by
  split at e
  ·omega
  split at e<;>omega⟩) (λ_ _=>rfl)] at this
theorem SS{As:List Af}{A:Af}{h:Hp}(hs:seps (A::As) h):seps (As++[A]) h:=DY (As:=[A]) (Bs:=As) hs
theorem ST{As:List Af}{A:Af}{h:Hp}(hs:seps (A::As) h):seps As h:=by
 have:=Mj hs 1 [] Z;exact this
theorem X5(es:List Ent)(k:Nat)(d:Value)(f:Ent->Ent)(g:∀e,(f e).key=e.key/\(f e).v=d/\(f e).born=e.born):∀(i:Nat) (e:Ent),(es.map Ent.key).Nodup->es[i]?=some e->e.key=k->updM (es.map Ent.ie) (k:Int) d=(es.set i (f e)).map Ent.ie:=by
 induction es with
 | nil=>intro i e _ h;simp at h
 | cons x xs ih=>
  intro i e a hi c;simp only[AeE,Afc] at a
  cases i with
  | zero=>
   simp only[AeM,Aef] at hi;subst hi;subst c;simp[updM,Ent.ie,g]
  | succ i=>
   simp only[Aet] at hi;have b:¬(k:Int)=(x.key:Int):=by
    intro q;have:x.key=e.key:=by omega
    exact a.1 (this▸Aeu (Ad8 hi))
   simp only[AeE,updM,List.set_cons_succ];rw[if_neg (by simpa [Ent.ie] using b),ih i e a.2 hi c]
theorem X6(es:List Ent)(k:Nat):∀(i:Nat) (e:Ent),(es.map Ent.key).Nodup->es[i]?=some e->e.key=k->delM (es.map Ent.ie) (k:Int)=(es.eraseIdx i).map Ent.ie:=by
 induction es with
 | nil=>intro i e _ h;simp at h
 | cons x xs ih=>
  intro i e a hi c;simp only[AeE,Afc] at a
  cases i with
  | zero=>
   simp only[AeM,Aef] at hi;subst hi;subst c;simp[delM,Ent.ie]
  | succ i=>
   simp only[Aet] at hi;have b:¬(k:Int)=(x.key:Int):=by
    intro q;have:x.key=e.key:=by omega
    exact a.1 (this▸Aeu (Ad8 hi))
   simp only[AeE,delM,List.eraseIdx_cons_succ];rw[if_neg (by simpa [Ent.ie] using b),ih i e a.2 hi c]
theorem F6{α β:Type}{f:α->β}{l:List α}(g:(l.map f).Nodup){i j:Nat}{a b:α}(hi:l[i]?=some a)(c:l[j]?=some b)(e:f a=f b):i=j:=by
 have d:=(Ad6.1 hi).1;have h:=(Ad6.1 c).1;refine (List.getElem_inj (xs:=l.map f) (h₀:=by simpa using d) (h₁:=by simpa using h) g).1 ?_;simp only[Ahs];rw[(Ad6.1 hi).2,(Ad6.1 c).2,e]
theorem SU{z w:World}{Γ:List Af}{D:Dsk}{bs:List UInt8}{es:List Ent}{clk:Nat}{hq:Hp}(d:D.In bs es clk hq){k:Nat}(hk:k<D.n)(H:Sep z (seps (es.map Ent.row)::Γ) w):
  ∃(v:Value) (pvs:List Value) (a0:List Af),(CO (es.map Ent.ie) (k:Int)).getD (.slice none 0 0)=v/\pvs.length=(D.ver k).length/\Sep z (grow 54 1 v pvs.length pvs::seps a0::Γ) w/\
   ∀(l o:Value) (p:List UInt8),p.length=256->rdH 1 o 256 (p.map u8) hq->∃a5,(D.w1 false k p).In bs a5 (putC (es.map Ent.ie) k clk) hq/\E4 (es.map Ent.ie) k l clk=a5.map Ent.ie/\
    ∀h,seps (grow 54 1 l (pvs.length+1) (pvs++[o])::[seps a0]) h->seps (a5.map Ent.row) h:=by
 rcases get_ent es k d.nodup with ⟨hg,hn⟩|⟨i,e,hi,g,hg⟩
 ·have hv:D.ver k=[]:=by
   cases hvk:D.ver k with
   | nil=>rfl
   | cons p ps=>
    obtain ⟨e,g,m⟩:=d.all k hk (by rw[hvk];simp);exact absurd m (hn e g)
  refine ⟨.slice none 0 0,[],es.map Ent.row,by simp[hg],by rw[hv];rfl,H.void λh=>grow.nil _ _ h,λl o p hp hr=>?_⟩;have hh:CP (es.map Ent.ie) (k:Int)=false:=by simp[CP,hg]
  refine ⟨es++[⟨k,l,[o],[p],clk⟩],⟨d.len,d.own,?_,?_,?_,?_,?_⟩,?_,λh hs=>?_⟩
  ·intro e g
   rcases Aek.1 g with g|g
   ·obtain ⟨u,t,y⟩:=d.ent e g
    exact ⟨u,t.trans (upf_other D.ver _ (hn e g)).symm,y⟩
   rw[Afn.1 g];refine ⟨hk,?_,Z,by simp,λj a6 p' u t=>?_⟩
   ·show [p]=Dh D.ver k (D.ver k++[p]) k
    rw[GJ,hv];rfl
   have:j=0:=by have:=(Ad6.1 u).1;simpa using this
   subst this;simp at u t;subst u;subst t;exact ⟨hp,hr⟩
  ·intro j f a2
   by_cases e:j=k
   ·exact ⟨_,AgV _ (Afn.2 Z),e.symm⟩
   have:D.ver j≠[]:=by
    have h':Dh D.ver k (D.ver k++[p]) j≠[]:=a2;rwa[upf_other _ _ e] at h'
   obtain ⟨s,c,m⟩:=d.all j f this;exact ⟨s,Ag3 _ c,m⟩
  ·rw[AeD]
   refine Ae4.2 ⟨d.nodup,by simp,λa ha b hb=>?_⟩;simp at hb;subst hb;obtain ⟨s,c,rfl⟩:=Aeh.1 ha;exact hn s c
  ·rw[AeD]
   refine Ae4.2 ⟨d.born,by simp,λa ha b hb=>?_⟩;simp at hb;subst hb;obtain ⟨s,c,rfl⟩:=Aeh.1 ha;have:=d.clk s c;omega
  ·intro e g
   simp only[putC,hh,if_false,Afm];rcases Aek.1 g with g|g
   ·have:=d.clk e g;omega
   rw[Afn.1 g];show clk<clk+1;omega
  ·simp[E4,hh,Ent.ie]
  rw[AeD];refine SS ?_;have t:=DY (As:=[grow 54 1 l 1 [o]]) (Bs:=[seps (es.map Ent.row)]) hs;have y:=IG t;exact DY (As:=es.map Ent.row) (Bs:=[grow 54 1 l 1 [o]]) y
 obtain ⟨_,t,y,h4,h5⟩:=d.ent e (Ad8 hi);subst g;have r:=(Ad6.1 hi).1;have hh:CP (es.map Ent.ie) (e.key:Int)=true:=by simp[CP,hg]
 refine ⟨e.v,e.pvs,(es.map Ent.row).eraseIdx i,by simp[hg],y.trans (congrArg _ t),?_,λl o p hp hr=>?_⟩
 ·have H1:=H.mono 0 (B:=seps (e.row::[seps ((es.map Ent.row).eraseIdx i)])) Z (λh hs=>by
   have u:=KE hs i (A:=e.row) (by rw[Aej,hi];rfl);have a7:seps ((es.map Ent.row).eraseIdx i++[e.row]) h:=DY (As:=[e.row]) (Bs:=(es.map Ent.row).eraseIdx i) u;have a3:=Mk a7;exact DY (As:=[seps ((es.map Ent.row).eraseIdx i)]) (Bs:=[e.row]) a3)
  exact Sep.opened (As:=[e.row,seps ((es.map Ent.row).eraseIdx i)]) H1
 refine ⟨es.set i {e with v:=l,pvs:=e.pvs++[o],ps:=e.ps++[p]},⟨d.len,d.own,?_,?_,?_,?_,?_⟩,?_,λh hs=>?_⟩
 ·intro s c
  obtain ⟨j,f⟩:=AeV c;rw[Afi] at f;split at f
  ·rename_i q
   subst q;simp only[r,if_true,Aef] at f;subst f;refine ⟨hk,?_,by simp[y],by simp,λj' a6 p' q1 q2=>?_⟩
   ·show e.ps++[p]=Dh D.ver e.key (D.ver e.key++[p]) e.key
    rw[GJ,t]
   rcases Ael j' e.pvs.length with q|q
   ·rw[Aeg q] at q1
    rw[Aeg U] at q2;exact h5 j' a6 p' q1 q2
   rw[Aen q] at q1;rw[Aen U] at q2;have:j'-e.pvs.length=0:=by have:=(Ad6.1 q1).1;simpa using this
   rw[this] at q1;rw[show j'-e.ps.length=0 from by omega] at q2;simp at q1 q2;subst q1;subst q2;exact ⟨hp,hr⟩
  rename_i q;obtain ⟨u,a3,a8⟩:=d.ent s (Ad8 f);have a4:s.key≠e.key:=λq'=>by
   exact q (F6 d.nodup hi f q'.symm)
  exact ⟨u,a3.trans (upf_other D.ver _ a4).symm,a8⟩
 ·intro j f a2
  by_cases q:j=e.key
  ·exact ⟨_,Ad8 (Afq r),q.symm⟩
  have:D.ver j≠[]:=by
   have h':Dh D.ver e.key (D.ver e.key++[p]) j≠[]:=a2;rwa[upf_other _ _ q] at h'
  obtain ⟨s,c,m⟩:=d.all j f this;obtain ⟨j',a1⟩:=AeV c;have a4:i≠j':=λq'=>by
   subst q';rw[hi] at a1;cases a1;exact q m.symm
  exact ⟨s,Ad8 (by rw[Agg a4];exact a1),m⟩
 ·rw[Aht]
  have:(es.map Ent.key).set i e.key=es.map Ent.key:=Afk λj=>by
   rw[Afi];split
   ·rename_i q;subst q;simp[r,(Ad6.1 hi).2]
   rfl
  exact (show ((es.map Ent.key).set i e.key).Nodup by rw[this];exact d.nodup)
 ·rw[Aht]
  have:(es.map Ent.born).set i e.born=es.map Ent.born:=Afk λj=>by
   rw[Afi];split
   ·rename_i q;subst q;simp[r,(Ad6.1 hi).2]
   rfl
  exact (show ((es.map Ent.born).set i e.born).Nodup by rw[this];exact d.born)
 ·intro s c
  simp only[putC,hh,if_true];obtain ⟨j,f⟩:=AeV c;rw[Afi] at f;split at f
  ·simp only[r,if_true,Aef] at f
   subst f;exact d.clk e (Ad8 hi)
  exact d.clk s (Ad8 f)
 ·simp only[E4,hh,if_true]
  exact X5 es e.key l (λx=> {x with v:=l,pvs:=x.pvs++[o],ps:=x.ps++[p]}) (λx=>⟨Z,Z,Z⟩) i e d.nodup hi Z
 rw[Aht];refine SR i (by simpa using r) ?_;have t:=DY (As:=[grow 54 1 l (e.pvs.length+1) (e.pvs++[o])]) (Bs:=[seps ((es.map Ent.row).eraseIdx i)]) hs;have y:=IG t;have h4:=DY (As:=(es.map Ent.row).eraseIdx i) (Bs:=[grow 54 1 l (e.pvs.length+1) (e.pvs++[o])]) y;have e1:grow 54 1 l (e.pvs.length+1) (e.pvs++[o])=Ent.row {e with v:=l,pvs:=e.pvs++[o],ps:=e.ps++[p]} :=by simp[Ent.row]
 rw[<-e1];exact h4
theorem SV{D:Dsk}{bs bs':List UInt8}{es:List Ent}{clk:Nat}{hq:Hp}(b:D.In bs es clk hq){k:Nat}(hk:k<D.n){p:List UInt8}(hp:p.length=256)(x:bs'=bs.take (k*256)++p++bs.drop (k*256+256)):
  ∃r,(D.w1 true k p).In bs' r clk hq/\delM (es.map Ent.ie) k=r.map Ent.ie/\∀h,seps (es.map Ent.row) h->seps (r.map Ent.row) h:=by
 have hn:D.n*256=bs.length:=b.len.symm;have a1:k*256+256<=bs.length:=by omega
 have m:bs'.length=D.n*256:=by subst x;simp[hp];omega
 have l:∀i,i<D.n->(bs'.drop (i*256)).take 256=(D.w1 true k p).dur i:=λi hi=>by
  show _=Dh D.dur k p i;subst x;have e0:(bs.take (k*256)).length=k*256:=by rw[Aes];omega
  rcases AfD i k with h|h|h
  ·rw[upf_other _ _ U,<-b.own i hi]
   rw[Aec,AeO U,Aeo (by rw[AeG,e0];omega)];rw[AfQ,Aey];rw[show min 256 (k*256-i*256)=256 from by omega]
  ·subst h
   rw[GJ,Aec,AeO U,AeF U,AeL];rw[Aeo U,Aee U]
  rw[upf_other _ _ U,<-b.own i hi];rw[Ae1,AeF (by simp[hp];omega),AeL,AhH];congr 2;simp[hp];omega
 rcases get_ent es k b.nodup with ⟨hg,a0⟩|⟨i,e,hi,z,hg⟩
 ·refine ⟨es,⟨m,l,λe z=>?_,λj g o=>?_,b.nodup,b.born,b.clk⟩,Nt _ _ hg,λh hs=>hs⟩
  ·obtain ⟨w,y,h3⟩:=b.ent e z
   exact ⟨w,y.trans (upf_other D.ver _ (a0 e z)).symm,h3⟩
  have h':Dh D.ver k [] j≠[]:=o;by_cases q:j=k
  ·subst q;rw[GJ] at h';exact absurd Z h'
  rw[upf_other _ _ q] at h';exact b.all j g h'
 subst z;have a2:=(Ad6.1 hi).1;have c:(es.eraseIdx i).Sublist es:=List.eraseIdx_sublist es i;have v:∀f∈es.eraseIdx i,f.key≠e.key:=λf a q=>by
  obtain ⟨j,g⟩:=AeV a;rw[Aga] at g;have key:∀t,t≠i->es[t]?=some f->False:=λt s d=>by
   exact s (F6 b.nodup d hi q)
  split at g
  ·exact key j U g
  exact key (j+1) U g
 refine ⟨es.eraseIdx i,⟨m,l,λf a=>?_,λj g o=>?_,(c.map Ent.key).nodup b.nodup,(c.map Ent.born).nodup b.born,λf a=>b.clk f (c.subset a)⟩,X6 es e.key i e b.nodup hi Z,λh hs=>?_⟩
 ·obtain ⟨w,y,h3⟩:=b.ent f (c.subset a)
  exact ⟨w,y.trans (upf_other D.ver _ (v f a)).symm,h3⟩
 ·have h':Dh D.ver e.key [] j≠[]:=o
  by_cases q:j=e.key
  ·subst q;rw[GJ] at h';exact absurd Z h'
  rw[upf_other _ _ q] at h';obtain ⟨f,a,u⟩:=b.all j g h';refine ⟨f,?_,u⟩;obtain ⟨t,d⟩:=AeV a;have s:t≠i:=λq'=>by subst q';rw[hi] at d;cases d;exact q u.symm
  rw[Ag4];exact ⟨t,s,d⟩
 have w:=KE hs i (A:=e.row) (by rw[Aej,hi];rfl);have y:=ST w;have e0:(es.map Ent.row).eraseIdx i=(es.eraseIdx i).map Ent.row:=by
  apply Afk;intro j;simp only[Aga,Aej];split<;>rfl
 rwa[e0] at y
theorem UL{z w:World}{Γ:List Af}{hq:Hp}{b:Nat}{cs:List Value}{t:TypeId}(H:Sep z (poolA hq::blk b cs t::Γ) w):∃a,(CJ hq a/\blk b cs t a)/\Sep z (poolA a::Γ) w:=by
 have H1:Sep z (seps [poolA hq,blk b cs t]::Γ) w:=Sep.shut (As:=[poolA hq,blk b cs t]) H;exact H1.exAt 0 (σ:=Hp) (p:=λa=>CJ hq a/\blk b cs t a) (B:=λa=>poolA a) Z (λh hs=>by
  refine ⟨h,⟨λk o e=>?_,?_⟩,λk o e=>e⟩
  ·obtain ⟨h',c,d⟩:=FO hs (i:=0) Z
   exact d _ _ (c _ _ e)
  obtain ⟨h',c,d⟩:=FO hs (i:=1) Z;exact d _ _ c)

def diskQ(pd:Nat)(D:Dsk)(hq:Hp):Af:=λh=>∃(bd m:Nat) (f0:Int) (bs:List UInt8) (es:List Ent) (clk:Nat),(D.Ok/\D.In bs es clk hq)/\seps (EY pd bd m D f0 bs es clk hq) h
structure DskY where
 bd:Nat
 m:Nat
 f0:Int
 bs:List UInt8
 es:List Ent
 clk:Nat
theorem Sep.diskQ{z w:World}{Γ:List Af}{pd:Nat}{D:Dsk}{hq:Hp}(H:Sep z (YtnifkcmmanmbbaaGreatDoor.diskQ pd D hq::Γ) w):∃bd m f0 bs es clk,D.Ok/\D.In bs es clk hq/\Sep z (EY pd bd m D f0 bs es clk hq++Γ) w:=by
 obtain ⟨x,⟨b,c⟩,H⟩:=H.into (σ:=DskY) (p:=λx=>D.Ok/\D.In x.bs x.es x.clk hq) (As:=λx=>EY pd x.bd x.m D x.f0 x.bs x.es x.clk hq)
  (λh a=>by obtain ⟨bd,m,f0,bs,es,clk,hp,hs⟩:=a;exact ⟨⟨bd,m,f0,bs,es,clk⟩,hp,hs⟩)
 exact ⟨_,_,_,_,_,_,b,c,H⟩
theorem Sep.toDiskQ{z w:World}{Γ:List Af}{pd bd m:Nat}{D:Dsk}{f0:Int}{bs:List UInt8}{es:List Ent}{clk:Nat}{hq:Hp}(H:Sep z (EY pd bd m D f0 bs es clk hq++Γ) w)(b:D.Ok)(c:D.In bs es clk hq):Sep z (YtnifkcmmanmbbaaGreatDoor.diskQ pd D hq::Γ) w:=
 H.shut.mono 0 Z (λh a=>⟨_,_,_,_,_,_,⟨b,c⟩,a⟩)
theorem Dsk.w1_ver(D:Dsk)(a:Bool){i j:Nat}(p:List UInt8)(h:j≠i):(D.w1 a i p).ver j=D.ver j:=by
 cases a
 ·exact upf_other D.ver _ h
 exact upf_other D.ver _ h
theorem Dsk.ws_ver(a:Bool)(ps:List (List UInt8)):∀(D:Dsk) (i j:Nat),j<i\/i+ps.length<=j->(D.ws a i ps).ver j=D.ver j:=by
 induction ps with
 | nil=>intro D i j _;rfl
 | cons q qs ih=>
  intro D i j h;simp only[Aeb] at h;simp only[Dsk.ws];rw[ih _ _ _ U,Dsk.w1_ver _ _ _ U]
theorem Dsk.ws_take{D:Dsk}{a:Bool}{k i:Nat}{ps:List (List UInt8)}{p:List UInt8}(h:ps[i]?=some p):D.ws a k (ps.take (i+1))=(D.ws a k (ps.take i)).w1 a (k+i) p:=by
 rw[AeH,h];have b:=(Ad6.1 h).1;rw[show (some p).toList=[p] from Z,Dsk.ws_snoc,Aes,Aez U]
theorem UM{g:Nat}{hq:Hp}{t:TypeId}{ps:List (List UInt8)}{rest:List Value}(e:blk g (ps.flatten.map u8++rest) t hq)(c:∀p∈ps,p.length=256){i:Nat}{p:List UInt8}(h:ps[i]?=some p):rdH 1 (.slice (some ⟨g,0+i*256,none⟩) 256 256) 256 (p.map u8) hq:=by
 have key:∀(ps:List (List UInt8)) (i:Nat) (p:List UInt8),(∀p∈ps,p.length=256)->ps[i]?=some p->(ps.flatten.drop (i*256)).take 256=p/\i*256+256<=ps.flatten.length:=by
  intro ps
  induction ps with
  | nil=>intro i p _ h;simp at h
  | cons q qs ih=>
   intro i p b h;have a:=b q O
   cases i with
   | zero=>
    simp only[AeM,Aef] at h;subst h;simp[Aeo,a]
   | succ i=>
    simp only[Aet] at h;obtain ⟨d,f⟩:=ih i p (λp hp=>b p (by simp[hp])) h;rw[Agt,show (i+1)*256=q.length+i*256 from by omega,Ae1];refine ⟨?_,by rw[Ad9];omega⟩;rw[AeF U,AeL];rw[show q.length+i*256-q.length=i*256 from by omega];exact d
 obtain ⟨d,f⟩:=key ps i p c h;have b:(ps.flatten.map u8).length=ps.flatten.length:=Aea u8;refine e.rd U U (by rw[Ad9,b];omega) ?_;rw[AfH,AeK,AeO (by rw[b];omega),Aeo (by rw[AeG,b];omega),<-AfP,<-Afj,d]
def X7(c:UInt32):UInt32:=(c>>>1) ^^^ ((c&&&1)*2197175160)
def Jk:Nat->UInt32->UInt32
 | 0,c=>c
 | k+1,c=>X7 (Jk k c)
def crcTab:List UInt32:=(List.range 256).map λi:Nat=>Jk 8 (Fs (i:Int))
theorem Iq:crcTab.length=256:=by simp[crcTab]
theorem KF{i:Nat}(h:i<256):crcTab[i]?=some (Jk 8 (Fs (i:Int))):=by simp[crcTab,h]
def HF(c:UInt32)(b:UInt8):UInt32:=(c>>>8) ^^^ (crcTab[(c.toUInt8 ^^^ b).toNat]?.getD 0)
def ED(c:UInt32)(bs:List UInt8):UInt32:=4294967295 ^^^ (bs.foldl HF (4294967295 ^^^ c))
def A8(bs:List UInt8):UInt32:=ED 0 bs
theorem LI(c:UInt32)(a b:List UInt8):ED (ED c a) b=ED c (a++b):=by
 unfold ED;rw[<-UInt32.xor_assoc,UInt32.xor_self,UInt32.zero_xor,Agu]
def z32:Value:=.int .u32 0
def BQ(x0 x1 x2:Value)(i:Nat):List Value:=[x0,x1,x2]++((crcTab.take i).map u32++List.replicate (256-i) z32)
theorem UN(a b x2:Value){i:Nat}(h:i<=256):(BQ a b x2 i).length=259:=by simp[BQ,Iq];omega
theorem SW(a b x2:Value){i:Nat}(h:i<256):(BQ a b x2 i).take (3+i)++[u32 (Jk 8 (Fs (i:Int)))]++(BQ a b x2 i).drop (3+i+1)=BQ a b x2 (i+1):=by
 have c:([a,b,x2]++(crcTab.take i).map u32).length=3+i:=by simp[Iq];omega
 have e1:BQ a b x2 i=([a,b,x2]++(crcTab.take i).map u32)++List.replicate (256-i) z32:=by simp[BQ]
 rw[e1,Aeo U,Aee U,Ae1,AeF U,AeL,c];rw[show 3+i+1-(3+i)=1 from by omega,AgC];unfold BQ;rw[AeH,KF h];simp;omega
def AdE(pt:Nat):Af:=blk pt (BQ (.int .u32 0) (.int .i32 0) (.int .u32 0) 0) 220
def AdF(pt:Nat):Af:=blk pt (BQ (.int .u32 1) (.int .i32 0) (.int .u32 0) 256) 220
def tblA(pt:Nat):Af:=λh=>AdE pt h\/AdF pt h
theorem SX(a c x2:Value)(b:UInt8):(BQ a c x2 256)[3+b.toNat]?=some (u32 (crcTab[b.toNat]?.getD 0)):=by
 have e:=b.toNat_lt;have d:=Iq;simp only[BQ];rw[Aen O];simp only[Aeb,Aew];rw[show 3+b.toNat-(0+1+1+1)=b.toNat from by omega];rw[Aeg (by simp[d];omega),Aej,Aee U,KF U];rfl
def Ah(k:Nat)(x:Int):List UInt8:=(List.range k).map λi:Nat=>GC (x/2^(8*(k-1-i)))
theorem Ai(k:Nat)(x:Int):(Ah k x).length=k:=by simp[Ah]
theorem beN_get{k i:Nat}(x:Int)(h:i<k):(Ah k x)[i]?=some (GC (x/2^(8*(k-1-i)))):=by simp[Ah,h]
def Gj(bs T:List UInt8)(a i:Nat):List UInt8:=bs.take a++T.take i++bs.drop (a+i)
def Br(bs T:List UInt8)(a:Nat):List UInt8:=bs.take a++T++bs.drop (a+T.length)
theorem X8{bs T:List UInt8}{a i:Nat}(h:a+i<=bs.length)(hi:i<=T.length):(Gj bs T a i).length=bs.length:=by simp[Gj];omega
theorem UO(bs T:List UInt8)(a:Nat):Gj bs T a 0=bs:=by simp[Gj]
theorem X9(bs T:List UInt8)(a:Nat){i:Nat}(h:i=T.length):Gj bs T a i=Br bs T a:=by subst h;simp[Gj,Br]
theorem Es{bs T:List UInt8}{a:Nat}(h:a+T.length<=bs.length):(Br bs T a).length=bs.length:=by simp[Br];omega
theorem UP{bs T:List UInt8}{a i:Nat}{b:UInt8}(c:List Value)(h:a+T.length<=bs.length)(d:T[i]?=some b):
  ((Gj bs T a i).map u8++c).take (a+i)++[u8 b]++((Gj bs T a i).map u8++c).drop (a+i+1)=(Gj bs T a (i+1)).map u8++c:=by
 have hi:=(Ad6.1 d).1;have e:(bs.take a++T.take i).length=a+i:=by simp;omega
 have f:bs.drop (a+i)=bs[a+i]'U::bs.drop (a+i+1):=AeX U;unfold Gj;rw[AeH,d,f];simp only[AeD,AeE,Aec];rw[<-Aec (List.map u8 (bs.take a)),<-AeD];rw[Aeo (by simp;omega),Aee (by simp;omega),Ae1,AeF (by simp;omega)];rw[show a+i+1-(List.map u8 (bs.take a++T.take i)).length=1 from by rw[Aea,e];omega];simp[Af5]
def Ir(s:UInt32):List UInt8:=[s.toUInt8,(s>>>8).toUInt8,(s>>>16).toUInt8,(s>>>24).toUInt8]
def EE(l:List UInt8):Nat:=l.foldl (λn b=>256*n+b.toNat) 0
theorem KG(l:List UInt8)(b:UInt8):EE (l++[b])=256*EE l+b.toNat:=by simp[EE,Agu]
theorem IN:∀(l:List UInt8) (a:Nat),l.foldl (λn b=>256*n+b.toNat) a<(a+1)*256^l.length
 | [],a=>by simp
 | b::l,a=>by
  have h:=IN l (256*a+b.toNat);have e:=b.toNat_lt;simp only[List.foldl_cons,Aeb,Ahu];have d:(256*a+b.toNat+1)*256^l.length<=(256*(a+1))*256^l.length:=AfB _ U;have c:256*(a+1)*256^l.length=(a+1)*(256^l.length*256):=by
   rw[Ahv 256 (a+1),AhM,Ahv 256]
  omega
theorem UQ(l:List UInt8):EE l<256^l.length:=by have:=IN l 0;simpa [EE] using this
def AW(l:List UInt8):Int:=IntKind.i64.wrap (EE l)
theorem Ro{l:List UInt8}(h:l.length<=7):AW l=EE l:=by
 have b:=UQ l;have a:256^l.length<=256^7:=Ag5 U h;exact AfG _ U
theorem G6(x:Int):∃q,IntKind.i64.wrap x=x+q*18446744073709551616/\ -9223372036854775808<=IntKind.i64.wrap x/\IntKind.i64.wrap x<=9223372036854775807:=by
 have key:IntKind.i64.wrap x=if 9223372036854775808<=x%18446744073709551616 then x%18446744073709551616-18446744073709551616 else x%18446744073709551616:=by
  show (if (true&&decide (x%(2^64:Int)>=(2^(64-1):Int)))=true then x%(2^64:Int)-(2^64:Int) else x%(2^64:Int))=_;simp only[Bool.true_and,decide_eq_true_eq,show (2:Int)^64=18446744073709551616 from Z,show (2:Int)^(64-1)=9223372036854775808 from Z,ge_iff_le]
 rw[key];by_cases h:9223372036854775808<=x%18446744073709551616
 ·rw[if_pos h];exact ⟨-(x/18446744073709551616)-1,by omega,by omega,by omega⟩
 rw[if_neg h];exact ⟨-(x/18446744073709551616),by omega,by omega,by omega⟩
theorem P7(x:Int)(b:UInt8):IntKind.i64.wrap (IntKind.i64.wrap x*256)%256=0/\IntKind.i64.wrap (IntKind.i64.wrap x*256)+b.toNat=IntKind.i64.wrap (256*x+b.toNat):=by
 have j:=b.toNat_lt;obtain ⟨i,d,h,e⟩:=G6 x;obtain ⟨m,f,k,c⟩:=G6 (IntKind.i64.wrap x*256);obtain ⟨a,g,l,n⟩:=G6 (256*x+b.toNat);omega
theorem Ya(k:Nat){x:Nat}(h:x<256^k):EE (Ah k (x:Int))=x:=by
 induction k generalizing x with
 | zero=>simp at h;subst h;rfl
 | succ k ih=>
  have e:Ah (k+1) (x:Int)=Ah k ((x/256:Nat):Int)++[GC (x:Int)]:=by
   apply Afk;intro i;rcases AfD i k with a|a|a
   ·rw[beN_get _ U,Aeg (by rw[Ai];omega),beN_get _ a]
    congr 2;rw[show 8*(k+1-1-i)=8+8*(k-1-i) from by omega,Int.pow_add,<-Int.ediv_ediv_of_nonneg (by decide)];rfl
   ·subst a
    rw[beN_get _ U,Aen (by rw[Ai];omega),Ai];simp
   rw[AeC (by rw[Ai];omega),AeC (by simp[Ai];omega)]
  rw[e,KG,ih (by rw[Ahu] at h;omega)];have:(GC (x:Int)).toNat=x%256:=by simp[GC];omega
  rw[this];omega

def A4(bs:List UInt8)(a:Int):List Value:=bs.map u8++[.int .i64 a]
theorem Fh{bs:List UInt8}(a:Int)(h:bs.length=256):(A4 bs a).length=257:=by simp[A4,h]
theorem NV{bs:List UInt8}(a:Int)(h:bs.length=256):(A4 bs a)[256]?=some (I a):=by simp[A4,List.getElem?_append,h]
theorem Jl{bs:List UInt8}(a a':Int)(h:bs.length=256):(A4 bs a).take 256++[I a']++(A4 bs a).drop (256+1)=A4 bs a':=by
 unfold A4;rw[Aeo (by simp[h]),Aee (by simp[h]),AeF (by simp[h]),AeQ]
theorem UR{bs T:List UInt8}{a i:Nat}{b:UInt8}(x:Int)(h:a+T.length<=bs.length)(c:T[i]?=some b):
  (A4 (Gj bs T a i) x).take (a+i)++[u8 b]++(A4 (Gj bs T a i) x).drop (a+i+1)=A4 (Gj bs T a (i+1)) x:=UP _ h c
theorem NW{bs T:List UInt8}{a k:Nat}(x:Int)(h:a+T.length<=bs.length)(b:k=T.length):(A4 bs x).take a++(T.map u8).take k++(A4 bs x).drop (a+k)=A4 (Br bs T a) x:=by
 subst b;unfold A4 Br;rw[Aeo (by simp;omega),AeO (by simp;omega),Aee (l:=T.map u8) O];simp
def wrH(pw:Nat)(a:Int):Af:=λh=>∃bs:List UInt8,bs.length=256/\blk pw (A4 bs a) 154 h
theorem wrH.at{b:Nat}{a:Int}{h:Hp}(w:wrH b a h):celH h b 256 (I a):=by
 obtain ⟨bs,d,c⟩:=w;exact c.celH 256 (NV a d)
theorem HG{b lo n c:Nat}{bs ys:List UInt8}{a:Int}{t:TypeId}{h:Hp}(q:blk b (A4 bs a) t h)(e:bs.length=256)(g:lo+n<=256)(f:n<=c)(i:c<=256)(d:(bs.drop lo).take n=ys):rdH 1 (.slice (some ⟨b,lo,none⟩) n c) n (ys.map u8) h:=by
 subst d;refine q.rd f U (by rw[Fh _ e];omega) ?_;unfold A4;rw[AeO (by simp;omega),Aeo (by simp;omega),AeK];simp
def NX(bs:List UInt8):List UInt8:=Br bs (Ir (A8 (bs.take 252))) 252
theorem Yb{bs:List UInt8}(h:bs.length=256):(NX bs).length=256:=by
 unfold NX;rw[Es (by simp[Ir,h])];exact h

theorem SY(x:Int):IntKind.i64.wrap (IntKind.i64.wrap x)=IntKind.i64.wrap x:=AfG _ (by obtain ⟨q,c,b,a⟩:=G6 x;omega)
theorem NY(l:List UInt8):IntKind.i64.wrap (AW l*2^8)%256=0:=(P7 (EE l) 0).1
theorem Mu{xs:List UInt8}{j:Nat}{b:UInt8}(h:xs[j]?=some b):IntKind.i64.wrap (IntKind.i64.wrap (AW (xs.take j)*2^8)+(b.toNat:Int))=AW (xs.take (j+1)):=by
 rw[AeH,h];show IntKind.i64.wrap (IntKind.i64.wrap (IntKind.i64.wrap (EE (xs.take j))*256)+(b.toNat:Int))=IntKind.i64.wrap (EE (xs.take j++[b]):Nat);rw[(P7 _ b).2,SY,KG];congr 1

def rz:List UInt8->Nat
 | []=>0
 | x::xs=>if rz xs=0/\x=0 then 0 else rz xs+1
theorem Rp:∀xs:List UInt8,rz xs<=xs.length
 | []=>Aed _
 | x::xs=>by have:=Rp xs;simp only[rz,Aeb];split<;>omega
theorem Rq:∀(xs:List UInt8) (j:Nat) (b:UInt8),rz xs<=j->xs[j]?=some b->b=0
 | [],j,b,_,h=>by simp at h
 | x::xs,0,b,h1,h=>by
  simp only[rz] at h1;split at h1
  ·rename_i q;simp at h;exact h▸q.2
  omega
 | x::xs,j+1,b,h1,h=>by
  simp only[rz] at h1;refine Rq xs j b ?_ (by simpa using h);split at h1<;>omega
theorem LJ:∀(xs:List UInt8) (m:Nat),rz xs=m+1->∃b,xs[m]?=some b/\b≠0
 | [],m,h=>by simp[rz] at h
 | x::xs,m,h=>by
  simp only[rz] at h;split at h
  ·omega
  rename_i q
  cases m with
  | zero=>exact ⟨x,by simp,λe=>q ⟨by omega,e⟩⟩
  | succ m=>obtain ⟨b,h1,h2⟩:=LJ xs m U;exact ⟨b,by simpa using h1,h2⟩
theorem rz_is{xs:List UInt8}{m:Nat}(f:m<=xs.length)(d:∀j b,m<=j->xs[j]?=some b->b=0)(c:m=0\/∃b,xs[m-1]?=some b/\b≠0):m=rz xs:=by
 rcases AfD m (rz xs) with q|q|q
 ·obtain ⟨b,e,a⟩:=LJ xs (rz xs-1) U
  exact absurd (d _ _ U e) a
 ·exact q
 rcases c with c|⟨b,e,a⟩
 ·omega
 exact absurd (Rq xs _ _ U e) a
theorem LK{xs:List UInt8}:rz xs=0↔∀b∈xs,b=0:=by
 constructor
 ·intro h b c
  obtain ⟨j,a,rfl⟩:=Af3.1 c;exact Rq xs j _ U (Ad7 a)
 intro h;exact (rz_is (AeJ _) (λj b _ e=>h b (Ad8 e)) (.inl Z)).symm
def lz:List UInt8->Nat
 | []=>0
 | x::xs=>if x=0 then lz xs+1 else 0
theorem KH:∀{xs:List UInt8} {p:Nat},p<=xs.length->(∀j b,j<p->xs[j]?=some b->b=0)->(p=xs.length\/∃b,xs[p]?=some b/\b≠0)->p=lz xs
 | [],p,hp,_,_=>by simp at hp;subst hp;rfl
 | x::xs,0,_,_,h1=>by
  rcases h1 with h1|⟨b,e,hb⟩
  ·simp at h1
  simp at e;subst e;simp[lz,hb]
 | x::xs,p+1,hp,h0,h1=>by
  have e:=h0 0 x U Z;subst e;have:=KH (xs:=xs) (p:=p) (by simpa using hp) (λj b a e=>h0 (j+1) b U (by simpa using e)) (by simpa using h1);simp[lz,this]
theorem Ac1{xs:List UInt8}(h:rz xs≠0):lz (xs.take (rz xs))<rz xs:=by
 obtain ⟨b,e,c⟩:=LJ xs (rz xs-1) U;rcases Ael (lz (xs.take (rz xs))) (rz xs) with q|q
 ·exact q
 have key:∀(ys:List UInt8) j b,j<lz ys->ys[j]?=some b->b=0:=by
  intro ys
  induction ys with
  | nil=>intro j b a;simp[lz] at a
  | cons y ys ih=>
   intro j b a e;simp only[lz] at a;split at a
   ·rename_i q
    cases j with
    | zero=>simp at e;exact e▸q
    | succ j=>exact ih j b U (by simpa using e)
   omega
 exact absurd (key (xs.take (rz xs)) (rz xs-1) b U (by rw[AeS,if_pos U];exact e)) c
def J1(mag sec:List UInt8):Prop:=sec.drop 252=Ir (A8 (sec.take 252))/\sec.take 4=mag
instance(mag sec:List UInt8):Decidable (J1 mag sec):=by unfold J1;exact inferInstance
theorem NZ{sec:List UInt8}(h:sec.length=256):∃a c1 c2 b,sec.drop 252=[a,c1,c2,b]:=by
 have c:(sec.drop 252).length=4:=by simp[h]
 match hd:sec.drop 252,c with
 | [a,c1,c2,b],_=>exact ⟨a,c1,c2,b,Z⟩

def AJ(l:List UInt8):List UInt8:=l++List.replicate (256-l.length) 0
theorem AR{l:List UInt8}(h:l.length<=256):(AJ l).length=256:=by simp[AJ];omega
theorem BD{l t:List UInt8}{a:Nat}(b:a=l.length)(h:a+t.length<=256):Br (AJ l) t a=AJ (l++t):=by
 subst b;unfold Br AJ;rw[AeA Z,Ae1,AeF U,AeL,AgC,Ad9];rw[show 256-l.length-(l.length+t.length-l.length)=256-(l.length+t.length) from by omega]
theorem US{l t:List UInt8}{a:Nat}(b:l.length<=a)(h:a+t.length<=256):Br (AJ l) t a=AJ (l++List.replicate (a-l.length) 0++t):=by
 have:AJ l=AJ (l++List.replicate (a-l.length) 0):=by
  unfold AJ;rw[Aec,Ad9,Afd,Af1];congr 2;omega
 rw[this,BD (by simp;omega) h]
def BA(l:List UInt8):List UInt8:=NX (AJ l)
theorem sect_len{l:List UInt8}(h:l.length<=252):(BA l).length=256:=Yb (AR U)
theorem IP{l:List UInt8}(h:l.length<=252):(BA l).take 252=(AJ l).take 252:=by
 unfold BA NX Br;rw[Aec,Aeo (by simp[AR (show l.length<=256 by omega)]),Aey];simp
theorem Is{l:List UInt8}(h:l.length<=252):(BA l).drop 252=Ir (A8 ((BA l).take 252)):=by
 rw[IP h];have a:=AR (show l.length<=256 by omega);unfold BA NX Br;rw[Aec,Ae1,AeF (by simp[a])];simp[a,Ir]
theorem B6{l:List UInt8}(h:l.length<=252){p k:Nat}(hp:p+k<=l.length):((BA l).drop p).take k=(l.drop p).take k:=by
 have e:((BA l).drop p).take k=(((BA l).take 252).drop p).take k:=by
  rw[AfQ,Aey];congr 1;omega
 rw[e,IP h,AfQ,Aey];rw[show min k (252-p)=k from by omega];unfold AJ;rw[AeO U,Aeo (by simp;omega)]
theorem Mv{l:List UInt8}(h:l.length<=252):rz (((BA l).drop l.length).take (252-l.length))=0:=by
 rw[LK];intro b a;have e:((BA l).drop l.length).take (252-l.length)=(((BA l).take 252).drop l.length):=by rw[AfQ]
 rw[e,IP h,AfQ] at a;unfold AJ at a;rw[AfM Z] at a;exact (AfX.1 (Afa a)).2

theorem Ch(ns:List Int):(ns.flatMap (Ah 4)).length=4*ns.length:=by
 induction ns with
 | nil=>rfl
 | cons x ns ih=>simp[Ai,ih];omega
theorem SZ{ns:List Int}{i:Nat}{x:Int}(h:ns[i]?=some x):(ns.take i).flatMap (Ah 4)++Ah 4 x=(ns.take (i+1)).flatMap (Ah 4):=by
 rw[AeH,h];simp
def BF(sec:List UInt8):Nat:=(AW ((sec.drop 24).take 2)).toNat
def Et(sec:List UInt8)(j:Nat):Int:=AW ((sec.drop (26+4*j)).take 4)
def hN(sec:List UInt8)(i:Nat):List Value:=(List.range i).map λj=>Value.int .i64 (Et sec j)
theorem Yc(sec:List UInt8)(i:Nat):hN sec i++[I (Et sec i)]=hN sec (i+1):=by simp[hN,Ag2]
def Iu(sec:List UInt8):Prop:=J1 [80,76,79,71] sec/\(0<=AW ((sec.drop 4).take 8)/\AW ((sec.drop 4).take 8)<=1099511627776)/\(0<=AW ((sec.drop 12).take 8)/\AW ((sec.drop 12).take 8)<=1099511627776)/\(1<=BF sec/\BF sec<=40)/\(∀j,j<BF sec->0<=Et sec j/\Et sec j<=1023)/\rz ((sec.drop (26+4*BF sec)).take (252-(26+4*BF sec)))=0
def IQ(sec:List UInt8):Prop:=sec.drop 252=Ir (A8 (sec.take 252))/\(1<=AW (sec.take 1)/\AW (sec.take 1)<=5)/\(0<=AW ((sec.drop 1).take 2)/\AW ((sec.drop 1).take 2)<=1023)
theorem Abd{sec:List UInt8}:∃m:Nat,AW ((sec.drop 24).take 2)=m/\BF sec=m:=by
 have h:AW ((sec.drop 24).take 2)=EE ((sec.drop 24).take 2):=Ro (by simp;omega);exact ⟨_,h,by unfold BF;rw[h];rfl⟩
theorem Rs{z w:World}{Γ:List Af}(H:Sep z Γ w):Sep z (poolA (λ_=>none)::Γ) w:=H.void λh k o e=>by cases e
theorem N1{z w:World}{Γ:List Af}{hq:Hp}{X:Af}(H:Sep z (poolA hq::X::Γ) w){M:Af}(f:∀h,X h->M h)(d:∀h h',M h->CJ h h'->M h'):∃a,(CJ hq a/\M a)/\Sep z (poolA a::Γ) w:=by
 have H1:Sep z (seps [poolA hq,X]::Γ) w:=Sep.shut (As:=[poolA hq,X]) H;exact H1.exAt 0 (σ:=Hp) (p:=λa=>CJ hq a/\M a) (B:=λa=>poolA a) Z (λh hs=>by
  refine ⟨h,⟨λk o e=>?_,?_⟩,λk o e=>e⟩
  ·obtain ⟨h',b,c⟩:=FO hs (i:=0) Z
   exact c _ _ (b _ _ e)
  obtain ⟨h',b,c⟩:=FO hs (i:=1) Z;exact d _ _ (f _ b) c)
theorem DV{z w:World}{Γ:List Af}{hq:Hp}{X:Af}(H:Sep z (poolA hq::X::Γ) w){sz n:Nat}{v:Value}{xs:List Value}(d:∀h,X h->rdH sz v n xs h):∃c,(CJ hq c/\rdH sz v n xs c)/\Sep z (poolA c::Γ) w:=
 N1 H d (λ_ _ a b=>a.le b)
structure Img where
 num:Int
 kind:Int
 body:List UInt8
deriving DecidableEq
def Img.Ok(m:Img):Prop:=(0<=m.num/\m.num<=1023)/\(1<=m.kind/\m.kind<=5)/\m.body.length=240
instance(m:Img):Decidable m.Ok:=by unfold Img.Ok;exact inferInstance
abbrev ImE:=Img×Value
def ImE.cells(e:ImE):List Value:=[.int .i64 e.1.num,.int .i64 e.1.kind,e.2]
def Gk(es:List ImE):List Value:=es.flatMap ImE.cells
theorem Jm:∀{es:List ImE} {j:Nat} {e:ImE},es[j]?=some e->∀k u,(ImE.cells e)[k]?=some u->(Gk es)[j*3+k]?=some u
 | x::es,0,e,h,k,u,hk=>by
  simp at h;subst h;have hl:=(Ad6.1 hk).1;simp only[Gk,AeB];rw[Aeg U];simpa using hk
 | x::es,j+1,e,h,k,u,hk=>by
  have:=Jm (es:=es) (j:=j) (by simpa using h) k u hk;simp only[Gk,AeB] at this ⊢;rw[Aen (by simp[ImE.cells];omega)];rw[show (j+1)*3+k-(ImE.cells x).length=j*3+k from by simp[ImE.cells];omega];exact this
theorem N4(es:List ImE)(e:ImE):Gk es++ImE.cells e=Gk (es++[e]):=by simp[Gk]
def imesOk(es:List ImE)(h:Hp):Prop:=∀e∈es,rdH 1 e.2 e.1.body.length (e.1.body.map u8) h
theorem imesOk.le{es:List ImE}{h h':Hp}(a:imesOk es h)(s:CJ h h'):imesOk es h':=λe b=>(a e b).le s
def imgsH(v:Value)(ims:List Img):Af:=λh=>∃es:List ImE,es.map Prod.fst=ims/\rdH 3 v ims.length (Gk es) h/\imesOk es h
theorem imgsH.le{v:Value}{ims:List Img}{h h':Hp}(a:imgsH v ims h)(s:CJ h h'):imgsH v ims h':=by
 obtain ⟨es,b,d,c⟩:=a;exact ⟨es,b,d.le s,c.le s⟩
theorem imgsH.slc{v:Value}{ims:List Img}{h:Hp}(a:imgsH v ims h):∃b c,v=.slice b ims.length c:=by
 obtain ⟨es,e,d,f⟩:=a;exact d.slc
theorem imgsH.small{v:Value}{ims:List Img}{h:Hp}(a:imgsH v ims h):ims.length<=9223372036854775807:=by
 obtain ⟨es,c,b,d⟩:=a;exact b.small

structure Rc where
 seq:Int
 ims:List Img
deriving DecidableEq
abbrev RcE:=Rc×Value
def RcE.cells(e:RcE):List Value:=[.int .i64 e.1.seq,e.2]
def IR(es:List RcE):List Value:=es.flatMap RcE.cells
theorem LL:∀{es:List RcE} {j:Nat} {e:RcE},es[j]?=some e->∀k u,(RcE.cells e)[k]?=some u->(IR es)[j*2+k]?=some u
 | x::es,0,e,h,k,u,hk=>by
  simp at h;subst h;have hl:=(Ad6.1 hk).1;simp only[IR,AeB];rw[Aeg U];simpa using hk
 | x::es,j+1,e,h,k,u,hk=>by
  have:=LL (es:=es) (j:=j) (by simpa using h) k u hk;simp only[IR,AeB] at this ⊢;rw[Aen (by simp[RcE.cells];omega)];rw[show (j+1)*2+k-(RcE.cells x).length=j*2+k from by simp[RcE.cells];omega];exact this
theorem UT(es:List RcE)(e:RcE):IR es++RcE.cells e=IR (es++[e]):=by simp[IR]
def rcesOk(es:List RcE)(h:Hp):Prop:=∀e∈es,imgsH e.2 e.1.ims h
theorem rcesOk.le{es:List RcE}{h h':Hp}(a:rcesOk es h)(s:CJ h h'):rcesOk es h':=λe b=>(a e b).le s
def recsH(v:Value)(rs:List Rc):Af:=λh=>∃es:List RcE,es.map Prod.fst=rs/\rdH 2 v rs.length (IR es) h/\rcesOk es h
theorem recsH.slc{v:Value}{rs:List Rc}{h:Hp}(a:recsH v rs h):∃b c,v=.slice b rs.length c:=by
 obtain ⟨es,e,d,f⟩:=a;exact d.slc

def Cp(sec:List UInt8):Int:=AW ((sec.drop 4).take 8)
def Cq(sec:List UInt8):Int:=AW ((sec.drop 12).take 8)
def DJ(sec:List UInt8):UInt32:=Fs (AW ((sec.drop 20).take 4))
def Fw(sec:List UInt8):Int:=AW ((sec.drop 3).take 4)
def Fx(sec:List UInt8):Int:=AW ((sec.drop 7).take 5)
def Cl(sec:List UInt8):Img:=⟨AW ((sec.drop 1).take 2),AW (sec.take 1),(sec.drop 12).take 240⟩
def ringAt(s:Sup)(x:Int):Nat:=(s.start+x%s.len).toNat
def nextP(f:Nat->List UInt8)(e sq room:Int)(ims:List Img):Prop:=
 Iu (f 0)/\Cp (f 0)=e/\Cq (f 0)=sq/\1+(BF (f 0):Int)<=room/\
 ims=(List.range (BF (f 0))).map (λj=>Cl (f (1+j)))/\
 (∀j,j<BF (f 0)->IQ (f (1+j))/\Fw (f (1+j))=e/\Fx (f (1+j))=sq/\(Cl (f (1+j))).num=Et (f 0) j)/\
 A8 ((List.range (BF (f 0))).flatMap λj=>f (1+j))=DJ (f 0)
theorem rdH.sl{sz:Nat}{v:Value}{n:Nat}{xs:List Value}{h:Hp}(r:rdH sz v n xs h)(a:0<xs.length):∃b o c,v=.slice (some ⟨b,o,none⟩) n c:=by
 obtain ⟨g,c,e,_,_,_,f⟩:=r;obtain ⟨b,p,d,_⟩:=f 0 xs[0] (Ad7 a);subst d;exact ⟨b,p,c,e⟩
theorem EF{g a:Nat}{sec:List UInt8}{rest:List Value}{t:TypeId}{h:Hp}(q:blk g (sec.map u8++rest) t h){k:Nat}(c:sec.length=k)(b:k<=a/\a<=9223372036854775807/\rest.length=a-k):rdH 1 (.slice (some ⟨g,0,none⟩) k a) k (sec.map u8) h:=by
 refine q.rd b.1 b.2.1 (by simp;omega) ?_;rw[Aep,AeK,Aeo (by simp;omega),Aee (by simp;omega)]
def Ea(F:Nat->List UInt8)(i:Nat):List UInt8:=(List.range i).flatMap λj=>F (1+j)
theorem S0(F:Nat->List UInt8)(i:Nat):Ea F i++F (1+i)=Ea F (i+1):=by simp[Ea,Ag2]
theorem UU(F:Nat->List UInt8)(i:Nat):ED (A8 (Ea F i)) (F (1+i))=A8 (Ea F (i+1)):=by
 unfold A8;rw[LI,S0]
theorem AdG(F:Nat->List UInt8):Value.int .u32 0=u32 (A8 (Ea F 0)):=by
 have:A8 (Ea F 0)=0:=by show A8 []=0;decide
 rw[this];rfl
def Ct(n:Nat):Dsk:=⟨n,λ_=>List.replicate 256 0,λ_=>[],0,0,0,false,0⟩
theorem Yd{n:Nat}(h:1<=n/\n<=4096):(Ct n).Ok:=⟨h.1,h.2,λ_ _=>by simp[Ct],λ_ _ p hp=>by simp[Ct] at hp,by simp[Ct],by simp[Ct],by simp[Ct],by simp[Ct]⟩
theorem Ye{n:Nat}:(Ct n).In (List.replicate (n*256) 0) [] 0 (λ_=>none):=by
 refine ⟨by simp[Ct],λi hi=>?_,λe a=>absurd a O,λi _ h=>by simp[Ct] at h,by simp,by simp,λe a=>absurd a O⟩;simp only[Ct] at hi ⊢;rw[AgC,List.take_replicate];congr 1;omega
theorem diskA.f1{D:Dsk}(h:D.f1=0): {D with f1:=Be D.f1} =D:=by
 cases D;simp at h;subst h;rfl

theorem Sep.tri{z w:World}{A B C:List Af}(H:Sep z (A++(B++C)) w):Sep z (A++(C++B)) w:=by
 have g:Sep z ([seps A]++(B++C)) w:=H.shut;have j:Sep z (B++(C++[seps A])) w:=by rw[<-Aec];exact g.swap
 have h:Sep z ([seps B]++(C++[seps A])) w:=j.shut;have k:Sep z (C++([seps A]++[seps B])) w:=by rw[<-Aec];exact h.swap
 have l:Sep z [seps C,seps A,seps B] w:=k.shut;have f:Sep z ([seps B]++[seps A,seps C]) w:=l.pick 3 [2,1,0] Z;have i:Sep z (B++[seps A,seps C]) w:=f.opened;have m:Sep z ([seps A]++([seps C]++B)) w:=i.swap;have n:Sep z (A++([seps C]++B)) w:=m.opened;have c:Sep z ([seps C]++(B++A)) w:=by rw[<-Aec];exact n.swap
 have a:Sep z (C++(B++A)) w:=c.opened;have e:Sep z ((B++A)++C) w:=a.swap;have b:Sep z (B++(A++C)) w:=by rw[<-Aec];exact e
 have d:Sep z ((A++C)++B) w:=b.swap;rwa[Aec] at d
def dkB(pd bd m:Nat)(D:Dsk)(f0:Int):Af:=blk pd [.slice (some ⟨bd,0,none⟩) (D.n*256) (D.n*256),.map (some m),.int .i64 f0,.int .i64 D.f1,.int .i64 D.f2,.int .i64 D.f3,.bool D.cut,.int .i64 D.left] 83
theorem Cn.onDisk{P:Program}{f:FuncId}{args:List Value}{pre:List Af}{pd:Nat}{D:Dsk}{post:Value->List Af->Prop}
  (h:D.Ok->∀bd m f0,Cn P f args (dkB pd bd m D f0::pre) (λv Γ=>∃Γ',post v Γ'/\Γ=Γ'++[dkB pd bd m D f0])):
  Cn P f args (diskA pd D::pre) (λv Γ=>∃Γ',post v Γ'/\Γ=Γ'++[diskA pd D]):=λz R w H=>by
 have H0:Sep z (diskA pd D::(pre++R)) w:=H;obtain ⟨bd,m,f0,bs,es,clk,hq,c,b,H1⟩:=H0.disk;have H2:Sep z ([dkB pd bd m D f0]++((EY pd bd m D f0 bs es clk hq).drop 1++(pre++R))) w:=H1;have H3:Sep z ((dkB pd bd m D f0::pre)++(R++(EY pd bd m D f0 bs es clk hq).drop 1)) w:=by
  have:=H2.tri;rw[Aec] at this;exact this
 refine Ret.mono (h c bd m f0 z _ w H3) ?_;rintro v a ⟨Γ,⟨Γ',hp,rfl⟩,H4⟩;refine ⟨Γ'++[diskA pd D],⟨Γ',hp,Z⟩,?_⟩;rw[Aec] at H4;have H5:Sep z ([dkB pd bd m D f0]++(R++((EY pd bd m D f0 bs es clk hq).drop 1++Γ'))) a:=by
  have:=H4.swap;rw[Aec,Aec] at this;exact this
 have H6:Sep z (EY pd bd m D f0 bs es clk hq++(Γ'++R)) a:=by
  have:=H5.tri;rw[Aec] at this;exact this
 have H7:Sep z ([diskA pd D]++(Γ'++R)) a:=Sep.toDisk H6 c b;have H8:Sep z (Γ'++(R++[diskA pd D])) a:=by
  have:=H7.swap;rw[Aec] at this;exact this
 have H9:=H8.tri;rw[<-Aec] at H9;exact H9

def Iv:List Int->Nat->List IE
 | [],_=>[]
 | k::ks,n=>(k,.bool true,n)::Iv ks (n+1)
def seen(ns:List Int):List IE:=Iv ns 0
theorem IS:∀(ns:List Int) (n:Nat) (k:Int),CO (Iv ns n) k=if k∈ns then some (.bool true) else none
 | [],n,k=>rfl
 | x::xs,n,k=>by
  simp only[Iv,CO,IS xs];by_cases h:k=x
  ·simp[h]
  by_cases h2:k∈xs
  ·simp[h,h2]
  simp[h,h2]
theorem UV(ns:List Int)(k:Int):(CO (seen ns) k).getD (.bool false)=.bool (decide (k∈ns)):=by
 unfold seen;rw[IS];split
 ·rename_i h;simp[h]
 rename_i h;simp[h]
theorem KI:∀(ns:List Int) (n:Nat) (k:Int),Iv (ns++[k]) n=Iv ns n++[(k,.bool true,n+ns.length)]
 | [],n,k=>rfl
 | x::xs,n,k=>by
  simp only[Afv,Iv,KI xs,Aeb];rw[show n+1+xs.length=n+(xs.length+1) from by omega]
theorem UW{ns:List Int}{k:Int}(h:k∉ns):E4 (seen ns) k (.bool true) ns.length=seen (ns++[k])/\putC (seen ns) k ns.length=(ns++[k]).length:=by
 have:CP (seen ns) k=false:=by unfold CP seen;rw[IS,if_neg h];rfl
 constructor
 ·unfold E4;rw[this];unfold seen;rw[KI];simp
 unfold putC;rw[this];simp
def imA(A:Af)(v:Value)(es:List ImE):Af:=λh=>A h/\rdH 3 v es.length (Gk es) h/\imesOk es h
theorem Sep.imA{z w:World}{Γ:List Af}(i:Nat){A:Af}(H:Sep z Γ w)(hi:Γ[i]?=some A){v:Value}{ims:List Img}(d:∀h,A h->imgsH v ims h):∃es:List ImE,es.map Prod.fst=ims/\Sep z (Γ.set i (YtnifkcmmanmbbaaGreatDoor.imA A v es)) w:=
 H.exAt i (p:=λes:List ImE=>es.map Prod.fst=ims) (B:=λes=>YtnifkcmmanmbbaaGreatDoor.imA A v es) hi (λh a=>by
  obtain ⟨es,b,e,c⟩:=d h a;subst b;exact ⟨es,Z,a,by simpa using e,c⟩)
theorem imA.at{A:Af}{a:Option Addr}{n c:Nat}{es:List ImE}{j:Nat}{e:ImE}{z w:World}{Γ:List Af}(i:Nat)(H:Sep z Γ w)(hi:Γ[i]?=some (imA A (.slice a n c) es))(l:es[j]?=some e):∀k u,(ImE.cells e)[k]?=some u->At a (j*3+k) u w:=λk u b=>by
 have g:=H.rd i hi (λh q=>q.2.1);obtain ⟨d,c',f,_,_,_,m⟩:=g;cases f;exact m _ _ (Jm l k u b)
def Fy(ims:List Img):List Value:=ims.map λm=>.int .i64 m.num
theorem UX{ims:List Img}{i:Nat}{m:Img}(h:ims[i]?=some m):Fy (ims.take i)++[I m.num]=Fy (ims.take (i+1)):=by
 rw[AeH,h];simp[Fy]
theorem Yf(ims:List Img):Fy ims=(ims.map Img.num).map I:=by simp[Fy]
def CL(e sq:Int)(m:Img):List UInt8:=Ah 1 m.kind++Ah 2 m.num++Ah 4 e++Ah 5 sq++m.body
def CM(e sq:Int)(ims:List Img):List UInt8:=ims.flatMap λm=>BA (CL e sq m)
theorem S1{e sq:Int}{ims:List Img}{i:Nat}{m:Img}(h:ims[i]?=some m):CM e sq (ims.take i)++BA (CL e sq m)=CM e sq (ims.take (i+1)):=by
 rw[AeH,h];simp[CM]
def hdL(e sq:Int)(ims:List Img):List UInt8:=[80,76,79,71]++Ah 8 e++Ah 8 sq++Ah 4 ((A8 (CM e sq ims)).toNat:Int)++Ah 2 ((ims.map Img.num).length:Int)++(ims.map Img.num).flatMap (Ah 4)
theorem GK{e sq:Int}{m:Img}(h:m.body.length=240):(CL e sq m).length=252:=by simp[CL,Ai,h]
theorem N5{e sq:Int}:∀{ims:List Img},(∀m∈ims,m.Ok)->(CM e sq ims).length=ims.length*256
 | [],_=>rfl
 | m::ims,h=>by
  have h1:=N5 (e:=e) (sq:=sq) (ims:=ims) (λm a=>h m (by simp[a]));have b:=sect_len (l:=CL e sq m) (by rw[GK (h m O).2.2];omega);simp only[CM,AeB,Ad9,Aeb] at h1 ⊢;rw[h1,b];omega
def BB(e sq:Int)(ims:List Img):List (List UInt8):=BA (hdL e sq ims)::ims.map λm=>BA (CL e sq m)
theorem S2(e sq:Int)(ims:List Img):BA (hdL e sq ims)++CM e sq ims=(BB e sq ims).flatten:=by
 simp[BB,CM,List.flatMap]
theorem hdL_len(e sq:Int)(ims:List Img):(hdL e sq ims).length=26+4*ims.length:=by
 simp[hdL,Ai,Ch,-List.length_flatMap];omega
theorem KJ{ims:List Img}{i:Nat}{m:Img}(h:(ims.map Img.num).Nodup)(hi:ims[i]?=some m)(a:m.num∈(ims.take i).map Img.num):False:=by
 have b:=(Ad6.1 hi).1;rw[<-AeI i ims,AeD,Ae4] at h;refine h.2.2 _ a m.num ?_ Z;rw[AeX b,(Ad6.1 hi).2];simp
def EG(ims:List Img):Prop:=(∀m∈ims,m.Ok)/\(ims.map Img.num).Nodup

def Dsk.wf(D:Dsk):Dsk:= {D with f2:=Be D.f2}
def Dsk.wr(D:Dsk)(x:Nat)(ps:List (List UInt8)):Dsk:= {Dsk.ws {D with f2:=Be D.f2} false x ps with left:=max 0 (D.left-1)}
def Dsk.bad(D:Dsk):Prop:=D.f2=1\/(D.cut=true/\D.left=0)
theorem Dsk.wr_n(D:Dsk)(x:Nat)(ps:List (List UInt8)):(D.wr x ps).n=D.n:=Dsk.ws_n _ _ _ _
theorem Dsk.ws_len(ps:List (List UInt8)):∀(D:Dsk) (i j:Nat),((D.ws false i ps).ver j).length<=(D.ver j).length+1:=by
 induction ps with
 | nil=>intro D i j;simp[Dsk.ws]
 | cons q qs ih=>
  intro D i j;rcases Ael i j with h|h
  ·have:=ih (D.w1 false i q) (i+1) j
   rw[Dsk.w1_ver _ _ _ U] at this;exact this
  simp only[Dsk.ws];rw[Dsk.ws_ver _ _ _ _ _ (.inl U)];show ((Dh D.ver i (D.ver i++[q])) j).length<=_;unfold Dh;split
  ·rename_i e;subst e;simp
  omega
theorem Dsk.wr_len(D:Dsk)(x:Nat)(ps:List (List UInt8))(j:Nat):((D.wr x ps).ver j).length<=(D.ver j).length+1:=Dsk.ws_len ps {D with f2:=Be D.f2} x j
theorem S3{ps:List (List UInt8)}(h:∀p∈ps,p.length=256):∀k,(ps.take k).flatten=ps.flatten.take (k*256):=by
 induction ps with
 | nil=>intro k;simp
 | cons q qs ih=>
  intro k
  cases k with
  | zero=>simp
  | succ k=>
   have hq:=h q O;rw[Ae0,Agt,Agt,ih (λp hp=>h p (by simp[hp])),AgR,Aee (l:=q) U];rw[show (k+1)*256-q.length=k*256 from by omega]
theorem S4{ps:List (List UInt8)}(h:∀p∈ps,p.length=256):∀k,(ps.drop k).flatten=ps.flatten.drop (k*256):=by
 induction ps with
 | nil=>intro k;simp
 | cons q qs ih=>
  intro k
  cases k with
  | zero=>simp
  | succ k=>
   have hq:=h q O;rw[AeY,Agt,ih (λp hp=>h p (by simp[hp])),Ae1,AeF (l:=q) U,AeL];rw[show (k+1)*256-q.length=k*256 from by omega]
theorem UY{ps:List (List UInt8)}(h:∀p∈ps,p.length=256):ps.flatten.length=ps.length*256:=by
 induction ps with
 | nil=>rfl
 | cons q qs ih=>
  have hq:=h q O;rw[Agt,Ad9,ih (λp hp=>h p (by simp[hp])),Aeb];omega
theorem Yg{e sq:Int}{ims:List Img}(h:∀m∈ims,m.Ok)(b:ims.length<=40):(∀p∈BB e sq ims,p.length=256)/\(BB e sq ims).length=1+ims.length:=by
 refine ⟨λp hp=>?_,by simp[BB];omega⟩;rcases Aei.1 hp with rfl|hp
 ·exact sect_len (by rw[hdL_len];omega)
 obtain ⟨m,a,rfl⟩:=Aeh.1 hp;exact sect_len (Agb (GK (h m a).2.2))
theorem grow.rdB{e:TypeId}{b n c:Nat}{xs:List UInt8}{h:Hp}(q:grow e 1 (.slice (some ⟨b,0,none⟩) n c) n (xs.map u8) h):rdH 1 (.slice (some ⟨b,0,none⟩) n c) n (xs.map u8) h:=q.rd
theorem grow.sl{e:TypeId}{sz n:Nat}{v:Value}{xs:List Value}{h:Hp}(q:grow e sz v n xs h)(f:0<n):∃b c,v=.slice (some ⟨b,0,none⟩) n c/\n<=c/\c<=9223372036854775807:=by
 have a:=q.rd;rcases q.form with ⟨_,rfl⟩|⟨b,c,rfl,h⟩
 ·omega
 obtain ⟨_,_,e,_,d,_⟩:=a;cases e;exact ⟨b,c,Z,h,d⟩

def Di(D:Dsk)(s:Sup)(a:Int):Nat->List UInt8:=λj=>D.cont (ringAt s (a+j))
inductive Runs(D:Dsk)(s:Sup):Int->Int->Int->List Rc->Int->Int->Int->Prop
 | nil (a q u:Int):Runs D s a q u [] a q u
 | snoc {a q u a' q' u':Int} {rs:List Rc} {ims:List Img} :Runs D s a q u rs a' q' u'->u'<s.len->nextP (Di D s a') s.epoch q' (s.len-u') ims->Runs D s a q u (rs++[⟨q',ims⟩]) ((a'+(1+(ims.length:Int)))%s.len) (q'+1) (u'+(1+(ims.length:Int)))
theorem nextP.len{f:Nat->List UInt8}{e sq a:Int}{ims:List Img}(h:nextP f e sq a ims):1<=ims.length/\ims.length<=40/\1+(ims.length:Int)<=a:=by
 obtain ⟨b,_,_,g,c,_⟩:=h;have d:=b.2.2.2.1;have:ims.length=BF (f 0):=by rw[c];simp
 omega
section
theorem BT{k:Nat}{x:Int}(b:0<=x)(d:x<9223372036854775808)(a:x<256^k):AW (Ah k x)=x:=by
 obtain ⟨n,rfl⟩:=AfS b;have c:EE (Ah k (n:Int))=n:=Ya k (by exact_mod_cast a);unfold AW;rw[c];exact AfG _ U
theorem G7(a b c:List UInt8){p k:Nat}(hp:p=a.length)(d:k=b.length):((a++b++c).drop p).take k=b:=by
 subst hp d;rw[Aec,AfM Z,AeA Z]
theorem UZ(ns:List Int):∀{j:Nat} {x:Int},ns[j]?=some x->((ns.flatMap (Ah 4)).drop (4*j)).take 4=Ah 4 x:=by
 induction ns with
 | nil=>intro j x h;simp at h
 | cons y ys ih=>
  intro j x h
  cases j with
  | zero=>
   simp at h;subst h;rw[AeB,AhN,Aep,AeA (Ai 4 y)]
  | succ j=>
   rw[AeB,show 4*(j+1)=(Ah 4 y).length+4*j from by rw[Ai];omega,Ae1];rw[AeF U,AeL,show (Ah 4 y).length+4*j-(Ah 4 y).length=4*j from by omega];exact ih (by simpa using h)
variable{e sq:Int}{ims:List Img}
theorem N6(e sq:Int)(ims:List Img):hdL e sq ims=[80,76,79,71]++Ah 8 e++(Ah 8 sq++Ah 4 ((A8 (CM e sq ims)).toNat:Int)++Ah 2 ((ims.map Img.num).length:Int)++(ims.map Img.num).flatMap (Ah 4)):=by
 simp[hdL]
theorem U0(b:ims.length<=40)(h:0<=e/\e<=1099511627776):Cp (BA (hdL e sq ims))=e:=by
 have a:=hdL_len e sq ims;unfold Cp;rw[B6 U U,N6,G7 _ _ _ O (by simp[Ai])];exact BT h.1 U U
theorem U1(b:ims.length<=40)(h:0<=sq/\sq<=1099511627776):Cq (BA (hdL e sq ims))=sq:=by
 have a:=hdL_len e sq ims;unfold Cq;rw[B6 U U,show hdL e sq ims=([80,76,79,71]++Ah 8 e)++Ah 8 sq++(Ah 4 ((A8 (CM e sq ims)).toNat:Int)++Ah 2 ((ims.map Img.num).length:Int)++(ims.map Img.num).flatMap (Ah 4)) from by simp[hdL],G7 _ _ _ (by simp[Ai]) (by simp[Ai])];exact BT h.1 U U
theorem AdH(b:ims.length<=40):DJ (BA (hdL e sq ims))=A8 (CM e sq ims):=by
 have a:=hdL_len e sq ims;have c:=(A8 (CM e sq ims)).toNat_lt;unfold DJ;rw[B6 U U,show hdL e sq ims=([80,76,79,71]++Ah 8 e++Ah 8 sq)++Ah 4 ((A8 (CM e sq ims)).toNat:Int)++(Ah 2 ((ims.map Img.num).length:Int)++(ims.map Img.num).flatMap (Ah 4)) from by simp[hdL],G7 _ _ _ (by simp[Ai]) (by simp[Ai])];rw[BT U U U];exact AaE _
theorem Rt(b:ims.length<=40):BF (BA (hdL e sq ims))=ims.length:=by
 have a:=hdL_len e sq ims;unfold BF;rw[B6 U U,show hdL e sq ims=([80,76,79,71]++Ah 8 e++Ah 8 sq++Ah 4 ((A8 (CM e sq ims)).toNat:Int))++Ah 2 ((ims.map Img.num).length:Int)++((ims.map Img.num).flatMap (Ah 4)) from by simp[hdL],G7 _ _ _ (by simp[Ai]) (by simp[Ai])];rw[Aea,BT U U U];rfl
theorem Abe(g:ims.length<=40){j:Nat}{m:Img}(b:ims[j]?=some m)(c:m.Ok):Et (BA (hdL e sq ims)) j=m.num:=by
 have f:=hdL_len e sq ims;have d:=(Ad6.1 b).1;unfold Et;rw[B6 U U,show hdL e sq ims=([80,76,79,71]++Ah 8 e++Ah 8 sq++Ah 4 ((A8 (CM e sq ims)).toNat:Int)++Ah 2 ((ims.map Img.num).length:Int))++((ims.map Img.num).flatMap (Ah 4)) from by simp[hdL]];have a:([80,76,79,71]++Ah 8 e++Ah 8 sq++Ah 4 ((A8 (CM e sq ims)).toNat:Int)++Ah 2 ((ims.map Img.num).length:Int)).length=26:=by simp only[Ad9,Ai];rfl
 rw[Ae1,AeF (by rw[a];omega),AeL,a,show 26+4*j-26=4*j from by omega];rw[UZ _ (x:=m.num) (by simp[b])];have:=c.1;exact BT U U U
theorem Abf(b:1<=ims.length/\ims.length<=40)(g:0<=e/\e<=1099511627776)(hs:0<=sq/\sq<=1099511627776)(a:∀m∈ims,m.Ok):Iu (BA (hdL e sq ims)):=by
 have f:=hdL_len e sq ims;have h:=U0 (sq:=sq) b.2 g;have i:=U1 (e:=e) b.2 hs;have d:=Rt (e:=e) (sq:=sq) b.2;unfold Cp at h;unfold Cq at i;refine ⟨⟨Is U,?_⟩,by rw[h];exact g,by rw[i];exact hs,by rw[d];exact b,λj c=>?_,?_⟩
 ·have:=B6 (l:=hdL e sq ims) U (p:=0) (k:=4) U
  rw[Aep,Aep] at this;rw[this,N6,Aec];rfl
 ·rw[d] at c
  have n:=Ad7 c;rw[Abe b.2 n (a _ (AfJ c))];exact (a _ (AfJ c)).1
 rw[d,<-f];exact Mv U
theorem N7(e sq:Int)(m:Img):CL e sq m=Ah 1 m.kind++Ah 2 m.num++(Ah 4 e++Ah 5 sq++m.body):=by simp[CL]
theorem N9{m:Img}(a:m.Ok)(j:0<=e/\e<4294967296)(hs:0<=sq/\sq<1099511627776):IQ (BA (CL e sq m))/\Fw (BA (CL e sq m))=e/\Fx (BA (CL e sq m))=sq/\Cl (BA (CL e sq m))=m:=by
 have i:=a.2.2;have f:=GK (e:=e) (sq:=sq) i;have d:=a.1;have b:=a.2.1;have e1:AW ((BA (CL e sq m)).take 1)=m.kind:=by
  have:=B6 (l:=CL e sq m) U (p:=0) (k:=1) U;rw[Aep,Aep] at this;rw[this,N7,Aec,AeA (by rw[Ai])];exact BT U U U
 have e2:AW (((BA (CL e sq m)).drop 1).take 2)=m.num:=by
  rw[B6 U U,N7,G7 _ _ _ (by simp[Ai]) (by simp[Ai])];exact BT U U U
 have c:AW (((BA (CL e sq m)).drop 3).take 4)=e:=by
  rw[B6 U U,show CL e sq m=(Ah 1 m.kind++Ah 2 m.num)++Ah 4 e++(Ah 5 sq++m.body) from by simp[CL],G7 _ _ _ (by simp[Ai]) (by simp[Ai])];exact BT U U U
 have g:AW (((BA (CL e sq m)).drop 7).take 5)=sq:=by
  rw[B6 U U,show CL e sq m=(Ah 1 m.kind++Ah 2 m.num++Ah 4 e)++Ah 5 sq++m.body from by simp[CL],G7 _ _ _ (by simp[Ai]) (by simp[Ai])];exact BT U U U
 have h:((BA (CL e sq m)).drop 12).take 240=m.body:=by
  rw[B6 U U,show CL e sq m=(Ah 1 m.kind++Ah 2 m.num++Ah 4 e++Ah 5 sq)++m.body++[] from by simp[CL],G7 _ _ _ (by simp[Ai]) U]
 refine ⟨⟨Is U,by rw[e1];exact b,by rw[e2];exact d⟩,c,g,?_⟩;unfold Cl;rw[e1,e2,h]
theorem Oa{F:Nat->List UInt8}{i:Int}(k:1<=ims.length/\ims.length<=40)(f:∀m∈ims,m.Ok)(r:0<=e/\e<4294967296)(hs:0<=sq/\sq<1099511627776)(t:1+(ims.length:Int)<=i)
  (q:∀(j:Nat) (p:List UInt8),(BB e sq ims)[j]?=some p->F j=p):nextP F e sq i ims:=by
 have h:F 0=BA (hdL e sq ims):=q 0 _ Z;have l:=Rt (e:=e) (sq:=sq) k.2;have o:∀j (g:j<ims.length),F (1+j)=BA (CL e sq ims[j]):=λj g=>q (1+j) _ (by
  rw[AgK];simp[BB,g])
 refine ⟨?_,?_,?_,?_,?_,?_,?_⟩
 ·rw[h];exact Abf k U U f
 ·rw[h];exact U0 k.2 U
 ·rw[h];exact U1 k.2 U
 ·rw[h,l];exact t
 ·rw[h,l]
  apply AgQ
  ·simp
  intro j n s;simp only[Ahs,List.getElem_range];rw[o j n,(N9 (f _ (AfJ n)) r hs).2.2.2]
 ·intro j g
  rw[h,l] at g;obtain ⟨a,b,c,d⟩:=N9 (f _ (AfJ g)) r hs;rw[o j g];refine ⟨a,b,c,?_⟩;rw[d,h,Abe k.2 (Ad7 g) (f _ (AfJ g))]
 rw[h,l,AdH k.2];congr 1;unfold CM;rw[List.flatMap_def,List.flatMap_def];congr 1;apply AgQ
 ·simp
 intro j n s;simp only[Ahs,List.getElem_range];exact o j (by simpa using s)
end
theorem Yh(ps:List (List UInt8)):∀(D:Dsk) (x i:Nat),(D.ws false x ps).cont i=(if x<=i then ps[i-x]? else none).getD (D.cont i):=by
 induction ps with
 | nil=>intro D x i;simp[Dsk.ws]
 | cons q qs ih=>
  intro D x i;simp only[Dsk.ws];rw[ih];have a:(D.w1 false x q).cont i=if i=x then q else D.cont i:=by
   show ((Dh D.ver x (D.ver x++[q])) i).getLast?.getD (D.dur i)=_;unfold Dh;split
   ·rename_i h;subst h;simp
   rfl
  rw[a];rcases AfD i x with h|h|h
  ·rw[if_neg (show ¬x+1<=i by omega),if_neg (show ¬i=x by omega),if_neg (show ¬x<=i by omega)]
  ·subst h
   rw[if_neg (show ¬i+1<=i by omega),if_pos Z,if_pos (Aed i),Agw];rfl
  rw[if_pos (show x+1<=i by omega),if_neg (show ¬i=x by omega),if_pos (show x<=i by omega),show i-x=(i-(x+1))+1 from by omega,Aet]
theorem wr_cont(ps:List (List UInt8))(D:Dsk)(x i:Nat):(D.wr x ps).cont i=(if x<=i then ps[i-x]? else none).getD (D.cont i):=Yh ps {D with f2:=Be D.f2} x i

theorem ring_low{s:Sup}{a:Int}{j:Nat}(hs:0<=s.start)(b:0<=a)(h:a+j<s.len):ringAt s (a+j)=(s.start+a).toNat+j:=by
 unfold ringAt;rw[Agf U h];omega
theorem ring_high{s:Sup}{a:Int}{j:Nat}(hs:0<=s.start)(b:s.len<=a+j)(h:a+j<s.len+s.len):ringAt s (a+j)=s.start.toNat+(a+j-s.len).toNat:=by
 unfold ringAt;rw[<-Int.sub_emod_right (a+j) s.len,Agf U U];omega
theorem J2{s:Sup}(a b:Int):ringAt s (a%s.len+b)=ringAt s (a+b):=by
 unfold ringAt;rw[Ahk]
theorem Iw{s:Sup}{h:Int}{i j:Nat}(hs:0<=s.start)(c:0<=h/\h<s.len)(hi:(i:Int)<s.len)(d:(j:Int)<s.len)(e:ringAt s (h+i)=ringAt s (h+j)):i=j:=by
 rcases AhO (h+i) s.len with a|a<;>rcases AhO (h+j) s.len with b|b
 ·rw[ring_low hs c.1 a,ring_low hs c.1 b] at e;omega
 ·rw[ring_low hs c.1 a,ring_high hs b U] at e;omega
 ·rw[ring_high hs a U,ring_low hs c.1 b] at e;omega
 rw[ring_high hs a U,ring_high hs b U] at e;omega
def E7(D:Dsk)(s:Sup)(a:Int)(k:Nat)(ps:List (List UInt8)):Dsk:=if k<ps.length then (D.wr (s.start+a).toNat (ps.take k)).wr s.start.toNat (ps.drop k) else D.wr (s.start+a).toNat (ps.take k)
theorem Yi{D:Dsk}{s:Sup}{a:Int}{k:Nat}{ps:List (List UInt8)}(hs:0<=s.start)(e:0<=a/\a<s.len)(i:(ps.length:Int)<=s.len)(g:(k:Int)=min (ps.length:Int) (s.len-a)){j:Nat}{p:List UInt8}(c:ps[j]?=some p):(E7 D s a k ps).cont (ringAt s (a+j))=p:=by
 have f:=(Ad6.1 c).1;rcases Ael j k with h|h
 ·have b:ringAt s (a+j)=(s.start+a).toNat+j:=ring_low hs e.1 U
  have d:(D.wr (s.start+a).toNat (ps.take k)).cont ((s.start+a).toNat+j)=p:=by
   rw[wr_cont,if_pos U,show (s.start+a).toNat+j-(s.start+a).toNat=j from by omega,AeS,if_pos h,c];rfl
  unfold E7;split
  ·rw[b,wr_cont]
   have:(if s.start.toNat<=(s.start+a).toNat+j then (ps.drop k)[(s.start+a).toNat+j-s.start.toNat]? else none)=none:=by
    rw[if_pos U];exact AeC (by rw[AeG];omega)
   rw[this];exact d
  rw[b];exact d
 have b:ringAt s (a+j)=s.start.toNat+(a+j-s.len).toNat:=ring_high hs U U;unfold E7;rw[if_pos U,b,wr_cont,if_pos U,show s.start.toNat+(a+j-s.len).toNat-s.start.toNat=j-k from by omega,Aff,show k+(j-k)=j from by omega,c];rfl
theorem app_old{D:Dsk}{s:Sup}{a:Int}{k:Nat}{ps:List (List UInt8)}(hs:0<=s.start)(c:0<=a/\a<s.len)(f:(ps.length:Int)<=s.len)(e:(k:Int)=min (ps.length:Int) (s.len-a)){i:Nat}(hi:∀j:Nat,j<ps.length->i≠ringAt s (a+j)):(E7 D s a k ps).cont i=D.cont i:=by
 have b:(D.wr (s.start+a).toNat (ps.take k)).cont i=D.cont i:=by
  rw[wr_cont];split
  ·rename_i h
   rw[AeC];rfl;rw[Aes];rcases Ael (i-(s.start+a).toNat) (min k ps.length) with q|q
   ·exact absurd (by rw[ring_low hs c.1 U];omega) (hi (i-(s.start+a).toNat) U)
   exact q
  rfl
 unfold E7;split
 ·rw[wr_cont]
  split
  ·rename_i d h
   rw[AeC];exact b;rw[AeG];rcases Ael (i-s.start.toNat) (ps.length-k) with q|q
   ·exact absurd (by rw[ring_high hs U U];omega) (hi (k+(i-s.start.toNat)) U)
   exact q
  exact b
 exact b

theorem U2{F:Nat->List UInt8}{e sq c:Int}{a b:List Img}(d:nextP F e sq c a)(f:nextP F e sq c b):a=b:=by
 rw[d.2.2.2.2.1,f.2.2.2.2.1]
theorem Runs.pos{D:Dsk}{s:Sup}{h c:Int}{rs:List Rc}{a q u:Int}(b:0<=h/\h<s.len)(r:Runs D s h c 0 rs a q u):a=(h+u)%s.len/\q=c+rs.length/\0<=u/\u<=s.len/\(rs.length:Int)<=u:=by
 induction r with
 | nil=>exact ⟨by rw[AhP,Agf b.1 b.2],by simp,by omega,by omega,by simp⟩
 | snoc r hlt hn ih=>
  obtain ⟨d,e,f,i,j⟩:=ih;have g:=hn.len;refine ⟨?_,by rw[e];simp;omega,by omega,by omega,by simp;omega⟩;rw[d,Ahk,Int.add_assoc]
theorem Mw:¬Iu (List.replicate 256 0):=λh=>by
 have:=h.1.2;simp at this
section
def Tg(c:List UInt8)(e q:Int):Prop:=(Iu c/\Cp c=e/\Cq c=q)\/(IQ c/\Fw c=e/\Fx c=q)
theorem U3:¬IQ (List.replicate 256 0):=λh=>by
 have:=h.2.1.1;revert this;decide
theorem U4(e q:Int):¬Tg (List.replicate 256 0) e q:=by
 rintro (⟨h,_⟩|⟨h,_⟩)
 ·exact Mw h
 exact U3 h
theorem JK{c:List UInt8}(h:Iu c)(g:IQ c):False:=by
 have b:=h.1.2;have a:=g.2.1.2;have:c.take 1=[80]:=by
  have:=congrArg (List.take 1) b;rwa[Aey] at this
 rw[this] at a;revert a;decide
variable{e q:Int}{ims:List Img}
theorem rec_cases{p:Nat}{c:List UInt8}(hp:(BB e q ims)[p]?=some c):(p=0/\c=BA (hdL e q ims))\/∃j m,p=j+1/\ims[j]?=some m/\c=BA (CL e q m):=by
 cases p with
 | zero=>simp[BB] at hp;exact .inl ⟨Z,hp.symm⟩
 | succ j=>
  simp only[BB,Aet,Aej,Agr] at hp;obtain ⟨m,b,a⟩:=hp;exact .inr ⟨j,m,Z,b,a.symm⟩
theorem P8(i:1<=ims.length/\ims.length<=40)(g:∀m∈ims,m.Ok)(s:0<=e/\e<4294967296)(hq:0<=q/\q<1099511627776){p:Nat}{c:List UInt8}(hp:(BB e q ims)[p]?=some c){n l:Int}(h:Tg c n l):n=e/\l=q:=by
 rcases rec_cases hp with ⟨rfl,rfl⟩|⟨j,m,rfl,r,rfl⟩
 ·have o:=Abf i (e:=e) (sq:=q) U U g
  rcases h with ⟨_,f,k⟩|⟨f,_⟩
  ·exact ⟨f.symm.trans (U0 i.2 U),k.symm.trans (U1 i.2 U)⟩
  exact (JK o f).elim
 obtain ⟨a,b,d,_⟩:=N9 (g m (Ad8 r)) s hq;rcases h with ⟨f,_⟩|⟨_,f,k⟩
 ·exact (JK f a).elim
 exact ⟨f.symm.trans b,k.symm.trans d⟩

def secs(e:Int)(rs:List Rc):List (List UInt8):=rs.flatMap λr=>BB e r.seq r.ims
theorem E8(e:Int)(rs a:List Rc):secs e (rs++a)=secs e rs++secs e a:=by simp[secs]
theorem J3(e:Int)(r:Rc):secs e [r]=BB e r.seq r.ims:=by simp[secs]
theorem FP(e q:Int)(ims:List Img):(BB e q ims).length=1+ims.length:=by simp[BB];omega
theorem KK(e:Int){rs:List Rc}{j:Nat}{r:Rc}(h:rs[j]?=some r):secs e rs=secs e (rs.take j)++BB e r.seq r.ims++secs e (rs.drop (j+1)):=by
 have a:=(Ad6.1 h).1;have:rs=rs.take j++[r]++rs.drop (j+1):=by
  rw[<-(Ad6.1 h).2,List.take_append_getElem a,AeI]
 conv=>lhs;rw[this]
 rw[E8,E8,J3]
theorem U5{e:Int}{rs:List Rc}{c:List UInt8}(h:c∈secs e rs):∃(j:Nat) (r:Rc) (p:Nat),rs[j]?=some r/\(BB e r.seq r.ims)[p]?=some c:=by
 obtain ⟨r,a,d⟩:=Af9.1 h;obtain ⟨j,b⟩:=AeV a;obtain ⟨p,hp⟩:=AeV d;exact ⟨j,r,p,b,hp⟩

def Dn(D:Dsk)(n:Nat)(c:List UInt8):Prop:=c=D.dur n\/c∈D.ver n
def AdI(s:Sup)(c:List UInt8):Prop:=∀e q,Tg c e q->e<s.epoch\/(e=s.epoch/\q<s.seq)
structure PInv(D:Dsk)(s:Sup)(rs:List Rc)(pt:List (List UInt8))(a q u:Int)(b:Bool)(sure:Nat):Prop where
 fa:a=(s.head+u)%s.len
 fq:q=s.seq+rs.length+(if b then 1 else 0)
 fu:u=((secs s.epoch rs).length:Int)
 ul:u<=s.len
 pb:b=false->pt=[]
 part:pt=[]\/∃ims k,((1<=ims.length/\ims.length<=40)/\(∀m∈ims,m.Ok))/\pt=(BB s.epoch (s.seq+rs.length) ims).take k/\k<1+ims.length/\u+(1+(ims.length:Int))<=s.len
 recs:∀(j:Nat) (r:Rc),rs[j]?=some r->r.seq=s.seq+j/\(1<=r.ims.length/\r.ims.length<=40)/\∀m∈r.ims,m.Ok
 old:∀i:Nat,(i:Int)<s.len->∀c,Dn D (ringAt s (s.head+i)) c->AdI s c\/(secs s.epoch rs++pt)[i]?=some c
 last:∀(i:Nat) (c:List UInt8),(secs s.epoch rs++pt)[i]?=some c->D.cont (ringAt s (s.head+i))=c
 dura:∀(i:Nat) (c:List UInt8),(secs s.epoch (rs.take sure))[i]?=some c->D.dur (ringAt s (s.head+i))=c/\D.ver (ringAt s (s.head+i))=[]
 sure:sure<=rs.length
structure SOk(s:Sup):Prop where
 start:0<=s.start
 head:0<=s.head/\s.head<s.len
 epoch:0<=s.epoch/\s.epoch<4294967296
 seq:0<=s.seq
theorem PInv.f{D D':Dsk}{s:Sup}{rs:List Rc}{j:List (List UInt8)}{a q u:Int}{b:Bool}{sure:Nat}(h:PInv D s rs j a q u b sure)(e:D'.dur=D.dur)(g:D'.ver=D.ver):PInv D' s rs j a q u b sure:=
 ⟨h.fa,h.fq,h.fu,h.ul,h.pb,h.part,h.recs,λi hi c d=>h.old i hi c (by unfold Dn at d ⊢;rwa[e,g] at d),λi c d=>by have:=h.last i c d;unfold Dsk.cont at this ⊢;rw[e,g];exact this,
  λi c d=>by rw[e,g];exact h.dura i c d,h.sure⟩
theorem Ob{s:Sup}(a:0<s.len)(h x:Int):∃i:Nat,(i:Int)<s.len/\ringAt s x=ringAt s (h+i):=by
 have b:=Agd (x-h) (by omega:s.len≠0);have c:=AfY (x-h) a;refine ⟨((x-h)%s.len).toNat,by omega,?_⟩;unfold ringAt;rw[Int.toNat_of_nonneg b,Int.add_emod_emod];congr 3;omega
theorem PInv.tags{D:Dsk}{s:Sup}{rs:List Rc}{z:List (List UInt8)}{a q u:Int}{b:Bool}{sure:Nat}(h:PInv D s rs z a q u b sure)(hs:SOk s)(hq:q<=1099511627776){i:Nat}(hi:(i:Int)<s.len){c:List UInt8}(v:Dn D (ringAt s (s.head+i)) c){f t:Int}(e:Tg c f t):f<s.epoch\/(f=s.epoch/\t<q):=by
 have d:=h.fq;have w:=hs.seq;rcases h.old i hi c v with g|g
 ·rcases g _ _ e with g|⟨x,g2⟩
  ·exact .inl g
  refine .inr ⟨x,?_⟩;split at d<;>omega
 rcases Aek.1 (Ad8 g) with g|g
 ·obtain ⟨j,r,p,m,hp⟩:=U5 g
  obtain ⟨n,l,o⟩:=h.recs j r m;have y:=(Ad6.1 m).1;have:=P8 l o hs.epoch (by split at d<;>omega) hp e;exact .inr ⟨this.1,by split at d<;>omega⟩
 rcases h.part with rfl|⟨ims,k,⟨n,l⟩,rfl,o,_⟩
 ·cases g
 cases b with
 | false=>have:=h.pb Z;rw[this] at g;cases g
 | true=>
  rw[if_pos Z] at d;obtain ⟨p,hp⟩:=AeV g;rw[AeS] at hp;split at hp
  ·have:=P8 n l hs.epoch U hp e
   exact .inr ⟨this.1,by omega⟩
  cases hp
theorem PInv.drop{D:Dsk}{s:Sup}{rs:List Rc}{y:List (List UInt8)}{a q u:Int}{b:Bool}{sure:Nat}(h:PInv D s rs y a q u b sure)(hs:SOk s)(hq:q<=1099511627776){d:Sup}(n:d.start=s.start)(x:d.len=s.len)(o:d.epoch=s.epoch)(w:d.head=a)(k:d.seq=q)(z:0<=d.len)(l:0<=d.head/\d.head<d.len):PInv D d [] [] a q 0 false 0:=by
 have p:0<s.len:=by have:=hs.head;omega
 refine ⟨?_,by rw[k];simp,by simp[secs],by omega,λ_=>rfl,.inl Z,λj r h=>by simp at h,λi hi c g=>.inl λe q m=>?_,λi c h=>by simp[secs] at h,λi c h=>by simp[secs] at h,Aed _⟩
 ·rw[AhP,<-w,Agf l.1 l.2]
 have t:ringAt d (d.head+i)=ringAt s (d.head+i):=by unfold ringAt;rw[n,x]
 rw[t] at g;obtain ⟨i',f,v⟩:=Ob p s.head (d.head+i);rw[v] at g;have:=h.tags hs hq f g m;rw[o,k];exact this
def Dsk.fl(D:Dsk):Dsk:= {D with dur:=D.cont,ver:=λ_=>[],f3:=Be D.f3,left:=max 0 (D.left-1)}
theorem cont_has(D:Dsk)(n:Nat):Dn D n (D.cont n):=by
 unfold Dn Dsk.cont
 cases hl:(D.ver n).getLast? with
 | none=>exact .inl Z
 | some p=>exact .inr (List.mem_of_getLast? hl)
theorem fl_has{D:Dsk}{n:Nat}{c:List UInt8}(h:Dn D.fl n c):Dn D n c:=by
 rcases h with rfl|h
 ·exact cont_has D n
 cases h
theorem PInv.flush{D:Dsk}{s:Sup}{rs:List Rc}{e:List (List UInt8)}{a q u:Int}{b:Bool}{sure:Nat}(h:PInv D s rs e a q u b sure):PInv D.fl s rs e a q u b rs.length:=
 ⟨h.fa,h.fq,h.fu,h.ul,h.pb,h.part,h.recs,λi hi c d=>h.old i hi c (fl_has d),λi c d=>h.last i c d,
  λi c d=>⟨h.last i c (by rw[Ae2] at d;rw[Aeg (Ad6.1 d).1];exact d),Z⟩,Aed _⟩

theorem ws_dur(ps:List (List UInt8)):∀(D:Dsk) (x:Nat),(D.ws false x ps).dur=D.dur:=by
 induction ps with
 | nil=>intro D x;rfl
 | cons p ps ih=>intro D x;simp only[Dsk.ws];rw[ih];rfl
theorem ws_mem(ps:List (List UInt8)):∀(D:Dsk) (x i:Nat) (c:List UInt8),c∈(D.ws false x ps).ver i->c∈D.ver i\/(x<=i/\ps[i-x]?=some c):=by
 induction ps with
 | nil=>intro D x i c h;exact .inl h
 | cons p ps ih=>
  intro D x i c h;simp only[Dsk.ws] at h;rcases ih _ _ _ _ h with h|⟨b,a⟩
  ·have h:c∈(Dh D.ver x (D.ver x++[p])) i:=h
   unfold Dh at h;split at h
   ·rename_i e;subst e
    rcases Aek.1 h with h|h
    ·exact .inl h
    simp at h;subst h;exact .inr ⟨Aed _,by simp⟩
   exact .inl h
  exact .inr ⟨by omega,by rw[show i-x=(i-(x+1))+1 from by omega,Aet];exact a⟩
theorem wr_has{D:Dsk}{x i:Nat}{ps:List (List UInt8)}{c:List UInt8}(h:Dn (D.wr x ps) i c):Dn D i c\/(x<=i/\ps[i-x]?=some c):=by
 rcases h with rfl|h
 ·exact .inl (.inl (congrFun (ws_dur ps {D with f2:=Be D.f2} x) i))
 rcases ws_mem ps {D with f2:=Be D.f2} x i c h with h|h
 ·exact .inl (.inr h)
 exact .inr h
theorem app_has{D:Dsk}{s:Sup}{a:Int}{k:Nat}{ps:List (List UInt8)}(hs:0<=s.start)(e:0<=a/\a<s.len)(l:(ps.length:Int)<=s.len)(i:(k:Int)=min (ps.length:Int) (s.len-a)){n:Nat}{c:List UInt8}(h:Dn (E7 D s a k ps) n c):Dn D n c\/∃j:Nat,ps[j]?=some c/\n=ringAt s (a+j):=by
 have d:∀{n:Nat} {c:List UInt8},Dn (D.wr (s.start+a).toNat (ps.take k)) n c->Dn D n c\/∃j:Nat,ps[j]?=some c/\n=ringAt s (a+j):=λ{n c} h=>by
  rcases wr_has h with h|⟨f,b⟩
  ·exact .inl h
  rw[AeS] at b;split at b
  ·exact .inr ⟨_,b,by rw[ring_low hs e.1 U];omega⟩
  cases b
 unfold E7 at h;split at h
 ·rcases wr_has h with h|⟨f,b⟩
  ·exact d h
  rw[Aff] at b;have g:=(Ad6.1 b).1;exact .inr ⟨_,b,by rw[ring_high hs U U];omega⟩
 exact d h
theorem Gs(D:Dsk)(x:Nat)(ps:List (List UInt8))(j:Nat)(h:j<x\/x+ps.length<=j):(D.wr x ps).ver j=D.ver j:=Dsk.ws_ver false ps {D with f2:=Be D.f2} x j h
theorem Pr{D:Dsk}{s:Sup}{a:Int}{k:Nat}{ps:List (List UInt8)}(hs:0<=s.start)(c:0<=a/\a<s.len)(e:(ps.length:Int)<=s.len)(d:(k:Int)=min (ps.length:Int) (s.len-a)){i:Nat}(hi:∀j:Nat,j<ps.length->i≠ringAt s (a+j)):(E7 D s a k ps).ver i=D.ver i:=by
 have b:(D.wr (s.start+a).toNat (ps.take k)).ver i=D.ver i:=by
  refine Gs _ _ _ _ ?_;rw[Aes];rcases Ael i (s.start+a).toNat with g|g
  ·exact .inl g
  rcases Ael (i-(s.start+a).toNat) (min k ps.length) with q|q
  ·exact absurd (by rw[ring_low hs c.1 U];omega) (hi (i-(s.start+a).toNat) U)
  exact .inr U
 unfold E7;split
 ·refine (Gs _ _ _ _ ?_).trans b
  rw[AeG];rcases Ael i s.start.toNat with g|g
  ·exact .inl g
  rcases Ael (i-s.start.toNat) (ps.length-k) with q|q
  ·exact absurd (by rw[ring_high hs U U];omega) (hi (k+(i-s.start.toNat)) U)
  exact .inr U
 exact b
theorem PInv.at_ok{D:Dsk}{s:Sup}{rs:List Rc}{c:List (List UInt8)}{a q u:Int}{b:Bool}{sure:Nat}(h:PInv D s rs c a q u b sure)(hs:SOk s):0<=a/\a<s.len:=by
 have:=hs.head;rw[h.fa];exact ⟨Agd _ U,AfY _ U⟩
theorem PInv.ring{D:Dsk}{s:Sup}{rs:List Rc}{c:List (List UInt8)}{a q u:Int}{b:Bool}{sure:Nat}(h:PInv D s rs c a q u b sure)(j:Nat):ringAt s (a+j)=ringAt s (s.head+(((secs s.epoch rs).length+j:Nat):Int)):=by
 have d:=h.fu;rw[h.fa,J2];congr 1;omega
theorem PInv.app{D:Dsk}{s:Sup}{rs:List Rc}{pt:List (List UInt8)}{a q u:Int}{sure:Nat}(h:PInv D s rs pt a q u false sure)(hs:SOk s){k:Nat}(hl:1<=ims.length/\ims.length<=40)(x:∀m∈ims,m.Ok)(hr:1+(ims.length:Int)<=s.len-u)(hk:(k:Int)=min (1+(ims.length:Int)) (s.len-a)):
  PInv (E7 D s a k (BB s.epoch q ims)) s (rs++[⟨q,ims⟩]) [] ((a+(1+(ims.length:Int)))%s.len) (q+1) (u+(1+(ims.length:Int))) false sure:=by
 obtain rfl:=h.pb Z;have p:=h.at_ok hs;have hu:=h.fu;have hq:=h.fq;rw[if_neg (by decide)] at hq;have o:=FP s.epoch q ims;have l:(k:Int)=min ((BB s.epoch q ims).length:Int) (s.len-a):=by rw[o];omega
 have n:(secs s.epoch (rs++[⟨q,ims⟩]))=secs s.epoch rs++BB s.epoch q ims:=by rw[E8,J3]
 have f:∀i:Nat,(i:Int)<s.len->i<(secs s.epoch rs).length->∀j:Nat,j<(BB s.epoch q ims).length->ringAt s (s.head+i)≠ringAt s (a+j):=λi hi a1 j d e=>by
  rw[h.ring] at e;have:=Iw hs.start hs.head hi U e;omega
 refine ⟨?_,by simp;omega,by rw[n,Ad9,o];omega,by omega,λ_=>rfl,.inl Z,λj r d=>?_,λi hi c b=>?_,λi c b=>?_,λi c b=>?_,by have:=h.sure;simp;omega⟩
 ·rw[h.fa,Ahk,Int.add_assoc]
 ·rcases Ael j rs.length with g|g
  ·rw[Aeg g] at d;exact h.recs j r d
  rw[Aen g] at d;have:j=rs.length:=by have:=(Ad6.1 d).1;simp at this;omega
  subst this;simp at d;subst d;exact ⟨by dsimp only;omega,hl,x⟩
 ·rw[AeQ,n]
  rcases app_has hs.start p U l b with b|⟨j,d,v⟩
  ·rcases h.old i hi c b with g|g
   ·exact .inl g
   rw[AeQ] at g;exact .inr (by rw[Aeg (Ad6.1 g).1];exact g)
  have a0:=(Ad6.1 d).1;rw[h.ring] at v;have:=Iw hs.start hs.head hi U v;subst this;exact .inr (by rw[Aen U,Af6];exact d)
 ·rw[AeQ,n] at b
  rcases Ael i (secs s.epoch rs).length with g|g
  ·rw[Aeg g] at b
   rw[app_old hs.start p U l (f i U g)];exact h.last i c (by rw[AeQ];exact b)
  rw[Aen g] at b;have:=Yi (D:=D) hs.start p U l b;rw[h.ring,show (secs s.epoch rs).length+(i-(secs s.epoch rs).length)=i from by omega] at this;exact this
 rw[Aeo h.sure] at b;have t:i<(secs s.epoch rs).length:=by
  have z:=(Ad6.1 b).1;have h2:(secs s.epoch rs).length=(secs s.epoch (rs.take sure)).length+(secs s.epoch (rs.drop sure)).length:=by
   rw[<-Ad9,<-E8,AeI]
  omega
 obtain ⟨z,h2⟩:=h.dura i c b;have key:∀c',Dn (E7 D s a k (BB s.epoch q ims)) (ringAt s (s.head+i)) c'->Dn D (ringAt s (s.head+i)) c':=λc' w=>by
  rcases app_has hs.start p U l w with g|⟨j,d,v⟩
  ·exact g
  exact (f i U t j (Ad6.1 d).1 v).elim
 have hd:(E7 D s a k (BB s.epoch q ims)).dur=D.dur:=by
  unfold E7;split
  ·exact (ws_dur _ _ _).trans (ws_dur _ {D with f2:=Be D.f2} _)
  exact ws_dur _ {D with f2:=Be D.f2} _
 refine ⟨by rw[hd];exact z,?_⟩;have y:=Pr (D:=D) hs.start p U l (f i U t);rw[y];exact h2
end
section
variable{e q:Int}{ims:List Img}

theorem PInv.fail0{D:Dsk}{s:Sup}{rs:List Rc}{d:List (List UInt8)}{a q u:Int}{sure:Nat}(h:PInv D s rs d a q u false sure):PInv D.wf s rs [] a (q+1) u true sure:=by
 obtain rfl:=h.pb Z;have hq:=h.fq;rw[if_neg (by decide)] at hq;exact ⟨h.fa,by rw[if_pos Z];omega,h.fu,h.ul,λg=>(by cases g),.inl Z,h.recs,λi hi c b=>h.old i hi c b,λi c b=>h.last i c b,λi c b=>h.dura i c b,h.sure⟩
theorem PInv.fail1{D:Dsk}{s:Sup}{rs:List Rc}{pt:List (List UInt8)}{a q u:Int}{sure:Nat}(h:PInv D s rs pt a q u false sure)(hs:SOk s){k:Nat}(hl:1<=ims.length/\ims.length<=40)(y:∀m∈ims,m.Ok)(hr:1+(ims.length:Int)<=s.len-u)(hk:(k:Int)=min (1+(ims.length:Int)) (s.len-a))(z:k<1+ims.length):
  PInv (Dsk.wf (D.wr (s.start+a).toNat ((BB s.epoch q ims).take k))) s rs ((BB s.epoch q ims).take k) a (q+1) u true sure:=by
 obtain rfl:=h.pb Z;have ha:=h.at_ok hs;have hu:=h.fu;have hq:=h.fq;rw[if_neg (by decide)] at hq;have a1:=FP s.epoch q ims;have e:((BB s.epoch q ims).take k).length=k:=by rw[Aes];omega
 have d:∀j:Nat,j<k->(s.start+a).toNat+j=ringAt s (s.head+(((secs s.epoch rs).length+j:Nat):Int)):=λj o=>by
  rw[<-h.ring,ring_low hs.start ha.1 U]
 have t:∀{n:Nat} {c:List UInt8},Dn (Dsk.wf (D.wr (s.start+a).toNat ((BB s.epoch q ims).take k))) n c->Dn D n c\/∃j:Nat,((BB s.epoch q ims).take k)[j]?=some c/\n=ringAt s (s.head+(((secs s.epoch rs).length+j:Nat):Int)):=λ{n c} g=>by
  rcases wr_has (D:=D) (x:=(s.start+a).toNat) (ps:=(BB s.epoch q ims).take k) g with g|⟨g1,r⟩
  ·exact .inl g
  have o:=(Ad6.1 r).1;rw[e] at o;exact .inr ⟨_,r,by rw[<-d _ o];omega⟩
 have p:∀i:Nat,i<(secs s.epoch rs).length->ringAt s (s.head+i)<(s.start+a).toNat\/(s.start+a).toNat+((BB s.epoch q ims).take k).length<=ringAt s (s.head+i):=λi hi=>by
  rw[e];rcases Ael (ringAt s (s.head+i)) (s.start+a).toNat with g|g
  ·exact .inl g
  rcases Ael (ringAt s (s.head+i)) ((s.start+a).toNat+k) with r|r
  ·have:=d (ringAt s (s.head+i)-(s.start+a).toNat) U
   have:=Iw (i:=i) (j:=(secs s.epoch rs).length+(ringAt s (s.head+i)-(s.start+a).toNat)) hs.start hs.head U U U;omega
  exact .inr r
 have v:∀i:Nat,i<(secs s.epoch rs).length->(Dsk.wf (D.wr (s.start+a).toNat ((BB s.epoch q ims).take k))).ver (ringAt s (s.head+i))=D.ver (ringAt s (s.head+i)):=λi hi=>Gs D _ _ _ (p i hi);have l:(Dsk.wf (D.wr (s.start+a).toNat ((BB s.epoch q ims).take k))).dur=D.dur:=ws_dur ((BB s.epoch q ims).take k) {D with f2:=Be D.f2} _;have w:q=s.seq+rs.length:=by omega
 refine ⟨h.fa,by rw[if_pos Z];omega,h.fu,h.ul,λg=>(by cases g),.inr ⟨ims,k,⟨hl,y⟩,by rw[<-w],z,by omega⟩,h.recs,λi hi c b=>?_,λi c b=>?_,λi c b=>?_,h.sure⟩
 ·rcases t b with b|⟨j,o,hn⟩
  ·rcases h.old i hi c b with g|g
   ·exact .inl g
   rw[AeQ] at g;exact .inr (by rw[Aeg (Ad6.1 g).1];exact g)
  have f:=(Ad6.1 o).1;rw[e] at f;have:=Iw hs.start hs.head hi U hn;subst this;exact .inr (by rw[Aen U,Af6];exact o)
 ·rcases Ael i (secs s.epoch rs).length with g|g
  ·rw[Aeg g] at b
   have:=h.last i c (by rw[AeQ];exact b);unfold Dsk.cont at this ⊢;rw[v i g,l];exact this
  rw[Aen g] at b;have f:=(Ad6.1 b).1;rw[e] at f;have e1:=d (i-(secs s.epoch rs).length) f;rw[show (secs s.epoch rs).length+(i-(secs s.epoch rs).length)=i from by omega] at e1;rw[<-e1];show (D.wr _ _).cont _=c;rw[wr_cont,if_pos U,Af6,b];rfl
 have a0:i<(secs s.epoch rs).length:=by
  have h1:=(Ad6.1 b).1;have h2:(secs s.epoch rs).length=(secs s.epoch (rs.take sure)).length+(secs s.epoch (rs.drop sure)).length:=by
   rw[<-Ad9,<-E8,AeI]
  omega
 obtain ⟨h1,h2⟩:=h.dura i c b;exact ⟨by rw[l];exact h1,by rw[v i a0];exact h2⟩

structure Crashed(D D':Dsk):Prop where
 n:D'.n=D.n
 ver:∀i,D'.ver i=[]
 dur:∀i,Dn D i (D'.dur i)
theorem Crashed.cont{D D':Dsk}(h:Crashed D D')(n:Nat):D'.cont n=D'.dur n:=by unfold Dsk.cont;rw[h.ver];rfl
theorem PInv.reads{D D':Dsk}{s:Sup}{rs:List Rc}{e:List (List UInt8)}{a q u:Int}{b:Bool}{sure:Nat}(h:PInv D s rs e a q u b sure)(d:Crashed D D'){i:Nat}(hi:(i:Int)<s.len){c:Int}(hq:s.seq<=c)(f:Tg (D'.cont (ringAt s (s.head+i))) s.epoch c):(secs s.epoch rs++e)[i]?=some (D'.cont (ringAt s (s.head+i))):=by
 rcases h.old i hi (D'.cont (ringAt s (s.head+i))) (by rw[d.cont];exact d.dur _) with g|g
 ·have:=g _ _ f
  omega
 exact g
theorem PInv.one{D D':Dsk}{s:Sup}{rs:List Rc}{t:List (List UInt8)}{a q u:Int}{b:Bool}{sure:Nat}(h:PInv D s rs t a q u b sure)(hs:SOk s)(hc:Crashed D D')(hq:q<=1099511627776){n:Nat}(hn:n<=rs.length){a' i l:Int}(hu:l=((secs s.epoch (rs.take n)).length:Int))(ha:a'=(s.head+l)%s.len)(a3:i=s.seq+n)
  (v:nextP (Di D' s a') s.epoch i (s.len-l) ims):∃r,rs[n]?=some r/\r=⟨i,ims⟩:=by
 obtain ⟨y,n2,n3,n4,n5,n6,n7⟩:=v;have hF:∀j:Nat,Di D' s a' j=D'.cont (ringAt s (s.head+(((secs s.epoch (rs.take n)).length+j:Nat):Int))):=λj=>by
  show D'.cont (ringAt s (a'+j))=_;rw[ha,J2];congr 2;omega
 have a2:=y.2.2.2.1;have rd:∀j:Nat,j<=BF (Di D' s a' 0)->Tg (Di D' s a' j) s.epoch i->(secs s.epoch rs++t)[(secs s.epoch (rs.take n)).length+j]?=some (Di D' s a' j):=λj e ht=>by
  rw[hF] at ht ⊢;exact h.reads hc U U ht
 have c:=rd 0 U (.inl ⟨y,n2,n3⟩);have hi:∀j:Nat,j<BF (Di D' s a' 0)->(secs s.epoch rs++t)[(secs s.epoch (rs.take n)).length+(1+j)]?=some (Di D' s a' (1+j)):=λj e=>by
  obtain ⟨g1,g2,g3,_⟩:=n6 j e;exact rd (1+j) U (.inr ⟨g1,g2,g3⟩)
 have x:=h.fq;have a4:=hs.seq;rcases Ael n rs.length with a0|hge
 ·have hr:rs[n]?=some rs[n]:=Ad7 a0
  obtain ⟨r1,r2,r3⟩:=h.recs n _ hr;refine ⟨_,hr,?_⟩;have z:=KK s.epoch hr;have hp:=FP s.epoch rs[n].seq rs[n].ims;have g:∀j:Nat,j<1+rs[n].ims.length->(secs s.epoch rs++t)[(secs s.epoch (rs.take n)).length+j]? =(BB s.epoch rs[n].seq rs[n].ims)[j]? :=λj e=>by
   rw[z,Aec,Aec,Aen U,Af6,Aeg U]
  have e0:=g 0 U;rw[c] at e0;have f:Di D' s a' 0=BA (hdL s.epoch rs[n].seq rs[n].ims):=by
   simp[BB] at e0;exact e0
  have hC:BF (Di D' s a' 0)=rs[n].ims.length:=by rw[f,Rt r2.2]
  have d:nextP (Di D' s a') s.epoch rs[n].seq (s.len-l) rs[n].ims:=by
   refine Oa r2 r3 hs.epoch (by split at x<;>omega) U λj p e=>?_;have a5:=(Ad6.1 e).1
   cases j with
   | zero=>have:=g 0 U;rw[c,e] at this;exact Af4 this
   | succ j=>
    have h1:=hi j U;rw[AgK 1 j] at h1;have:=g (j+1) U;rw[h1,e] at this;exact Af4 this
  have o:nextP (Di D' s a') s.epoch i (s.len-l) ims:=⟨y,n2,n3,n4,n5,n6,n7⟩;have e1:rs[n].seq=i:=by omega
  rw[e1] at d;have e2:=U2 o d;rw[e2,<-e1]
 have w:n=rs.length:=by omega
 subst w;rw[Ae2] at c hi;rw[Aen U,AgY,Agw] at c;rcases h.part with rfl|⟨m,k,⟨p1,p2⟩,rfl,p3,p4⟩
 ·simp at c
 have a1:0<k:=by
  have:=(Ad6.1 c).1;rw[Aes] at this;omega
 rw[AeS,if_pos a1] at c;have f:Di D' s a' 0=BA (hdL s.epoch (s.seq+rs.length) m):=by
  simp[BB] at c;exact c.symm
 have hC:BF (Di D' s a' 0)=m.length:=by rw[f,Rt p1.2]
 have:=hi (k-1) U;rw[Aen U,show (secs s.epoch rs).length+(1+(k-1))-(secs s.epoch rs).length=k from by omega,AeS,if_neg U] at this;cases this
theorem PInv.begins{D D':Dsk}{s:Sup}{rs:List Rc}{o:List (List UInt8)}{a q u:Int}{b:Bool}{sure:Nat}(h:PInv D s rs o a q u b sure)(hs:SOk s)(n:Crashed D D')(hq:q<=1099511627776){c:List Rc}{a' j e:Int}(r:Runs D' s s.head s.seq 0 c a' j e):c.length<=rs.length/\c=rs.take c.length/\e=((secs s.epoch c).length:Int)/\a'=(s.head+e)%s.len/\j=s.seq+c.length:=by
 have d:=r.pos hs.head;refine (λ(g:c.length<=rs.length/\c=rs.take c.length/\e=((secs s.epoch c).length:Int))=>⟨g.1,g.2.1,g.2.2,d.1,d.2.1⟩) ?_;clear d
 induction r with
 | nil=>exact ⟨by simp,by simp,by simp[secs]⟩
 | @snoc a' j e c ims r hlt hn ih=>
  have d:=r.pos hs.head;obtain ⟨m,k,p⟩:=ih;obtain ⟨t,f,i⟩:=h.one hs n hq m (by rw[<-k];exact p) d.1 d.2.1 hn;have l:=(Ad6.1 f).1;refine ⟨by simp;omega,?_,?_⟩
  ·rw[Ad9,List.length_singleton,AeH,<-k,f,i];rfl
  rw[E8,Ad9,J3,FP];dsimp only;omega
theorem PInv.read{D D':Dsk}{s:Sup}{rs:List Rc}{pt:List (List UInt8)}{a q u:Int}{b:Bool}{sure:Nat}(h:PInv D s rs pt a q u b sure)(hs:SOk s)(n:Crashed D D')(hq:q<=1099511627776){c:List Rc}{a' l f:Int}(r:Runs D' s s.head s.seq 0 c a' l f)(e:s.len<=f\/∀ims,¬nextP (Di D' s a') s.epoch l (s.len-f) ims):sure<=c.length/\c.length<=rs.length/\c=rs.take c.length:=by
 obtain ⟨g1,y,g3,g4,g5⟩:=h.begins hs n hq r;refine ⟨?_,g1,y⟩;rcases Ael c.length sure with v|hge
 ·exfalso
  have a1:=h.sure;have o:=h.fq;have a2:=hs.seq;obtain ⟨d,hr⟩:∃d,rs[c.length]?=some d:=⟨_,Ad7 U⟩;obtain ⟨r1,r2,r3⟩:=h.recs _ _ hr;have t:(rs.take sure)[c.length]?=some d:=by rw[AeS,if_pos v];exact hr
  have k:=KK s.epoch t;have hp:=FP s.epoch d.seq d.ims;have i:(rs.take sure).take c.length=c:=by rw[Aey,Aez U];exact y.symm
  have a4:(secs s.epoch (rs.take sure)).length<=(secs s.epoch rs).length:=by
   have h2:(secs s.epoch rs).length=(secs s.epoch (rs.take sure)).length+(secs s.epoch (rs.drop sure)).length:=by
    rw[<-Ad9,<-E8,AeI]
   omega
  have z:(secs s.epoch c).length+(1+d.ims.length)<=(secs s.epoch (rs.take sure)).length:=by
   rw[k,i,Ad9,Ad9];omega
  have hu:=h.fu;have a0:=h.ul;have m:nextP (Di D' s a') s.epoch l (s.len-f) d.ims:=by
   have e1:l=d.seq:=by omega
   rw[e1];refine Oa r2 r3 hs.epoch (by split at o<;>omega) U λj p x=>?_;have a3:=(Ad6.1 x).1;have w:(secs s.epoch (rs.take sure))[(secs s.epoch c).length+j]?=some p:=by
    rw[k,i,Aec,Aen U,Af6,Aeg U];exact x
   obtain ⟨d1,d2⟩:=h.dura _ _ w;show D'.cont (ringAt s (a'+j))=p;rw[g4,J2,show s.head+f+(j:Int)=s.head+(((secs s.epoch c).length+j:Nat):Int) from by omega,n.cont];rcases n.dur (ringAt s (s.head+(((secs s.epoch c).length+j:Nat):Int))) with g|g
   ·rw[g,d1]
   rw[d2] at g;cases g
  rcases e with g|g
  ·omega
  exact g _ m
 exact hge
end
structure Pg where
 kind:Int
 body:List UInt8
def Pg.Ok(p:Pg):Prop:=(1<=p.kind/\p.kind<=5)/\p.body.length=240
def noPg:Pg:=⟨0,[]⟩
def ID(n:Nat)(p:Pg):List UInt8:=[80,80,65,71]++Ah 1 p.kind++Ah 4 (n:Int)++[0,0,0]++p.body
theorem FQ{n:Nat}{p:Pg}(h:p.Ok):(ID n p).length=252:=by simp[ID,Ai,h.2]
def Ei(n:Nat)(p:Pg):List UInt8:=BA (ID n p)
theorem FR{n:Nat}{p:Pg}(h:p.Ok):(Ei n p).length=256:=sect_len (Agb (FQ h))
def HomeP(c:List UInt8)(n:Nat)(p:Pg):Prop:=(c=List.replicate 256 0/\p=noPg)\/(p.Ok/\c=Ei n p)
theorem Oc{n:Nat}{p:Pg}(h:p.Ok):(Ei n p).take 4=[80,80,65,71]:=by
 have a:=FQ (n:=n) h;have:=B6 (l:=ID n p) U (p:=0) (k:=4) U;rw[Aep,Aep] at this;unfold Ei;rw[this];rfl
theorem Ps{n:Nat}{p:Pg}(h:p.Ok):Ei n p≠List.replicate 256 0:=λe=>by
 have:=Oc (n:=n) h;rw[e] at this;exact absurd this (by decide)
def J4(x:Sup):List UInt8:=[80,83,85,80]++x.list.flatMap (Ah 8)
theorem GL(x:Sup):(J4 x).length=60:=by simp[J4,Sup.list,Ai]
def DC(x:Sup):List UInt8:=BA (J4 x)
theorem GM(x:Sup):(DC x).length=256:=sect_len (by rw[GL];omega)
def GN(m:Img):Pg:=⟨m.kind,m.body⟩
theorem Qb{m:Img}(h:m.Ok):(GN m).Ok:=⟨h.2.1,h.2.2⟩
abbrev BC:=Nat->Option Pg
def pgSet(f:BC)(n:Nat)(p:Pg):BC:=λi=>if i=n then some p else f i
def Do:BC:=λ_=>none
def Hl(f g:BC):BC:=λi=>(g i).or (f i)
def EK(f:BC)(ims:List Img):BC:=ims.foldl (λf m=>pgSet f m.num.toNat (GN m)) f
def ov(rs:List Rc):BC:=rs.foldl (λf r=>EK f r.ims) Do
theorem Jn(rs:List Rc)(r:Rc):ov (rs++[r])=EK (ov rs) r.ims:=by simp[ov,Agu]
def pgMap(f:BC)(B:Nat->Pg):Nat->Pg:=λi=>(f i).getD (B i)
theorem U6(f:BC)(ims:List Img)(m:Img):EK f (ims++[m])=pgSet (EK f ims) m.num.toNat (GN m):=by simp[EK,Agu]
theorem Qc(ims:List Img):∀(f:BC) (n:Nat),(EK f ims n).isSome=((f n).isSome||ims.any λm=>decide (m.num.toNat=n)):=by
 induction ims with
 | nil=>intro f n;simp[EK]
 | cons m ims ih=>
  intro f n;have:EK f (m::ims)=EK (pgSet f m.num.toNat (GN m)) ims:=rfl;rw[this,ih];unfold pgSet;by_cases h:n=m.num.toNat
  ·subst h;simp
  have a:¬m.num.toNat=n:=λe=>h e.symm;simp[h,a]
theorem ovI_get{f:BC}{ims:List Img}{n:Nat}{p:Pg}(h:EK f ims n=some p):f n=some p\/∃m∈ims,m.num.toNat=n/\p=GN m:=by
 induction ims generalizing f with
 | nil=>exact .inl h
 | cons m ims ih=>
  have e:EK f (m::ims)=EK (pgSet f m.num.toNat (GN m)) ims:=rfl;rw[e] at h;rcases ih h with g|⟨c,a,d,b⟩
  ·unfold pgSet at g
   split at g
   ·rename_i e;cases g;exact .inr ⟨m,by simp,e.symm,Z⟩
   exact .inl g
  exact .inr ⟨c,by simp[a],d,b⟩
theorem KL:∀(k:Nat) (rs:List Rc),rs.length=k->∀{n:Nat} {p:Pg},ov rs n=some p->∃r∈rs,∃m∈r.ims,m.num.toNat=n/\p=GN m:=by
 intro k
 induction k with
 | zero=>intro rs d n p h;obtain rfl:=Af7.1 d;cases h
 | succ k ih=>
  intro rs d n p h;obtain ⟨c,r,rfl⟩:∃c r,rs=c++[r]:=⟨rs.dropLast,rs.getLast (by intro e;subst e;simp at d),(List.dropLast_concat_getLast (by intro e;subst e;simp at d)).symm⟩;rw[Jn] at h;rcases ovI_get h with g|⟨m,i,l,j⟩
  ·obtain ⟨f,a,b⟩:=ih c (by simpa using d) g;exact ⟨f,by simp[a],b⟩
  exact ⟨r,by simp,m,i,l,j⟩
def hwD(D:Dsk)(l:List (Nat×Pg)):Dsk:=l.foldl (λD x=>D.wr (2+x.1) [Ei x.1 x.2]) D
theorem U7(D:Dsk)(l:List (Nat×Pg))(x:Nat×Pg):hwD D (l++[x])=(hwD D l).wr (2+x.1) [Ei x.1 x.2]:=by simp[hwD,Agu]
theorem hwD_cons(D:Dsk)(l:List (Nat×Pg))(x:Nat×Pg):hwD D (x::l)=hwD (D.wr (2+x.1) [Ei x.1 x.2]) l:=rfl
theorem S5(D:Dsk)(x:Nat)(ps:List (List UInt8)):(D.wr x ps).dur=D.dur:=ws_dur ps {D with f2:=Be D.f2} x
theorem E9(l:List (Nat×Pg)):∀D:Dsk,(hwD D l).n=D.n:=by
 induction l with
 | nil=>intro D;rfl
 | cons x l ih=>intro D;rw[hwD_cons,ih,Dsk.wr_n]
theorem KM(l:List (Nat×Pg)):∀D:Dsk,(hwD D l).dur=D.dur:=by
 induction l with
 | nil=>intro D;rfl
 | cons x l ih=>intro D;rw[hwD_cons,ih,S5]
theorem hw_has(l:List (Nat×Pg)):∀(D:Dsk) (i:Nat) (c:List UInt8),Dn (hwD D l) i c->Dn D i c\/∃x∈l,i=2+x.1/\c=Ei x.1 x.2:=by
 induction l with
 | nil=>intro D i c h;exact .inl h
 | cons x l ih=>
  intro D i c h;rw[hwD_cons] at h;rcases ih _ _ _ h with g|⟨y,b,e,d⟩
  ·rcases wr_has g with g|⟨f,a⟩
   ·exact .inl g
   have:i-(2+x.1)=0:=by
    have:=(Ad6.1 a).1;simp at this;omega
   rw[this] at a;simp at a;exact .inr ⟨x,by simp,by omega,a.symm⟩
  exact .inr ⟨y,by simp[b],e,d⟩
theorem KN(l:List (Nat×Pg)):∀(D:Dsk) (i:Nat),(∀x∈l,i≠2+x.1)->(hwD D l).ver i=D.ver i:=by
 induction l with
 | nil=>intro D i _;rfl
 | cons x l ih=>
  intro D i h;rw[hwD_cons,ih _ _ (λy a=>h y (by simp[a]))];refine Gs _ _ _ _ ?_;have:=h x O;simp only[Aeb,Aew];omega
theorem hw_cont_out(l:List (Nat×Pg))(D:Dsk)(i:Nat)(h:∀x∈l,i≠2+x.1):(hwD D l).cont i=D.cont i:=by
 unfold Dsk.cont;rw[KN l D i h,KM]
theorem Xk(l:List (Nat×Pg)):∀(D:Dsk),(l.map Prod.fst).Nodup->∀x∈l,(hwD D l).cont (2+x.1)=Ei x.1 x.2:=by
 induction l with
 | nil=>intro D _ x h;cases h
 | cons y l ih=>
  intro D b x a;rw[hwD_cons];simp only[AeE,Afc] at b;rcases Aei.1 a with rfl|a
  ·rw[hw_cont_out]
   ·rw[wr_cont,if_pos (Aed _),Agw];rfl
   intro z c e;exact b.1 (Aeh.2 ⟨z,c,by omega⟩)
  exact ih _ b.2 x a
theorem Od(l:List (Nat×Pg)):∀(D:Dsk) (i:Nat),(l.map Prod.fst).Nodup->((hwD D l).ver i).length<=(D.ver i).length+1:=by
 induction l with
 | nil=>intro D i _;show (D.ver i).length<=_;omega
 | cons y l ih=>
  intro D i a;rw[hwD_cons];simp only[AeE,Afc] at a;by_cases hi:i=2+y.1
  ·rw[KN]
   ·exact Dsk.wr_len _ _ _ _
   intro z c e;exact a.1 (Aeh.2 ⟨z,c,by omega⟩)
  have b:=ih (D.wr (2+y.1) [Ei y.1 y.2]) i a.2;rw[Gs D _ _ i (by simp only[Aeb,Aew];omega)] at b;exact b

def Fi(D:Dsk)(x:Sup):Dsk:= {Dsk.ws {D with f2:=Be D.f2} true (x.gen%2).toNat [DC x] with left:=max 0 (D.left-1)}
theorem HH(D:Dsk)(x:Sup):(Fi D x).dur (x.gen%2).toNat=DC x/\(Fi D x).ver (x.gen%2).toNat=[]:=by
 constructor
 ·show (Dh D.dur _ _) _=_;simp[Dh]
 show (Dh D.ver _ _) _=_;simp[Dh]
theorem ER(D:Dsk)(x:Sup)(i:Nat)(h:i≠(x.gen%2).toNat):(Fi D x).dur i=D.dur i/\(Fi D x).ver i=D.ver i:=by
 constructor
 ·show (Dh D.dur _ _) _=_;unfold Dh;rw[if_neg h]
 show (Dh D.ver _ _) _=_;unfold Dh;rw[if_neg h]
theorem Yj(a i:Nat)(b x2:Value):Cn prog 273 [.pointer (some ⟨a,1,none⟩)] [blk a (BQ b (.int .i32 0) x2 i) 220] (λv Γ=>v=.tuple #[]/\Γ=[blk a (BQ b (.int .i32 1) x2 i) 220]):=by
 intro z R w H;replace H:=H.l1;refine Ae func273 Z ntmps273 Z (Zc 2 Z (Ab Z (G5 (v:=.tuple #[]) (vs:=[]) Z Z (λw _=>run_call_mark0 func278 J J J .disable J w)) (Z0 8 [1] Z (AQ Z (Rl 0 (p:=1) (u0:=.int .i32 0) (u:=.int .i32 1) (v:=.bool true) H Z Z Z (vs:=[.pointer (some ⟨a,1,none⟩),.int .i32 0,.int .i32 1]) Z Z (λc d=>run_call_cas_hit func279 J J J .i32 J c d) (out:=(BQ b (.int .i32 1) x2 i)) Z) ?_))));rintro _ w ⟨rfl,H⟩;replace H:=H.l1;refine Zc 7 Z (Ab Z (G5 (v:=.tuple #[]) (vs:=[]) Z Z (λw _=>run_call_mark0 func280 J J J .enable J w)) (Zc 4 Z (Ab Z (NM Z J Z (Ay (H.cel 0 Z 1 Z))) (Ab Z (G5 (v:=.tuple #[]) (vs:=[.pointer (some ⟨a,1,none⟩)]) Z Z (λw _=>run_call_marked func281 J J J .acquire J _ w)) (Zc 3 Z (Zr Z ?_))))));exact ⟨_,⟨Z,Z⟩,H⟩
theorem S6(a i:Nat)(b x2:Value):Cn prog 274 [.pointer (some ⟨a,1,none⟩)] [blk a (BQ b (.int .i32 1) x2 i) 220] (λv Γ=>v=.tuple #[]/\Γ=[blk a (BQ b (.int .i32 0) x2 i) 220]):=by
 intro z R w H;replace H:=H.l1;refine Ae func274 Z ntmps274 Z (Z2 13 [1,0,0] H Z (Ab Z (NM Z J Z (Ay (H.cel 0 Z 1 Z))) (Ab Z (G5 (v:=.tuple #[]) (vs:=[.pointer (some ⟨a,1,none⟩)]) Z Z (λw _=>run_call_marked func283 J J J .releaseMerge J _ w)) (Zc 3 Z (Ab Z (G5 (v:=.tuple #[]) (vs:=[]) Z Z (λw _=>run_call_mark0 func278 J J J .disable J w)) (Z0 7 [1] Z (AQ Z (Rl 0 (p:=1) (u0:=.int .i32 1) (u:=.int .i32 0) (v:=.int .i32 0) H Z Z Z (vs:=[.pointer (some ⟨a,1,none⟩),.int .i32 (-1)]) Z Z (λc d=>run_call_add func284 J J J .i32 J (s:=0) c d (by simp[go_sem];rfl)) (out:=(BQ b (.int .i32 0) x2 i)) Z) ?_)))))));rintro _ w ⟨rfl,H⟩;replace H:=H.l1;refine Z0 14 [4] Z (Ab Z (G5 (v:=.tuple #[]) (vs:=[]) Z Z (λw _=>run_call_mark0 func280 J J J .enable J w)) (Zc 1 Z (Zf Z ?_)));exact ⟨_,⟨Z,Z⟩,H⟩
theorem Abg(a i:Nat)(b x2:Value):Cn prog 263 [.pointer (some ⟨a,1,none⟩)] [blk a (BQ b (.int .i32 0) x2 i) 220] (λv Γ=>v=.tuple #[]/\Γ=[blk a (BQ b (.int .i32 1) x2 i) 220]):=by
 intro z R w H;replace H:=H.l1;refine Ae func263 Z ntmps263 Z (Z0 4 [1] Z (z_E_ Z (call273 _) (Yj _ _ _ _) H ?_));intro w H;refine Zc 1 Z (Zf Z ?_);exact ⟨_,⟨Z,Z⟩,H⟩
theorem U8(a i:Nat)(b x2:Value):Xi prog 264 [.pointer (some ⟨a,1,none⟩)] [blk a (BQ b (.int .i32 1) x2 i) 220] (λv Γ=>v=.tuple #[]/\Γ=[blk a (BQ b (.int .i32 0) x2 i) 220]):=by
 intro z R u w c;have H:=c.l1;refine NN func264 Z 6 ntmps264 Z (AI (Mn 3 [1] Z J (Ft Z Z Z Z Z (λw=>call274 _ w) (S6 _ _ _ _) H Z ?_)));rintro _ w _ ⟨rfl,rfl⟩ c;have H:=c.l1;refine AP (dn0 Z ?_);exact ⟨[blk a (BQ b (.int .i32 0) x2 i) 220],⟨Z,Z⟩,H⟩
theorem Ac2:Cn prog 276 [.bool true] [] (λv Γ=>v=.int .u32 1/\Γ=[]):=by
 intro z R w H;replace H:=H.l0;refine Ae func276 Z ntmps276 Z (Zc 18 Z (Zr Z ?_));exact ⟨_,⟨Z,Z⟩,H⟩
theorem Oe(a i:Nat)(b x2:Value):Cn prog 239 [Y a] [blk a (BQ (.int .u32 0) b x2 i) 220] (λv Γ=>v=.bool false/\Γ=[blk a (BQ (.int .u32 0) b x2 i) 220]):=by
 intro z R w H;replace H:=H.l1;refine Ae func239 Z ntmps239 Z (Z0 10 [0] Z (Ab Z (G5 (v:=.int .u32 0) (vs:=[Y a]) Z Z (Ay (run_call_load func262 J J J .u32 J (H.cel 0 Z 0 Z)))) (Z0 5 [4] Z (Zr Z ?_))));exact ⟨_,⟨Z,Z⟩,H⟩
theorem U9(a i:Nat)(b x2:Value):Cn prog 239 [Y a] [blk a (BQ (.int .u32 1) b x2 i) 220] (λv Γ=>v=.bool true/\Γ=[blk a (BQ (.int .u32 1) b x2 i) 220]):=by
 intro z R w H;replace H:=H.l1;refine Ae func239 Z ntmps239 Z (Z0 10 [0] Z (Ab Z (G5 (v:=.int .u32 1) (vs:=[Y a]) Z Z (Ay (run_call_load func262 J J J .u32 J (H.cel 0 Z 0 Z)))) (Z0 5 [3] Z (Zr Z ?_))));exact ⟨_,⟨Z,Z⟩,H⟩
theorem Va(b i:Nat)(c x2:Value):Xi prog 265 [Y b,.bool true] [blk b (BQ (.int .u32 0) c x2 i) 220] (λv Γ=>v=.tuple #[]/\Γ=[blk b (BQ (.int .u32 1) c x2 i) 220]):=by
 intro z R u w a;have H:=a.l1;refine NN func265 Z 10 ntmps265 Z (Bl (Sep z (blk b (BQ (.int .u32 0) c x2 i) 220::R)) 6 Z J (A5 H λw a=>?_));have H:=a.l1;refine Bw [0,1,2,3] [0] J (λ_ _=>AN) (by exact H.pick 1 [0] Z) Z J Z Z (AF [4] J O (An (Bo Z Z Z Z Z Z (λw=>call276 _ w) (Ac2) H Z ?_)));rintro _ w _ ⟨rfl,rfl⟩ a;have H:=a.l1;refine Au (λ_=>(H.pick 1 [0] Z)) (AF [5] J O (An (Ca Z Z Z Z (Rl 0 (p:=0) (u0:=.int .u32 0) (u:=.int .u32 1) (v:=.tuple #[]) H Z Z Z (vs:=[Y b,.int .u32 1]) Z Z (λd e=>run_call_store func275 J J J J d e) (out:=(BQ (.int .u32 1) c x2 i)) Z) ?_)));rintro _ w ⟨rfl,a⟩;have H:=a.l1;refine Au (λh=>absurd Z h) (Bn J (dn0 Z ?_));exact ⟨[blk b (BQ (.int .u32 1) c x2 i) 220],⟨Z,Z⟩,H⟩
theorem Abh(b:Nat)(c d x2:Value):Cn prog 214 [Y b] [blk b (BQ c d x2 0) 220] (λv Γ=>v=.tuple #[]/\Γ=[blk b (BQ c d x2 256) 220]):=by
 intro z R w H;replace H:=H.l1;refine Ae func214 Z ntmps214 Z (Zc 6 Z ?_);refine AD (σ:=Nat) (λi=>[(4,I (i:Int)),(0,Y b)])
   (λi w=>Sep z (blk b (BQ c d x2 i) 220::R) w/\(i<=256)) (λi=>256-i) 0
   fr_z ⟨H,by omega⟩ ?_
 clear H;rintro i w ⟨f,e⟩;have H:=f.l1;have g:=e;clear e;refine Z0 6 [0] Z (Ag Z (λl=>?_) (λl=>?_))
 ·have h:i<256:=by omega
  refine Zc 13 Z (Ab Z (Sn Z J Z) (Zc 10 Z ?_));refine AD (σ:=Nat) (λj=>[(9,I (j:Int)),(3,u32 (Jk j (Fs (i:Int)))),(0,Y b),(2,I (i:Int)),(4,I (i:Int)),(5,.bool (decide ((i:Int)<256))),(6,I (i:Int)),(7,I (i:Int)),(8,u32 (Fs (i:Int)))])
    (λj w=>Sep z (blk b (BQ c d x2 i) 220::R) w/\(j<=8)) (λj=>8-j) 0
    (λ_ a=>(a.co Z (by go_num) a.cz)) ⟨H,by omega⟩ ?_
  clear H;rintro j w ⟨f,e⟩;have H:=f.l1;have k:=e;clear e;refine Z0 6 [0] Z (Ag Z (λn=>?_) (λn=>?_))
  ·refine Zc 6 Z (Ab Z (Hv Z Z (m:=1) (n':=1) Z (by decide)) (Zc 1 Z (Ab Z (XH (q:=1) Z Z Z) (Ab Z (XI (q:=2197175160) Z Z Z) (Ab Z (PJ Z Z Z) (Z1 8 [] [(j:Int)+1] Z U (gf ?_)))))));intro _ a;refine ⟨(j+1),(a.co Z (by go_num) a.cz),⟨H,?_⟩,?_⟩
   ·omega
   omega
  obtain rfl:j=8:=by omega
  refine Zc 2 Z (gx (Z1 9 [3,256,1,i,3+i] [] Z U (Az Z Z (Ak 0 H Z Z Z Z (vs:=[u32 (Jk 8 (Fs (i:Int)))]) Z (by simp[u32,Value.oneCell']) J (by rw[UN _ _ _ U];simp;omega) (out:=BQ c d x2 (i+1)) (by have:=SW c d x2 h;simpa using this)) ?_)));rintro w H;replace H:=H.l1;refine Z1 7 [] [(i:Int)+1] Z U (gf ?_);intro _ a;refine ⟨(i+1),a.cz,⟨H,?_⟩,?_⟩
  ·omega
  omega
 refine Zc 2 Z (gx (Zc 1 Z (Zf Z ?_)));obtain rfl:i=256:=by omega
 exact ⟨_,⟨Z,Z⟩,H⟩
theorem Abi(c:Nat):Cn prog 240 [Y c,.func (.func 214) #[Y c] #[]] [blk c (BQ (.int .u32 0) (.int .i32 0) (.int .u32 0) 0) 220] (λv Γ=>v=.tuple #[]/\Γ=[blk c (BQ (.int .u32 1) (.int .i32 0) (.int .u32 0) 256) 220]):=by
 intro z R w b;have H:=b.l1;refine SM func240 Z 21 ntmps240 Z (AX (AI (Mn 3 [1] Z J (Ft Z Z Z Z Z (λw=>call263 _ w) (Abg _ _ _ _) H Z ?_))));rintro _ w _ ⟨rfl,rfl⟩ b;have H:=b.l1;refine AP (AX (AI (Mn 3 [1] Z J (LH Z Z Z Z (AP (AX (AI (Mn 3 [0] Z J (Ft Z Z Z Z Z (λw=>call239 _ w) (Oe _ _ _ _) H Z ?_)))))))));rintro _ w _ ⟨rfl,rfl⟩ b;have H:=b.l1;refine BY 1 Z Z (AP (R8 Z (AX (AI (Mn 3 [0] Z J (LH Z Z Z Z (AP (AI (BY 1 Z Z (XV (bs:=[Y c]) (vs:=[]) Z Z Z Z Z Z (λw=>call214 _ w) (Abh c (.int .u32 0) (.int .i32 1) (.int .u32 0)) H 1 [0] Z Z ?_))))))))));rintro _ w _ ⟨rfl,rfl⟩ b;have H:=b.l1;refine AP ?_;intro a d;unfold Ji;rw[d.defers];refine GH (λw=>call265 _ w) (Va c 256 (.int .i32 1) (.int .u32 0)) H 1 [0] Z Z ?_;rintro _ w _ ⟨rfl,rfl⟩ b;clear H;have H:Sep z (blk c (BQ (.int .u32 1) (.int .i32 1) (.int .u32 0) 256) 220::R) w:=b;refine GH (λw=>call264 _ w) (U8 c 256 (.int .u32 1) (.int .u32 0)) H 1 [0] Z Z ?_;rintro _ w _ ⟨rfl,rfl⟩ b;exact AcY Z ⟨_,⟨Z,Z⟩,b⟩
theorem Ac3(a:Nat):Cn prog 213 [Y a,.func (.func 214) #[Y a] #[]] [blk a (BQ (.int .u32 0) (.int .i32 0) (.int .u32 0) 0) 220] (λv Γ=>v=.tuple #[]/\Γ=[blk a (BQ (.int .u32 1) (.int .i32 0) (.int .u32 0) 256) 220]):=by
 intro z R w H;replace H:=H.l1;refine Ae func213 Z ntmps213 Z (Z0 5 [0] Z (z_E_ Z (call239 _) (Oe _ _ _ _) H ?_));intro w H;refine Zc 7 Z (z_E_ Z (call240 _) (Abi _) H ?_);intro w H;refine Zc 1 Z (Zf Z ?_);exact ⟨_,⟨Z,Z⟩,H⟩
theorem Ac4(a:Nat):Cn prog 213 [Y a,.func (.func 214) #[Y a] #[]] [blk a (BQ (.int .u32 1) (.int .i32 0) (.int .u32 0) 256) 220] (λv Γ=>v=.tuple #[]/\Γ=[blk a (BQ (.int .u32 1) (.int .i32 0) (.int .u32 0) 256) 220]):=by
 intro z R w H;replace H:=H.l1;refine Ae func213 Z ntmps213 Z (Z0 5 [0] Z (z_E_ Z (call239 _) (U9 _ _ _ _) H ?_));intro w H;refine Zc 5 Z (Zf Z ?_);exact ⟨_,⟨Z,Z⟩,H⟩
theorem AdJ(a:Nat):Cn prog 213 [Y a,.func (.func 214) #[Y a] #[]] [tblA a] (λv Γ=>v=.tuple #[]/\Γ=[blk a (BQ (.int .u32 1) (.int .i32 0) (.int .u32 0) 256) 220]):=Cn.or (Ac3 a) (Ac4 a)
theorem Of:Cn prog 80 [] [] (λv Γ=>(∃a,v=Y a/\Γ=[tblA a])):=by
 intro z R w H;replace H:=H.l0;refine Ae func80 Z ntmps80 Z (Zc 7 Z (Ab Z (Bc Z Z (out:=(BQ (.int .u32 0) (.int .i32 0) (.int .u32 0) 0)) J) (AQ Z (G0 H Z Z (cs:=(BQ (.int .u32 0) (.int .i32 0) (.int .u32 0) 0)) Z) ?_)));rintro _ w ⟨b,rfl,H⟩;replace H:=H.l1;refine Zc 4 Z (Zr Z ?_);have H:=H.mono 0 (B:=tblA b) Z (λh q=>.inl q);exact ⟨_,⟨b,Z,Z⟩,H⟩
theorem S7(e:Nat)(a:UInt32)(v:Value)(bs:List UInt8)(A:Af)(g:∀h,A h->rdH 1 v bs.length (bs.map u8) h):Cn prog 183 [Y e,u32 a,v] [tblA e,A] (λv Γ=>v=u32 (ED a bs)/\Γ=[tblA e,A]):=by
 intro z R w H;replace H:=H.l2;obtain ⟨p,c,rfl⟩:=H.sy 1 (λq=>(g _ q).slc);have o:=H.sy 1 (λq=>(g _ q).small);refine Ae func183 Z ntmps183 Z (Z0 11 [0] Z (Ab Z (C4 Z Z Z) (z_E_ Z (call213 _) (AdJ _) H ?_)));intro w H;refine Zc 5 Z (Ab Z (PK Z Z) (Zc 12 Z ?_));refine AD (σ:=Nat) (λk=>[(20,I (k:Int)),(7,u32 ((bs.take k).foldl HF (4294967295 ^^^ a))),(0,Y e),(6,u32 0),(18,.slice p bs.length c),(19,I (bs.length:Int))])
   (λk w=>Sep z (blk e (BQ (.int .u32 1) (.int .i32 0) (.int .u32 0) 256) 220::A::R) w/\(k<=bs.length)) (λk=>bs.length-k) 0
   (λ_ d=>(d.co Z (by go_num) d.cz)) ⟨H,by omega⟩ ?_
 clear H;rintro k w ⟨t,i⟩;have H:=t.l2;have x:=i;clear i;refine Z0 6 [0] Z (Ag Z (λs=>?_) (λs=>?_))
 ·obtain ⟨b,n⟩:∃b,bs[k]?=some b:=⟨_,Ad7 U⟩;refine Zc 6 Z ?_;have f:=(H.rd 1 Z g).at (j:=k) (u:=u8 b) (by simp[n])
  refine Ab Z (Aj Z (z:=1) (j:=k) (r:=k) J Z Z Z U f U) (Ab Z (Ax Z Z J (Ay f)) (Zc 5 Z (Ab Z (Hv Z Z (m:=8) (n':=8) Z (by decide)) (Zc 2 Z (Ab Z (Hw Z J Z) (Zc 1 Z (Ab Z (AaF Z Z Z) (Z0 2 [3] Z (Ab Z (JM (l:=256) Z (z:=1) (j:=((((bs.take k).foldl HF (4294967295 ^^^ a)).toUInt8) ^^^ b).toNat) (r:=3+(((bs.take k).foldl HF (4294967295 ^^^ a)).toUInt8 ^^^ b).toNat) J Z Z Z (UInt8.toNat_lt _) U) (Ab Z (Bf Z Z J (Ay (H.cel 0 Z _ (SX _ _ _ _)))) (Ab Z (PJ Z Z Z) (Z1 8 [] [(k:Int)+1] Z U (gf ?_)))))))))))));intro _ d;refine ⟨(k+1),(d.co Z (by go_num) (d.co Z (congrArg u32 (by rw[AeH,n];simp[HF])) (d.all Z))),⟨H,?_⟩,?_⟩
  ·omega
  omega
 refine Zc 2 Z (gx (Zc 5 Z (Ab Z (PK Z Z) (Zc 4 Z (Zr Z ?_)))));obtain rfl:k=bs.length:=by omega
 have H:=H.mono 0 (B:=tblA e) Z (λh q=>.inr q);exact ⟨_,⟨congrArg u32 (by simp[ED]),Z⟩,H⟩
theorem Yk(a:Nat)(v:Value)(bs:List UInt8)(A:Af)(b:∀h,A h->rdH 1 v bs.length (bs.map u8) h):Cn prog 183 [Y a,.int .u32 0,v] [tblA a,A] (λv Γ=>v=u32 (A8 bs)/\Γ=[tblA a,A]):=by
 have h:=S7 a 0 v bs A b;rw[show u32 0=Value.int .u32 0 from Z] at h;exact h
theorem Xl(a:Nat)(v:Value)(n:Nat)(bs:List UInt8)(c:bs.length=n)(A:Af)(b:∀h,A h->rdH 1 v n (bs.map u8) h):Cn prog 218 [Y a,v] [tblA a,A] (λv Γ=>v=u32 (A8 bs)/\Γ=[tblA a,A]):=by
 intro z R w H;replace H:=H.l2;subst c;refine Ae func218 Z ntmps218 Z (Zc 9 Z (z_E_ Z (call183 _) (Yk _ _ bs _ b) H ?_));intro w H;refine Zc 4 Z (Zr Z ?_);exact ⟨_,⟨Z,Z⟩,H⟩
theorem Og(a:Nat)(v:Value)(n:Nat)(bs:List UInt8)(c:bs.length=n)(A:Af)(b:∀h,A h->rdH 1 v n (bs.map u8) h):Cn prog 212 [Y a,v] [tblA a,A] (λv Γ=>v=.agg #[u8 ((A8 bs).toUInt8),u8 (((A8 bs)>>>8).toUInt8),u8 (((A8 bs)>>>16).toUInt8),u8 (((A8 bs)>>>24).toUInt8)]/\Γ=[tblA a,A]):=by
 intro z R w H;replace H:=H.l2;refine Ae func212 Z ntmps212 Z (Zc 2 Z (AQ Z (Cb (P:=prog) H Z (zs:=[u8 0,u8 0,u8 0,u8 0]) J) ?_));rintro _ w ⟨d,rfl,H⟩;replace H:=H.l3;refine Zc 6 Z (z_E_ Z (call218 _) (Xl _ _ _ bs U _ b) H.f2.f2 ?_);intro w H;refine Zc 6 Z (Ab Z (Hw Z J Z) (Zc 1 Z (Ab Z (Hv Z Z (m:=8) (n':=8) Z (by decide)) (Ab Z (Hw Z J Z) (Zc 1 Z (Ab Z (Hv Z Z (m:=16) (n':=16) Z (by decide)) (Ab Z (Hw Z J Z) (Zc 1 Z (Ab Z (Hv Z Z (m:=24) (n':=24) Z (by decide)) (Ab Z (Hw Z J Z) (Ab Z (Bc Z Z (out:=[u8 ((A8 bs).toUInt8),u8 (((A8 bs)>>>8).toUInt8),u8 (((A8 bs)>>>16).toUInt8),u8 (((A8 bs)>>>24).toUInt8)]) J) (Z4 4 [2] H Z ?_))))))))))));intro w H;refine Zl [2,4] H Z ?_;exact ⟨_,⟨Z,Z⟩,H.perm 3 [0,1] Z Z⟩
theorem CE(c a k:Nat)(x:Int)(bs:List UInt8)(g:bs.length=256)(n:a+k<=256/\k<=8):Cn prog 87 [Y c,I x,I (k:Int)] [blk c (A4 bs (a:Int)) 154] (λv Γ=>v=.tuple #[]/\Γ=[blk c (A4 (Br bs (Ah k x) a) ((a+k:Nat):Int)) 154]):=by
 intro z R w H;replace H:=H.l1;refine Ae func87 Z ntmps87 Z (Zc 8 Z ?_);refine AD (σ:=Nat) (λi=>[(8,I (i:Int)),(0,Y c),(1,I x),(2,I (k:Int)),(7,I (k:Int))])
   (λi w=>Sep z (blk c (A4 (Gj bs (Ah k x) a i) (a:Int)) 154::R) w/\(i<=k)) (λi=>k-i) 0
   fr_z ⟨(by rw[UO];exact H),by omega⟩ ?_
 clear H;rintro i w ⟨e,f⟩;have H:=e.l1;have j:=f;clear f;have d:(Gj bs (Ah k x) a i).length=256:=by rw[X8 U (by rw[Ai];omega)];exact g
 refine Z0 6 [0] Z (Ag Z (λh=>?_) (λh=>?_))
 ·have hi:i<k:=by omega
  refine Zc 10 Z (BG 18 J J (A5 H λw e=>?_));have H:=e.l1;refine PO 4 [256] Z J (B9 Z Z Z (Bf Z Z J (Ay (H.cel 0 Z 256 (NV _ d)))) (EQ 8 [] [((a+i:Nat):Int),(k:Int)-1,((k-1-i:Nat):Int),((8*(k-1-i):Nat):Int)] H Z J U (B9 Z Z Z (AaI Z Z Z (m:=8*(k-1-i)) Z U) (B9 Z Z Z (Q8 Z J Z) (EQ 3 [0,256,1,(a+i),a+i] [] H Z J U (CD (gw (Az Z Z (Ak 0 H Z Z Z Z (vs:=[u8 (GC (x/2^(8*(k-1-i))))]) Z (by simp[u8,u32,Value.oneCell']) J (by rw[Fh _ d];simp;omega) (out:=(A4 (Gj bs (Ah k x) a (i+1)) (a:Int))) (UR _ (by rw[Ai];omega) (beN_get x hi))) ?_))))))));rintro w H;replace H:=H.l1;refine Z1 7 [] [(i:Int)+1] Z U (gf ?_);intro _ l;refine ⟨(i+1),l.cz,⟨H,?_⟩,?_⟩
  ·omega
  omega
 obtain rfl:i=k:=by omega
 rw[X9 bs (Ah i x) a (by rw[Ai])] at H;have b:(Br bs (Ah i x) a).length=256:=by rw[Es (by rw[Ai];omega)];exact g
 refine Zc 2 Z (gx (Z0 6 [256] Z (Ab Z (Bf Z Z J (Ay (H.cel 0 Z 256 (NV _ b)))) (Z1 4 [256] [((a+i:Nat):Int)] Z U (Az Z Z (Ak 0 H Z Z Z Z (vs:=[I ((a+i:Nat):Int)]) Z (by simp[u8,u32,Value.oneCell']) J (by rw[Fh _ b];simp) (out:=(A4 (Br bs (Ah i x) a) ((a+i:Nat):Int))) (Jl _ _ b)) ?_)))));rintro w H;replace H:=H.l1;refine Zc 1 Z (Zf Z ?_);exact ⟨_,⟨Z,Z⟩,H⟩
theorem IT(b a:Nat)(s bs:List UInt8)(c:bs.length=256)(f:a+s.length<=256/\a<256):Cn prog 178 [Y b,Cj s] [blk b (A4 bs (a:Int)) 154] (λv Γ=>v=.tuple #[]/\Γ=[blk b (A4 (Br bs s a) ((a+s.length:Nat):Int)) 154]):=by
 intro z R w H;replace H:=H.l1;refine Ae func178 Z ntmps178 Z (Bl (Sep z (wrH b (a:Int)::R)) 18 Z J (A5 H λw e=>?_));have H:=e.l1;refine Bw [0,1,2] [256] J (λ_ _=>AN) (by exact H.mono 0 (B:=wrH b (a:Int)) Z (λh q=>⟨_,c,q⟩)) Z J Z Z (BS 3 J Z Z J J J Z Z Z (Bf Z Z J (λ_ d=>d.cell 0 Z (λh q=>wrH.at q))) (H.mono 0 (B:=wrH b (a:Int)) Z (λh q=>⟨_,c,q⟩)) (Bw [4,5,6,7,8,9] [0,256] J (λ_ _=>AN) (by exact H.mono 0 (B:=wrH b (a:Int)) Z (λh q=>⟨_,c,q⟩)) Z J Z Z (BS 10 J Z Z J J J Z Z Z (Bf Z Z J (λ_ d=>d.cell 0 Z (λh q=>wrH.at q))) (H.mono 0 (B:=wrH b (a:Int)) Z (λh q=>⟨_,c,q⟩)) (BS 11 J Z Z J J J Z Z Z (GD Z (n':=256) (z:=1) (p:=a) (q:=256) (o':=a) (l':=256-a) (c':=256-a) J Z (.inr ⟨_,_,_,Z,Z,Z⟩) (.inl ⟨Z,Z⟩) U U U U U U) (H.mono 0 (B:=wrH b (a:Int)) Z (λh q=>⟨_,c,q⟩)) (Bw [12] [] J (λ_ _=>AN) (by exact H.mono 0 (B:=wrH b (a:Int)) Z (λh q=>⟨_,c,q⟩)) Z J Z Z (AF [13] J O (An (Ca Z Z Z Z (F4 0 H Z Z J Z Z (m:=s.length) (news:=(s.map u8)) (.inr ⟨s,Z,Z,Z⟩) (by simp[u8,Value.oneCell']) (by rw[Fh _ c];omega) (k:=s.length) U (out:=(A4 (Br bs s a) (a:Int))) (NW _ U Z)) ?_))))))));rintro _ w ⟨rfl,H⟩;replace H:=H.l1;refine Au (λ_=>(H.mono 0 (B:=wrH b (a:Int)) Z (λh q=>⟨_,((Es U).trans c),q⟩))) (BS 14 J Z Z J J J Z Z Z (CZ Z Z Z (r:=((a+s.length:Nat):Int)) U U) (H.mono 0 (B:=wrH b (a:Int)) Z (λh q=>⟨_,((Es U).trans c),q⟩)) (Bw [15,16] [256] J (λ_ _=>AN) (by exact H.mono 0 (B:=wrH b (a:Int)) Z (λh q=>⟨_,((Es U).trans c),q⟩)) Z J Z Z (AF [17] J O (An (Bg Z Z Z (Ak 0 H Z Z Z Z (vs:=[I ((a+s.length:Nat):Int)]) Z (by simp[u8,u32,Value.oneCell']) J (by rw[Fh _ ((Es U).trans c)];simp) (out:=(A4 (Br bs s a) ((a+s.length:Nat):Int))) (Jl _ _ ((Es U).trans c))) ?_)))));rintro w H;replace H:=H.l1;refine Au (λh=>absurd Z h) (Bn J (gn (Zf Z ?_)));exact ⟨_,⟨Z,Z⟩,H⟩
theorem Ix(b d:Nat)(a:Int)(bs:List UInt8)(c:bs.length=256):Cn prog 179 [Y b,Y d] [blk b (A4 bs (a:Int)) 154,tblA d] (λv Γ=>v=.slice (some ⟨b,0,none⟩) 256 256/\Γ=[blk b (A4 (NX bs) (a:Int)) 154,tblA d]):=by
 intro z R w H;replace H:=H.l2;refine Ae func179 Z ntmps179 Z (Z0 11 [0] Z (Ab Z (GD Z (n':=256) (z:=1) (p:=0) (q:=252) (o':=0) (l':=252) (c':=256) J Z (.inl ⟨Z,Z⟩) (.inr ⟨_,_,_,Z,Z,Z⟩) U U U U U U) (z_E_ Z (call212 _) (Og _ _ _ (bs.take 252) (by simp[c]) _ (λh q=>HG q c U U U O)) H.f1 ?_)));intro w H;replace H:=H.l2;refine AQ Z (Cb (P:=prog) H Z (zs:=[u8 0,u8 0,u8 0,u8 0]) J) ?_;rintro _ w ⟨f,rfl,H⟩;replace H:=H.l3;refine Z4 4 [0] H Z ?_;intro w H;refine BG 5 J J (A5 H λw e=>?_);have H:=e.l3;refine PO 3 [0] Z J (B9 Z Z Z (GD Z (n':=256) (z:=1) (p:=252) (q:=256) (o':=252) (l':=4) (c':=4) J Z (.inr ⟨_,_,_,Z,Z,Z⟩) (.inl ⟨Z,Z⟩) U U U U U U) (B9 Z Z Z (GD Z (n':=4) (z:=1) (p:=0) (q:=4) (o':=0) (l':=4) (c':=4) J Z (.inl ⟨Z,Z⟩) (.inl ⟨Z,Z⟩) U U U U U U) (CD (gw (AQ Z (F4 2 H Z Z J Z Z (m:=4) (news:=((Ir (A8 (bs.take 252))).map u8)) (.inl (H.rv 0 (·.rd U U O Z))) (by simp[Ir,u8,Value.oneCell']) (by rw[Fh _ c];omega) (k:=4) U (out:=(A4 (NX bs) (a:Int))) (NW _ (by simp[Ir,c]) Z)) ?_)))));rintro _ w ⟨rfl,H⟩;replace H:=H.l3;refine Z0 7 [0] Z (Ab Z (GD Z (n':=256) (z:=1) (p:=0) (q:=256) (o':=0) (l':=256) (c':=256) J Z (.inl ⟨Z,Z⟩) (.inl ⟨Z,Z⟩) U U U U U U) (Zc 4 Z (Zr Z ?_)));exact ⟨_,⟨Z,Z⟩,H.perm 3 [2,1] Z Z⟩
theorem Cz(k:Nat)(d b o n c:Nat)(xs:List UInt8)(A:Af)(f:∀h,A h->rdH 1 (.slice (some ⟨b,o,none⟩) n c) n (xs.map u8) h)(hn:n<=c/\k<c)(hk:k<=n)(ys:List UInt8)(t:xs.take k=ys)(o2 g c2:Nat)(e:o+k=o2)(h2:n-k=g)(s:c-k=c2):Cn prog 150 [Y d,I (k:Int)] [blk d [.slice (some ⟨b,o,none⟩) n c] 243,A] (λv Γ=>v=I (AW ys)/\Γ=[blk d [.slice (some ⟨b,o2,none⟩) g c2] 243,A]):=by
 intro z R w H;replace H:=H.l2;subst t e h2 s;have a0:=H.sy 1 (λq=>(f _ q).len);have u:=H.sy 1 (λq=>(f _ q).cap);refine Ae func150 Z ntmps150 Z (Z2 18 [0,0,0] H Z (Ab Z (BK Z (z:=1) (p:=0) (q:=k) (o':=o) (l':=k) (c':=c) J Z (.inl ⟨Z,Z⟩) (.inr ⟨_,_,_,Z,Z,Z⟩) U U U U U U) (Zc 5 Z ?_)));refine AD (σ:=Nat) (λj=>[(15,I (j:Int)),(5,I (AW (xs.take j))),(0,Y d),(1,I (k:Int)),(4,I 0),(13,.slice (some ⟨b,o,none⟩) k c),(14,I (k:Int))])
   (λj w=>Sep z (blk d [.slice (some ⟨b,o,none⟩) n c] 243::A::R) w/\(j<=k)) (λj=>k-j) 0
   (λ_ a=>(a.co Z (by go_num) a.cz)) ⟨H,by omega⟩ ?_
 clear H;rintro j w ⟨y,i⟩;have H:=y.l2;have r:=i;clear i;refine Z0 6 [0] Z (Ag Z (λe=>?_) (λe=>?_))
 ·obtain ⟨x,l⟩:∃x,xs[j]?=some x:=⟨_,Ad7 U⟩;refine Z1 7 [1,j,o+j] [] Z U (Ab Z (Bf Z Z J (Ay (H.cell 1 Z (λh q=>(f h q).at l)))) (Zc 5 Z (Ab Z (Sr Z Z Z (m:=8) Z (by decide)) (Zc 1 Z (Ab Z (Q9 Z J Z) (Ab Z (W8 Z Z Z (NY _) ⟨by omega,by have:=x.toNat_lt;omega⟩) (Z1 8 [] [(j:Int)+1] Z U (gf ?_))))))));intro _ a;refine ⟨(j+1),(a.co Z (by go_num) (a.co Z (congrArg I (Mu l)) (a.all Z))),⟨H,?_⟩,?_⟩
  ·omega
  omega
 obtain rfl:j=k:=by omega
 refine Zc 2 Z (gx (Z2 10 [0,0,0] H Z (Ab Z (BK Z (z:=1) (p:=j) (q:=n) (o':=o+j) (l':=n-j) (c':=c-j) J Z (.inr ⟨_,_,_,Z,Z,Z⟩) (.inl ⟨Z,Z⟩) U U U U U U) (Z4 12 [0,0] H Z ?_))));intro w H;refine Zr Z ?_;exact ⟨_,⟨Z,Z⟩,H⟩
theorem Yl(b o n c:Nat)(xs:List UInt8)(A:Af)(f:∀h,A h->rdH 1 (.slice (some ⟨b,o,none⟩) n c) n (xs.map u8) h)(hn:n<=c):Cn prog 221 [.slice (some ⟨b,o,none⟩) n c,u8 0] [A] (λv Γ=>v=.slice (some ⟨b,o,none⟩) (rz xs) c/\Γ=[A]):=by
 intro z R w H;replace H:=H.l1;have u:=H.sy 0 (λq=>(f _ q).len);have s:=H.sy 0 (λq=>(f _ q).cap);refine Ae func221 Z ntmps221 Z (Zc 7 Z ?_);refine AD (σ:=Nat) (λm=>[(0,.slice (some ⟨b,o,none⟩) m c),(1,u8 0),(4,.slice none 0 0)])
   (λm w=>Sep z (A::R) w/\(m<=n/\∀(j:Nat) (y:UInt8),m<=j->xs[j]?=some y->y=0)) (λm=>m) n
   (λ_ e=>(e.all Z)) ⟨H,Aed _,λj y i h=>by have:=(Ad6.1 h).1;omega⟩ ?_
 clear H;rintro m w ⟨t,r⟩;have H:=t.l1;obtain ⟨hm,g⟩:=r;refine Z0 7 [0] Z (Al 8 Z (λl=>?_) (λl=>?_))
 ·obtain ⟨x,a⟩:∃x,xs[m-1]?=some x:=⟨_,Ad7 U⟩;refine Z1 5 [1,(m-1),o+(m-1)] [((m-1:Nat):Int)] Z U (Ab Z (Bf Z Z J (Ay (H.cell 0 Z (λh q=>(f h q).at a)))) (Zc 1 Z (Ab Z (Sm (q:=0) (k:=.u8) Z J Z Z) (Zc 3 Z (Ag Z (λd=>?_) (λd=>?_))))))
  ·refine Z1 8 [] [((m-1:Nat):Int)] Z U (Ab Z (BK Z (z:=1) (p:=0) (q:=(m-1)) (o':=o) (l':=(m-1)) (c':=c) J Z (.inl ⟨Z,Z⟩) (.inr ⟨_,_,_,Z,Z,Z⟩) U U U U U U) (Zc 3 Z (gf ?_)));intro _ e;refine ⟨(m-1),(e.all Z),⟨H,?_⟩,?_⟩
   ·refine ⟨by omega,λj y i h=>?_⟩;rcases Ael j m with q|q
    ·obtain rfl:j=m-1:=by omega
     rw[a] at h;cases h;exact d
    exact g j y q h
   omega
  refine Zc 2 Z (gx (Zc 9 Z (Zr Z ?_)));obtain rfl:m=rz xs:=rz_is U g (by first|exact .inl U|exact .inr ⟨x,a,d⟩);exact ⟨_,⟨Z,Z⟩,H⟩
 refine Zc 14 Z (gx (Zc 9 Z (Zr Z ?_)));obtain rfl:m=rz xs:=rz_is U g (by first|exact .inl U|exact .inr ⟨x,a,d⟩);exact ⟨_,⟨Z,Z⟩,H⟩
theorem Ym(b o n c:Nat)(xs:List UInt8)(A:Af)(f:∀h,A h->rdH 1 (.slice (some ⟨b,o,none⟩) n c) n (xs.map u8) h)(hn:n<c):Cn prog 220 [.slice (some ⟨b,o,none⟩) n c,u8 0] [A] (λv Γ=>v=(if lz xs=n then .slice none 0 0 else .slice (some ⟨b,o+lz xs,none⟩) (n-lz xs) (c-lz xs))/\Γ=[A]):=by
 intro z R w H;replace H:=H.l1;have u:=H.sy 0 (λq=>(f _ q).len);refine Ae func220 Z ntmps220 Z (Zc 7 Z ?_);refine AD (σ:=Nat) (λp=>[(0,.slice (some ⟨b,(o+p),none⟩) (n-p) (c-p)),(1,u8 0),(4,.slice none 0 0)])
   (λp w=>Sep z (A::R) w/\(p<=n/\∀(j:Nat) (y:UInt8),j<p->xs[j]?=some y->y=0)) (λp=>n-p) 0
   fr_z ⟨H,by omega,λj y g h=>by omega⟩ ?_
 clear H;rintro p w ⟨t,l⟩;have H:=t.l1;obtain ⟨hp,e⟩:=l;refine Z0 7 [0] Z (Al 8 Z (λi=>?_) (λi=>?_))
 ·obtain ⟨x,a⟩:∃x,xs[p]?=some x:=⟨_,Ad7 U⟩;refine Z1 2 [1,0,o+p] [] Z U (Ab Z (Bf Z Z J (Ay (H.cell 0 Z (λh q=>(f h q).at a)))) (Zc 1 Z (Ab Z (Sm (q:=0) (k:=.u8) Z J Z Z) (Zc 3 Z (Ag Z (λd=>?_) (λd=>?_))))))
  ·refine Zc 5 Z (Ab Z (BK Z (z:=1) (p:=1) (q:=(n-p)) (o':=o+(p+1)) (l':=(n-(p+1))) (c':=(c-(p+1))) J Z (.inr ⟨_,_,_,Z,Z,Z⟩) (.inl ⟨Z,Z⟩) U U U U U U) (Zc 3 Z (gf ?_)));intro _ r;refine ⟨(p+1),(r.all Z),⟨H,?_⟩,?_⟩
   ·refine ⟨by omega,λj y g h=>?_⟩;rcases Ael j p with q|q
    ·exact e j y q h
    obtain rfl:j=p:=by omega
    rw[a] at h;cases h;exact d
   omega
  refine Zc 2 Z (gx (Z0 10 [0] Z (Ag Z (λm=>?_) (λm=>?_))))
  ·refine Zc 6 Z (Zr Z ?_);obtain rfl:p=lz xs:=KH U e (by first|exact .inl U|exact .inr ⟨x,a,d⟩);exact ⟨_,⟨by first|(exfalso;omega)|rw[if_pos U]|rw[if_neg U],rfl⟩,H⟩
  refine Zc 9 Z (Zr Z ?_);obtain rfl:p=lz xs:=KH U e (by first|exact .inl U|exact .inr ⟨x,a,d⟩);exact ⟨_,⟨by first|(exfalso;omega)|rw[if_pos U]|rw[if_neg U],rfl⟩,H⟩
 refine Zc 11 Z (gx (Z0 10 [0] Z (Ag Z (λh4=>?_) (λh4=>?_))))
 ·refine Zc 6 Z (Zr Z ?_);obtain rfl:p=lz xs:=KH U e (by first|exact .inl U|exact .inr ⟨x,a,d⟩);exact ⟨_,⟨by first|(exfalso;omega)|rw[if_pos U]|rw[if_neg U],rfl⟩,H⟩
 refine Zc 9 Z (Zr Z ?_);obtain rfl:p=lz xs:=KH U e (by first|exact .inl U|exact .inr ⟨x,a,d⟩);exact ⟨_,⟨by first|(exfalso;omega)|rw[if_pos U]|rw[if_neg U],rfl⟩,H⟩
theorem Abj(b o n c:Nat)(xs:List UInt8)(A:Af)(a:∀h,A h->rdH 1 (.slice (some ⟨b,o,none⟩) n c) n (xs.map u8) h)(p:n<c\/(n<=c/\rz xs=0/\0<c)):Cn prog 191 [.slice (some ⟨b,o,none⟩) n c,Cj [0]] [A] (λv Γ=>(rz xs=0/\v=.slice none 0 0/\Γ=[A])\/(rz xs≠0/\∃f k1 c1,0<k1/\v=.slice (some ⟨b,f,none⟩) k1 c1/\Γ=[A])):=by
 intro z R w H;replace H:=H.l1;have k:=H.sy 0 (λq=>(a _ q).len);have g:=H.sy 0 (λq=>(a _ q).cap);have d:=Rp xs;refine Ae func191 Z ntmps191 Z (Z0 13 [0] Z (Ag Z (λe=>?_) (λe=>?_)))
 ·refine Zc 6 Z (Zr Z ?_);exact ⟨_,.inl ⟨by omega,Z,Z⟩,H⟩
 refine Zc 6 Z (Ab Z (IH (l:=[0]) (m:=[]) Z J Z Z) (AC 11 (v:=.bool false) Z (congrArg Value.bool (by decide)) (Zc 9 Z (Ab Z (Uq (l:=[0]) Z J Z) (Z0 3 [3] Z (Ab Z (JQ (l:=[0]) (j:=0) (b:=0) Z J Z Z Z Z) (Z0 1 [0] Z (AC 19 (v:=.bool true) Z (congrArg Value.bool (by decide)) (Zc 5 Z (Bu (Sep z _) J J H.drew (BZ 2 [] Z J (AL Z Z Z (JQ (l:=[0]) (j:=0) (b:=0) Z J Z Z Z Z) (Dl Z Z Z Z Z (λw=>call221 _ w) (v:=.slice (some ⟨b,o,none⟩) (rz xs) c) (cq (Yl _ _ _ _ xs _ a U) (by rintro _ _ ⟨rfl,rfl⟩;exact ⟨Z,Z⟩) 1 [0] [0] Z Z Z Z) ?_)))))))))))));refine BZ 1 [] Z J (AL Z Z Z (JQ (l:=[0]) (j:=0) (b:=0) Z J Z Z Z Z) (Dl Z Z Z Z Z (λw=>call220 _ w) (v:=if lz ((xs.drop 0).take (rz xs))=(rz xs) then .slice none 0 0 else .slice (some ⟨b,o+lz ((xs.drop 0).take (rz xs)),none⟩) ((rz xs)-lz ((xs.drop 0).take (rz xs))) (c-lz ((xs.drop 0).take (rz xs)))) (cq (Ym _ _ _ _ ((xs.drop 0).take (rz xs)) _ (λh q=>(a h q).cut (lo:=0) (m:=rz xs) (c':=c) U U U) U) (by rintro _ _ ⟨rfl,rfl⟩;exact ⟨Z,Z⟩) 1 [0] [0] Z Z Z Z) (BZ 1 [] Z J (BH (λw i=>?_)))));have H:=i.l1;refine gn (Zc 2 Z (Zr Z ?_));by_cases hz:rz xs=0
 ·exact ⟨[A],.inl ⟨hz,by rw[if_pos];simp[hz,lz],Z⟩,H⟩
 have:=Ac1 hz;exact ⟨_,.inr ⟨hz,_,rz xs-lz ((xs.drop 0).take (rz xs)),_,by simp;omega,by rw[if_neg (by simp;omega)],Z⟩,H⟩
theorem KO(a b o n c:Nat)(xs:List UInt8)(A:Af)(i:∀h,A h->rdH 1 (.slice (some ⟨b,o,none⟩) n c) n (xs.map u8) h)(g:n<c\/(n<=c/\rz xs=0/\0<c)):Cn prog 151 [Y a] [blk a [.slice (some ⟨b,o,none⟩) n c] 243,A] (λv Γ=>v=.bool (decide (rz xs=0))/\Γ=[blk a [.slice (some ⟨b,o,none⟩) n c] 243,A]):=by
 intro z R w H;replace H:=H.l2;refine Ae func151 Z ntmps151 Z (Z2 11 [0,0,0] H Z (Aq Z (call191 _) (Abj _ _ _ _ xs _ i g) H.f1 ?_));rintro _ w _ (⟨d,rfl,rfl⟩|⟨d,j,k1,c1,f,rfl,rfl⟩) e
 ·have H:=e.l2;refine Z0 6 [3] Z (Zr Z ?_);exact ⟨_,⟨congrArg Value.bool (by first|(simp[d];done)|(rw[Aer];simp<;>omega)),Z⟩,H.perm 2 [1,0] Z Z⟩
 have H:=e.l2;refine Z0 6 [0] Z (Zr Z ?_);exact ⟨_,⟨congrArg Value.bool (by first|(simp[d];done)|(rw[Aer];simp<;>omega)),Z⟩,H.perm 2 [1,0] Z Z⟩
theorem LM(f b o c:Nat)(a sec:List UInt8)(A:Af)(e:∀h,A h->rdH 1 (.slice (some ⟨b,o,none⟩) 256 c) 256 (sec.map u8) h):Cn prog 180 [Y f,.slice (some ⟨b,o,none⟩) 256 c,Cj a] [tblA f,A] (λv Γ=>(J1 a sec/\v=.tuple #[.agg #[.slice (some ⟨b,o+4,none⟩) 248 (c-4)],.bool true]/\Γ=[tblA f,A])\/(¬J1 a sec/\v=.tuple #[.agg #[.slice none 0 0],.bool false]/\Γ=[tblA f,A])):=by
 intro z R w H;replace H:=H.l2;have d:=H.sy 1 (λq=>(e _ q).len);have s:=H.sy 1 (λq=>(e _ q).cap);obtain ⟨k,c1,c2,n,g⟩:=NZ d;refine Ae func180 Z ntmps180 Z (Za 2 [] H Z ?_);intro u w H;refine Zc 5 Z (Bu (Sep z _) J J H.drew (GF 9 [4] [] Z J (AL Z Z Z (BK Z (z:=1) (p:=252) (q:=256) (o':=o+252) (l':=4) (c':=c-252) J Z (.inr ⟨_,_,_,Z,Z,Z⟩) (.inl ⟨Z,Z⟩) U U U U U U) (AL Z Z Z (Mp (m:=4) Z J Z U) (AL Z Z Z (BX Z Z (vs:=[u8 k,u8 c1,u8 c2,u8 n]) J (λ_ j=>j.cell4 2 Z e g)) (BZ 2 [] Z J (AL Z Z Z (BK Z (z:=1) (p:=0) (q:=252) (o':=o) (l':=252) (c':=c) J Z (.inl ⟨Z,Z⟩) (.inr ⟨_,_,_,Z,Z,Z⟩) U U U U U U) (Dl Z Z Z Z Z (λw=>call212 _ w) (v:=.agg #[u8 ((A8 (sec.take 252)).toUInt8),u8 (((A8 (sec.take 252))>>>8).toUInt8),u8 (((A8 (sec.take 252))>>>16).toUInt8),u8 (((A8 (sec.take 252))>>>24).toUInt8)]) (cq (Og _ _ _ (sec.take 252) (by simp[d]) _ (λh q=>(e h q).pre U U)) (by rintro _ _ ⟨rfl,rfl⟩;exact ⟨Z,Z⟩) 3 [1,2,0] [2,0,1] Z Z Z Z) (AL Z Z Z (PQ Z J J Z Z) (BZ 2 [] Z J (Cd 26 Z (λr=>?_) (λr=>?_))))))))))))
 ·refine BZ 6 [] Z J (BH (λw i=>?_));have H:=i.l3;refine gn (Z4 10 [0] H Z ?_);intro w H;refine Zl [0,1] H Z ?_;exact ⟨_,.inr ⟨λhs=>by first|exact absurd (g▸hs.1) ‹_› |exact absurd hs.2 ‹_›,rfl,rfl⟩,H.perm 3 [1,2] rfl rfl⟩
 refine BZ 1 [] Z J (AL Z Z Z (BK Z (z:=1) (p:=0) (q:=4) (o':=o) (l':=4) (c':=c) J Z (.inl ⟨Z,Z⟩) (.inr ⟨_,_,_,Z,Z,Z⟩) U U U U U U) (AL Z Z Z (Co (l:=sec.take 4) Z J J Z (λ_ j=>j.rd 2 Z (λh q=>by have:=(e h q).pre (m:=4) (c':=c) U U;rwa[show (sec.take 4).length=4 from by simp[d]]))) (BZ 1 [] Z J (AL Z Z Z (Kq (l:=sec.take 4) (m:=a) Z J Z Z) (BZ 1 [] Z J (BH (λw i=>?_)))))));have H:=i.l3;refine gn (Zc 1 Z (Ag Z (λt=>?_) (λt=>?_)))
 ·refine Z4 8 [0] H Z ?_;intro w H;refine Zl [0,1] H Z ?_;exact ⟨_,.inr ⟨λhs=>by first|exact absurd (g▸hs.1) ‹_› |exact absurd hs.2 ‹_›,rfl,rfl⟩,H.perm 3 [1,2] rfl rfl⟩
 refine Zc 5 Z (Ab Z (BK Z (z:=1) (p:=4) (q:=252) (o':=o+4) (l':=248) (c':=c-4) J Z (.inr ⟨_,_,_,Z,Z,Z⟩) (.inr ⟨_,_,_,Z,Z,Z⟩) U U U U U U) (Z4 6 [0] H Z ?_));intro w H;refine Zl [0,1] H Z ?_;exact ⟨_,.inl ⟨⟨by rw[g];exact AgB ‹_›,AgB ‹_›⟩,Z,Z⟩,H.perm 3 [1,2] Z Z⟩
theorem Ru(d:Nat)(x y c a:Int)(k:Value)(b:List UInt8)(A:Af)(m:∀h,A h->rdH 1 k b.length (b.map u8) h):Cn prog 217 [Y d,I x,I y,.agg #[I c,I a,k]] [tblA d,A] (λv Γ=>(¬((0<=x/\x<=4294967295)/\(0<=y/\y<=1099511627775)/\(0<=c/\c<=1023)/\(1<=a/\a<=5)/\b.length=240)/\v=.tuple #[.slice none 0 0,I 1]/\Γ=[tblA d,A])\/(((0<=x/\x<=4294967295)/\(0<=y/\y<=1099511627775)/\(0<=c/\c<=1023)/\(1<=a/\a<=5)/\b.length=240)/\∃j,v=.tuple #[.slice (some ⟨j,0,none⟩) 256 256,I 0]/\Γ=[blk j (A4 (BA (Ah 1 a++Ah 2 c++Ah 4 x++Ah 5 y++b)) 252) 154,tblA d,A])):=by
 intro z R w H;replace H:=H.l2;obtain ⟨f,g,rfl⟩:=H.sy 1 (λq=>(m _ q).slc);refine Ae func217 Z ntmps217 Z (Za 2 [] H Z ?_);intro i w H;refine Zc 11 Z (z_E_ Z (call86 _) (CX _ _) H ?_);intro w H;replace H:=H.l3;refine Ab Z (AE Z Z) (Zc 2 Z (Al 18 Z (λo=>?_) (λo=>?_)))
 ·refine Zc 39 Z (Zr Z ?_);exact ⟨_,.inl ⟨by omega,Z,Z⟩,H.perm 3 [1,2] Z Z⟩
 refine Zc 1 Z (z_E_ Z (call86 _) (CX _ _) H ?_);intro w H;replace H:=H.l3;refine Ab Z (AE Z Z) (Zc 2 Z (Al 23 Z (λs=>?_) (λs=>?_)))
 ·refine Zc 34 Z (Zr Z ?_);exact ⟨_,.inl ⟨by omega,Z,Z⟩,H.perm 3 [1,2] Z Z⟩
 refine Z2 2 [0,0,0] H Z (z_E_ Z (call86 _) (CX _ _) H ?_);intro w H;replace H:=H.l3;refine Ab Z (AE Z Z) (Zc 2 Z (Al 29 Z (λp=>?_) (λp=>?_)))
 ·refine Zc 28 Z (Zr Z ?_);exact ⟨_,.inl ⟨by omega,Z,Z⟩,H.perm 3 [1,2] Z Z⟩
 refine Z2 6 [1,1,0,0,0] H Z (Al 35 Z (λt=>?_) (λt=>?_))
 ·refine Zc 22 Z (Zr Z ?_);exact ⟨_,.inl ⟨by omega,Z,Z⟩,H.perm 3 [1,2] Z Z⟩
 refine Z2 6 [1,1,0,0,0] H Z (Al 41 Z (λu=>?_) (λu=>?_))
 ·refine Zc 16 Z (Zr Z ?_);exact ⟨_,.inl ⟨by omega,Z,Z⟩,H.perm 3 [1,2] Z Z⟩
 refine Z2 8 [1,2,0,0,0] H Z (Ag Z (λn=>?_) (λn=>?_))
 ·refine Zc 7 Z (Zr Z ?_);exact ⟨_,.inl ⟨by omega,Z,Z⟩,H.perm 3 [1,2] Z Z⟩
 refine Zc 4 Z (AQ Z (Cb (P:=prog) H Z (zs:=(A4 (AJ []) 0)) J) ?_);rintro _ w ⟨e,rfl,H⟩;replace H:=H.l4;refine Z2 7 [1,1,1,0] H Z (z_E_ Z (call87 _) (CE _ 0 1 a _ (AR (by first|omega|(simp[Ai]<;>omega))) U) H ?_);intro w H;replace H:=H.l4;rw[show Br (AJ []) (Ah 1 a) 0=AJ (Ah 1 a) from BD Z (by first|omega|(simp[Ai]<;>omega))] at H;have H:Sep z (blk e (A4 (AJ (Ah 1 a)) 1) 154::blk i [I c,I a,.slice f b.length g] 148::tblA d::A::R) w:=H;refine Z2 6 [0,1,0] H Z (z_E_ Z (call87 _) (CE _ 1 2 c _ (AR (by first|omega|(simp[Ai]<;>omega))) U) H ?_);intro w H;replace H:=H.l4;rw[show Br (AJ (Ah 1 a)) (Ah 2 c) 1=AJ (Ah 1 a++Ah 2 c) from BD (by first|omega|(simp[Ai]<;>omega)) (by first|omega|(simp[Ai]<;>omega))] at H;have H:Sep z (blk e (A4 (AJ (Ah 1 a++Ah 2 c)) 3) 154::blk i [I c,I a,.slice f b.length g] 148::tblA d::A::R) w:=H;refine Zc 5 Z (z_E_ Z (call87 _) (CE _ 3 4 x _ (AR (by first|omega|(simp[Ai]<;>omega))) U) H ?_);intro w H;replace H:=H.l4;rw[show Br (AJ (Ah 1 a++Ah 2 c)) (Ah 4 x) 3=AJ (Ah 1 a++Ah 2 c++Ah 4 x) from BD (by first|omega|(simp[Ai]<;>omega)) (by first|omega|(simp[Ai]<;>omega))] at H;have H:Sep z (blk e (A4 (AJ (Ah 1 a++Ah 2 c++Ah 4 x)) 7) 154::blk i [I c,I a,.slice f b.length g] 148::tblA d::A::R) w:=H;refine Zc 5 Z (z_E_ Z (call87 _) (CE _ 7 5 y _ (AR (by first|omega|(simp[Ai]<;>omega))) U) H ?_);intro w H;replace H:=H.l4;rw[show Br (AJ (Ah 1 a++Ah 2 c++Ah 4 x)) (Ah 5 y) 7=AJ (Ah 1 a++Ah 2 c++Ah 4 x++Ah 5 y) from BD (by first|omega|(simp[Ai]<;>omega)) (by first|omega|(simp[Ai]<;>omega))] at H;have H:Sep z (blk e (A4 (AJ (Ah 1 a++Ah 2 c++Ah 4 x++Ah 5 y)) 12) 154::blk i [I c,I a,.slice f b.length g] 148::tblA d::A::R) w:=H;refine Z2 7 [1,2,1,0] H Z (Ab Z (Co (l:=b) Z J J Z (Ay (H.rd 3 Z m))) (z_E_ Z (call178 _) (IT _ 12 b _ (AR (by first|omega|(simp[Ai]<;>omega))) (by first|omega|(simp<;>omega))) H ?_));intro w H;replace H:=H.l4;rw[show ((12+b.length:Nat):Int)=(252:Int) from by omega] at H;rw[show Br (AJ (Ah 1 a++Ah 2 c++Ah 4 x++Ah 5 y)) b 12=AJ (Ah 1 a++Ah 2 c++Ah 4 x++Ah 5 y++b) from BD (by first|omega|(simp[Ai]<;>omega)) (by first|omega|(simp[Ai]<;>omega))] at H;have H:Sep z (blk e (A4 (AJ (Ah 1 a++Ah 2 c++Ah 4 x++Ah 5 y++b)) 252) 154::blk i [I c,I a,.slice f b.length g] 148::tblA d::A::R) w:=H;refine Zc 5 Z (z_E_ Z (call179 _) (Ix _ _ _ _ (AR (by first|omega|(simp[Ai]<;>omega)))) H.f2.f1 ?_);intro w H;refine Zc 5 Z (Zr Z ?_);exact ⟨_,.inr ⟨by omega,e,Z,Z⟩,H.perm 4 [0,1,3] Z Z⟩
theorem Mx(d:Nat)(c a:Int)(k:Value)(b:List UInt8)(A:Af)(m:∀h,A h->rdH 1 k b.length (b.map u8) h):Cn prog 142 [Y d,.agg #[I c,I a,k]] [tblA d,A] (λv Γ=>(¬((0<=c/\c<=1023)/\(1<=a/\a<=5)/\b.length=240)/\v=.tuple #[.slice none 0 0,I 1]/\Γ=[tblA d,A])\/(((0<=c/\c<=1023)/\(1<=a/\a<=5)/\b.length=240)/\∃j,v=.tuple #[.slice (some ⟨j,0,none⟩) 256 256,I 0]/\Γ=[blk j (A4 (BA ([80,80,65,71]++Ah 1 a++Ah 4 c++[0,0,0]++b)) 252) 154,tblA d,A])):=by
 intro z R w H;replace H:=H.l2;obtain ⟨f,g,rfl⟩:=H.sy 1 (λq=>(m _ q).slc);refine Ae func142 Z ntmps142 Z (Za 2 [] H Z ?_);intro i w H;refine Z2 12 [0,0,0] H Z (z_E_ Z (call86 _) (CX _ _) H ?_);intro w H;replace H:=H.l3;refine Ab Z (AE Z Z) (Zc 2 Z (Al 15 Z (λn=>?_) (λn=>?_)))
 ·refine Zc 28 Z (Zr Z ?_);exact ⟨_,.inl ⟨by omega,Z,Z⟩,H.perm 3 [1,2] Z Z⟩
 refine Z2 6 [1,1,0,0,0] H Z (Al 21 Z (λr=>?_) (λr=>?_))
 ·refine Zc 22 Z (Zr Z ?_);exact ⟨_,.inl ⟨by omega,Z,Z⟩,H.perm 3 [1,2] Z Z⟩
 refine Z2 6 [1,1,0,0,0] H Z (Al 27 Z (λo=>?_) (λo=>?_))
 ·refine Zc 16 Z (Zr Z ?_);exact ⟨_,.inl ⟨by omega,Z,Z⟩,H.perm 3 [1,2] Z Z⟩
 refine Z2 8 [1,2,0,0,0] H Z (Ag Z (λs=>?_) (λs=>?_))
 ·refine Zc 7 Z (Zr Z ?_);exact ⟨_,.inl ⟨by omega,Z,Z⟩,H.perm 3 [1,2] Z Z⟩
 refine Zc 4 Z (AQ Z (Cb (P:=prog) H Z (zs:=(A4 (AJ []) 0)) J) ?_);rintro _ w ⟨e,rfl,H⟩;replace H:=H.l4;refine Zc 4 Z (z_E_ Z (call178 _) (IT _ 0 [80,80,65,71] _ (AR (by first|omega|(simp[Ai]<;>omega))) (by first|omega|(simp<;>omega))) H ?_);intro w H;replace H:=H.l4;rw[show Br (AJ []) ([80,80,65,71]) 0=AJ ([80,80,65,71]) from BD Z (by first|omega|(simp[Ai]<;>omega))] at H;have H:Sep z (blk e (A4 (AJ ([80,80,65,71])) 4) 154::blk i [I c,I a,.slice f b.length g] 148::tblA d::A::R) w:=H;refine Z2 7 [1,1,1,0] H Z (z_E_ Z (call87 _) (CE _ 4 1 a _ (AR (by first|omega|(simp[Ai]<;>omega))) U) H ?_);intro w H;replace H:=H.l4;rw[show Br (AJ ([80,80,65,71])) (Ah 1 a) 4=AJ ([80,80,65,71]++Ah 1 a) from BD (by first|omega|(simp[Ai]<;>omega)) (by first|omega|(simp[Ai]<;>omega))] at H;have H:Sep z (blk e (A4 (AJ ([80,80,65,71]++Ah 1 a)) 5) 154::blk i [I c,I a,.slice f b.length g] 148::tblA d::A::R) w:=H;refine Z2 6 [0,1,0] H Z (z_E_ Z (call87 _) (CE _ 5 4 c _ (AR (by first|omega|(simp[Ai]<;>omega))) U) H ?_);intro w H;replace H:=H.l4;rw[show Br (AJ ([80,80,65,71]++Ah 1 a)) (Ah 4 c) 5=AJ ([80,80,65,71]++Ah 1 a++Ah 4 c) from BD (by first|omega|(simp[Ai]<;>omega)) (by first|omega|(simp[Ai]<;>omega))] at H;have H:Sep z (blk e (A4 (AJ ([80,80,65,71]++Ah 1 a++Ah 4 c)) 9) 154::blk i [I c,I a,.slice f b.length g] 148::tblA d::A::R) w:=H;refine Z0 5 [256] Z (Az Z Z (Ak 0 H Z Z Z Z (vs:=[I 12]) Z (by simp[u8,u32,Value.oneCell']) J (by rw[Fh _ (AR (by first|omega|(simp[Ai]<;>omega)))];simp) (out:=(A4 (AJ ([80,80,65,71]++Ah 1 a++Ah 4 c)) 12)) (Jl _ _ (AR (by first|omega|(simp[Ai]<;>omega))))) ?_);rintro w H;replace H:=H.l4;refine Z2 7 [1,2,1,0] H Z (Ab Z (Co (l:=b) Z J J Z (Ay (H.rd 3 Z m))) (z_E_ Z (call178 _) (IT _ 12 b _ (AR (by first|omega|(simp[Ai]<;>omega))) (by first|omega|(simp<;>omega))) H ?_));intro w H;replace H:=H.l4;rw[show ((12+b.length:Nat):Int)=(252:Int) from by omega] at H;rw[show Br (AJ ([80,80,65,71]++Ah 1 a++Ah 4 c)) b 12=AJ ([80,80,65,71]++Ah 1 a++Ah 4 c++[0,0,0]++b) from (US (by first|omega|(simp[Ai]<;>omega)) (by first|omega|(simp[Ai]<;>omega))).trans (by simp[Ai])] at H;have H:Sep z (blk e (A4 (AJ ([80,80,65,71]++Ah 1 a++Ah 4 c++[0,0,0]++b)) 252) 154::blk i [I c,I a,.slice f b.length g] 148::tblA d::A::R) w:=H;refine Zc 5 Z (z_E_ Z (call179 _) (Ix _ _ _ _ (AR (by first|omega|(simp[Ai]<;>omega)))) H.f2.f1 ?_);intro w H;refine Zc 5 Z (Zr Z ?_);exact ⟨_,.inr ⟨by omega,e,Z,Z⟩,H.perm 4 [0,1,3] Z Z⟩
theorem S8(a:Nat)(e s:Int)(u:UInt32)(pv:Value)(ns:List Int)(A:Af)(hA:∀h,A h->rdH 1 pv ns.length (ns.map I) h):Cn prog 219 [Y a,.agg #[I e,I s,pv,u32 u]] [tblA a,A] (λv Γ=>(¬((0<=e/\e<=1099511627776)/\(0<=s/\s<=1099511627776)/\(1<=ns.length/\ns.length<=40)/\∀x∈ns,0<=x/\x<=1023)/\v=.tuple #[.slice none 0 0,I 1]/\Γ=[tblA a,A])\/(((0<=e/\e<=1099511627776)/\(0<=s/\s<=1099511627776)/\(1<=ns.length/\ns.length<=40)/\∀x∈ns,0<=x/\x<=1023)/\∃pw,v=.tuple #[.slice (some ⟨pw,0,none⟩) 256 256,I 0]/\Γ=[blk pw (A4 (BA ([80,76,79,71]++Ah 8 e++Ah 8 s++Ah 4 (u.toNat:Int)++Ah 2 (ns.length:Int)++ns.flatMap (Ah 4))) ((26+4*ns.length:Nat):Int)) 154,tblA a,A])):=by
 intro z R w H;replace H:=H.l2;obtain ⟨g,d,rfl⟩:=H.sy 1 (λq=>(hA _ q).slc);refine Ae func219 Z ntmps219 Z (Za 2 [] H Z ?_);intro l w H;refine Z2 12 [0,0,0] H Z (z_E_ Z (call86 _) (CX _ _) H ?_);intro w H;replace H:=H.l3;refine Ab Z (AE Z Z) (Zc 2 Z (Al 17 Z (λh1=>?_) (λh1=>?_)))
 ·refine Zc 27 Z (Zr Z ?_);exact ⟨_,.inl ⟨by rintro ⟨n,p,o,f⟩;first|omega|exact absurd (f x (Ad8 b)) ‹_›,rfl,rfl⟩,H.perm 3 [1,2] rfl rfl⟩
 refine Z2 2 [1,0,0] H Z (z_E_ Z (call86 _) (CX _ _) H ?_);intro w H;replace H:=H.l3;refine Ab Z (AE Z Z) (Zc 2 Z (Al 23 Z (λh2=>?_) (λh2=>?_)))
 ·refine Zc 21 Z (Zr Z ?_);exact ⟨_,.inl ⟨by rintro ⟨n,p,o,f⟩;first|omega|exact absurd (f x (Ad8 b)) ‹_›,rfl,rfl⟩,H.perm 3 [1,2] rfl rfl⟩
 refine Z2 6 [2,0,0,0] H Z (Al 29 Z (λh3=>?_) (λh3=>?_))
 ·refine Zc 15 Z (Zr Z ?_);exact ⟨_,.inl ⟨by rintro ⟨n,p,o,f⟩;first|omega|exact absurd (f x (Ad8 b)) ‹_›,rfl,rfl⟩,H.perm 3 [1,2] rfl rfl⟩
 refine Z2 7 [2,0,0,0] H Z (Ag Z (λh4=>?_) (λh4=>?_))
 ·refine Zc 7 Z (Zr Z ?_);exact ⟨_,.inl ⟨by rintro ⟨n,p,o,f⟩;first|omega|exact absurd (f x (Ad8 b)) ‹_›,rfl,rfl⟩,H.perm 3 [1,2] rfl rfl⟩
 refine Zc 4 Z (AQ Z (Cb (P:=prog) H Z (zs:=(A4 (AJ []) 0)) J) ?_);rintro _ w ⟨c,rfl,H⟩;replace H:=H.l4;refine Zc 4 Z (z_E_ Z (call178 _) (IT _ 0 [80,76,79,71] _ (AR (by first|omega|(simp[Ai,Ch,-List.length_flatMap]<;>omega))) (by first|omega|(simp<;>omega))) H ?_);intro w H;replace H:=H.l4;rw[show Br (AJ []) ([80,76,79,71]) 0=AJ ([80,76,79,71]) from BD Z (by first|omega|(simp[Ai,Ch,-List.length_flatMap]<;>omega))] at H;have H:Sep z (blk c (A4 (AJ ([80,76,79,71])) 4) 154::blk l [I e,I s,.slice g ns.length d,u32 u] 275::tblA a::A::R) w:=H;refine Z2 6 [0,1,0] H Z (z_E_ Z (call87 _) (CE _ 4 8 e _ (AR (by first|omega|(simp[Ai,Ch,-List.length_flatMap]<;>omega))) U) H ?_);intro w H;replace H:=H.l4;rw[show Br (AJ ([80,76,79,71])) (Ah 8 e) 4=AJ ([80,76,79,71]++Ah 8 e) from BD (by first|omega|(simp[Ai,Ch,-List.length_flatMap]<;>omega)) (by first|omega|(simp[Ai,Ch,-List.length_flatMap]<;>omega))] at H;have H:Sep z (blk c (A4 (AJ ([80,76,79,71]++Ah 8 e)) 12) 154::blk l [I e,I s,.slice g ns.length d,u32 u] 275::tblA a::A::R) w:=H;refine Z2 6 [1,1,0] H Z (z_E_ Z (call87 _) (CE _ 12 8 s _ (AR (by first|omega|(simp[Ai,Ch,-List.length_flatMap]<;>omega))) U) H ?_);intro w H;replace H:=H.l4;rw[show Br (AJ ([80,76,79,71]++Ah 8 e)) (Ah 8 s) 12=AJ ([80,76,79,71]++Ah 8 e++Ah 8 s) from BD (by first|omega|(simp[Ai,Ch,-List.length_flatMap]<;>omega)) (by first|omega|(simp[Ai,Ch,-List.length_flatMap]<;>omega))] at H;have H:Sep z (blk c (A4 (AJ ([80,76,79,71]++Ah 8 e++Ah 8 s)) 20) 154::blk l [I e,I s,.slice g ns.length d,u32 u] 275::tblA a::A::R) w:=H;refine Z2 6 [3,1,0] H Z (Ab Z (AaG Z J Z) (z_E_ Z (call87 _) (CE _ 20 4 (u.toNat:Int) _ (AR (by first|omega|(simp[Ai,Ch,-List.length_flatMap]<;>omega))) U) H ?_));intro w H;replace H:=H.l4;rw[show Br (AJ ([80,76,79,71]++Ah 8 e++Ah 8 s)) (Ah 4 (u.toNat:Int)) 20=AJ ([80,76,79,71]++Ah 8 e++Ah 8 s++Ah 4 (u.toNat:Int)) from BD (by first|omega|(simp[Ai,Ch,-List.length_flatMap]<;>omega)) (by first|omega|(simp[Ai,Ch,-List.length_flatMap]<;>omega))] at H;have H:Sep z (blk c (A4 (AJ ([80,76,79,71]++Ah 8 e++Ah 8 s++Ah 4 (u.toNat:Int))) 24) 154::blk l [I e,I s,.slice g ns.length d,u32 u] 275::tblA a::A::R) w:=H;refine Z2 7 [2,1,0] H Z (z_E_ Z (call87 _) (CE _ 24 2 (ns.length:Int) _ (AR (by first|omega|(simp[Ai,Ch,-List.length_flatMap]<;>omega))) U) H ?_);intro w H;replace H:=H.l4;rw[show Br (AJ ([80,76,79,71]++Ah 8 e++Ah 8 s++Ah 4 (u.toNat:Int))) (Ah 2 (ns.length:Int)) 24=AJ ([80,76,79,71]++Ah 8 e++Ah 8 s++Ah 4 (u.toNat:Int)++Ah 2 (ns.length:Int)) from BD (by first|omega|(simp[Ai,Ch,-List.length_flatMap]<;>omega)) (by first|omega|(simp[Ai,Ch,-List.length_flatMap]<;>omega))] at H;have H:Sep z (blk c (A4 (AJ ([80,76,79,71]++Ah 8 e++Ah 8 s++Ah 4 (u.toNat:Int)++Ah 2 (ns.length:Int))) 26) 154::blk l [I e,I s,.slice g ns.length d,u32 u] 275::tblA a::A::R) w:=H;refine Z2 12 [2,1,0] H Z ?_;refine AD (σ:=Nat) (λi=>[(53,I (i:Int)),(0,Y a),(6,Y c),(51,.slice g ns.length d),(52,I (ns.length:Int))])
   (λi w=>Sep z (blk c (A4 (AJ ([80,76,79,71]++Ah 8 e++Ah 8 s++Ah 4 (u.toNat:Int)++Ah 2 (ns.length:Int)++(ns.take i).flatMap (Ah 4))) ((26+4*i:Nat):Int)) 154::blk l [I e,I s,.slice g ns.length d,u32 u] 275::tblA a::A::R) w/\(i<=ns.length/\∀(j:Nat) (x:Int),j<i->ns[j]?=some x->0<=x/\x<=1023)) (λi=>ns.length-i) 0
   fr_z ⟨(by simpa using H),by omega,λj x h=>by omega⟩ ?_
 clear H;rintro i w ⟨H',hI⟩;have H:=H'.l4;obtain ⟨a2,k⟩:=hI;refine Z0 6 [0] Z (Ag Z (λh5=>?_) (λh5=>?_))
 ·obtain ⟨x,b⟩:∃x,ns[i]?=some x:=⟨_,Ad7 U⟩;refine Zc 6 Z ?_;have m:=(H.rd 3 Z hA).at (j:=i) (u:=I x) (by simp[b])
  refine Ab Z (Aj Z (z:=1) (j:=i) (r:=i) J Z Z Z U m U) (Ab Z (Ax Z Z J (Ay m)) (Zc 7 Z (z_E_ Z (call86 _) (CX _ _) H ?_)));intro w H;replace H:=H.l4;refine Ab Z (AE Z Z) (Zc 2 Z (Ag Z (λh6=>?_) (λh6=>?_)))
  ·refine Zc 7 Z (Zr Z ?_);exact ⟨_,.inl ⟨by rintro ⟨n,p,o,f⟩;first|omega|exact absurd (f x (Ad8 b)) ‹_›,rfl,rfl⟩,H.perm 4 [2,3] rfl rfl⟩
  refine Zc 4 Z (z_E_ Z (call87 _) (CE _ (26+4*i) 4 x _ (AR (by first|omega|(simp[Ai,Ch,-List.length_flatMap]<;>omega))) U) H ?_);intro w H;replace H:=H.l4;rw[show ((26+4*i+4:Nat):Int)=(((26+4*(i+1):Nat):Int):Int) from by omega] at H;rw[show Br (AJ ([80,76,79,71]++Ah 8 e++Ah 8 s++Ah 4 (u.toNat:Int)++Ah 2 (ns.length:Int)++(ns.take i).flatMap (Ah 4))) (Ah 4 x) (26+4*i)=AJ ([80,76,79,71]++Ah 8 e++Ah 8 s++Ah 4 (u.toNat:Int)++Ah 2 (ns.length:Int)++(ns.take i).flatMap (Ah 4)++Ah 4 x) from BD (by first|omega|(simp[Ai,Ch,-List.length_flatMap]<;>omega)) (by first|omega|(simp[Ai,Ch,-List.length_flatMap]<;>omega))] at H;have H:Sep z (blk c (A4 (AJ ([80,76,79,71]++Ah 8 e++Ah 8 s++Ah 4 (u.toNat:Int)++Ah 2 (ns.length:Int)++(ns.take i).flatMap (Ah 4)++Ah 4 x)) ((26+4*(i+1):Nat):Int)) 154::blk l [I e,I s,.slice g ns.length d,u32 u] 275::tblA a::A::R) w:=H;refine Z1 7 [] [(i:Int)+1] Z U (gf ?_);intro _ hF;refine ⟨(i+1),hF.cz,⟨(by rw[<-SZ b,<-Aec];exact H),?_⟩,?_⟩
  ·refine ⟨by omega,λj y t h=>?_⟩;rcases Ael j i with q|q
   ·exact k j y q h
   obtain rfl:j=i:=by omega
   rw[b] at h;cases h;omega
  omega
 obtain rfl:i=ns.length:=by omega
 refine Zc 2 Z (gx (Zc 3 Z ?_));rw[Ae2] at H;have H:Sep z (blk c (A4 (AJ ([80,76,79,71]++Ah 8 e++Ah 8 s++Ah 4 (u.toNat:Int)++Ah 2 (ns.length:Int)++ns.flatMap (Ah 4))) ((26+4*ns.length:Nat):Int)) 154::blk l [I e,I s,.slice g ns.length d,u32 u] 275::tblA a::A::R) w:=H;refine Zc 2 Z (z_E_ Z (call179 _) (Ix _ _ _ _ (AR (by first|omega|(simp[Ai,Ch,-List.length_flatMap]<;>omega)))) H.f2.f1 ?_);intro w H;refine Zc 5 Z (Zr Z ?_);exact ⟨_,.inr ⟨⟨by omega,by omega,by omega,λx b=>by obtain ⟨j,t,rfl⟩:=Af3.1 b;exact k j _ t (Ad7 t)⟩,c,Z,Z⟩,H.perm 4 [0,1,3] Z Z⟩
theorem Jo(b d n c:Nat)(bs:List UInt8)(A:Af)(j:∀h,A h->rdH 1 (.slice (some ⟨b,d,none⟩) n c) n (bs.map u8) h)(p:0<n/\n<=1073741824):Cn prog 134 [.slice (some ⟨b,d,none⟩) n c] [A] (λv Γ=>(∃g a rest,v=.slice (some ⟨g,0,none⟩) n a/\(n<=a/\a<=9223372036854775807/\rest.length=a-n)/\Γ=[blk g (bs.map u8++rest) 5,A])):=by
 intro z R w H;replace H:=H.l1;refine Ae func134 Z ntmps134 Z (Zc 9 Z (Ab Z (Ii Z J Z Z) (Zc 7 Z (AQ Z (EX H Z J CK) ?_))));rintro _ w ⟨k,rfl,H⟩;replace H:=H.l2;refine Zc 1 Z ?_;replace H:=(H.mono 0 (B:=grow 5 1 (.slice (some ⟨k,0,none⟩) 0 0) 0 []) Z (λh q=>q.grow U U O Z)).l2;refine AQ Z (AY 0 H Z Z J CK Z Z (H.rd 1 Z j) (by simp[u8,Value.oneCell']) U) ?_;rintro m w e;have f:([]++bs.map u8:List Value)=bs.map u8:=by simp
 rw[f] at e;rw[show (0+n:Nat)=n from by omega] at e;have H:=e.l2;refine Zc 4 Z (Zr Z ?_);obtain ⟨g,a,rest,i,c1,c2,o,e⟩:=H.ungrow 0 Z U;exact ⟨_,⟨g,a,rest,i,⟨c1,c2,by omega⟩,Z⟩,e⟩
theorem IU(pd:Nat)(D:Dsk)(x:Int):Cn prog 137 [Y pd,I x,I 1] [diskA pd D] (λv Γ=>(¬(0<=x/\x<(D.n:Int))/\v=.tuple #[.slice none 0 0,I 2]/\Γ=[diskA pd D])\/((0<=x/\x<(D.n:Int))/\D.f1=1/\v=.tuple #[.slice none 0 0,I 10]/\Γ=[diskA pd {D with f1:=Be D.f1}])\/((0<=x/\x<(D.n:Int))/\¬D.f1=1/\∃g b rest,v=.tuple #[.slice (some ⟨g,0,none⟩) 256 b,I 0]/\(256<=b/\b<=9223372036854775807/\rest.length=b-256)/\Γ=[blk g ((D.cont x.toNat).map u8++rest) 5,diskA pd {D with f1:=Be D.f1}])):=by
 intro z R w H;replace H:=H.l1;obtain ⟨bd,m,f0,bs,es,clk,hq,a,d,u⟩:=H.disk;clear H;have a8:=a.n1;have a4:=a.n2;have a9:=a.f1;have b0:=d.len;have H:=u.l5;refine Ae func137 Z ntmps137 Z (Zc 12 Z (z_E_ Z (call130 _) (PW _ _ _ _ _ _ _ _ _ _ _ _ U) H ?_));intro w H;replace H:=H.l5;refine Ab Z (AE Z Z) (Zc 2 Z (Ag Z (λh1=>?_) (λh1=>?_)))
 ·refine Zc 7 Z (Zr Z ?_);replace H:=(Sep.toDisk (D:=D) (pd:=pd) (bd:=bd) (m:=m) (f0:=f0) (bs:=bs) (es:=es) (clk:=clk) (hq:=hq) (Γ:=R) H a d).l1
  exact ⟨_,.inl ⟨by omega,Z,Z⟩,H⟩
 obtain ⟨k,rfl⟩:∃k:Nat,x=(k:Int):=⟨x.toNat,by omega⟩;have s:k<D.n:=by omega
 refine Zc 6 Z (z_E_ Z (call131 _) (UC _ _ _ _ _ _ _ _ _ _ U) H ?_);intro w H;refine Zc 2 Z (Ag Z (λh2=>?_) (λh2=>?_))
 ·refine Zc 7 Z (Zr Z ?_);replace H:=(Sep.toDisk (D:= {D with f1:=Be D.f1}) (pd:=pd) (bd:=bd) (m:=m) (f0:=f0) (bs:=bs) (es:=es) (clk:=clk) (hq:=hq) (Γ:=R) H (a.f (Fg a.f1) a.f2 a.f3 a.left) (d.f _ _ _ _ _)).l1
  exact ⟨_,.inr (.inl ⟨by omega,‹_›,Z,Z⟩),H⟩
 refine Z3 14 [0,0,0] [(k:Int)*256,(k:Int)+1,((k:Int)+1)*256] H Z U (Ab Z (BK Z (z:=1) (p:=(k*256)) (q:=((k+1)*256)) (o':=k*256) (l':=256) (c':=D.n*256-k*256) J Z (.inr ⟨_,_,_,Z,Z,U⟩) (.inr ⟨_,_,_,Z,Z,U⟩) U U U U U U) (Aq Z (call134 _) (Jo _ _ 256 _ (D.dur k) _ (λh q=>q.rd U U (by simp;omega) (by rw[<-AfP,<-Afj,AeK,d.own k s])) U) H.f1 ?_));rintro _ w _ ⟨g,b,rest,rfl,⟨cg,cc,cl⟩,rfl⟩ H;refine Zc 11 Z ?_;refine AD (σ:=Nat) (λj=>[(31,I (j:Int)),(0,Y pd),(1,I (k:Int)),(6,.slice none 0 0),(7,I 0),(8,.slice (some ⟨g,0,none⟩) 256 b),(30,I 1)])
   (λj w=>Sep z (blk g ((IK D k j).map u8++rest) 5::blk bd (bs.map u8) 5::blk pd [.slice (some ⟨bd,0,none⟩) (D.n*256) (D.n*256),.map (some m),I f0,I (if D.f1=0 then 0 else D.f1-1),I D.f2,I D.f3,.bool D.cut,I D.left] 83::AH m (es.map Ent.ie) clk::poolA hq::seps (es.map Ent.row)::R) w/\(j<=1)) (λj=>1-j) 0
   fr_z ⟨H,by omega⟩ ?_
 clear H;rintro j w ⟨u,hI⟩;have H:=u.l6;refine Z0 6 [0] Z (Ag Z (λh3=>?_) (λh3=>?_))
 ·obtain rfl:j=0:=by omega
  refine Zc 12 Z ?_;obtain ⟨v0,c,a2,a1,i,l⟩:=Aa3 d s;have sv:=H.sy 5 (λq=>(i _ q).slc);obtain ⟨ao,a3,rfl⟩:=sv;have a5:=H.sy 5 (λq=>(i _ q).small);refine Z3 7 [1,2,0] [(k:Int)] H Z U (Ab Z (FM (e:=205) (zv:=.slice none 0 0) Z J J Z Z (Ay (H.bk 3 Z))) (AC 41 (v:=.slice ao c.length a3) Z a2 (Z0 10 [0] Z (Ag Z (λh4=>?_) (λh4=>?_)))))
  ·obtain ⟨pv,t⟩:∃pv,c[c.length-1]?=some pv:=⟨_,Ad7 U⟩;obtain ⟨p,hp⟩:∃p,(D.ver k)[c.length-1]?=some p:=⟨_,Ad7 U⟩;have a0:=Ms a1 hp
   have o:p.length=256:=by rw[<-a0];exact Dsk.cont_len a s
   refine BG 10 J J (A5 H λw u=>?_);have H:=u.l6;refine EQ 3 [] [0] H Z J U (B9 Z Z Z (BK Z (z:=1) (p:=0) (q:=256) (o':=0) (l':=256) (c':=b) J Z (.inr ⟨_,_,_,Z,Z,Z⟩) (.inl ⟨Z,Z⟩) U U U U U U) (EQ 4 [] [(c.length:Int)-1] H Z J U ?_));have y:=(H.rd 5 Z i).at t;refine B9 Z Z Z (Aj Z (z:=1) (j:=(c.length-1)) (r:=(c.length-1)) J Z Z U U y U) (B9 Z Z Z (Ax Z Z J (Ay y)) (CD (gw (AQ Z (F4 0 H Z Z J Z Z (m:=256) (news:=(p.map u8)) (.inl (H.rd 4 Z (l _ _ _ t hp))) (by simp[u8,Value.oneCell']) (by simp[IK,a.dur k s]<;>omega) (k:=256) U (out:=((IK D k (0+1)).map u8++rest)) (by rw[show IK D k (0+1)=p from a0];simp[IK,Aee,o,a.dur k s,Ae1])) ?_))));rintro _ w ⟨rfl,H⟩;replace H:=H.l6;refine Z1 7 [] [(0:Int)+1] Z U (gf ?_);intro _ hF;refine ⟨(0+1),hF.cz,⟨H,?_⟩,?_⟩
   ·omega
   omega
  refine Z1 7 [] [(0:Int)+1] Z U (gf ?_);intro _ hF;refine ⟨(0+1),hF.cz,⟨(by rw[show IK D k (0+1)=IK D k 0 from JV (Ags U)];exact H),?_⟩,?_⟩
  ·omega
  omega
 refine Zc 2 Z (gx (Zc 10 Z (Zr Z ?_)));obtain rfl:j=1:=by omega
 replace H:=H.f5.f5.f5.f4.f5;replace H:=(Sep.toDisk (D:= {D with f1:=Be D.f1}) (pd:=pd) (bd:=bd) (m:=m) (f0:=f0) (bs:=bs) (es:=es) (clk:=clk) (hq:=hq) (Γ:=blk g ((IK D k 1).map u8++rest) 5::R) H (a.f (Fg a.f1) a.f2 a.f3 a.left) (d.f _ _ _ _ _)).l2;exact ⟨_,.inr (.inr ⟨by omega,‹_›,g,b,rest,Z,⟨cg,cc,cl⟩,Z⟩),H.perm 2 [1,0] Z Z⟩
theorem S9(t b o c:Nat)(sec:List UInt8)(A:Af)(k:∀h,A h->rdH 1 (.slice (some ⟨b,o,none⟩) 256 c) 256 (sec.map u8) h):Cn prog 182 [Y t,.slice (some ⟨b,o,none⟩) 256 c] [tblA t,A] (λv Γ=>(Iu sec/\∃v',v=.tuple #[.agg #[I (AW ((sec.drop 4).take 8)),I (AW ((sec.drop 12).take 8)),v',u32 (Fs (AW ((sec.drop 20).take 4)))],.bool true]/\Γ=[grow 3 1 v' (BF sec) (hN sec (BF sec)),tblA t,A])\/(¬Iu sec/\v=.tuple #[.agg #[I 0,I 0,.slice none 0 0,u32 0],.bool false]/\Γ=[tblA t,A])):=by
 intro z R w H;replace H:=H.l2;have a0:=H.sy 1 (λq=>(k _ q).len);have a2:=H.sy 1 (λq=>(k _ q).cap);obtain ⟨c0,c1,c2,c3,hd⟩:=NZ a0;obtain ⟨m,hm,e⟩:=Abd (sec:=sec);refine Ae func182 Z ntmps182 Z (Zc 2 Z (AQ Z (Cb (P:=prog) H Z (zs:=[I 0,I 0,.slice none 0 0,u32 0]) J) ?_));rintro _ w ⟨b1,rfl,H⟩;replace H:=H.l3;refine Zc 7 Z (Aq Z (call180 _) (LM _ _ _ _ _ sec _ k) H.f2.f2 ?_);rintro _ w _ (⟨hs,rfl,rfl⟩|⟨hs,rfl,rfl⟩) g
 ·have H:=g.l3;refine Za 3 [] H Z ?_;intro b2 w H;refine Z4 16 [0] H Z ?_;intro w H;refine z_E_ Z (call150 _) (Cz 8 _ b (o+4) 248 (c-4) ((sec.drop 4).take 248) _ (λh q=>(k h q).cut (lo:=4) (m:=248) (c':=(c-4)) U U U) U U ((sec.drop 4).take 8) (by rw[Aey,Aez U]) (o+12) 240 (c-12) U U U) H.f2.f1 ?_;intro w H;replace H:=H.l4;refine z_E_ Z (call150 _) (Cz 8 _ b (o+12) 240 (c-12) ((sec.drop 12).take 240) _ (λh q=>(k h q).cut (lo:=12) (m:=240) (c':=(c-12)) U U U) U U ((sec.drop 12).take 8) (by rw[Aey,Aez U]) (o+20) 232 (c-20) U U U) H ?_;intro w H;replace H:=H.l4;refine z_E_ Z (call150 _) (Cz 4 _ b (o+20) 232 (c-20) ((sec.drop 20).take 232) _ (λh q=>(k h q).cut (lo:=20) (m:=232) (c':=(c-20)) U U U) U U ((sec.drop 20).take 4) (by rw[Aey,Aez U]) (o+24) 228 (c-24) U U U) H ?_;intro w H;replace H:=H.l4;refine Ab Z (Sn Z J Z) (Ab Z (Bc Z Z (out:=[I (AW ((sec.drop 4).take 8)),I (AW ((sec.drop 12).take 8)),.slice none 0 0,u32 (Fs (AW ((sec.drop 20).take 4)))]) J) (AQ Z (Cb (P:=prog) H Z (zs:=[I 0,I 0,.slice none 0 0,u32 0]) J) ?_))
  rintro _ w ⟨x,rfl,H⟩;replace H:=H.l5;refine Z4 5 [0] H Z ?_;intro w H;refine z_E_ Z (call150 _) (Cz 2 _ b (o+24) 228 (c-24) ((sec.drop 24).take 228) _ (λh q=>(k h q).cut (lo:=24) (m:=228) (c':=(c-24)) U U U) U U ((sec.drop 24).take 2) (by rw[Aey,Aez U]) (o+26) 226 (c-26) U U U) H.f2.f2 ?_;intro w H;refine Z2 8 [0,2,0] H Z (z_E_ Z (call86 _) (CX _ _) H ?_);intro w H;replace H:=H.l5;refine Ab Z (AE Z Z) (Zc 1 Z (Al 30 Z (λh1=>?_) (λh1=>?_)))
  ·refine Zc 18 Z (Ab Z (Bc Z Z (out:=[I 0,I 0,.slice none 0 0,u32 0]) J) (Z4 5 [4] H Z ?_));intro w H;refine Zl [4,4] H Z ?_;exact ⟨_,.inr ⟨by first|exact λq=>hs q.1|(rintro ⟨p,n,s,r,f,a⟩;first|(exfalso;omega)|exact absurd (f i U) ‹_› |(rw[e] at a;exact absurd a ‹_›)),rfl,rfl⟩,H.perm 5 [3,1] rfl rfl⟩
  refine Z2 2 [1,2,0] H Z (z_E_ Z (call86 _) (CX _ _) H ?_);intro w H;replace H:=H.l5;refine Ab Z (AE Z Z) (Zc 2 Z (Al 36 Z (λh2=>?_) (λh2=>?_)))
  ·refine Zc 12 Z (Ab Z (Bc Z Z (out:=[I 0,I 0,.slice none 0 0,u32 0]) J) (Z4 5 [4] H Z ?_));intro w H;refine Zl [4,4] H Z ?_;exact ⟨_,.inr ⟨by first|exact λq=>hs q.1|(rintro ⟨p,n,s,r,f,a⟩;first|(exfalso;omega)|exact absurd (f i U) ‹_› |(rw[e] at a;exact absurd a ‹_›)),rfl,rfl⟩,H.perm 5 [3,1] rfl rfl⟩
  refine Z0 4 [0] Z (Al 40 Z (λh3=>?_) (λh3=>?_))
  ·refine Zc 8 Z (Ab Z (Bc Z Z (out:=[I 0,I 0,.slice none 0 0,u32 0]) J) (Z4 5 [4] H Z ?_));intro w H;refine Zl [4,4] H Z ?_;exact ⟨_,.inr ⟨by first|exact λq=>hs q.1|(rintro ⟨p,n,s,r,f,a⟩;first|(exfalso;omega)|exact absurd (f i U) ‹_› |(rw[e] at a;exact absurd a ‹_›)),rfl,rfl⟩,H.perm 5 [3,1] rfl rfl⟩
  refine Z0 5 [0] Z (Ag Z (λh4=>?_) (λh4=>?_))
  ·refine Zc 2 Z (Ab Z (Bc Z Z (out:=[I 0,I 0,.slice none 0 0,u32 0]) J) (Z4 5 [4] H Z ?_));intro w H;refine Zl [4,4] H Z ?_;exact ⟨_,.inr ⟨by first|exact λq=>hs q.1|(rintro ⟨p,n,s,r,f,a⟩;first|(exfalso;omega)|exact absurd (f i U) ‹_› |(rw[e] at a;exact absurd a ‹_›)),rfl,rfl⟩,H.perm 5 [3,1] rfl rfl⟩
  refine Zc 4 Z (AC 9 (v:=I (m:Int)) Z (congrArg I hm) ?_);replace H:=(H.nilg 3 1).l6;refine Zc 6 Z ?_;refine AD (σ:=Nat×Value) (λ⟨i,v⟩=>[(46,I (i:Int)),(4,Y b1),(6,Y b2),(8,Y x),(45,I (m:Int))])
    (λ⟨i,v⟩ w=>Sep z (grow 3 1 v i (hN sec i)::blk b2 [.slice (some ⟨b,(o+(26+4*i)),none⟩) (252-(26+4*i)) (c-(26+4*i))] 243::A::blk x [I (AW ((sec.drop 4).take 8)),I (AW ((sec.drop 12).take 8)),v,u32 (Fs (AW ((sec.drop 20).take 4)))] 275::tblA t::blk b1 [I 0,I 0,.slice none 0 0,u32 0] 275::R) w/\(i<=m/\∀j,j<i->0<=Et sec j/\Et sec j<=1023)) (λ⟨i,v⟩=>m-i) ⟨0,.slice none 0 0⟩
    fr_z ⟨H,by omega,λj h=>by omega⟩ ?_
  clear H;rintro ⟨i,v⟩ w ⟨g,hI⟩;dsimp only at hI g ⊢;have H:=g.l6;have sv:=H.sy 0 (·.slc);obtain ⟨a1,l⟩:=hI;refine Z0 6 [0] Z (Ag Z (λh5=>?_) (λh5=>?_))
  ·have a3:i<m:=by omega
   refine Zc 6 Z (z_E_ Z (call150 _) (Cz 4 _ b (o+(26+4*i)) (252-(26+4*i)) (c-(26+4*i)) ((sec.drop (26+4*i)).take (252-(26+4*i))) _ (λh q=>(k h q).cut (lo:=(26+4*i)) (m:=(252-(26+4*i))) (c':=(c-(26+4*i))) U U U) U U ((sec.drop (26+4*i)).take 4) (by rw[Aey,Aez U]) (o+(26+4*(i+1))) (252-(26+4*(i+1))) (c-(26+4*(i+1))) U U U) H.f2.f2 ?_);intro w H;refine Zc 7 Z (z_E_ Z (call86 _) (CX _ _) H ?_);intro w H;replace H:=H.l6;refine Ab Z (AE Z Z) (Zc 2 Z (Ag Z (λh6=>?_) (λh6=>?_)))
   ·refine Zc 2 Z (Ab Z (Bc Z Z (out:=[I 0,I 0,.slice none 0 0,u32 0]) J) (Z4 5 [5] H Z ?_));intro w H;refine Zl [5,4] H Z ?_;exact ⟨_,.inr ⟨by first|exact λq=>hs q.1|(rintro ⟨p,n,s,r,f,a⟩;first|(exfalso;omega)|exact absurd (f i U) ‹_› |(rw[e] at a;exact absurd a ‹_›)),rfl,rfl⟩,H.perm 6 [4,1] rfl rfl⟩
   refine Z2 6 [2,3,0] H Z (AQ Z (AM H Z J Bz Z (by decide) (by decide) (out:=[I (Et sec i)]) J) ?_);rintro _ w ⟨b4,rfl,H⟩;replace H:=H.l7;refine AQ Z (AY 3 H Z Z J Bz Z Z (H.rv 0 (·.rd U U O Z)) (by simp[Value.oneCell']) U) ?_;rintro v5 w g;have g:Sep z (blk b4 [I (Et sec i)] 3::blk b2 [.slice (some ⟨b,(o+(26+4*(i+1))),none⟩) (252-(26+4*(i+1))) (c-(26+4*(i+1)))] 243::A::grow 3 1 v5 (i+1) (hN sec i++[I (Et sec i)])::blk x [I (AW ((sec.drop 4).take 8)),I (AW ((sec.drop 12).take 8)),v,u32 (Fs (AW ((sec.drop 20).take 4)))] 275::tblA t::blk b1 [I 0,I 0,.slice none 0 0,u32 0] 275::R) w:=g;have y:(hN sec i++[I (Et sec i)]:List Value)=hN sec (i+1):=Yc sec i;rw[y] at g;have H:=g.l7;have u:=H.sy 3 (·.slc);refine Z0 1 [2] Z (Az Z Z (JP 4 H Z Z Z Z u.cells u.one J) ?_);rintro w H;replace H:=H.l7;refine Z1 7 [] [(i:Int)+1] Z U ?_;replace H:=H.d.f5.f5.f5.f4.f4.f5;refine gf ?_;intro _ hF;refine ⟨⟨i+1,v5⟩,hF.cz,⟨H,?_⟩,?_⟩
   ·refine ⟨by omega,λj h=>?_⟩;rcases Ael j i with q|q
    ·exact l j q
    obtain rfl:j=i:=by omega
    unfold Et;omega
   omega
  obtain rfl:i=m:=by omega
  refine Zc 2 Z (gx (Zc 5 Z (z_E_ Z (call151 _) (KO _ b (o+(26+4*i)) (252-(26+4*i)) (c-(26+4*i)) ((sec.drop (26+4*i)).take (252-(26+4*i))) _ (λh q=>(k h q).cut (lo:=(26+4*i)) (m:=(252-(26+4*i))) (c':=(c-(26+4*i))) U U U) U) H.f2.f2 ?_)));intro w H;replace H:=H.l6;refine Ab Z (AE Z Z) (Zc 2 Z (Ag Z (λh7=>?_) (λh7=>?_)))
  ·refine Zc 2 Z (Ab Z (Bc Z Z (out:=[I 0,I 0,.slice none 0 0,u32 0]) J) (Z4 5 [5] H Z ?_));intro w H;refine Zl [5,4] H Z ?_;exact ⟨_,.inr ⟨by first|exact λq=>hs q.1|(rintro ⟨p,n,s,r,f,a⟩;first|(exfalso;omega)|exact absurd (f i U) ‹_› |(rw[e] at a;exact absurd a ‹_›)),rfl,rfl⟩,H.perm 6 [4,1] rfl rfl⟩
  refine Z2 5 [3,4] H Z (Az Z Z (Ak 5 H Z Z Z Z (vs:=[I (AW ((sec.drop 4).take 8)),I (AW ((sec.drop 12).take 8)),v,u32 (Fs (AW ((sec.drop 20).take 4)))]) Z (Ad Z (Ad Z (Ad sv.one (Ad Z Aw)))) J O (out:=[I (AW ((sec.drop 4).take 8)),I (AW ((sec.drop 12).take 8)),v,u32 (Fs (AW ((sec.drop 20).take 4)))]) Z) ?_);rintro w H;replace H:=H.l6;refine Zc 4 Z (Zl [5,4] H Z ?_);subst e;exact ⟨_,.inl ⟨⟨hs,by omega,by omega,by omega,l,by omega⟩,v,Z,Z⟩,H.perm 6 [2,4,1] Z Z⟩
 have H:=g.l3;refine Za 3 [] H Z ?_;intro b6 w H;refine Z4 14 [0] H Z ?_;intro w H;refine Ab Z (Bc Z Z (out:=[I 0,I 0,.slice none 0 0,u32 0]) J) (Z4 5 [3] H Z ?_);intro w H;refine Zl [3,4] H Z ?_;exact ⟨_,.inr ⟨by first|exact λq=>hs q.1|(rintro ⟨p,n,s,r,f,a⟩;first|(exfalso;omega)|exact absurd (f i U) ‹_› |(rw[e] at a;exact absurd a ‹_›)),rfl,rfl⟩,H.perm 4 [1,2] rfl rfl⟩
theorem Rv(j b o c:Nat)(sec:List UInt8)(A:Af)(d:∀h,A h->rdH 1 (.slice (some ⟨b,o,none⟩) 256 c) 256 (sec.map u8) h):Cn prog 184 [Y j,.slice (some ⟨b,o,none⟩) 256 c] [tblA j,A] (λv Γ=>(IQ sec/\∃g a rest,v=.tuple #[I (AW ((sec.drop 3).take 4)),I (AW ((sec.drop 7).take 5)),.agg #[I (AW ((sec.drop 1).take 2)),I (AW (sec.take 1)),.slice (some ⟨g,0,none⟩) 240 a],.bool true]/\(240<=a/\a<=9223372036854775807/\rest.length=a-240)/\Γ=[blk g (((sec.drop 12).take 240).map u8++rest) 5,tblA j,A])\/(¬IQ sec/\v=.tuple #[I 0,I 0,.agg #[I 0,I 0,.slice none 0 0],.bool false]/\Γ=[tblA j,A])):=by
 intro z R w H;replace H:=H.l2;have i:=H.sy 1 (λq=>(d _ q).len);have a0:=H.sy 1 (λq=>(d _ q).cap);obtain ⟨u,c1,c2,n,f⟩:=NZ i;refine Ae func184 Z ntmps184 Z (Za 4 [] H Z ?_);intro b1 w H;refine Zc 5 Z (Bu (Sep z _) J J H.drew (GF 9 [4] [] Z J (AL Z Z Z (BK Z (z:=1) (p:=252) (q:=256) (o':=o+252) (l':=4) (c':=c-252) J Z (.inr ⟨_,_,_,Z,Z,Z⟩) (.inl ⟨Z,Z⟩) U U U U U U) (AL Z Z Z (Mp (m:=4) Z J Z U) (AL Z Z Z (BX Z Z (vs:=[u8 u,u8 c1,u8 c2,u8 n]) J (λ_ t=>t.cell4 2 Z d f)) (BZ 2 [] Z J (AL Z Z Z (BK Z (z:=1) (p:=0) (q:=252) (o':=o) (l':=252) (c':=c) J Z (.inl ⟨Z,Z⟩) (.inr ⟨_,_,_,Z,Z,Z⟩) U U U U U U) (Dl Z Z Z Z Z (λw=>call212 _ w) (v:=.agg #[u8 ((A8 (sec.take 252)).toUInt8),u8 (((A8 (sec.take 252))>>>8).toUInt8),u8 (((A8 (sec.take 252))>>>16).toUInt8),u8 (((A8 (sec.take 252))>>>24).toUInt8)]) (cq (Og _ _ _ (sec.take 252) (by simp[i]) _ (λh q=>(d h q).pre U U)) (by rintro _ _ ⟨rfl,rfl⟩;exact ⟨Z,Z⟩) 3 [1,2,0] [2,0,1] Z Z Z Z) (AL Z Z Z (PQ Z J J Z Z) (BZ 1 [] Z J (BH (λw H'=>?_))))))))))));have H:=H'.l3;refine gn (Zc 1 Z (Ag Z (λx=>?_) (λx=>?_)))
 ·refine Z4 10 [0] H Z ?_;intro w H;refine Zl [0,3] H Z ?_;exact ⟨_,.inr ⟨by rintro ⟨e,l,k⟩;first|exact absurd (f▸e) ‹_› |(exfalso;omega),rfl,rfl⟩,H.perm 3 [1,2] rfl rfl⟩
 refine Zc 5 Z (Ab Z (BK Z (z:=1) (p:=0) (q:=252) (o':=o) (l':=252) (c':=c) J Z (.inl ⟨Z,Z⟩) (.inr ⟨_,_,_,Z,Z,Z⟩) U U U U U U) (Za 1 [] H Z ?_));intro b2 w H;refine Z4 5 [0] H Z ?_;intro w H;refine z_E_ Z (call150 _) (Cz 1 _ b o 252 c (sec.take 252) _ (λh q=>(d h q).pre (m:=252) (c':=c) U U) U U (sec.take 1) (by rw[Aey,Aez U]) (o+1) 251 (c-1) U U U) H.f3.f1 ?_;intro w H;replace H:=H.l4;refine z_E_ Z (call150 _) (Cz 2 _ b (o+1) 251 (c-1) ((sec.drop 1).take 251) _ (λh q=>(d h q).cut (lo:=1) (m:=251) (c':=(c-1)) U U U) U U ((sec.drop 1).take 2) (by rw[Aey,Aez U]) (o+3) 249 (c-3) U U U) H ?_;intro w H;replace H:=H.l4;refine z_E_ Z (call150 _) (Cz 4 _ b (o+3) 249 (c-3) ((sec.drop 3).take 249) _ (λh q=>(d h q).cut (lo:=3) (m:=249) (c':=(c-3)) U U U) U U ((sec.drop 3).take 4) (by rw[Aey,Aez U]) (o+7) 245 (c-7) U U U) H ?_;intro w H;replace H:=H.l4;refine z_E_ Z (call150 _) (Cz 5 _ b (o+7) 245 (c-7) ((sec.drop 7).take 245) _ (λh q=>(d h q).cut (lo:=7) (m:=245) (c':=(c-7)) U U U) U U ((sec.drop 7).take 5) (by rw[Aey,Aez U]) (o+12) 240 (c-12) U U U) H ?_;intro w H;refine Z0 12 [0] Z (Al 41 Z (λs=>?_) (λs=>?_))
 ·refine Z4 21 [2] H Z ?_;intro w H;refine Zl [2,3] H Z ?_;exact ⟨_,.inr ⟨by rintro ⟨e,l,k⟩;first|exact absurd (f▸e) ‹_› |(exfalso;omega),rfl,rfl⟩,H.perm 4 [3,1] rfl rfl⟩
 refine Z0 4 [0] Z (Al 45 Z (λy=>?_) (λy=>?_))
 ·refine Z4 17 [2] H Z ?_;intro w H;refine Zl [2,3] H Z ?_;exact ⟨_,.inr ⟨by rintro ⟨e,l,k⟩;first|exact absurd (f▸e) ‹_› |(exfalso;omega),rfl,rfl⟩,H.perm 4 [3,1] rfl rfl⟩
 refine Zc 1 Z (z_E_ Z (call86 _) (CX _ _) H ?_);intro w H;replace H:=H.l4;refine Ab Z (AE Z Z) (Zc 3 Z (Ag Z (λh4=>?_) (λh4=>?_)))
 ·refine Z4 10 [2] H Z ?_;intro w H;refine Zl [2,3] H Z ?_;exact ⟨_,.inr ⟨by rintro ⟨e,l,k⟩;first|exact absurd (f▸e) ‹_› |(exfalso;omega),rfl,rfl⟩,H.perm 4 [3,1] rfl rfl⟩
 refine Z2 10 [0,0,0] H Z (Aq Z (call134 _) (Jo _ _ 240 _ ((sec.drop 12).take 240) _ ((λh q=>(d h q).cut (lo:=12) (m:=240) (c':=(c-12)) U U U)) U) H.f1 ?_);rintro _ w _ ⟨g,a,rest,rfl,⟨r,cc,cl⟩,rfl⟩ H;refine Z4 9 [3] H Z ?_;intro w H;refine Zl [3,3] H Z ?_;exact ⟨_,.inl ⟨⟨by rw[f];exact AgB ‹_›,by omega,by omega⟩,g,a,rest,Z,⟨r,cc,cl⟩,Z⟩,H.perm 5 [0,4,1] Z Z⟩
theorem HI(s:Sup)(n:Int)(hn:0<=n/\n<=1152921504606846976):Cn prog 76 [.agg #[I s.gen,I s.epoch,I s.pages,I s.start,I s.len,I s.head,I s.seq],I n] [] (λv Γ=>v=I (if s.Ok n then 0 else 1)/\Γ=[]):=by
 intro z R w H;replace H:=H.l0;refine Ae func76 Z ntmps76 Z (Za 2 [] H Z ?_);intro u w H;refine Z2 20 [0,0,0,1,0,0,2,0,0,3,0,0,4,0,0,5,0,0,6,0,0] H Z (Ab Z (Bc Z Z (out:=[I s.gen,I s.epoch,I s.pages,I s.start,I s.len,I s.head,I s.seq]) J) (Zc 4 Z ?_));refine AD (σ:=Nat) (λk=>[(22,I (k:Int)),(1,I n),(2,Y u),(21,.agg #[I s.gen,I s.epoch,I s.pages,I s.start,I s.len,I s.head,I s.seq])])
   (λk w=>Sep z (blk u [I s.gen,I s.epoch,I s.pages,I s.start,I s.len,I s.head,I s.seq] 127::R) w/\(k<=7/\∀(j:Nat) (x:Int),j<k->s.list[j]?=some x->0<=x/\x<=1099511627776)) (λk=>7-k) 0
   fr_z ⟨H,by omega,λj x h=>by omega⟩ ?_
 clear H;rintro k w ⟨H',hI⟩;have H:=H'.l1;obtain ⟨a0,b⟩:=hI;refine Z0 6 [0] Z (Ag Z (λh1=>?_) (λh1=>?_))
 ·refine Zc 6 Z ?_;obtain ⟨x,c⟩:∃x,s.list[k]?=some x:=⟨_,Ad7 (by simp[Sup.list];omega)⟩;refine Ab Z (Nv Z J Z (l:=s.list) (j:=k) Z Z Z Z c) (Z0 8 [0] Z (Al 27 Z (λh2=>?_) (λh2=>?_)))
  ·refine Zc 12 Z (Zr Z ?_);have a:¬s.Ok n:=λ⟨q,e,m,i,f,d,g,o⟩=>by
     first |omega|(have:=q x (Ad8 c);omega)
   exact ⟨_,⟨congrArg I (by rw[if_neg a]),rfl⟩,H.perm 1 [] rfl rfl⟩
  refine Z0 5 [0] Z (Ag Z (λh3=>?_) (λh3=>?_))
  ·refine Zc 6 Z (Zr Z ?_);have a:¬s.Ok n:=λ⟨q,e,m,i,f,d,g,o⟩=>by
     first |omega|(have:=q x (Ad8 c);omega)
   exact ⟨_,⟨congrArg I (by rw[if_neg a]),rfl⟩,H.perm 1 [] rfl rfl⟩
  refine Z1 7 [] [(k:Int)+1] Z U (gf ?_);intro _ hF;refine ⟨(k+1),hF.cz,⟨H,?_⟩,?_⟩
  ·refine ⟨by omega,λj y p r=>?_⟩;rcases Ael j k with h|h
   ·exact b j y h r
   obtain rfl:j=k:=by omega
   rw[c] at r;cases r;omega
  omega
 obtain rfl:k=7:=by omega
 have hp:=b 2 s.pages U Z;have hl:=b 4 s.len U Z;refine Zc 2 Z (gx (Z2 9 [2,0,0,0] H Z (Al 35 Z (λh4=>?_) (λh4=>?_))))
 ·refine Zc 48 Z (Zr Z ?_);have a:¬s.Ok n:=λ⟨q,e,m,i,f,d,g,o⟩=>by
    first |omega|(have:=q x (Ad8 c);omega)
  exact ⟨_,⟨congrArg I (by rw[if_neg a]),rfl⟩,H.perm 1 [] rfl rfl⟩
 refine Z2 5 [2,0,0,0] H Z (Al 40 Z (λh5=>?_) (λh5=>?_))
 ·refine Zc 43 Z (Zr Z ?_);have a:¬s.Ok n:=λ⟨q,e,m,i,f,d,g,o⟩=>by
    first |omega|(have:=q x (Ad8 c);omega)
  exact ⟨_,⟨congrArg I (by rw[if_neg a]),rfl⟩,H.perm 1 [] rfl rfl⟩
 refine Z3 8 [3,0,0,2,0,0,0] [2+s.pages] H Z U (Al 48 Z (λh6=>?_) (λh6=>?_))
 ·refine Zc 35 Z (Zr Z ?_);have a:¬s.Ok n:=λ⟨q,e,m,i,f,d,g,o⟩=>by
    first |omega|(have:=q x (Ad8 c);omega)
  exact ⟨_,⟨congrArg I (by rw[if_neg a]),rfl⟩,H.perm 1 [] rfl rfl⟩
 refine Z2 5 [4,0,0,0] H Z (Al 53 Z (λh7=>?_) (λh7=>?_))
 ·refine Zc 30 Z (Zr Z ?_);have a:¬s.Ok n:=λ⟨q,e,m,i,f,d,g,o⟩=>by
    first |omega|(have:=q x (Ad8 c);omega)
  exact ⟨_,⟨congrArg I (by rw[if_neg a]),rfl⟩,H.perm 1 [] rfl rfl⟩
 refine Z3 9 [3,0,0,4,0,0,0] [n-s.len] H Z U (Al 62 Z (λh8=>?_) (λh8=>?_))
 ·refine Zc 21 Z (Zr Z ?_);have a:¬s.Ok n:=λ⟨q,e,m,i,f,d,g,o⟩=>by
    first |omega|(have:=q x (Ad8 c);omega)
  exact ⟨_,⟨congrArg I (by rw[if_neg a]),rfl⟩,H.perm 1 [] rfl rfl⟩
 refine Z2 6 [4,0,0,0] H Z (Al 68 Z (λh9=>?_) (λh9=>?_))
 ·refine Zc 15 Z (Zr Z ?_);have a:¬s.Ok n:=λ⟨q,e,m,i,f,d,g,o⟩=>by
    first |omega|(have:=q x (Ad8 c);omega)
  exact ⟨_,⟨congrArg I (by rw[if_neg a]),rfl⟩,H.perm 1 [] rfl rfl⟩
 refine Z2 8 [5,0,0,4,0,0,0] H Z (Ag Z (λt=>?_) (λt=>?_))
 ·refine Zc 6 Z (Zr Z ?_);have a:¬s.Ok n:=λ⟨q,e,m,i,f,d,g,o⟩=>by
    first |omega|(have:=q x (Ad8 c);omega)
  exact ⟨_,⟨congrArg I (by rw[if_neg a]),rfl⟩,H.perm 1 [] rfl rfl⟩
 refine Zc 8 Z (Zr Z ?_);have a:s.Ok n:=⟨λx c=>by
   obtain ⟨j,p,rfl⟩:=Af3.1 c;exact b j _ (by simp[Sup.list] at p;omega) (Ad7 p)
   ,by omega,by omega,by omega,by omega,by omega,by omega,by omega⟩
 exact ⟨_,⟨congrArg I (by rw[if_pos a]),Z⟩,H.perm 1 [] Z Z⟩
theorem Ta(a pd d:Nat)(s:Sup)(at_ sq us:Int)(b c:Bool)(g: -9223372036854775808<=s.len-us/\s.len-us<=9223372036854775807):Cn prog 122 [Y a] [lgB a pd d s at_ sq us b c] (λv Γ=>v=I (if b then 0 else s.len-us)/\Γ=[lgB a pd d s at_ sq us b c]):=by
 intro z R w H;replace H:=H.l1;refine Ae func122 Z ntmps122 Z (Z2 14 [12,0,0] H Z (Ep Z (λe=>?_) (λe=>?_)))
 ·refine Zc 6 Z (Zr Z ?_);exact ⟨_,⟨congrArg I (by simp_all),Z⟩,H⟩
 refine Zc 3 Z (Bu (Sep z _) J J H.drew (G4 11 [2,6,0,0,11,0,0] [s.len-us] Z J U (BH (λw f=>?_))));have H:=f.l1;refine gn (Zc 2 Z (Zr Z ?_));exact ⟨_,⟨congrArg I (by simp_all),Z⟩,H⟩
theorem Tc(a pd d:Nat)(s:Sup)(at_ sq us:Int)(c b:Bool):Cn prog 123 [Y a] [lgB a pd d s at_ sq us c b] (λv Γ=>v=.tuple #[I at_,I sq]/\Γ=[lgB a pd d s at_ sq us c b]):=by
 intro z R w H;replace H:=H.l1;refine Ae func123 Z ntmps123 Z (Zc 7 Z (Bu (Sep z _) J J H.drew (DZ 10 [9,0,10,0] (λ_ f=>(AS (f.blk 0 Z) AN)) Z J Z (BH (λw e=>?_)))));have H:=e.l1;refine gn (Zc 2 Z (Zr Z ?_));exact ⟨_,⟨Z,Z⟩,H⟩
theorem Td(a pd c:Nat)(s:Sup)(at_ sq us:Int)(d b:Bool):Cn prog 124 [Y a] [lgB a pd c s at_ sq us d b] (λv Γ=>v=.tuple #[]/\Γ=[lgB a pd c s at_ sq 0 false b]):=by
 intro z R w H;replace H:=H.l1;refine Ae func124 Z ntmps124 Z (Z4 14 [11,0,12,0] H Z ?_);intro w H;refine Zf Z ?_;exact ⟨_,⟨Z,Z⟩,H⟩
theorem J5(a pd d:Nat)(s:Sup)(at_ sq us:Int)(c b:Bool)(n:Int)(f:0<=at_/\at_<=1099511627776)(i:0<=n/\n<=1099511627776)(g:0<s.len)(hs:0<=sq/\sq<=2199023255552)(h:0<=us/\us<=2199023255552):Cn prog 140 [Y a,I n] [lgB a pd d s at_ sq us c b] (λv Γ=>v=.tuple #[]/\Γ=[lgB a pd d s ((at_+n)%s.len) (sq+1) (us+n) c b]):=by
 intro z R w H;replace H:=H.l1;refine Ae func140 Z ntmps140 Z (Zc 1 Z (BG 15 J J (A5 H λw e=>?_)));have H:=e.l1;refine EQ 15 [9,0,0,2,6,0,0,9] [at_+n,(at_+n)%s.len] H Z J U (CD (gw (Z5 26 [0,10,0,0,10,0,11,0,0,11,0] [sq+1,us+n] H Z U ?_)));intro w H;refine Zf Z ?_;exact ⟨_,⟨Z,Z⟩,H⟩
theorem Yn(pd bd m N:Nat)(f0 g h d lf:Int)(a:Bool)(c:Nat)(s:Sup)(hN:N<=1152921504606846976)(b:s.Ok ((N:Int)/256)):Cn prog 85 [Y pd,Y c,.agg #[I s.gen,I s.epoch,I s.pages,I s.start,I s.len,I s.head,I s.seq]] [blk pd [.slice (some ⟨bd,0,none⟩) N N,.map (some m),I f0,I g,I h,I d,.bool a,I lf] 83] (λv Γ=>(∃f,v=Y f/\Γ=[lgB f pd c s s.head s.seq 0 false (decide (s.epoch<4294967296)),blk pd [.slice (some ⟨bd,0,none⟩) N N,.map (some m),I f0,I g,I h,I d,.bool a,I lf] 83])):=by
 intro z R w H;replace H:=H.l1;refine Ae func85 Z ntmps85 Z (Za 2 [] H Z ?_);intro k w H;refine Zc 5 Z (Bu (Sep z _) J J H.drew (GF 9 [0,7] [] Z J (Dl Z Z Z Z Z (λw=>call77 _ w) (v:=I ((N:Int)/256)) (cq (KA _ _ _ _ _ _ _ _ _ _ U) (by rintro _ _ ⟨rfl,rfl⟩;exact ⟨Z,Z⟩) 2 [1,0] [1,0] Z Z Z Z) (Dl Z Z Z Z Z (λw=>call76 _ w) (v:=I (if s.Ok ((N:Int)/256) then 0 else 1)) (cq (HI _ _ U) (by rintro _ _ ⟨rfl,rfl⟩;exact ⟨Z,Z⟩) 0 [] [] Z Z Z Z) (BZ 2 [] Z J (BH (λw j=>?_)))))));have H:=j.l2;refine gn (Zc 1 Z (Ag Z (λe=>?_) (λe=>?_)))
 ·exact absurd (if_pos b) e
 refine Z2 14 [0,7,5,0,0,6,0,0,1,0,0,0] H Z (Ab Z (Bc Z Z (out:=[Y pd,Y c,I s.gen,I s.epoch,I s.pages,I s.start,I s.len,I s.head,I s.seq,I s.head,I s.seq,I 0,.bool false,.bool (decide ((s.epoch:Int)<4294967296))]) J) (Za 0 [] H Z ?_));intro i w H;refine Zc 4 Z (Zr Z ?_);exact ⟨_,⟨i,Z,Z⟩,H.perm 3 [0,2] Z Z⟩
theorem Abk(k:Nat):Cn prog 9 [I (k:Int)] [] (λv Γ=>(¬(1<=k/\k<=4096)/\v=.tuple #[.pointer none,I 1]/\Γ=[])\/((1<=k/\k<=4096)/\∃pd,v=.tuple #[Y pd,I 0]/\Γ=[diskA pd (Ct k)])):=by
 intro z R w H;replace H:=H.l0;refine Ae func9 Z ntmps9 Z (Z0 12 [0] Z (Al 6 Z (λf=>?_) (λf=>?_)))
 ·refine Zc 13 Z (Zr Z ?_);exact ⟨_,.inl ⟨by omega,Z,Z⟩,H⟩
 refine Z0 5 [0] Z (Ag Z (λg=>?_) (λg=>?_))
 ·refine Zc 7 Z (Zr Z ?_);exact ⟨_,.inl ⟨by omega,Z,Z⟩,H⟩
 refine Z1 6 [] [((k*256:Nat):Int)] Z U (AQ Z (Em (k:=(k*256)) H Z J CK Z Z Z U) ?_);rintro _ w ⟨b,rfl,H⟩;replace H:=H.l1;refine AQ Z (F5 H Z) ?_;rintro _ w ⟨a,rfl,H⟩;replace H:=H.l2;refine Ab Z (Bc Z Z (out:=[.slice (some ⟨b,0,none⟩) (k*256) (k*256),.map (some a),I 0,I 0,I 0,I 0,.bool false,I 0]) J) (Za 0 [] H Z ?_);intro c w H;refine Zc 5 Z (Zr Z ?_);replace H:=(Rs H).l4;replace H:=(H.void (B:=seps (([]:List Ent).map Ent.row)) (λh=>⟨λ_=>0,λi A e=>by cases e⟩)).l5;have d:List.replicate (k*256) (u8 0)=(List.replicate (k*256) (0:UInt8)).map u8:=by simp
 rw[d] at H;have H:Sep z (seps (([]:List Ent).map Ent.row)::poolA (λ_=>none)::blk c [.slice (some ⟨b,0,none⟩) (k*256) (k*256),.map (some a),I 0,I 0,I 0,I 0,.bool false,I 0] 83::AH a (([]:List Ent).map Ent.ie) 0::blk b ((List.replicate (k*256) (0:UInt8)).map u8) 5::R) w:=H;replace H:=H.f1.f3.f4.f4;replace H:=(Sep.toDisk (D:=Ct k) (pd:=c) (bd:=b) (m:=a) (f0:=0) (bs:=(List.replicate (k*256) 0)) (es:=([]:List Ent)) (clk:=0) (hq:=(λ_=>none)) (Γ:=R) H (Yd U) Ye).l1;exact ⟨_,.inr ⟨by omega,c,Z,Z⟩,H⟩
theorem Qd(c pd i:Nat)(s:Sup)(at_ sq us:Int)(f e:Bool)(x:Int)(D:Dsk)(h:D.f1=0)(u:0<=s.start/\0<s.len/\s.start+s.len<=D.n)(t:0<=x/\x<=1152921504606846976)(sec:List UInt8)(b:D.cont (ringAt s x)=sec):Cn prog 181 [Y c,I x] [lgB c pd i s at_ sq us f e,diskA pd D] (λv Γ=>(∃g a rest,v=.tuple #[.slice (some ⟨g,0,none⟩) 256 a,I 0]/\(256<=a/\a<=9223372036854775807/\rest.length=a-256)/\Γ=[blk g (sec.map u8++rest) 5,lgB c pd i s at_ sq us f e,diskA pd D])):=by
 intro z R w H;replace H:=H.l2;have j:=H.sy 1 (λq=>(diskA.ok q).n2);have m:=Agd x (by omega:s.len≠0);have l:=AfY x (by omega:0<s.len);refine Ae func181 Z ntmps181 Z (Zc 7 Z (AO (Sep z (lgB c pd i s at_ sq us f e::diskA pd D::R)) 22 Z J (A5 H λw d=>?_)));have H:=d.l2;refine HC [0,1,2,3,4,5,6,7,8,9,10,11,12,13,14,15,16] [0,0,0,2,5,0,0,2,6,0,0] [x%s.len,s.start+(x%s.len)] H Z J U Z (AB [17] J O (An (Bo Z Z Z Z Z Z (λw=>call137 _ w) (IU _ _ _) H.f1 Z ?_)));rintro _ w _ (⟨o,rfl,rfl⟩|⟨_,r,_⟩|⟨_,_,g,a,rest,rfl,⟨k,cc,p⟩,rfl⟩) d
 ·exact absurd ⟨by omega,by omega⟩ o
 ·exact absurd r U
 rw[diskA.f1 h] at d;have H:=d.l3;refine Av (H.pick 3 [2,1] Z) (AU [18,19,20,21] [] [] (by exact H.pick 3 [2,1] Z) Z J Z (a_done J (gn (Zc 2 Z (Zr Z ?_)))));subst b;exact ⟨_,⟨g,a,rest,Z,⟨k,cc,p⟩,Z⟩,H.perm 3 [0,2,1] Z Z⟩
theorem Yo(b:Nat)(a:UInt32)(v:Value)(n:Nat)(bs:List UInt8)(d:bs.length=n)(A:Af)(c:∀h,A h->rdH 1 v n (bs.map u8) h):Cn prog 183 [Y b,u32 a,v] [tblA b,A] (λv Γ=>v=u32 (ED a bs)/\Γ=[tblA b,A]):=by
 subst d;exact S7 b a v bs A c
set_option maxHeartbeats 1000000 in
theorem Abl (pl pd pt:Nat) (s:Sup) (at_ sq us:Int) (br nu:Bool) (D:Dsk) (c9:D.f1=0) (hr:0<=s.start/\0<s.len/\s.start+s.len<=D.n) (ha:0<=at_/\at_<=1099511627776) (hu:0<=us/\us<=1099511627776) (g7:s.len<=4096) (F:Nat->List UInt8) (hF:∀j:Nat,F j=D.cont (ringAt s (at_+j))):Cn prog 139 [Y pl] [lgB pl pd pt s at_ sq us br nu,tblA pt,diskA pd D] (λv Γ=>((∀ims,¬nextP F s.epoch sq (s.len-us) ims)/\v=.tuple #[.agg #[I 0,.slice none 0 0],I 0]/\Γ=[lgB pl pd pt s at_ sq us br nu,tblA pt,diskA pd D])\/(∃ims v' hq,nextP F s.epoch sq (s.len-us) ims/\v=.tuple #[.agg #[I sq,v'],I 0]/\imgsH v' ims hq/\Γ=[poolA hq,lgB pl pd pt s at_ sq us br nu,tblA pt,diskA pd D])):=by
 intro z R w H;replace H:=H.l3;have a1:∀j:Nat,(F j).length=256:=λj=>by
   rw[hF];refine Dsk.cont_len (H.sy 2 (λq=>diskA.ok q)) ?_;have g4:=AfY (at_+j) (by omega:0<s.len);unfold ringAt;omega
 replace H:=(Rs H).l4;refine Ae func139 Z ntmps139 Z (Za 2 [] H Z ?_);intro b1 w H;refine Za 6 [] H Z ?_;intro b2 w H;refine Z4 10 [0,9,3,0] H Z ?_;intro w H;refine Aq Z (call181 _) (Qd _ _ _ _ _ _ _ _ _ _ _ c9 hr U (F 0) (by rw[hF];simp)) H.f5.f4 ?_;rintro _ w _ ⟨g,c1,rest,rfl,⟨cg,cc,cl⟩,rfl⟩ H;replace H:=H.l7;replace H:=H.f5;obtain ⟨e6,⟨f9,c0⟩,H⟩:=DV H (λh q=>EF q (a1 _) ⟨cg,cc,cl⟩);replace H:=H.l6;refine Z2 24 [4,1,1,0] H Z (Aq Z (call182 _) (S9 _ _ _ _ (F 0) _ (λh q=>c0.le q)) H.f5 ?_);rintro _ w _ (⟨hh,v1,rfl,rfl⟩|⟨hh,rfl,rfl⟩) a
 ·have H:=a.l7
  refine Zc 1 Z ?_;obtain ⟨a2,a3,rfl⟩:=H.sy 0 (·.slc);have H:Sep z (grow 3 1 (.slice a2 (BF (F 0)) a3) (BF (F 0)) (hN (F 0) (BF (F 0)))::tblA pt::poolA e6::lgB pl pd pt s at_ sq us br nu::diskA pd D::blk b2 [I 0,.slice none 0 0] 146::blk b1 [I 0,.slice none 0 0] 146::R) w:=H;replace H:=H.f2;obtain ⟨d4,⟨f3,e8⟩,H⟩:=DV H (λh q=>q.rd);replace H:=H.l6;have f0:=hh.2.2.2.1;refine Zc 2 Z (AQ Z (Cb (P:=prog) H Z (zs:=[I 0,I 0,.slice none 0 0,u32 0]) J) ?_);rintro _ w ⟨b3,rfl,H⟩;replace H:=H.l7;refine Z4 6 [0] H Z ?_;intro w H;refine Bu (Sep z _) J J H.drew (DZ 13 [0,0,2,3,1] (λ_ hx=>(AS (hx.blk 0 Z) (AS (hx.blk 3 Z) AN))) Z J Z (Cd 56 Z (λh1=>?_) (λh1=>?_)))
  ·refine BZ 25 [] Z J (BH (λw a=>?_));have H:=a.l7;refine gn (Z4 10 [5,2,6] H Z ?_);intro w H;refine Zl [6,2] H Z ?_;exact ⟨_,.inl ⟨λims=>by rintro ⟨p,t,y,q4,q5,c,x⟩;first|exact hh p|(exfalso;simp only[Cp,Cq] at t y;omega)|exact absurd (c i U).1 hi|(have q8:=c i U;simp only[Fw,Fx,Cl,Cp,Cq] at *;exfalso;omega)|exact absurd (show A8 (Ea F (BF (F 0)))=DJ (F 0) from x) ‹_›,rfl,rfl⟩,H.perm 7 [3,2,4] rfl rfl⟩
  refine DZ 9 [1,0,10,1] (λ_ hx=>(AS (hx.blk 0 Z) (AS (hx.blk 3 Z) AN))) Z J Z (Cd 65 Z (λh2=>?_) (λh2=>?_))
  ·refine BZ 16 [] Z J (BH (λw a=>?_));have H:=a.l7;refine gn (Z4 10 [5,2,6] H Z ?_);intro w H;refine Zl [6,2] H Z ?_;exact ⟨_,.inl ⟨λims=>by rintro ⟨p,t,y,q4,q5,c,x⟩;first|exact hh p|(exfalso;simp only[Cp,Cq] at t y;omega)|exact absurd (c i U).1 hi|(have q8:=c i U;simp only[Fw,Fx,Cl,Cp,Cq] at *;exfalso;omega)|exact absurd (show A8 (Ea F (BF (F 0)))=DJ (F 0) from x) ‹_›,rfl,rfl⟩,H.perm 7 [3,2,4] rfl rfl⟩
  refine G4 16 [2,0,0,2,6,3,0,11,3,0,0] [1+((BF (F 0):Nat):Int),s.len-us] Z J U (BH (λw a=>?_));have H:=a.l7;refine gn (Zc 1 Z (Ag Z (λh3=>?_) (λh3=>?_)))
  ·refine Z4 8 [5,2,6] H Z ?_;intro w H;refine Zl [6,2] H Z ?_;exact ⟨_,.inl ⟨λims=>by rintro ⟨p,t,y,q4,q5,c,x⟩;first|exact hh p|(exfalso;simp only[Cp,Cq] at t y;omega)|exact absurd (c i U).1 hi|(have q8:=c i U;simp only[Fw,Fx,Cl,Cp,Cq] at *;exfalso;omega)|exact absurd (show A8 (Ea F (BF (F 0)))=DJ (F 0) from x) ‹_›,rfl,rfl⟩,H.perm 7 [3,2,4] rfl rfl⟩
  refine Zc 14 Z ?_;replace H:=(H.nilg 54 1).l8;refine Z2 8 [2,1,0] H Z ?_;refine AD (σ:=Nat×Value×List Value×Hp) (λ⟨i,v,m,hq⟩=>[(86,I (i:Int)),(9,u32 (A8 (Ea F i))),(10,v),(0,Y pl),(2,Y b1),(4,Y b2),(7,Y b3),(85,I ((BF (F 0):Nat):Int))])
    (λ⟨i,v,m,hq⟩ w=>Sep z (grow 54 1 v i m::blk b3 [I (Cp (F 0)),I (Cq (F 0)),.slice a2 (BF (F 0)) a3,u32 (DJ (F 0))] 275::poolA hq::tblA pt::lgB pl pd pt s at_ sq us br nu::diskA pd D::blk b2 [I 0,.slice none 0 0] 146::blk b1 [I 0,.slice none 0 0] 146::R) w/\(i<=BF (F 0)/\m.length=i/\CJ d4 hq/\∀(j:Nat) (pv:Value),m[j]?=some pv->rdH 1 pv 256 ((F (1+j)).map u8) hq)) (λ⟨i,v,m,hq⟩=>BF (F 0)-i) ⟨0,.slice none 0 0,[],d4⟩
    (λ_ hF=>(hF.co Z (by go_num) (hF.co Z (AdG F) hF.cz))) ⟨H,by omega,Z,λk o e=>e,λj pv h=>by simp at h⟩ ?_
  clear H;rintro ⟨i,v,m,hq⟩ w ⟨a,hI⟩;dsimp only at hI a ⊢;have H:=a.l8;have sv:=H.sy 0 (·.slc);obtain ⟨e3,c3,b0,b5⟩:=hI;refine Z0 6 [0] Z (Ag Z (λh4=>?_) (λh4=>?_))
  ·have e4:i<BF (F 0):=by omega
   refine Z3 20 [9,4,0] [at_+1,(at_+1)+(i:Int)] H Z U (Aq Z (call181 _) (Qd _ _ _ _ _ _ _ _ _ _ _ c9 hr U (F (1+i)) (by rw[hF];congr 2;omega)) H.f5.f5 ?_);rintro _ w _ ⟨g,c1,rest,rfl,⟨cg,cc,cl⟩,rfl⟩ H;replace H:=H.l9;replace H:=H.f5;obtain ⟨e1,⟨b9,a5⟩,H⟩:=DV H (λh q=>EF q (a1 _) ⟨cg,cc,cl⟩);replace H:=H.l8;refine Z2 25 [4,1,1,0] H Z (z_E_ Z (call183 _) (Yo _ _ _ 256 (F (1+i)) (a1 _) _ (λh q=>a5.le q)) H.f5 ?_);intro w H;refine Zc 6 Z (AQ Z (AM H Z J Kz Z (by decide) (by decide) (out:=[.slice (some ⟨g,0,none⟩) 256 c1]) J) ?_);rintro _ w ⟨b4,rfl,H⟩;replace H:=H.l9;refine AQ Z (AY 5 H Z Z J Kz Z Z (H.rv 0 (·.rd U U O Z)) (by simp[Value.oneCell']) U) ?_;rintro v5 w H;replace H:=H.l9;have g0:=H.sy 5 (·.slc);refine Z1 8 [] [(i:Int)+1] Z U ?_;replace H:=H.d.f7.f7.f5.f5.f4.f5.f7.f7;refine gf ?_;intro _ hF;refine ⟨⟨i+1,v5,m++[.slice (some ⟨g,0,none⟩) 256 c1],e1⟩,(hF.co Z (by go_num) (hF.co Z (congrArg u32 (UU F i)) (hF.all Z))),⟨H,?_⟩,?_⟩
   ·refine ⟨by omega,by simp[c3],λk o e=>b9 k o (b0 k o e),λj pv h=>?_⟩;rcases Ael j i with q|q
    ·rw[Aeg U] at h;exact (b5 j pv h).le b9
    rw[Aen U] at h;obtain rfl:j=i:=by have:=(Ad6.1 h).1;simp at this;omega
    simp[c3] at h;subst h;exact a5
   omega
  obtain rfl:i=BF (F 0):=by omega
  refine Zc 2 Z (gx (Zc 3 Z ?_));obtain ⟨c4,d2,rfl⟩:=H.sy 0 (·.slc);have H:Sep z (grow 54 1 (.slice c4 (BF (F 0)) d2) (BF (F 0)) m::blk b3 [I (Cp (F 0)),I (Cq (F 0)),.slice a2 (BF (F 0)) a3,u32 (DJ (F 0))] 275::poolA hq::tblA pt::lgB pl pd pt s at_ sq us br nu::diskA pd D::blk b2 [I 0,.slice none 0 0] 146::blk b1 [I 0,.slice none 0 0] 146::R) w:=H;replace H:=H.f2;obtain ⟨d3,⟨a7,c5⟩,H⟩:=DV H (λh q=>q.rd);replace H:=H.l7;have a8:=e8.le (λk o e=>a7 k o (b0 k o e));replace H:=(H.nilg 148 3).l8;refine Za 6 [10,4,0] H Z ?_;intro b6 w H;refine Z4 12 [0] H Z ?_;intro w H;refine AD (σ:=Nat×Value×List ImE×Hp) (λ⟨i,v,es,a0⟩=>[(124,I (i:Int)),(0,Y pl),(2,Y b1),(4,Y b2),(7,Y b3),(9,u32 (A8 (Ea F (BF (F 0))))),(14,Y b6),(122,.slice c4 (BF (F 0)) d2),(123,I ((BF (F 0):Nat):Int))])
    (λ⟨i,v,es,a0⟩ w=>Sep z (blk b6 [I sq,v] 146::grow 148 3 v i (Gk es)::poolA a0::blk b3 [I (Cp (F 0)),I (Cq (F 0)),.slice a2 (BF (F 0)) a3,u32 (DJ (F 0))] 275::tblA pt::lgB pl pd pt s at_ sq us br nu::diskA pd D::blk b2 [I 0,.slice none 0 0] 146::blk b1 [I 0,.slice none 0 0] 146::R) w/\(i<=BF (F 0)/\es.length=i/\es.map Prod.fst=(List.range i).map (λj=>Cl (F (1+j)))/\CJ d3 a0/\imesOk es a0/\∀j,j<i->IQ (F (1+j))/\Fw (F (1+j))=s.epoch/\Fx (F (1+j))=sq/\(Cl (F (1+j))).num=Et (F 0) j/\A8 (Ea F (BF (F 0)))=DJ (F 0))) (λ⟨i,v,es,a0⟩=>BF (F 0)-i) ⟨0,.slice none 0 0,[],d3⟩
    fr_z ⟨H,by omega,Z,Z,λk o e=>e,λe he=>absurd he O,λj h=>by omega⟩ ?_
  clear H;rintro ⟨i,v,es,a0⟩ w ⟨a,hI⟩;dsimp only at hI a ⊢;have H:=a.l9;have sv:=H.sy 1 (·.slc);obtain ⟨e3,e2,c6,f,d5,l⟩:=hI;refine Z0 6 [0] Z (Ag Z (λh5=>?_) (λh5=>?_))
  ·have e4:i<BF (F 0):=by omega
   refine Zc 5 Z ?_;obtain ⟨pv,d6⟩:∃pv,m[i]?=some pv:=⟨_,Ad7 U⟩;have a6:=(b5 i pv d6).le (λk o e=>f k o (a7 k o e));obtain ⟨sb,so,sc,rfl⟩:=a6.sl (by rw[Aea,a1];decide);have a9:=(H.rv 2 (λq=>(c5.le f).le q)).at (j:=i) d6;have d0:=(H.rv 2 (λq=>(a8.le f).le q)).at (j:=i) (u:=I (Et (F 0) i)) (by simp[hN,show i<BF (F 0) from by omega]);refine Zc 2 Z (Ab Z (Aj Z (z:=1) (j:=i) (r:=i) J Z Z Z U a9 U) (Ab Z (Ax Z Z J (Ay a9)) (Z2 11 [1,5,0] H Z (Aq Z (call184 _) (Rv _ _ _ _ (F (1+i)) _ (λh q=>a6.le q)) H.f2.f4 ?_))));rintro _ w _ (⟨hi,g3,b,e0,rfl,⟨e5,d9,e7⟩,rfl⟩|⟨hi,rfl,rfl⟩) a
   ·have H:=a.l10;refine Zc 1 Z ?_;replace H:=H.f2;obtain ⟨c8,⟨a4,c2⟩,H⟩:=DV H (λh q=>EF q (by simp[a1]) ⟨e5,d9,e7⟩);replace H:=H.l9;refine Za 4 [] H Z ?_;intro b7 w H;refine Z4 8 [0] H Z ?_;intro w H;refine Bu (Sep z _) J J H.drew (DZ 9 [0,0] (λ_ hx=>(AS (hx.blk 5 Z) AN)) Z J Z (Cd 148 Z (λh6=>?_) (λh6=>?_)))
    ·refine BZ 21 [] Z J (BH (λw a=>?_));have H:=a.l10;refine gn (Z4 10 [8,2,9] H Z ?_);intro w H;refine Zl [9,2] H Z ?_;exact ⟨_,.inl ⟨λims=>by rintro ⟨p,t,y,q4,q5,c,x⟩;first|exact hh p|(exfalso;simp only[Cp,Cq] at t y;omega)|exact absurd (c i U).1 hi|(have q8:=c i U;simp only[Fw,Fx,Cl,Cp,Cq] at *;exfalso;omega)|exact absurd (show A8 (Ea F (BF (F 0)))=DJ (F 0) from x) ‹_›,rfl,rfl⟩,H.perm 10 [6,2,7] rfl rfl⟩
    refine DZ 6 [1,0] (λ_ hx=>(AS (hx.blk 5 Z) AN)) Z J Z (Cd 154 Z (λh7=>?_) (λh7=>?_))
    ·refine BZ 15 [] Z J (BH (λw a=>?_));have H:=a.l10;refine gn (Z4 10 [8,2,9] H Z ?_);intro w H;refine Zl [9,2] H Z ?_;exact ⟨_,.inl ⟨λims=>by rintro ⟨p,t,y,q4,q5,c,x⟩;first|exact hh p|(exfalso;simp only[Cp,Cq] at t y;omega)|exact absurd (c i U).1 hi|(have q8:=c i U;simp only[Fw,Fx,Cl,Cp,Cq] at *;exfalso;omega)|exact absurd (show A8 (Ea F (BF (F 0)))=DJ (F 0) from x) ‹_›,rfl,rfl⟩,H.perm 10 [6,2,7] rfl rfl⟩
    refine DZ 5 [0,0,2,1] (λ_ hx=>(AS (hx.blk 0 Z) (AS (hx.blk 5 Z) AN))) Z J Z (AL Z Z Z (Aj Z (z:=1) (j:=i) (r:=i) J Z Z Z U d0 U) (AL Z Z Z (Ax Z Z J (λ_ hx=>(hx.rd 1 Z (λh q=>(a8.le (λk o e=>a4 k o (f k o e))).le q)).at (j:=i) (u:=I (Et (F 0) i)) (by simp[hN,show i<BF (F 0) from by omega]))) (BZ 3 [] Z J (Cd 164 Z (λh8=>?_) (λh8=>?_)))))
    ·refine BZ 5 [] Z J (BH (λw a=>?_));have H:=a.l10;refine gn (Z4 10 [8,2,9] H Z ?_);intro w H;refine Zl [9,2] H Z ?_;exact ⟨_,.inl ⟨λims=>by rintro ⟨p,t,y,q4,q5,c,x⟩;first|exact hh p|(exfalso;simp only[Cp,Cq] at t y;omega)|exact absurd (c i U).1 hi|(have q8:=c i U;simp only[Fw,Fx,Cl,Cp,Cq] at *;exfalso;omega)|exact absurd (show A8 (Ea F (BF (F 0)))=DJ (F 0) from x) ‹_›,rfl,rfl⟩,H.perm 10 [6,2,7] rfl rfl⟩
    refine DZ 3 [3,0] (λ_ hx=>(AS (hx.blk 5 Z) AN)) Z J Z (AL Z Z Z (XG (k:=.u32) Z J Z Z) (BZ 1 [] Z J (BH (λw a=>?_))));have H:=a.l10;refine gn (Zc 1 Z (Ag Z (λh9=>?_) (λh9=>?_)))
    ·refine Z4 8 [8,2,9] H Z ?_;intro w H;refine Zl [9,2] H Z ?_;exact ⟨_,.inl ⟨λims=>by rintro ⟨p,t,y,q4,q5,c,x⟩;first|exact hh p|(exfalso;simp only[Cp,Cq] at t y;omega)|exact absurd (c i U).1 hi|(have q8:=c i U;simp only[Fw,Fx,Cl,Cp,Cq] at *;exfalso;omega)|exact absurd (show A8 (Ea F (BF (F 0)))=DJ (F 0) from x) ‹_›,rfl,rfl⟩,H.perm 10 [6,2,7] rfl rfl⟩
    refine Z2 6 [1,3,0,0,3] H Z (AQ Z (AM H Z J Dz Z (by decide) (by decide) (out:=[I ((Cl (F (1+i))).num),I ((Cl (F (1+i))).kind),.slice (some ⟨g3,0,none⟩) 240 b]) J) ?_);rintro _ w ⟨b8,rfl,H⟩;replace H:=H.l11;refine AQ Z (AY 5 H Z Z J Dz Z Z (H.rv 0 (·.rd U U O Z)) (by simp[Value.oneCell']) U) ?_;rintro v9 w a;have a:Sep z (blk b8 [I ((Cl (F (1+i))).num),I ((Cl (F (1+i))).kind),.slice (some ⟨g3,0,none⟩) 240 b] 148::blk b7 [I ((Cl (F (1+i))).num),I ((Cl (F (1+i))).kind),.slice (some ⟨g3,0,none⟩) 240 b] 148::poolA c8::tblA pt::blk b6 [I sq,v] 146::grow 148 3 v9 (i+1) (Gk es++[I ((Cl (F (1+i))).num),I ((Cl (F (1+i))).kind),.slice (some ⟨g3,0,none⟩) 240 b])::blk b3 [I (Cp (F 0)),I (Cq (F 0)),.slice a2 (BF (F 0)) a3,u32 (DJ (F 0))] 275::lgB pl pd pt s at_ sq us br nu::diskA pd D::blk b2 [I 0,.slice none 0 0] 146::blk b1 [I 0,.slice none 0 0] 146::R) w:=a;have d8:(Gk es++[I ((Cl (F (1+i))).num),I ((Cl (F (1+i))).kind),.slice (some ⟨g3,0,none⟩) 240 b]:List Value)=Gk (es++[(Cl (F (1+i)),.slice (some ⟨g3,0,none⟩) 240 b)]):=N4 es (Cl (F (1+i)),.slice (some ⟨g3,0,none⟩) 240 b);rw[d8] at a;have H:=a.l11;have d7:=H.sy 5 (·.slc);refine Z0 1 [1] Z (Az Z Z (Ll 4 H Z Z Z Z d7.cells d7.one J) ?_);rintro w H;replace H:=H.l11;refine Z1 7 [] [(i:Int)+1] Z U ?_;replace H:=H.f1.d.d.f8.f8.f8.f8.f5.f8.f6.f8.f8;refine gf ?_;intro _ hF;refine ⟨⟨i+1,v9,es++[(Cl (F (1+i)),.slice (some ⟨g3,0,none⟩) 240 b)],c8⟩,hF.cz,⟨H,?_⟩,?_⟩
    ·refine ⟨by omega,by simp[e2],by simp[c6,Ag2],λk o e=>a4 k o (f k o e),?_,λj hj=>?_⟩
     ·intro e he;rcases Aek.1 he with q|q
      ·exact (d5 e q).le a4
      rw[Afn.1 q];simpa [Cl,a1] using c2
     rcases Ael j i with q|q
     ·exact l j q
     obtain rfl:j=i:=by omega
     simp only[Fw,Fx,Cp,Cq,Cl] at *;exact ⟨hi,by omega,by omega,by omega,AgB ‹_›⟩
    omega
   have H:=a.l9;refine Za 5 [] H Z ?_;intro g1 w H;refine Z4 8 [0] H Z ?_;intro w H;refine Bu (Sep z _) J J H.drew (BZ 30 [] Z J (BH (λw a=>?_)));have H:=a.l10;refine gn (Z4 10 [8,2,9] H Z ?_);intro w H;refine Zl [9,2] H Z ?_;exact ⟨_,.inl ⟨λims=>by rintro ⟨p,t,y,q4,q5,c,x⟩;first|exact hh p|(exfalso;simp only[Cp,Cq] at t y;omega)|exact absurd (c i U).1 hi|(have q8:=c i U;simp only[Fw,Fx,Cl,Cp,Cq] at *;exfalso;omega)|exact absurd (show A8 (Ea F (BF (F 0)))=DJ (F 0) from x) ‹_›,rfl,rfl⟩,H.perm 10 [6,1,7] rfl rfl⟩
  obtain rfl:i=BF (F 0):=by omega
  refine Zc 2 Z (gx (Z2 5 [0,2] H Z (Az Z Z (Ak 8 H Z Z Z Z (vs:=[I sq,v]) Z (Ad Z (Ad sv.one Aw)) J O (out:=[I sq,v]) Z) ?_)));rintro w H;replace H:=H.l9;refine Zc 4 Z (Zl [8,2] H Z ?_);replace H:=H.f1.f2;obtain ⟨e9,⟨d1,c7⟩,H⟩:=DV H (λh q=>q.rd);replace H:=H.l8;exact ⟨_,.inr ⟨_,v,e9,⟨hh,by unfold Cp;omega,by unfold Cq;omega,by omega,Z,λj hj=>⟨(l j hj).1,(l j hj).2.1,(l j hj).2.2.1,(l j hj).2.2.2.1⟩,(l 0 U).2.2.2.2⟩,Z,⟨es,c6,by simpa using c7,d5.le d1⟩,Z⟩,H.perm 8 [0,4,3,5] Z Z⟩
 have H:=a.l6;refine Zc 3 Z (AQ Z (Cb (P:=prog) H Z (zs:=[I 0,I 0,.slice none 0 0,u32 0]) J) ?_);rintro _ w ⟨g2,rfl,H⟩;replace H:=H.l7;refine Z4 6 [0] H Z ?_;intro w H;refine Bu (Sep z _) J J H.drew (BZ 38 [] Z J (BH (λw a=>?_)));have H:=a.l7;refine gn (Z4 10 [5,2,6] H Z ?_);intro w H;refine Zl [6,2] H Z ?_;exact ⟨_,.inl ⟨λims=>by rintro ⟨p,t,y,q4,q5,c,x⟩;first|exact hh p|(exfalso;simp only[Cp,Cq] at t y;omega)|exact absurd (c i U).1 hi|(have q8:=c i U;simp only[Fw,Fx,Cl,Cp,Cq] at *;exfalso;omega)|exact absurd (show A8 (Ea F (BF (F 0)))=DJ (F 0) from x) ‹_›,rfl,rfl⟩,H.perm 7 [3,1,4] rfl rfl⟩
theorem Qe(pd b:Nat)(D:Dsk)(s:Sup)(c:s.Ok (D.n:Int)):Cn prog 85 [Y pd,Y b,.agg #[I s.gen,I s.epoch,I s.pages,I s.start,I s.len,I s.head,I s.seq]] [diskA pd D] (λv Γ=>∃a,v=Y a/\Γ=[lgB a pd b s s.head s.seq 0 false (decide (s.epoch<4294967296)),diskA pd D]):=by
 refine Cn.mono (Cn.onDisk (post:=λv Γ=>∃a,v=Y a/\Γ=[lgB a pd b s s.head s.seq 0 false (decide (s.epoch<4294967296))]) (λd bd m f0=>?_)) ?_
 ·have e:=d.n2
  refine Cn.mono (Yn pd bd m (D.n*256) f0 D.f1 D.f2 D.f3 D.left D.cut b s U (by rw[show ((D.n*256:Nat):Int)/256=(D.n:Int) from by omega];exact c)) ?_;rintro v Γ ⟨a,rfl,rfl⟩;exact ⟨_,⟨a,Z,Z⟩,Z⟩
 rintro v Γ ⟨Γ',⟨a,rfl,rfl⟩,rfl⟩;exact ⟨a,Z,Z⟩
set_option maxHeartbeats 1000000 in
theorem Abm (pd t:Nat) (s:Sup) (D:Dsk) (m:s.Ok (D.n:Int)) (b0:D.f1=0):Cn prog 83 [Y pd,Y t,.agg #[I s.gen,I s.epoch,I s.pages,I s.start,I s.len,I s.head,I s.seq]] [tblA t,diskA pd D] (λv Γ=>∃r rs a q u v' hq,v=.tuple #[Y r,v',I 0]/\Runs D s s.head s.seq 0 rs a q u/\(s.len<=u\/∀ims,¬nextP (Di D s a) s.epoch q (s.len-u) ims)/\recsH v' rs hq/\Γ=[poolA hq,lgB r pd t s a q u false (decide (s.epoch<4294967296)),tblA t,diskA pd D]):=by
 intro z R w H;replace H:=H.l2;have b6:=H.sy 1 (λq=>(diskA.ok q).n2);have b9:=Sup.get m;have hr:0<=s.start/\0<s.len/\s.start+s.len<=D.n:=by have:=m.2;omega
 have c1:=m.2.2.2.2.2.2.2;refine Ae func83 Z ntmps83 Z (Za 2 [] H Z ?_);intro b1 w H;refine Z2 10 [0,7] H Z (Aq Z (call85 _) (Qe _ _ _ s m) H.f2 ?_);rintro _ w _ ⟨r,rfl,rfl⟩ H;refine Zc 17 Z ?_;replace H:=(H.nilg 146 2).l5;replace H:=(Rs H).l6;refine Zc 3 Z ?_;refine AD (σ:=List RcE×Value×Int×Int×Int×Hp) (λ⟨es,v,a,q,u,hq⟩=>[(10,v),(5,Y b1),(9,Y r)])
   (λ⟨es,v,a,q,u,hq⟩ w=>Sep z (poolA hq::grow 146 2 v es.length (IR es)::lgB r pd t s a q u false (decide (s.epoch<4294967296))::diskA pd D::blk b1 [I s.gen,I s.epoch,I s.pages,I s.start,I s.len,I s.head,I s.seq] 127::tblA t::R) w/\(Runs D s s.head s.seq 0 (es.map Prod.fst) a q u/\rcesOk es hq/\(0<=a/\a<=4096)/\(s.seq<=q/\q<=s.seq+u)/\(0<=u/\u<=s.len)/\es.length<=u)) (λ⟨es,v,a,q,u,hq⟩=>(s.len-u).toNat) ⟨[],.slice none 0 0,s.head,s.seq,0,(λ_=>none)⟩
   fr_z ⟨H,.nil _ _ _,λe he=>absurd he O,by omega,by omega,by omega,by simp⟩ ?_
 clear H;rintro ⟨es,v,a,q,u,hq⟩ w ⟨f,hI⟩;dsimp only at hI f ⊢;have H:=f.l6;obtain ⟨g,k,ha,a8,hu,c2⟩:=hI;refine Zc 2 Z (Bu (Sep z _) J J H.drew (DZ 7 [11,0,4,1] (λ_ hx=>(AS (hx.blk 2 Z) (AS (hx.blk 4 Z) AN))) Z J Z (BH (λw f=>?_))));have H:=f.l6;refine gn (Zc 1 Z (Ag Z (λh1=>?_) (λh1=>?_)))
 ·refine Zc 6 Z (Aq Z (call139 _) (Abl _ _ _ _ _ _ _ _ _ _ b0 hr U U U (Di D s a) (λj=>rfl)) H.f3.f5.f4 ?_);rintro _ w _ (⟨a3,rfl,rfl⟩|⟨ims,c,a8,p,rfl,a0,rfl⟩) f
  ·have H:=f.l6
   refine Za 3 [] H Z ?_;intro b2 w H;refine Z4 27 [0,4,1,0,0,3] H Z ?_;intro w H;refine gx (Zc 12 Z (Zr Z ?_));replace H:=H.f5.f5;obtain ⟨x,⟨l,i⟩,H⟩:=DV H (λh q=>q.rd);replace H:=H.l6;exact ⟨_,⟨r,es.map Prod.fst,a,q,u,v,x,Z,g,by first|exact .inl U|exact .inr a3,⟨es,rfl,by simpa using i,k.le l⟩,rfl⟩,H.perm 6 [0,2,3,4] rfl rfl⟩
  have H:=f.l7;obtain ⟨a5,a7,y⟩:=a0.slc;have o:Slc c ims.length:=⟨a5,a7,y⟩;clear y;have b5:=p.len;refine Za 3 [] H Z ?_;intro b3 w H;refine Az Z Z (Ak 0 H Z Z Z Z (vs:=[I q,c]) Z (Ad Z (Ad o.one Aw)) J O (out:=[I q,c]) Z) ?_;rintro w H;replace H:=H.l8;refine Zc 5 Z ?_;replace H:=H.f1.f5;obtain ⟨a1,⟨a2,a4⟩,H⟩:=N1 H (M:=imgsH c ims) (λh q=>a0.le q) (λ_ _ a b=>a.le b);replace H:=H.l7;refine Z2 13 [4,1,1,0] H Z (Ab Z (Ed Z (sz:=3) J Z o) (Z0 3 [0] Z (Ag Z (λh2=>U) (λh2=>?_))));refine Z2 6 [1,2] H Z (AQ Z (AM H Z J Fv Z (by decide) (by decide) (out:=[I q,c]) J) ?_);rintro _ w ⟨b4,rfl,H⟩;replace H:=H.l8;refine AQ Z (AY 6 H Z Z J Fv Z Z (H.rv 0 (·.rd U U O Z)) (Ad Z (Ad o.one Aw)) U) ?_;rintro v5 w f;have f:Sep z (blk b4 [I q,c] 146::poolA a1::blk b3 [I q,c] 146::lgB r pd t s a q u false (decide (s.epoch<4294967296))::tblA t::diskA pd D::grow 146 2 v5 (es.length+1) (IR es++[I q,c])::blk b1 [I s.gen,I s.epoch,I s.pages,I s.start,I s.len,I s.head,I s.seq] 127::R) w:=f;have a9:(IR es++[I q,c]:List Value)=IR (es++[(⟨q,ims⟩,c)]):=UT es (⟨q,ims⟩,c);rw[a9] at f;rw[show (es.length+1:Nat)=(es++[((⟨q,ims⟩:Rc),c)]).length from by simp] at f;have H:=f.l8;refine Z2 7 [1,2,0] H Z (Ab Z (Ed Z (sz:=3) J Z o) (Z1 1 [] [1+(ims.length:Int)] Z U (z_E_ Z (call140 _) (J5 _ _ _ _ _ _ _ _ _ _ U U U U U) H.f3 ?_)));intro w H;refine Zc 2 Z ?_;replace H:=H.f3.d.f1.d.f2.f5.f4.f3.f5.f5;refine gf ?_;intro _ hF;refine ⟨⟨es++[(⟨q,ims⟩,c)],v5,(a+(1+(ims.length:Int)))%s.len,q+1,u+(1+(ims.length:Int)),a1⟩,(hF.all Z),⟨H,?_⟩,?_⟩
  ·dsimp only
   have b8:=Agd (a+(1+(ims.length:Int))) (by omega:s.len≠0);have b7:=AfY (a+(1+(ims.length:Int))) (by omega:0<s.len);refine ⟨?_,?_,by omega,by omega,by omega,by simp;omega⟩
   ·rw[AeD];exact .snoc g U p
   intro e he;rcases Aek.1 he with q|q
   ·exact (k e q).le a2
   rw[Afn.1 q];exact a4
  (dsimp only;omega)
 refine Zc 2 Z (gx (Zc 12 Z (Zr Z ?_)));obtain ⟨x,⟨l,i⟩,H⟩:=DV H (λh q=>q.rd);replace H:=H.l5;exact ⟨_,⟨r,es.map Prod.fst,a,q,u,v,x,Z,g,by first|exact .inl U|exact .inr a3,⟨es,rfl,by simpa using i,k.le l⟩,rfl⟩,H.perm 5 [0,1,4,2] rfl rfl⟩
set_option maxHeartbeats 1000000 in
theorem Vb (y pd l:Nat) (s:Sup) (at_ sq us:Int) (br t:Bool) (v:Value) (ims:List Img) (A:Af) (hA:∀h,A h->imgsH v ims h) (b1:t=decide (s.epoch<4294967296)) (c3:0<=s.epoch/\s.epoch<=1099511627776) (c5:0<=sq/\sq<=2199023255552) (c2:1<=ims.length/\ims.length<=40) (d0:0<=s.len/\s.len<=1099511627776) (hu:0<=us/\us<=2199023255552):Cn prog 188 [Y y,v] [lgB y pd l s at_ sq us br t,tblA l,A] (λv Γ=>(¬EG ims/\v=.tuple #[.slice none 0 0,I 1]/\Γ=[lgB y pd l s at_ sq us br t,tblA l,A])\/(EG ims/\¬(1+(ims.length:Int)<=(if br then 0 else s.len-us)/\t=true/\sq<1099511627776)/\v=.tuple #[.slice none 0 0,I 15]/\Γ=[lgB y pd l s at_ sq us br t,tblA l,A])\/(EG ims/\(1+(ims.length:Int)<=(if br then 0 else s.len-us)/\t=true/\sq<1099511627776)/\∃v',v=.tuple #[v',I 0]/\Γ=[grow 5 1 v' ((1+ims.length)*256) ((BB s.epoch sq ims).flatten.map u8),lgB y pd l s at_ sq us br t,tblA l,A])):=by
 intro z R w H;replace H:=H.l3;obtain ⟨ao,ic,rfl⟩:=H.sy 2 (λq=>(hA _ q).slc);obtain ⟨es,a5,g⟩:=Sep.imA 2 H Z hA;clear H;have c6:es.length=ims.length:=by rw[<-a5];simp
 have H:=g.l3;refine Ae func188 Z ntmps188 Z (Zc 13 Z (AQ Z (F5 H Z) ?_));rintro _ w ⟨m1,rfl,H⟩;replace H:=H.l4;refine Zc 4 Z ?_;replace H:=H.f1;refine AO (Sep z (lgB y pd l s at_ sq us br t::R)) 12 Z J (A5 H λw g=>?_);have H:=g.l4;refine AU [0,1,2,3,4,5,6,7,8] [2,3,0,0,10,0,0] [] (by exact H.pick 4 [0] Z) Z J Z (BO 9 Z J J J Z Z Z (Bc Z Z (out:=[I s.epoch,I sq,.slice none 0 0,u32 0]) J) (H.pick 4 [0] Z) (AB [10] J O (An (Ca Z Z Z Z (Cb (P:=prog) H Z (zs:=[I 0,I 0,.slice none 0 0,u32 0]) J) ?_))));rintro _ w ⟨b2,rfl,H⟩;replace H:=H.l5;refine Av (H.pick 5 [1] Z) (AB [11] J O (An (Bg Z Z Z (Ak 0 H Z Z Z Z (vs:=[I s.epoch,I sq,.slice none 0 0,u32 0]) Z (by simp[u8,u32,Value.oneCell']) J O (out:=[I s.epoch,I sq,.slice none 0 0,u32 0]) Z) ?_)));rintro w H;replace H:=H.l5;refine Av (H.pick 5 [1] Z) (a_done J (gn (Zc 8 Z ?_)));replace H:=(H.nilg 3 1).l6;refine Zc 2 Z ?_;refine AD (σ:=Nat×Value) (λ⟨i,o⟩=>[(32,I (i:Int)),(0,Y y),(1,.slice ao ims.length ic),(6,.slice none 0 0),(7,.map (some m1)),(8,Y b2),(30,.slice ao ims.length ic),(31,I (ims.length:Int))])
   (λ⟨i,o⟩ w=>Sep z (grow 3 1 o i (Fy (ims.take i))::blk b2 [I s.epoch,I sq,o,u32 0] 275::lgB y pd l s at_ sq us br t::AH m1 (seen ((ims.take i).map Img.num)) (((ims.take i).map Img.num).length)::tblA l::imA A (.slice ao ims.length ic) es::R) w/\(i<=ims.length/\(∀(j:Nat) (m:Img),j<i->ims[j]?=some m->m.Ok)/\((ims.take i).map Img.num).Nodup)) (λ⟨i,o⟩=>ims.length-i) ⟨0,.slice none 0 0⟩
   fr_z ⟨H,by omega,λj m h=>by omega,by simp⟩ ?_
 clear H;rintro ⟨i,o⟩ w ⟨g,hI⟩;dsimp only at hI g ⊢;have H:=g.l6;have b9:=H.sy 0 (·.slc);obtain ⟨c9,a4,a3⟩:=hI;refine Z0 6 [0] Z (Ag Z (λh1=>?_) (λh1=>?_))
 ·have b8:i<ims.length:=by omega
  refine Zc 6 Z ?_;obtain ⟨⟨f,bv⟩,he⟩:∃e:ImE,es[i]?=some e:=⟨_,Ad7 U⟩;have a0:ims[i]?=some f:=by rw[<-a5];simp[he]
  have a6:Slc bv f.body.length:=H.sy 5 (λq=>(q.2.2 _ (Ad8 he)).slc);have a2:=imA.at 5 H Z he;have a7:=a2 0 (I f.num) Z;refine Ab Z (Aj Z (z:=3) (j:=i) (r:=i*3) J Z Z Z U a7 U) (Ab Z (Bq Z Z (vs:=[I f.num,I f.kind,bv]) J O (Ay a2)) (Za 0 [] H Z ?_));intro b3 w H;refine Az Z Z (Ak 0 H Z Z Z Z (vs:=[I f.num,I f.kind,bv]) Z (Ad Z (Ad Z (Ad a6.one Aw))) J O (out:=[I f.num,I f.kind,bv]) Z) ?_;rintro w H;replace H:=H.l7;refine Zc 4 Z ?_;replace H:=H.f3;refine AO (Sep z (lgB y pd l s at_ sq us br t::blk b3 [I f.num,I f.kind,bv] 148::R)) 11 Z J (A5 H λw g=>?_);have H:=g.l7;refine AU [0,1,2,3,4] [1,0,0,1,3] [] (by exact H.pick 7 [0,1] Z) Z J Z (AB [5] J O (An (Bo Z Z Z Z Z Z (λw=>call142 _ w) (Mx _ _ _ _ f.body _ (λh q=>q.2.2 _ (Ad8 he))) H.f6.f6 Z ?_)));rintro _ w _ (⟨a1,rfl,rfl⟩|⟨u,pw,rfl,rfl⟩) g
  ·have H:Sep z (tblA l::imA A (.slice ao ims.length ic) es::lgB y pd l s at_ sq us br t::blk b3 [I f.num,I f.kind,bv] 148::grow 3 1 o i (Fy (ims.take i))::blk b2 [I s.epoch,I sq,o,u32 0] 275::AH m1 (seen ((ims.take i).map Img.num)) (((ims.take i).map Img.num).length)::R) w:=g
   clear g;refine Av (H.pick 7 [2,3] Z) (AU [6,7,8,9,10] [] [] (by exact H.pick 7 [2,3] Z) Z J Z (a_done J (gn (Z0 21 [3] Z (Zr Z ?_)))));replace H:=(H.mono 1 (B:=A) Z (λh q=>q.1)).l7;exact ⟨_,.inl ⟨by rintro ⟨q1,q2⟩;first|exact a1 (q1 f (Ad8 a0))|(exact KJ q2 a0 ‹_›),rfl,rfl⟩,H.perm 7 [2,0,1] rfl rfl⟩
  have H:Sep z (blk pw (A4 (BA ([80,80,65,71]++Ah 1 f.kind++Ah 4 f.num++[0,0,0]++f.body)) 252) 154::tblA l::imA A (.slice ao ims.length ic) es::lgB y pd l s at_ sq us br t::blk b3 [I f.num,I f.kind,bv] 148::grow 3 1 o i (Fy (ims.take i))::blk b2 [I s.epoch,I sq,o,u32 0] 275::AH m1 (seen ((ims.take i).map Img.num)) (((ims.take i).map Img.num).length)::R) w:=g;clear g;refine Av (H.pick 8 [3,4] Z) (AU [6,7,8,9,10] [] [] (by exact H.pick 8 [3,4] Z) Z J Z (a_done J (gn (Z2 9 [4,0,4,0] H Z (Ab Z (FM (e:=4) (zv:=.bool false) Z J J Z Z (Ay (H.bk 7 Z))) (AC 51 (v:=.bool (decide (f.num∈(ims.take i).map Img.num))) Z (UV _ _) (Zc 3 Z (Ag Z (λh2=>?_) (λh2=>?_)))))))))
  ·refine Zc 7 Z (Zr Z ?_);replace H:=(H.mono 2 (B:=A) Z (λh q=>q.1)).l8
   exact ⟨_,.inl ⟨by rintro ⟨q1,q2⟩;first|exact a1 (q1 f (Ad8 a0))|(exact KJ q2 a0 ‹_›),rfl,rfl⟩,H.perm 8 [3,1,2] rfl rfl⟩
  refine Z2 7 [0,4,0] H Z (Az Z Z (DN 7 (e:=4) H Z Z J Z Z Z) ?_);rintro w H;replace H:=H.l8;refine Zc 2 Z ?_;have a8:(ims.take (i+1)).map Img.num=(ims.take i).map Img.num++[f.num]:=by rw[AeH,a0];simp
  have b0:=UW (ns:=(ims.take i).map Img.num) (k:=f.num) ‹_›;rw[b0.1,b0.2,<-a8] at H;have H:Sep z (blk pw (A4 (BA ([80,80,65,71]++Ah 1 f.kind++Ah 4 f.num++[0,0,0]++f.body)) 252) 154::tblA l::imA A (.slice ao ims.length ic) es::lgB y pd l s at_ sq us br t::blk b3 [I f.num,I f.kind,bv] 148::grow 3 1 o i (Fy (ims.take i))::blk b2 [I s.epoch,I sq,o,u32 0] 275::AH m1 (seen ((ims.take (i+1)).map Img.num)) (((ims.take (i+1)).map Img.num).length)::R) w:=H;refine Z2 5 [2,6,0,0,4,0] H Z (AQ Z (AM H Z J Bz Z (by decide) (by decide) (out:=[I f.num]) J) ?_);rintro _ w ⟨b4,rfl,H⟩;replace H:=H.l9;refine AQ Z (AY 6 H Z Z J Bz Z Z (H.rv 0 (·.rd U U O Z)) (by simp[Value.oneCell']) U) ?_;rintro v5 w g;have g:Sep z (blk b4 [I f.num] 3::blk pw (A4 (BA ([80,80,65,71]++Ah 1 f.kind++Ah 4 f.num++[0,0,0]++f.body)) 252) 154::tblA l::imA A (.slice ao ims.length ic) es::lgB y pd l s at_ sq us br t::blk b3 [I f.num,I f.kind,bv] 148::grow 3 1 v5 (i+1) (Fy (ims.take i)++[I f.num])::blk b2 [I s.epoch,I sq,o,u32 0] 275::AH m1 (seen ((ims.take (i+1)).map Img.num)) (((ims.take (i+1)).map Img.num).length)::R) w:=g;have b5:(Fy (ims.take i)++[I f.num]:List Value)=Fy (ims.take (i+1)):=UX a0;rw[b5] at g;have H:=g.l9;have a9:=H.sy 6 (·.slc);refine Z0 1 [2] Z (Az Z Z (JP 7 H Z Z Z Z a9.cells a9.one J) ?_);rintro w H;replace H:=H.l9;refine Z1 7 [] [(i:Int)+1] Z U ?_;replace H:=H.f5.d.f1.d.d.f1.f1.f5.f3.f5.f5;refine gf ?_;intro _ hF;refine ⟨⟨i+1,v5⟩,hF.cz,⟨H,?_⟩,?_⟩
  ·dsimp only
   refine ⟨by omega,λj m hj h=>?_,?_⟩
   ·rcases Ael j i with q|q
    ·exact a4 j m q h
    obtain rfl:j=i:=by omega
    rw[a0] at h;cases h;exact u
   rw[a8,Ae4];exact ⟨a3,by simp,λa ha b hb=>by simp at hb;subst hb;exact λe=>absurd (e▸ha) ‹_›⟩
  (dsimp only;omega)
 obtain rfl:i=ims.length:=by omega
 refine Zc 2 Z (gx (Zc 4 Z ?_));rw[Ae2] at H;rw[Ae2] at a3;have H:Sep z (grow 3 1 o ims.length (Fy ims)::blk b2 [I s.epoch,I sq,o,u32 0] 275::lgB y pd l s at_ sq us br t::AH m1 (seen (ims.map Img.num)) ((ims.map Img.num).length)::tblA l::imA A (.slice ao ims.length ic) es::R) w:=H;have p:∀m∈ims,m.Ok:=λm hm=>by obtain ⟨j,hj,rfl⟩:=Af3.1 hm;exact a4 j _ hj (Ad7 hj)
 refine Z1 5 [] [1+(ims.length:Int)] Z U (z_E_ Z (call122 _) (Ta _ _ _ _ _ _ _ _ _ U) H.f2 ?_);intro w H;refine Z0 2 [0] Z (Al 70 Z (λh3=>?_) (λh3=>?_))
 ·refine Zc 23 Z (Zr Z ?_);replace H:=(H.mono 5 (B:=A) Z (λh q=>q.1)).l6
  exact ⟨_,.inr (.inl ⟨⟨p,a3⟩,by rintro ⟨q1,q2,q3⟩;first|omega|simp_all,rfl,rfl⟩),H.perm 6 [0,4,5] Z Z⟩
 refine Z2 7 [13,0,0] H Z (FN 77 Z (λh4=>?_) (λh4=>?_))
 ·refine Zc 16 Z (Zr Z ?_);replace H:=(H.mono 5 (B:=A) Z (λh q=>q.1)).l6
  exact ⟨_,.inr (.inl ⟨⟨p,a3⟩,by rintro ⟨q1,q2,q3⟩;first|omega|simp_all,rfl,rfl⟩),H.perm 6 [0,4,5] Z Z⟩
 have c0:t=true:=by simpa using h4
 have c4:s.epoch<4294967296:=by rw[c0] at b1;simpa using b1.symm
 refine Z2 8 [10,0,0,0] H Z (Ag Z (λh5=>?_) (λh5=>?_))
 ·refine Zc 7 Z (Zr Z ?_);replace H:=(H.mono 5 (B:=A) Z (λh q=>q.1)).l6
  exact ⟨_,.inr (.inl ⟨⟨p,a3⟩,by rintro ⟨q1,q2,q3⟩;first|omega|simp_all,rfl,rfl⟩),H.perm 6 [0,4,5] Z Z⟩
 refine Zc 9 Z ?_;replace H:=(H.nilg 5 1).l7;refine Zc 2 Z ?_;refine AD (σ:=Nat×Value) (λ⟨i,v2⟩=>[(86,I (i:Int)),(6,v2),(0,Y y),(8,Y b2),(84,.slice ao ims.length ic),(85,I (ims.length:Int))])
   (λ⟨i,v2⟩ w=>Sep z (grow 5 1 v2 (i*256) ((CM s.epoch sq (ims.take i)).map u8)::lgB y pd l s at_ sq us br t::grow 3 1 o ims.length (Fy ims)::blk b2 [I s.epoch,I sq,o,u32 0] 275::AH m1 (seen (ims.map Img.num)) ((ims.map Img.num).length)::tblA l::imA A (.slice ao ims.length ic) es::R) w/\(i<=ims.length)) (λ⟨i,v2⟩=>ims.length-i) ⟨0,.slice none 0 0⟩
   (λ_ hF=>(hF.co Z (by go_num) hF.cz)) ⟨H,by omega⟩ ?_
 clear H;rintro ⟨i,v2⟩ w ⟨g,hI⟩;dsimp only at hI g ⊢;have H:=g.l7;have d1:=H.sy 0 (·.slc);have c1:=hI;clear hI;refine Z0 6 [0] Z (Ag Z (λh6=>?_) (λh6=>?_))
 ·have b8:i<ims.length:=by omega
  refine Zc 6 Z ?_;obtain ⟨⟨f,bv⟩,he⟩:∃e:ImE,es[i]?=some e:=⟨_,Ad7 U⟩;have a0:ims[i]?=some f:=by rw[<-a5];simp[he]
  have a6:Slc bv f.body.length:=H.sy 6 (λq=>(q.2.2 _ (Ad8 he)).slc);have a2:=imA.at 6 H Z he;have a7:=a2 0 (I f.num) Z;refine Ab Z (Aj Z (z:=3) (j:=i) (r:=i*3) J Z Z Z U a7 U) (Ab Z (Bq Z Z (vs:=[I f.num,I f.kind,bv]) J O (Ay a2)) (Za 0 [] H Z ?_));intro b6 w H;refine Az Z Z (Ak 0 H Z Z Z Z (vs:=[I f.num,I f.kind,bv]) Z (Ad Z (Ad Z (Ad a6.one Aw))) J O (out:=[I f.num,I f.kind,bv]) Z) ?_;rintro w H;replace H:=H.l8;refine Zc 3 Z ?_;replace H:=H.f4.f3;refine AO (Sep z (lgB y pd l s at_ sq us br t::blk b2 [I s.epoch,I sq,o,u32 0] 275::blk b6 [I f.num,I f.kind,bv] 148::R)) 15 Z J (A5 H λw g=>?_);have H:=g.l8;refine AU [0,1,2,3,4,5,6,7,8] [1,0,0,0,1,0,1,1,0,2,3] [] (by exact H.pick 8 [0,1,2] Z) Z J Z (AB [9] J O (An (Bo Z Z Z Z Z Z (λw=>call217 _ w) (Ru _ _ _ _ _ _ f.body _ (λh q=>q.2.2 _ (Ad8 he))) H.f7.f7 Z ?_)));rintro _ w _ (⟨a1,rfl,rfl⟩|⟨u,pw,rfl,rfl⟩) g
  ·exact absurd ⟨by omega,by omega,a4 i f U a0⟩ a1
  have H:Sep z (blk pw (A4 (BA (CL s.epoch sq f)) 252) 154::tblA l::imA A (.slice ao ims.length ic) es::lgB y pd l s at_ sq us br t::blk b2 [I s.epoch,I sq,o,u32 0] 275::blk b6 [I f.num,I f.kind,bv] 148::grow 5 1 v2 (i*256) ((CM s.epoch sq (ims.take i)).map u8)::grow 3 1 o ims.length (Fy ims)::AH m1 (seen (ims.map Img.num)) ((ims.map Img.num).length)::R) w:=g;clear g;refine Av (H.pick 9 [3,4,5] Z) (AU [10,11,12,13,14] [] [] (by exact H.pick 9 [3,4,5] Z) Z J Z (a_done J (gn (Z0 14 [4] Z (AQ Z (AY 6 H Z Z J CK Z Z (H.rv 0 (λq=>HG (lo:=0) (n:=256) (c:=256) (ys:=BA (CL s.epoch sq f)) q (sect_len (Agb (GK u.2.2.2.2))) U U U (by rw[Aep];exact Aee (Agb (sect_len (Agb (GK u.2.2.2.2))))))) (by simp[u8,Value.oneCell']) U) ?_)))));rintro v7 w g;have g:Sep z (blk pw (A4 (BA (CL s.epoch sq f)) 252) 154::tblA l::imA A (.slice ao ims.length ic) es::lgB y pd l s at_ sq us br t::blk b2 [I s.epoch,I sq,o,u32 0] 275::blk b6 [I f.num,I f.kind,bv] 148::grow 5 1 v7 ((i*256)+256) ((CM s.epoch sq (ims.take i)).map u8++(BA (CL s.epoch sq f)).map u8)::grow 3 1 o ims.length (Fy ims)::AH m1 (seen (ims.map Img.num)) ((ims.map Img.num).length)::R) w:=g;have b7:((CM s.epoch sq (ims.take i)).map u8++(BA (CL s.epoch sq f)).map u8:List Value)=(CM s.epoch sq (ims.take (i+1))).map u8:=(by rw[<-AeD,S1 a0]);rw[b7] at g;rw[show ((i*256)+256:Nat)=(i+1)*256 from by omega] at g;have H:=g.l9;refine Z1 8 [] [(i:Int)+1] Z U ?_;replace H:=H.f5.d.d.f1.f1.f6.f4.f6.f5.f6;refine gf ?_;intro _ hF;refine ⟨⟨i+1,v7⟩,hF.cz,⟨H,?_⟩,?_⟩
  ·dsimp only;omega
  (dsimp only;omega)
 obtain rfl:i=ims.length:=by omega
 refine Zc 2 Z (gx (Zc 3 Z ?_));rw[Ae2] at H;have H:Sep z (grow 5 1 v2 (ims.length*256) ((CM s.epoch sq ims).map u8)::lgB y pd l s at_ sq us br t::grow 3 1 o ims.length (Fy ims)::blk b2 [I s.epoch,I sq,o,u32 0] 275::AH m1 (seen (ims.map Img.num)) ((ims.map Img.num).length)::tblA l::imA A (.slice ao ims.length ic) es::R) w:=H;refine Z2 6 [1,1,0] H Z (z_E_ Z (call218 _) (Xl _ _ _ (CM s.epoch sq ims) (N5 p) _ (λh q=>q.rd)) H.f5 ?_);intro w H;refine Z4 5 [3,4] H Z ?_;intro w H;replace H:=H.f4.f3;refine AO (Sep z (lgB y pd l s at_ sq us br t::blk b2 [I s.epoch,I sq,o,u32 (A8 (CM s.epoch sq ims))] 275::R)) 11 Z J (A5 H λw g=>?_);have H:=g.l7;refine AU [0,1,2,3,4] [1,0,0,1,4] [] (by exact H.pick 7 [0,1] Z) Z J Z (AB [5] J O (An (Bo Z Z Z Z Z Z (λw=>call219 _ w) (S8 _ _ _ _ _ (ims.map Img.num) _ (λh q=>by rw[Aea,<-Yf];exact q.rd)) H.f4.f3 Z ?_)));rintro _ w _ (⟨a1,rfl,rfl⟩|⟨u,pw,rfl,rfl⟩) g
 ·exact absurd ⟨by omega,by omega,by simp;omega,λx hx=>by obtain ⟨m,hm,rfl⟩:=Aeh.1 hx;exact (p m hm).1⟩ a1
 have H:Sep z (blk pw (A4 (BA (hdL s.epoch sq ims)) ((26+4*(ims.map Img.num).length:Nat):Int)) 154::tblA l::grow 3 1 o ims.length (Fy ims)::lgB y pd l s at_ sq us br t::blk b2 [I s.epoch,I sq,o,u32 (A8 (CM s.epoch sq ims))] 275::grow 5 1 v2 (ims.length*256) ((CM s.epoch sq ims).map u8)::AH m1 (seen (ims.map Img.num)) ((ims.map Img.num).length)::imA A (.slice ao ims.length ic) es::R) w:=g;clear g;refine Av (H.pick 8 [3,4] Z) (AU [6,7,8,9,10] [] [] (by exact H.pick 8 [3,4] Z) Z J Z (a_done J (gn (Zc 5 Z (AQ Z (Su H Z J CK Z Z (H.rv 0 (λq=>HG (lo:=0) (n:=256) (c:=256) (ys:=BA (hdL s.epoch sq ims)) q (sect_len (by rw[hdL_len];omega)) U U U (by rw[Aep];exact Aee (Agb (sect_len (by rw[hdL_len];omega)))))) (H.rv 5 (·.rd)) U (by simp[u8,Value.oneCell']) U) ?_)))));rintro v8 w g;have g:Sep z (grow 5 1 v8 (256+(ims.length*256)) ((BA (hdL s.epoch sq ims)).map u8++(CM s.epoch sq ims).map u8)::blk pw (A4 (BA (hdL s.epoch sq ims)) ((26+4*(ims.map Img.num).length:Nat):Int)) 154::tblA l::grow 3 1 o ims.length (Fy ims)::lgB y pd l s at_ sq us br t::blk b2 [I s.epoch,I sq,o,u32 (A8 (CM s.epoch sq ims))] 275::grow 5 1 v2 (ims.length*256) ((CM s.epoch sq ims).map u8)::AH m1 (seen (ims.map Img.num)) ((ims.map Img.num).length)::imA A (.slice ao ims.length ic) es::R) w:=g;rw[show ((BA (hdL s.epoch sq ims)).map u8++(CM s.epoch sq ims).map u8:List Value)=(BB s.epoch sq ims).flatten.map u8 from (by rw[<-AeD,S2])] at g;rw[show (256+(ims.length*256):Nat)=(1+ims.length)*256 from by omega] at g;have H:=g.l9;refine Zc 6 Z (Zr Z ?_);replace H:=(H.mono 8 (B:=A) Z (λh q=>q.1)).l9;exact ⟨_,.inr (.inr ⟨⟨p,a3⟩,⟨by omega,by first|assumption|simp_all,by omega⟩,v8,rfl,rfl⟩),H.perm 9 [0,4,2,8] Z Z⟩
theorem Vc(bs f b a m c:Nat)(t:m*256<=c)(u:c<=9223372036854775807)(s:m<=1099511627776):It prog 177 [Y bs,Y f] [blk bs [.slice (some ⟨b,a,none⟩) (m*256) c] 54,blk f [I 256] 3] (((List.range m).map λi=>Value.slice (some ⟨b,a+i*256,none⟩) 256 256).map λv=>[v]):=by
 intro z l J_ n w d;have H:=d.l2;refine JY (args:=[.func (.yield l) #[] #[],Y bs,Y f]) func177 Z Z 31 ntmps177 Z ?_;refine CR ?_;refine Ce ?_;refine s_do Z Z Z (Bi Z Z) ?_;refine AP ?_;refine D9 ?_;refine LE (σ:=Nat) (λi=>[(4,I ((i*256:Nat):Int)),(0,.func (.yield l) #[] #[]),(1,Y bs),(2,Y f)])
  (λi w=>Sep z (blk bs [.slice (some ⟨b,a,none⟩) (m*256) c] 54::blk f [I 256] 3::J_ i) w/\(i<=m)) (λi=>m-i) 0
  (λ_ e=>(e.co Z (congrArg I O) (e.all Z))) ⟨H,AeJ _⟩ ?_
 clear H;rintro i w ⟨d,j⟩;have H:=d.l2;have o:=j;clear j;refine CR ?_;refine CR ?_;refine Ce ?_;refine s_do Z Z Z (Ci Z Z) ?_;refine s_do Z Z Z (Bf Z Z J (Ay (H.cel 0 Z 0 Z))) ?_;refine s_do Z Z Z (FZ Z (z:=1) J Z) ?_;refine s_do Z Z Z (Q5 Z Z Z) ?_;refine AP ?_;refine Aa4 Z (λk=>?_) (λk=>?_)
 ·-- yes:((i*256:Nat):Int)<((m*256:Nat):Int)
  have h:i<m:=by omega
  refine Gr ?_;refine CR ?_;refine D9 ?_;refine CR ?_;refine SJ (Sep z _) J J H.drew ?_;refine AL Z Z Z (Bf Z Z J (λ_ g=>g.cel 1 Z 0 Z)) ?_;refine AL Z Z Z (Bf Z Z J (λ_ g=>g.cel 0 Z 0 Z)) ?_;refine AL Z Z Z (Ci Z Z) ?_;refine AL Z Z Z (BK Z (z:=1) (p:=(i*256)) (q:=m*256) (o':=a+i*256) (l':=(m*256-i*256)) (c':=(c-i*256)) J Z (.inr ⟨_,_,_,Z,Z,U⟩) (.inl ⟨Z,Z⟩) U U U U U U) ?_;refine AL Z Z Z (FZ Z (z:=1) J Z) ?_;refine AL Z Z Z (Kn Z Z Z) ?_;refine AC 18 (v:=I 256) Z (congrArg I U) ?_;refine AL Z Z Z (Bi Z Z) ?_;refine BH (λw d=>?_);have H:=d.l2;refine CR ?_;refine JX ?_;refine Eq Z Z Z (Ci Z Z) ?_;refine Eq Z Z Z (Bf Z Z J (Ay (H.cel 0 Z 0 Z))) ?_;refine Eq Z Z Z (Ci Z Z) ?_;refine Eq Z Z Z (Ci Z Z) ?_;refine Eq Z Z Z (Ci Z Z) ?_;refine Eq Z Z Z (CZ Z Z Z (r:=(((i+1)*256:Nat):Int)) U U) ?_;refine Eq Z Z Z (Ci Z Z) ?_;refine Eq Z Z Z (Ci Z Z) ?_;refine Eq Z Z Z (CZ Z Z Z (r:=(((i+1)*256:Nat):Int)) U U) ?_;refine Eq Z Z Z (Ur Z (sz:=1) (p:=(i*256)) (q:=((i+1)*256)) (o':=a+i*256) (l':=256) J Z Z Z Z U U U U U U U) ?_;refine LG Z Z Z Z Z Z (n i _ (by simp[List.getElem?_range h]) _ H) ?_;rintro _ w ⟨rfl,d⟩;refine ⟨_,Z,?_⟩;have H:=d.l2;refine Eq Z Z Z (Km Z Z) ?_;refine Rk ?_;refine Ip Z ?_;refine Gr ?_;refine Ce ?_;refine s_do Z Z Z (Ci Z Z) ?_;refine s_do Z Z Z (Bf Z Z J (Ay (H.cel 1 Z 0 Z))) ?_;refine s_do Z Z Z (CZ Z Z Z (r:=(((i+1)*256:Nat):Int)) U U) ?_;refine s_do Z Z Z (Bi Z Z) ?_;refine AP ?_;intro _ e;refine ⟨(i+1),(e.all Z),⟨H,?_⟩,?_⟩
  ·omega
  omega
 -- no:((i*256:Nat):Int)<((m*256:Nat):Int)
 refine LD ?_;refine IF ?_;obtain rfl:i=m:=by omega
 exact λ_ e=>⟨e.defers,by simpa using H⟩
theorem Yp(b a n c:Nat):Cn prog 133 [.slice (some ⟨b,a,none⟩) n c,I 256] [] (λv Γ=>(∃bs d,v=.func (.func 177) #[] #[Y bs,Y d]/\Γ=[blk bs [.slice (some ⟨b,a,none⟩) n c] 54,blk d [I 256] 3])):=by
 intro z R w H;replace H:=H.l0;refine Ae func133 Z ntmps133 Z (Za 2 [] H Z ?_);intro f w H;refine Za 0 [] H Z ?_;intro e w H;refine Z2 15 [0,0,4] H Z (Ab Z (C4 Z Z Z) (Zc 4 Z (Zr Z ?_)));exact ⟨_,⟨f,e,Z,Z⟩,H.perm 2 [1,0] Z Z⟩
set_option maxHeartbeats 1000000 in
theorem Qf (pd b a7 c:Nat) (D:Dsk) (x:Int) (l:Bool) (ps:List (List UInt8)) (A:Af) (b7:∀p∈ps,p.length=256) (hm:1<=ps.length/\ps.length<=4096) (b6:∀i,(D.ver i).length<=1099511627776) (hA:∀h,A h->rdH 1 (.slice (some ⟨b,a7,none⟩) (ps.length*256) c) (ps.length*256) (ps.flatten.map u8) h):Cn prog 78 [Y pd,I x,.slice (some ⟨b,a7,none⟩) (ps.length*256) c,.bool l] [diskA pd D,A] (λv Γ=>(¬(0<=x/\x+ps.length<=(D.n:Int))/\v=I 2/\Γ=[diskA pd D,A])\/((0<=x/\x+ps.length<=(D.n:Int))/\(D.f2=1\/(D.cut=true/\D.left=0))/\v=I 11/\Γ=[diskA pd {D with f2:=Be D.f2},A])\/((0<=x/\x+ps.length<=(D.n:Int))/\(¬D.f2=1/\¬(D.cut=true/\D.left=0))/\v=I 0/\Γ=[diskA pd {Dsk.ws {D with f2:=Be D.f2} l x.toNat ps with left:=max 0 (D.left-1)},A])):=by
 intro z R w j;have H:=j.l2;obtain ⟨bd,m,f0,bs,es,clk,hq,hD,a5,j⟩:=H.disk;clear H;have d4:=hD.n1;have c8:=hD.n2;have c9:=hD.f2;have d7:=hD.left;have d5:=a5.len;have H:=j.l6;refine NH func78 Z 73 ntmps78 Z (AX (AI (E3 Z Z Z (G0 H Z Z (cs:=[Y pd]) Z) ?_)));rintro _ w ⟨b1,rfl,j⟩;have H:=j.l7;refine E3 Z Z Z (G0 H Z Z (cs:=[I x]) Z) ?_;rintro _ w ⟨b2,rfl,j⟩;have H:=j.l8;refine E3 Z Z Z (G0 H Z Z (cs:=[.bool l]) Z) ?_;rintro _ w ⟨b3,rfl,j⟩;have H:=j.l9;refine BY 1 Z Z (AP (AX (FJ (AX (AI (BY 1 Z Z (s_do Z Z Z (FZ Z (z:=1) J Z) (BY 2 Z Z (Sd 14 Z (λh1=>?_) (λh1=>?_))))))))))
 ·omega
 refine BY 1 Z Z (s_do Z Z Z (FZ Z (z:=1) J Z) (s_do Z Z Z (Lj Z Z Z (r:=((ps.length*256:Nat):Int)%256) U U U) (BY 3 Z Z (AP (Gp Z (λh2=>?_) (λh2=>?_))))))
 ·omega
 refine AX (AI (Gi 3 [0,1] (AS (H.blk 2 Z) (AS (H.blk 1 Z) AN)) Z J Z (s_do Z Z Z (FZ Z (z:=1) J Z) (s_do Z Z Z (Li Z Z Z (r:=(ps.length:Int)) U U U U) (Ft Z Z Z Z Z (λw=>call130 _ w) (PW _ _ _ _ _ _ _ _ _ _ _ _ U) H.f3 Z ?_)))));rintro _ w _ ⟨rfl,rfl⟩ j;have H:=j.l9;refine s_do Z Z Z (AE Z Z) (BY 1 Z Z (AP (Gp Z (λh3=>?_) (λh3=>?_))))
 ·refine AX (AI (BY 1 Z Z (AP (D7 (NI Z [I 2] ⟨Z,trivial⟩ (v:=I 2) Z ?_)))));replace H:=H.f7.f7.f7.f7.f4;have j:=Sep.toDisk (D:=D) (pd:=pd) (bd:=bd) (m:=m) (f0:=f0) (bs:=bs) (es:=es) (clk:=clk) (hq:=hq) (Γ:=blk b3 [.bool l] 4::blk b2 [I x] 3::blk b1 [Y pd] 31::A::R) H hD a5
  have H:=j.l5;exact ⟨[diskA pd D,A],.inl ⟨by omega,Z,Z⟩,H.perm 5 [0,4] Z Z⟩
 obtain ⟨k,rfl⟩:∃k:Nat,x=(k:Int):=⟨x.toNat,by omega⟩;have hk:k+ps.length<=D.n:=by omega
 refine AX (AX (AI (Gi 1 [0] (AS (H.blk 3 Z) AN) Z J Z (Ft Z Z Z Z Z (λw=>call131 _ w) (UD _ _ _ _ _ _ _ _ _ _ U) H Z ?_))));rintro _ w _ ⟨rfl,rfl⟩ j;have H:=j.l9;refine BY 1 Z Z (AP (Gp Z (λh4=>?_) (λh4=>?_)))
 ·refine DF (Gp Z (λh5=>?_) (λh5=>?_))
  ·refine AX (AI (BY 1 Z Z (AP (D7 (NI Z [I 11] ⟨Z,trivial⟩ (v:=I 11) Z ?_)))));replace H:=H.f7.f7.f7.f7.f4;have j:=Sep.toDisk (D:= {D with f2:=Be D.f2}) (pd:=pd) (bd:=bd) (m:=m) (f0:=f0) (bs:=bs) (es:=es) (clk:=clk) (hq:=hq) (Γ:=blk b3 [.bool l] 4::blk b2 [I (k:Int)] 3::blk b1 [Y pd] 31::A::R) H (hD.f hD.f1 (Fg hD.f2) hD.f3 hD.left) (a5.f _ _ _ _ _)
   have H:=j.l5;exact ⟨[diskA pd {D with f2:=Be D.f2},A],.inr (.inl ⟨by omega,by simp_all,Z,Z⟩),H.perm 5 [0,4] Z Z⟩
  exact absurd h4 h5
 refine AI (Gi 1 [0] (AS (H.blk 3 Z) AN) Z J Z (Ft Z Z Z Z Z (λw=>call132 _ w) (SH _ _ _ _ _ _ _ _ _ _) H Z ?_));rintro _ w _ ⟨rfl,rfl⟩ j;have H:=j.l9;refine BY 1 Z Z (AP (R9 Z (λh6=>?_) (λh6=>?_)))
 ·refine AX (AI (BY 1 Z Z (AP (D7 (NI Z [I 11] ⟨Z,trivial⟩ (v:=I 11) Z ?_)))));replace H:=H.f7.f7.f7.f7.f4;have j:=Sep.toDisk (D:= {D with f2:=Be D.f2}) (pd:=pd) (bd:=bd) (m:=m) (f0:=f0) (bs:=bs) (es:=es) (clk:=clk) (hq:=hq) (Γ:=blk b3 [.bool l] 4::blk b2 [I (k:Int)] 3::blk b1 [Y pd] 31::A::R) H (hD.f hD.f1 (Fg hD.f2) hD.f3 hD.left) (a5.f _ _ _ _ _)
  have H:=j.l5;exact ⟨[diskA pd {D with f2:=Be D.f2},A],.inr (.inl ⟨by omega,by simp_all,Z,Z⟩),H.perm 5 [0,4] Z Z⟩
 refine DF (AX (AX (AI (BY 1 Z Z (Ft Z Z Z Z Z (λw=>call134 _ w) (Jo _ _ (ps.length*256) _ ps.flatten _ (hA) U) H.f8 Z ?_)))));rintro _ w _ ⟨g,s,rest,rfl,⟨cg,cc,cl⟩,rfl⟩ j;have H:=j.l10;refine Ft Z Z Z Z Z (λw=>call133 _ w) (Yp _ _ _ _) H Z ?_;rintro _ w _ ⟨t,o,rfl,rfl⟩ j;have H:=j.l12;refine AP (FJ ?_);replace H:=H.f2.f10;obtain ⟨a0,⟨c3,c5⟩,j⟩:=UL H;clear H;have H:=j.l11;replace H:=H.f10.f1.f10.f10.f7;have j:=Sep.toDiskQ (D:= {D with f2:=Be D.f2}) (pd:=pd) (bd:=bd) (m:=m) (f0:=f0) (bs:=bs) (es:=es) (clk:=clk) (hq:=a0) (Γ:=blk t [.slice (some ⟨g,0,none⟩) (ps.length*256) s] 54::blk o [I 256] 3::A::blk b3 [.bool l] 4::blk b2 [I (k:Int)] 3::blk b1 [Y pd] 31::R) H (hD.f hD.f1 (Fg hD.f2) hD.f3 hD.left) ((a5.f _ _ _ _ _).le c3);have H:=j.l7;replace H:=H.f3.f1.f4.f5.f6.f6.f6;have j:Sep z ((blk b1 [Y pd] 31::blk b2 [I ((k+0:Nat):Int)] 3::blk b3 [.bool l] 4::diskQ pd (Dsk.ws {D with f2:=Be D.f2} l k (ps.take 0)) a0::A::R)++[blk t [.slice (some ⟨g,0,none⟩) (ps.length*256) s] 54,blk o [I 256] 3]) w:=Sep.swap (As:=[blk t [.slice (some ⟨g,0,none⟩) (ps.length*256) s] 54,blk o [I 256] 3]) (Bs:=blk b1 [Y pd] 31::blk b2 [I ((k+0:Nat):Int)] 3::blk b3 [.bool l] 4::diskQ pd (Dsk.ws {D with f2:=Be D.f2} l k (ps.take 0)) a0::A::R) (by simpa [Dsk.ws] using H);clear H;have a9:=λi=>Dsk.ws_n l (ps.take i) {D with f2:=Be D.f2} k;have a8:=λi=>Dsk.ws_f l (ps.take i) {D with f2:=Be D.f2} k;refine XU (λi=>blk b1 [Y pd] 31::blk b2 [I ((k+i:Nat):Int)] 3::blk b3 [.bool l] 4::diskQ pd (Dsk.ws {D with f2:=Be D.f2} l k (ps.take i)) a0::A::R) Z (λu w=>call177 u w) Z (Vc t o g 0 ps.length s U U U) j ?_ ?_
 ·rintro ro i v hv w;obtain ⟨hi,rfl⟩:i<ps.length/\v=.slice (some ⟨g,0+i*256,none⟩) 256 256:=by
    have hl:=(Ad6.1 hv).1;simp at hl;rw[Aej,List.getElem?_range hl] at hv;simp at hv;exact ⟨hl,by rw[<-hv,AfH]⟩
  obtain ⟨p,hp⟩:∃p,ps[i]?=some p:=⟨_,Ad7 hi⟩;have y:=b7 p (Ad8 hp);have b5:=UM c5 b7 hp;refine Ce (BY 1 Z Z (AP ?_));refine λa hF=>⟨Z,λF w j=>?_⟩;revert a hF;have H:=j.l5;have j:=H.pick 4 [3,0,1,2] Z;have H:Sep z (diskQ pd (Dsk.ws {D with f2:=Be D.f2} l k (ps.take i)) a0::blk b1 [Y pd] 31::blk b2 [I ((k+i:Nat):Int)] 3::blk b3 [.bool l] 4::A::(R++([blk t [.slice (some ⟨g,0,none⟩) (ps.length*256) s] 54,blk o [I 256] 3]++F))) w:=j;clear j;obtain ⟨bd,m,f0,bs,es,clk,a1,a2,j⟩:=H.diskQ;clear H;have H:=j.l9;have b8:=a9 i;have b0:k+i<(Dsk.ws {D with f2:=Be D.f2} l k (ps.take i)).n:=by rw[b8];show k+i<D.n;omega
  have d2:(Dsk.ws {D with f2:=Be D.f2} l k (ps.take i)).n=D.n:=b8;refine D9 (CR (CR (Ce (Gi 1 [0] (AS (H.blk 7 Z) AN) Z J Z (AP (Jg Z (λh7=>?_) (λh7=>?_)))))))
  ·subst h7;refine CR (Ce (Gi 2 [0,1] (AS (H.blk 5 Z) (AS (H.blk 6 Z) AN)) Z J Z (Ft Z Z Z Z Z (λw=>call135 _ w) (Xg _ _ _ _ _ _ _ _ _ _ (k+i) U U) H Z ?_)));rintro _ w _ ⟨rfl,rfl⟩ j;have H:=j.l9;refine BY 1 Z Z (E3 Z Z Z (F4 1 H Z Z J Z Z (m:=256) (news:=(p.map u8)) (.inl (H.rv 3 (λq=>b5.le q))) (by simp[u8,Value.oneCell']) (by have:=a2.len;simp;omega) (k:=256) U (out:=((bs.take ((k+i)*256)++p++bs.drop ((k+i)*256+256)).map u8)) (by simp[y,Aee])) ?_);rintro _ w ⟨rfl,j⟩;have H:=j.l9;refine AP (IL (Sep z (blk pd [.slice (some ⟨bd,0,none⟩) ((Dsk.ws {D with f2:=Be D.f2} true k (ps.take i)).n*256) ((Dsk.ws {D with f2:=Be D.f2} true k (ps.take i)).n*256),.map (some m),I f0,I ((Dsk.ws {D with f2:=Be D.f2} true k (ps.take i)).f1),I ((Dsk.ws {D with f2:=Be D.f2} true k (ps.take i)).f2),I ((Dsk.ws {D with f2:=Be D.f2} true k (ps.take i)).f3),.bool ((Dsk.ws {D with f2:=Be D.f2} true k (ps.take i)).cut),I ((Dsk.ws {D with f2:=Be D.f2} true k (ps.take i)).left)] 83::blk bd ((bs.take ((k+i)*256)++p++bs.drop ((k+i)*256+256)).map u8) 5::AH m (es.map Ent.ie) clk::poolA a0::seps (es.map Ent.row)::blk b1 [Y pd] 31::blk b2 [I ((k+i:Nat):Int)] 3::blk b3 [.bool true] 4::A::(R++([blk t [.slice (some ⟨g,0,none⟩) (ps.length*256) s] 54,blk o [I 256] 3]++F)))) 6 Z J (A5 H λw j=>?_))
   have H:=j.l9;refine Bw [0,1,2,3,4] [0,1,1,2] J (λ_ hx=>(AS (hx.blk 5 Z) (AS (hx.blk 0 Z) (AS (hx.blk 6 Z) AN)))) (by exact H.pick 9 [0,1,2,3,4,5,6,7,8] Z) Z J Z Z (AF [5] J O (An (AcT Z Z Z (Nu 2 (e:=205) H Z Z J Z Z) ?_)));rintro _ w ⟨rfl,j⟩;have H:=j.l9;refine Au (λh=>absurd Z h) (Bn J ?_);obtain ⟨es2,a4,a6,a3⟩:=SV a2 b0 y (bs':=(bs.take ((k+i)*256)++p++bs.drop ((k+i)*256+256))) Z;replace H:=H.f4;have j:=H.mono 0 Z a3;rw[a6] at j;have H:=j.l9;replace H:=H.f4.f4.f4.f4;have e3:Dsk.ws {D with f2:=Be D.f2} true k (ps.take (i+1))=(Dsk.ws {D with f2:=Be D.f2} true k (ps.take i)).w1 true (k+i) p:=by rw[Dsk.ws_take hp]
   have j:=Sep.toDiskQ (D:=(Dsk.ws {D with f2:=Be D.f2} true k (ps.take i)).w1 true (k+i) p) (pd:=pd) (bd:=bd) (m:=m) (f0:=f0) (bs:=(bs.take ((k+i)*256)++p++bs.drop ((k+i)*256+256))) (es:=es2) (clk:=clk) (hq:=a0) (Γ:=blk b1 [Y pd] 31::blk b2 [I ((k+i:Nat):Int)] 3::blk b3 [.bool true] 4::A::(R++([blk t [.slice (some ⟨g,0,none⟩) (ps.length*256) s] 54,blk o [I 256] 3]++F))) H (a1.w1 y) a4;rw[<-e3] at j;have H:=j.l5;refine Ce (Gi 1 [0] (AS (H.blk 2 Z) AN) Z J Z (s_do Z Z Z (CZ Z Z Z (r:=((k+(i+1):Nat):Int)) U U) (FY Z Z (Lk 2 H Z Z Z Z Z Z J) ?_)));rintro w j;have H:=j.l5;refine AP ?_;replace H:=H.f4.f1.f4.f4.f4;exact λ_ _=>H
  subst h7;replace H:=H.f4;obtain ⟨v0,c4,Rest,c0,b9,j,c2⟩:=SU a2 b0 H;clear H;have H:=j.l10;have c7:c4.length<=1099511627776:=by rw[b9,Dsk.ws_ver _ _ _ _ _ (.inr (by rw[Aes];omega))];exact b6 _
  refine IL (Sep z (emp::seps Rest::blk pd [.slice (some ⟨bd,0,none⟩) ((Dsk.ws {D with f2:=Be D.f2} false k (ps.take i)).n*256) ((Dsk.ws {D with f2:=Be D.f2} false k (ps.take i)).n*256),.map (some m),I f0,I ((Dsk.ws {D with f2:=Be D.f2} false k (ps.take i)).f1),I ((Dsk.ws {D with f2:=Be D.f2} false k (ps.take i)).f2),I ((Dsk.ws {D with f2:=Be D.f2} false k (ps.take i)).f3),.bool ((Dsk.ws {D with f2:=Be D.f2} false k (ps.take i)).cut),I ((Dsk.ws {D with f2:=Be D.f2} false k (ps.take i)).left)] 83::blk bd (bs.map u8) 5::AH m (es.map Ent.ie) clk::poolA a0::blk b1 [Y pd] 31::blk b2 [I ((k+i:Nat):Int)] 3::blk b3 [.bool false] 4::A::(R++([blk t [.slice (some ⟨g,0,none⟩) (ps.length*256) s] 54,blk o [I 256] 3]++F)))) 15 Z J (A5 H λw j=>?_);have H:=j.l10;refine Bw [0,1,2,3,4,5,6,7,8,9] [0,1,1,2,0,1,1,2] J (λ_ hx=>(AS (hx.blk 6 Z) (AS (hx.blk 2 Z) (AS (hx.blk 7 Z) AN)))) (by exact Sep.mono 0 (B:=emp) (H.pick 10 [0,1,2,3,4,5,6,7,8,9] Z) Z (λ_ _=>trivial)) Z J Z Z (BS 10 J Z Z J J J Z Z Z (FM (e:=205) (zv:=.slice none 0 0) Z J J Z Z (λ_ hx=>hx.bk 4 Z)) (Sep.mono 0 (B:=emp) (H.pick 10 [0,1,2,3,4,5,6,7,8,9] Z) Z (λ_ _=>trivial)) (AC 58 (v:=v0) Z c0 (Bw [11] [] J (λ_ _=>AN) (by exact Sep.mono 0 (B:=emp) (H.pick 10 [0,1,2,3,4,5,6,7,8,9] Z) Z (λ_ _=>trivial)) Z J Z Z (AF [12] J O (An (Ca Z Z Z Z (AM H Z J (Elt.mk (P:=prog) (e:=54) (z:=.slice none 0 0) (sz:=1) (by_:=24) J Z U U) Z (by decide) (by decide) (out:=[.slice (some ⟨g,(0+i*256),none⟩) 256 256]) J) ?_))))));rintro _ w ⟨b4,rfl,j⟩;have H:=j.l11;refine Au (λ_=>(Sep.mono 0 (B:=emp) (H.pick 11 [1,2,3,4,5,6,7,8,9,10] Z) Z (λ_ _=>trivial))) (AF [13] J O (An (Ca Z Z Z Z (AY 1 H Z Z J (Elt.mk (P:=prog) (e:=54) (z:=.slice none 0 0) (sz:=1) (by_:=24) J Z U U) Z Z (H.rv 0 (·.rd U U O Z)) (by simp[Value.oneCell']) U) ?_)));rintro v5 w j;have H:=j.l11;refine Au (λ_=>(Sep.mono 0 (B:=emp) (H.pick 11 [1,2,3,4,5,6,7,8,9,10] Z) Z (λ_ _=>trivial))) (AF [14] J O (An (Bg Z Z Z (DN 5 (e:=205) H Z Z J Z Z Z) ?_)));rintro w j;have H:=j.l11;refine Au (λh=>absurd Z h) (Bn J ?_);replace H:=H.f2.f2;obtain ⟨es2,a4,a6,a3⟩:=c2 v5 _ p y b5;have j:=Sep.made 2 H a3;rw[a6] at j;have H:=j.l10;replace H:=H.f5.f5.f5.f5;have e3:Dsk.ws {D with f2:=Be D.f2} false k (ps.take (i+1))=(Dsk.ws {D with f2:=Be D.f2} false k (ps.take i)).w1 false (k+i) p:=by rw[Dsk.ws_take hp]
  have j:=Sep.toDiskQ (D:=(Dsk.ws {D with f2:=Be D.f2} false k (ps.take i)).w1 false (k+i) p) (pd:=pd) (bd:=bd) (m:=m) (f0:=f0) (bs:=bs) (es:=es2) (clk:=putC (es.map Ent.ie) ((k+i:Nat):Int) clk) (hq:=a0) (Γ:=blk b4 [.slice (some ⟨g,(0+i*256),none⟩) 256 256] 54::blk b1 [Y pd] 31::blk b2 [I ((k+i:Nat):Int)] 3::blk b3 [.bool false] 4::A::(R++([blk t [.slice (some ⟨g,0,none⟩) (ps.length*256) s] 54,blk o [I 256] 3]++F))) H (a1.w1 y) a4;rw[<-e3] at j;have H:=j.l6;refine Ce (Gi 1 [0] (AS (H.blk 3 Z) AN) Z J Z (s_do Z Z Z (CZ Z Z Z (r:=((k+(i+1):Nat):Int)) U U) (FY Z Z (Lk 3 H Z Z Z Z Z Z J) ?_)));rintro w j;have H:=j.l6;refine AP ?_;replace H:=H.f1.d.f4.f1.f4.f4.f4;exact λ_ _=>H
 rintro D0 w j;rw[Aea,List.length_range] at j;have H:=j.l6;obtain ⟨bd,m,f0,bs,es,clk,a1,a2,j⟩:=(H.pick 6 [4,0,1,2,3,5] Z).diskQ;clear H;have H:=j.l10;have c6:=a1.left;refine AX (BG 9 J J (A5 H λw j=>?_));have H:=j.l10;refine PN 5 [0,0,7,1] (AS (H.blk 6 Z) (AS (H.blk 0 Z) AN)) Z J Z (B9 Z Z Z (Hr Z Z Z (r:=((Dsk.ws {D with f2:=Be D.f2} l k (ps.take ps.length)).left)-1) U U) (B9 Z Z Z (M8 Z Z Z) (PO 2 [7] Z J (CD (FY Z Z (AdA 0 H Z Z Z Z Z Z J) ?_)))));rintro w j;have H:=j.l10;refine AP (AX (AI (BY 1 Z Z (AP (D7 ?_)))));replace H:=H.f5;refine NJ H (rs:=[.tmp 8]) Z [I 0] (λ_=>⟨Z,trivial⟩) (v:=I 0) Z (λw j=>?_);clear H;have H:=j.l9;have c1:=(a8 ps.length).2.2.2.2;have j:=Sep.toDisk (D:= {Dsk.ws {D with f2:=Be D.f2} l k (ps.take ps.length) with left:=max (0:Int) ((Dsk.ws {D with f2:=Be D.f2} l k (ps.take ps.length)).left-1)}) (pd:=pd) (bd:=bd) (m:=m) (f0:=f0) (bs:=bs) (es:=es) (clk:=clk) (hq:=a0) (Γ:=blk b1 [Y pd] 31::blk b2 [I ((k+ps.length:Nat):Int)] 3::blk b3 [.bool l] 4::A::(R++[blk t [.slice (some ⟨g,0,none⟩) (ps.length*256) s] 54,blk o [I 256] 3])) H (a1.f a1.f1 a1.f2 a1.f3 U) (a2.f _ _ _ _ _);have H:=j.l5;have j:=Sep.front (As:=diskA pd {Dsk.ws {D with f2:=Be D.f2} l k (ps.take ps.length) with left:=max (0:Int) ((Dsk.ws {D with f2:=Be D.f2} l k (ps.take ps.length)).left-1)} ::A::R) (Bs:=[blk t [.slice (some ⟨g,0,none⟩) (ps.length*256) s] 54,blk o [I 256] 3]) (H.pick 5 [0,4] Z);exact ⟨[diskA pd {Dsk.ws {D with f2:=Be D.f2} l k (ps.take ps.length) with left:=max (0:Int) ((Dsk.ws {D with f2:=Be D.f2} l k (ps.take ps.length)).left-1)},A],.inr (.inr ⟨by omega,by simp_all,by rw[Ae2,c1] at *;exact ⟨Z,Z⟩⟩),j⟩
theorem Oh(pd b a c n:Nat)(D:Dsk)(x:Int)(ps:List (List UInt8))(A:Af)(j:∀p∈ps,p.length=256)(m:1<=ps.length/\ps.length<=4096)(f:∀i,(D.ver i).length<=1099511627776)(r:ps.length*256=n)(o:∀h,A h->rdH 1 (.slice (some ⟨b,a,none⟩) n c) n (ps.flatten.map u8) h):
  Cn prog 78 [Y pd,I x,.slice (some ⟨b,a,none⟩) n c,.bool false] [diskA pd D,A] (λv Γ=>(¬(0<=x/\x+ps.length<=(D.n:Int))/\v=I 2/\Γ=[diskA pd D,A])\/((0<=x/\x+ps.length<=(D.n:Int))/\D.bad/\v=I 11/\Γ=[diskA pd D.wf,A])\/((0<=x/\x+ps.length<=(D.n:Int))/\¬D.bad/\v=I 0/\Γ=[diskA pd (D.wr x.toNat ps),A])):=by
 subst r;refine Cn.mono (Qf pd b a c D x false ps A j m f o) ?_;rintro v Γ (⟨d,g,e⟩|⟨d,g,e,l⟩|⟨d,⟨g,k⟩,e,l⟩)
 ·exact .inl ⟨d,g,e⟩
 ·exact .inr (.inl ⟨d,g,e,l⟩)
 exact .inr (.inr ⟨d,λq=>by rcases q with q|q;exact g q;exact k q,e,l⟩)
set_option maxHeartbeats 1000000 in
theorem Vd (o pd d:Nat) (s:Sup) (at_ sq us:Int) (r l:Bool) (v:Value) (ims:List Img) (A:Af) (hA:∀h,A h->imgsH v ims h) (D:Dsk) (a1:s.Ok (D.n:Int)) (a6:l=decide (s.epoch<4294967296)) (b5:0<=at_/\at_<s.len) (b2:0<=sq/\sq<=2199023255552) (hu:0<=us/\us<=s.len) (u:∀i,(D.ver i).length<=1000000000000):Cn prog 146 [Y o,v] [lgB o pd d s at_ sq us r l,tblA d,diskA pd D,A] (λv Γ=>(ims.length > 40/\v=I 16/\Γ=[lgB o pd d s at_ sq us r l,tblA d,diskA pd D,A])\/(ims.length<=40/\(ims=[]\/¬EG ims)/\v=I 1/\Γ=[lgB o pd d s at_ sq us r l,tblA d,diskA pd D,A])\/((1<=ims.length/\ims.length<=40)/\EG ims/\¬(1+(ims.length:Int)<=(if r then 0 else s.len-us)/\l=true/\sq<1099511627776)/\v=I 15/\Γ=[lgB o pd d s at_ sq us r l,tblA d,diskA pd D,A])\/
  ((1<=ims.length/\ims.length<=40)/\EG ims/\(1+(ims.length:Int)<=(if r then 0 else s.len-us)/\l=true/\sq<1099511627776)/\∃(k:Nat),(k:Int)=min (1+(ims.length:Int)) (s.len-at_)/\((¬D.bad/\k=1+ims.length/\v=I 0/\Γ=[lgB o pd d s ((at_+(1+(ims.length:Int)))%s.len) (sq+1) (us+(1+(ims.length:Int))) r l,tblA d,diskA pd (D.wr (s.start+at_).toNat ((BB s.epoch sq ims).take k)),A])\/(¬D.bad/\k<1+ims.length/\¬Dsk.bad (D.wr (s.start+at_).toNat ((BB s.epoch sq ims).take k))/\v=I 0/\Γ=[lgB o pd d s ((at_+(1+(ims.length:Int)))%s.len) (sq+1) (us+(1+(ims.length:Int))) r l,tblA d,diskA pd ((D.wr (s.start+at_).toNat ((BB s.epoch sq ims).take k)).wr s.start.toNat ((BB s.epoch sq ims).drop k)),A])\/
    (D.bad/\v=I 11/\Γ=[lgB o pd d s at_ (sq+1) us true l,tblA d,diskA pd D.wf,A])\/(¬D.bad/\k<1+ims.length/\Dsk.bad (D.wr (s.start+at_).toNat ((BB s.epoch sq ims).take k))/\v=I 11/\Γ=[lgB o pd d s at_ (sq+1) us true l,tblA d,diskA pd (Dsk.wf (D.wr (s.start+at_).toNat ((BB s.epoch sq ims).take k))),A])))):=by
 intro z R w H;replace H:=H.l4;obtain ⟨ao,ic,rfl⟩:=H.sy 3 (λq=>(hA _ q).slc);have a0:=H.sy 2 (λq=>(diskA.ok q).n2);have a9:=H.sy 3 (λq=>(hA _ q).small);have b3:=Sup.get a1;have a8:=a1.2
 refine Ae func146 Z ntmps146 Z (Z0 15 [0] Z (Ag Z (λh1=>?_) (λh1=>?_)))
 ·refine Zc 6 Z (Zr Z ?_);exact ⟨_,.inl ⟨by omega,Z,Z⟩,H.perm 4 [0,1,2,3] Z Z⟩
 have j:ims.length<=40:=by omega
 refine Z0 8 [0] Z (Ag Z (λh2=>?_) (λh2=>?_))
 ·refine Zc 6 Z (Zr Z ?_);exact ⟨_,.inr (.inl ⟨by omega,by first|exact .inr a|exact .inl (Ags U),rfl,rfl⟩),H.perm 4 [0,1,2,3] Z Z⟩
 refine Zc 7 Z (Aq Z (call188 _) (Vb _ _ _ _ _ _ _ _ _ _ _ _ hA a6 U U ⟨by omega,by omega⟩ U U) H.f3.f2.f2 ?_);rintro _ w _ (⟨a,rfl,rfl⟩|⟨a,b,rfl,rfl⟩|⟨a,b,v1,rfl,rfl⟩) g
 ·have H:=g.l4;refine Z0 22 [3] Z (Zr Z ?_);exact ⟨_,.inr (.inl ⟨by omega,by first|exact .inr a|exact .inl (Ags U),rfl,rfl⟩),H.perm 4 [0,1,3,2] Z Z⟩
 ·have H:=g.l4;refine Z0 22 [3] Z (Zr Z ?_);exact ⟨_,.inr (.inr (.inl ⟨⟨by omega,by omega⟩,a,b,Z,Z⟩)),H.perm 4 [0,1,3,2] Z Z⟩
 have H:=g.l5;have a2:=Yg (e:=s.epoch) (sq:=sq) a.1 j;refine Zc 1 Z ?_;obtain ⟨gb,gc,rfl,b1,a7⟩:=H.sy 0 (·.sl U);generalize hps:BB s.epoch sq ims=ps at H a2;obtain ⟨c,b0⟩:=a2;have b4:=UY c;have H:Sep z (grow 5 1 (.slice (some ⟨gb,0,none⟩) ((1+ims.length)*256) gc) ((1+ims.length)*256) (ps.flatten.map u8)::lgB o pd d s at_ sq us r l::tblA d::A::diskA pd D::R) w:=H;obtain ⟨k,hk⟩:∃k:Nat,(k:Int)=min (1+(ims.length:Int)) (s.len-at_):=⟨(min (1+(ims.length:Int)) (s.len-at_)).toNat,by omega⟩;have a5:(ps.take k).length=k:=by rw[Aes];omega
 have a3:(ps.drop k).length=1+ims.length-k:=by rw[AeG];omega
 refine Z0 17 [4] Z (Bu (Sep z _) J J H.drew (G4 13 [2,6,1,0,9,1,0] [s.len-at_,(s.len-at_)*256] Z J U (AL Z Z Z (Kn Z Z Z) (AC 38 (v:=I ((k*256:Nat):Int)) Z (congrArg I U) (BZ 1 [] Z J (BH (λw g=>?_)))))));have H:=g.l5;refine gn (Zc 2 Z ?_);replace H:=H.f1;refine AO (Sep z (lgB o pd d s at_ sq us r l::R)) 19 Z J (A5 H λw g=>?_);have H:=g.l5;refine HC [0,1,2,3,4,5,6,7,8,9,10,11,12,13,14,15] [0,0,0,2,5,0,0,9,0,0] [s.start+at_] (by exact H.pick 5 [0] Z) Z J U Z (BO 16 Z J J J Z Z Z (BK Z (z:=1) (p:=0) (q:=(k*256)) (o':=0) (l':=(k*256)) (c':=gc) J Z (.inl ⟨Z,Z⟩) (.inr ⟨_,_,_,Z,Z,Z⟩) U U U U U U) (H.pick 5 [0] Z) (AB [17] J O (An (Bo Z Z Z Z Z Z (λw=>call78 _ w) (Oh _ _ _ _ _ _ _ (ps.take k) _ (λp hp=>c p (Afa hp)) U (λi=>by have:=u i;omega) (by rw[a5]) (λh q=>by rw[S3 c];exact (grow.rdB q).pre U U)) H.f1.f4 Z ?_))));rintro _ w _ (⟨a4,rfl,rfl⟩|⟨_,y,rfl,rfl⟩|⟨_,f,rfl,rfl⟩) g
 ·exact absurd ⟨by omega,by omega⟩ a4
 ·have H:=g.l5;refine Av (H.pick 5 [2] Z) (AU [18] [] [] (by exact H.pick 5 [2] Z) Z J Z (a_done J (gn (Z5 52 [4,3,10,2,0,10,2,12,2] [sq+1] H Z U ?_))));intro w H;refine Zr Z ?_;subst hps;exact ⟨_,.inr (.inr (.inr ⟨⟨by omega,by omega⟩,a,b,k,hk,.inr (.inr (.inl ⟨y,Z,Z⟩))⟩)),H.perm 5 [2,3,0,4] Z Z⟩
 have H:=g.l5;refine Av (H.pick 5 [2] Z) (AU [18] [] [] (by exact H.pick 5 [2] Z) Z J Z (a_done J (gn (Z0 14 [3,0] Z (Ag Z (λh3=>?_) (λh3=>?_))))))
 ·replace H:=H.f2;refine AO (Sep z (lgB o pd d s at_ sq us r l::R)) 14 Z J (A5 H λw g=>?_)
  have H:=g.l5;refine AU [0,1,2,3,4,5,6,7,8,9,10] [0,0,0,2,5,0,0] [] (by exact H.pick 5 [0] Z) Z J Z (BO 11 Z J J J Z Z Z (BK Z (z:=1) (p:=(k*256)) (q:=((1+ims.length)*256)) (o':=k*256) (l':=((1+ims.length)*256)-(k*256)) (c':=gc-(k*256)) J Z (.inr ⟨_,_,_,Z,Z,Z⟩) (.inl ⟨Z,Z⟩) U U U U U U) (H.pick 5 [0] Z) (AB [12] J O (An (Bo Z Z Z Z Z Z (λw=>call78 _ w) (Oh _ _ _ _ _ _ _ (ps.drop k) _ (λp hp=>c p (Afo hp)) U (λi=>by have h1:=u i;have h2:=Dsk.wr_len D (s.start+at_).toNat (ps.take k) i;omega) (by rw[a3];omega) (λh q=>by have:=(grow.rdB q).cut (lo:=k*256) (m:=(1+ims.length)*256-k*256) (c':=gc-k*256) U U U;rw[S4 c];rwa[Aee (by rw[AeG];omega),AfH] at this)) H.f2.f2 Z ?_))));rintro _ w _ (⟨a0,rfl,rfl⟩|⟨_,x,rfl,rfl⟩|⟨_,t,rfl,rfl⟩) g
  ·exact absurd ⟨by omega,by rw[Dsk.wr_n];omega⟩ a0
  ·have H:=g.l5;refine Av (H.pick 5 [2] Z) (AU [13] [] [] (by exact H.pick 5 [2] Z) Z J Z (a_done J (gn (Z5 36 [3,10,2,0,10,2,12,2] [sq+1] H Z U ?_))));intro w H;refine Zr Z ?_;subst hps;exact ⟨_,.inr (.inr (.inr ⟨⟨by omega,by omega⟩,a,b,k,hk,.inr (.inr (.inr ⟨f,by omega,x,Z,Z⟩))⟩)),H.perm 5 [2,3,0,4] Z Z⟩
  have H:=g.l5;refine Av (H.pick 5 [2] Z) (AU [13] [] [] (by exact H.pick 5 [2] Z) Z J Z (a_done J (gn (Z1 17 [4] [1+(ims.length:Int)] Z U (z_E_ Z (call140 _) (J5 _ _ _ _ _ _ _ _ _ _ U U U U U) H.f2 ?_)))));intro w H;refine Zc 8 Z (Zr Z ?_);subst hps;exact ⟨_,.inr (.inr (.inr ⟨⟨by omega,by omega⟩,a,b,k,hk,.inr (.inl ⟨f,by omega,t,Z,Z⟩)⟩)),H.perm 5 [0,3,1,4] Z Z⟩
 refine Z1 18 [4] [1+(ims.length:Int)] Z U (z_E_ Z (call140 _) (J5 _ _ _ _ _ _ _ _ _ _ U U U U U) H.f2 ?_);intro w H;refine Zc 8 Z (Zr Z ?_);subst hps;exact ⟨_,.inr (.inr (.inr ⟨⟨by omega,by omega⟩,a,b,k,hk,.inl ⟨f,by omega,Z,Z⟩⟩)),H.perm 5 [0,3,1,4] Z Z⟩
open Go.RowKit Go.Shelf
def IV:Go.Shelf.Ren:=⟨fun|189=>186|125=>126|257=>216|128=>175|129=>176|294=>241|295=>242|296=>243|297=>244|298=>245|299=>246|216=>247|300=>248|301=>249|328=>266|329=>208|330=>209|331=>267|332=>268|215=>127|343=>277|n=>n,fun|28=>68|3=>3|46=>197|0=>0|51=>209|53=>174|4=>4|183=>260|182=>259|131=>163|5=>5|9=>9|218=>298|222=>271|228=>327|229=>193|n=>n,fun|n=>n⟩
theorem J6:Go.Proofs.Lays.n189 prog IV:= {
 mixed:=by kernel_rfl,
 f125:=func126.trans (congrArg some J),
 f128:=func175.trans (congrArg some J),
 f129:=func176.trans (congrArg some J),
 f189:=func186.trans (congrArg some J),
 f215:=func127.trans (congrArg some J),
 f216:=func247.trans (congrArg some J),
 f257:=func216.trans (congrArg some J),
 f294:=func241.trans (congrArg some J),
 f295:=func242.trans (congrArg some J),
 f296:=func243.trans (congrArg some J),
 f297:=func244.trans (congrArg some J),
 f298:=func245.trans (congrArg some J),
 f299:=func246.trans (congrArg some J),
 f300:=func248.trans (congrArg some J),
 f301:=func249.trans (congrArg some J),
 f328:=func266.trans (congrArg some J),
 f329:=func208.trans (congrArg some J),
 f330:=func209.trans (congrArg some J),
 f331:=func267.trans (congrArg some J),
 f332:=func268.trans (congrArg some J),
 f343:=func277.trans (congrArg some J),
 t0:=underlying0,
 a0:=isAgg0,
 z0:=sizeOf0,
 v0:=zeroValue0,
 t3:=underlying3,
 a3:=isAgg3,
 z3:=sizeOf3,
 v3:=zeroValue3,
 t4:=underlying4,
 a4:=isAgg4,
 z4:=sizeOf4,
 v4:=zeroValue4,
 t5:=underlying5,
 a5:=isAgg5,
 z5:=sizeOf5,
 v5:=zeroValue5,
 t9:=underlying9,
 a9:=isAgg9,
 z9:=sizeOf9,
 v9:=zeroValue9,
 t28:=underlying68,
 a28:=isAgg68,
 z28:=sizeOf68,
 v28:=zeroValue68,
 t46:=underlying197,
 a46:=isAgg197,
 z46:=sizeOf197,
 v46:=zeroValue197,
 t51:=underlying209,
 a51:=isAgg209,
 z51:=sizeOf209,
 v51:=zeroValue209,
 t53:=underlying174,
 a53:=isAgg174,
 z53:=sizeOf174,
 v53:=zeroValue174,
 t131:=underlying163,
 a131:=isAgg163,
 z131:=sizeOf163,
 v131:=zeroValue163,
 t182:=underlying259,
 a182:=isAgg259,
 z182:=sizeOf259,
 v182:=zeroValue259,
 t183:=underlying260,
 a183:=isAgg260,
 z183:=sizeOf260,
 v183:=zeroValue260,
 t218:=underlying298,
 a218:=isAgg298,
 z218:=sizeOf298,
 v218:=zeroValue298,
 t222:=underlying271,
 a222:=isAgg271,
 z222:=sizeOf271,
 v222:=zeroValue271,
 t228:=underlying327,
 a228:=isAgg327,
 z228:=sizeOf327,
 v228:=zeroValue327,
 t229:=underlying193,
 a229:=isAgg193,
 z229:=sizeOf193,
 v229:=zeroValue193}
open Go.Sort in
theorem Ve {z w:World} {R:List Af} {b n:Nat} {cs:List Value} {ty:TypeId} (H:Sep z (blk b cs ty::R) w) (ys:List Int) (os:Array Obj):
  Sep z (blk b ((putCells I 0 ys.toArray cs.toArray).toList) ty::R) (Go.Sort.grow (putRow I (Go.Sort.ahead w n) b 0 ys.toArray) os):=by
 have hb:w.heap[b]?=some (.cells cs.toArray ty (0,0)):=H.blk 0 Z;have h1:Sep z (blk b ((putCells I 0 ys.toArray cs.toArray).toList) ty::R) (putRow I (Go.Sort.ahead w n) b 0 ys.toArray):=by
  refine H.write 0 Z Z Z Z (o':=.cells (putCells I 0 ys.toArray cs.toArray) ty (0,0)) ?_ ?_
  ·show (w.heap.modify b _)[b]?=_
   rw[Agv,if_pos Z,hb];rfl
  intro k hk;show (w.heap.modify b _)[k]?=_;rw[Agv,if_neg (AfN hk)]
 refine h1.ext0 ⟨Z,Z,Z,?_,λk hk _=>?_⟩
 ·show _<=(_++os:Array Obj).size
  simp
 show (_++os:Array Obj)[k]?=_;rw[Ahf hk]
theorem Te(v:Value)(zs:List Int)(hl:zs.length<=1099511627776):Cn prog 186 [v] [grow 3 1 v zs.length (zs.map I)]
  (λu Γ=>u=.tuple #[]/\∃ys:List Int,ys=zs.mergeSort (λx y=>decide (x<=y))/\Γ=[grow 3 1 v ys.length (ys.map I)]):=by
 intro z R w H;have H:Sep z (grow 3 1 v zs.length (zs.map I)::R) w:=H;rcases H.sy 0 (·.form) with ⟨rfl,h0⟩|⟨b,c,rfl,hc⟩
 ·obtain rfl:zs=[]:=Af7.1 h0
  refine (Go.Proofs.Any.slices_Sort_int_none J6 none 0 w).mono ?_;rintro e w' ⟨rfl,rfl⟩;exact ⟨_,⟨Z,[],by simp,Z⟩,H⟩
 obtain ⟨⟨t,a⟩,⟨f,h1,h2,h3,h4⟩,H1⟩:=H.into (σ:=Nat×List Value) (p:=λx=>c=x.1/\zs.length<=x.1/\x.1<=maxLen/\x.2.length=x.1/\x.2.take zs.length=zs.map I) (As:=λx=>[blk b x.2 3]) (λh q=>by
  rcases q.2 with ⟨q,_⟩|⟨g,t,a,f,hg,hc,hm,hs,ht⟩
  ·cases q
  simp only[Value.slice.injEq,Aef,Ahg,and_true,true_and] at f;obtain ⟨rfl,rfl⟩:=f;refine ⟨(c,a.toList),⟨Z,hc,hm,by simpa using hs,by simpa using ht⟩,λ_=>0,λi A hi=>?_⟩
  cases i with
  | zero=>simp at hi;subst hi;show Hp.part _ _ _ _=_;unfold Hp.part;rw[if_pos Z];simpa using hg
  | succ i=>simp at hi)
 dsimp only at f h1 h2 h3 h4 H1;subst f;have H1:Sep z (blk b a 3::R) w:=H1;have s:w.heap[b]?=some (.cells a.toArray 3 (0,0)):=H1.blk 0 Z;have a0:b<w.heap.size:=(AeU.1 s).1;have k:∀j,j<zs.length->a[j]?=some (I zs[j]!):=λj d=>by
  have:(a.take zs.length)[j]? =(zs.map I)[j]? :=by rw[h4]
  rw[AeS,if_pos d,Aej,Ad7 d] at this;rw[this,getElem!_pos zs j d];rfl
 have hH:Go.Sort.Holds I w b 0 zs.toArray:=λj d=>by
  have l:j<zs.length:=by simpa using d
  refine ⟨?_,?_⟩
  ·have:=k j l
   simp[World.cell?,s,this]
  simp[World.frozen?,s]
 refine (Go.Proofs.Any.slices_Sort_int J6 b 0 c zs w hH a0 U).mono ?_;rintro e w' ⟨rfl,n,os,rfl⟩;have H2:=Ve (n:=n) H1 (zs.mergeSort λx y=>decide (x<=y)) os;have r:(zs.mergeSort λx y=>decide (x<=y)).length=zs.length:=AhI _;refine ⟨_,⟨Z,_,Z,Z⟩,H2.mono 0 Z (λh q=>?_)⟩;rw[r];refine blk.grow q h1 (by unfold maxLen at h2;omega) ?_ ?_
 ·simp[Go.Sort.putCells,h3]
 apply Afk;intro j;rw[AeS];simp only[AeK];by_cases d:j<zs.length
 ·rw[if_pos d]
  have m:j<a.length:=by omega
  have o:j<(zs.mergeSort λx y=>decide (x<=y)).length:=by omega
  simp[Go.Sort.putCells,m,o,d]
 rw[if_neg d,AeC (by simp;omega)]
def Abn(l:List IE):List IE->Value->List IE->Prop:=λs v s2=>∃p∈Ck l (s.map λp:IE=>p.2.2),v=.int .i64 p.1/\s2=s++[p]
def Rw(l:List IE):List IE->Prop:=λs=>Ck l (s.map λp:IE=>p.2.2)=[]
def kC(s:List IE):List Value:=s.map λp=>.int .i64 p.1
def vecA(b:Nat)(l s:List IE):Af:=λh=>((∀p∈s,p∈l)/\(s.map λp:IE=>p.2.2).Nodup)/\∃v,seps [blk b [v] 68,grow 3 1 v s.length (kC s)] h
theorem Sep.vec{z w:World}{Γ:List Af}{b:Nat}{l s:List IE}(H:Sep z (vecA b l s::Γ) w):((∀p∈s,p∈l)/\(s.map λp:IE=>p.2.2).Nodup)/\∃v,Sep z (YtnifkcmmanmbbaaGreatDoor.blk b [v] 68::YtnifkcmmanmbbaaGreatDoor.grow 3 1 v s.length (kC s)::Γ) w:=by
 obtain ⟨v,hp,c⟩:=H.into (σ:=Value) (p:=λ_=>(∀p∈s,p∈l)/\(s.map λp:IE=>p.2.2).Nodup) (As:=λv=>[YtnifkcmmanmbbaaGreatDoor.blk b [v] 68,YtnifkcmmanmbbaaGreatDoor.grow 3 1 v s.length (kC s)]) (λh q=>by obtain ⟨q,v,a⟩:=q;exact ⟨v,q,a⟩);exact ⟨hp,v,c⟩
theorem Sep.toVec{z w:World}{Γ:List Af}{b:Nat}{l s:List IE}{v:Value}(H:Sep z (YtnifkcmmanmbbaaGreatDoor.blk b [v] 68::YtnifkcmmanmbbaaGreatDoor.grow 3 1 v s.length (kC s)::Γ) w)(a:∀p∈s,p∈l)(c:(s.map λp:IE=>p.2.2).Nodup):Sep z (vecA b l s::Γ) w:=
 H.made 2 (A:=vecA b l s) (λh q=>⟨⟨a,c⟩,v,q⟩)
theorem Yq(s:List IE)(p:IE):kC s++[I p.1]=kC (s++[p]):=by simp[kC]
theorem F2{l s:List IE}{p:IE}(c:(∀p∈s,p∈l)/\(s.map λp:IE=>p.2.2).Nodup)(hp:p∈Ck l (s.map λp:IE=>p.2.2)):(∀q∈s++[p],q∈l)/\((s++[p]).map λp:IE=>p.2.2).Nodup:=by
 obtain ⟨h,g⟩:=C6 hp;refine ⟨λq hq=>?_,?_⟩
 ·rcases Aek.1 hq with hq|hq
  ·exact c.1 q hq
  simp at hq;subst hq;exact h
 rw[AeD,Ae4];refine ⟨c.2,by simp,λa f b d=>?_⟩;simp at d;subst d;exact λe=>g (e▸f)
theorem GO{α β:Type}{f:α->β}{l:List α}(h:(l.map f).Nodup):l.Nodup:=(AfE.1 h).imp λh e=>h (congrArg f e)
theorem Jp{α:Type}:∀{s l:List α},s.Nodup->(∀p∈s,p∈l)->s.length<=l.length
 | [],_,_,_=>AeJ _
 | x::s,l,hn,h=>by
  obtain ⟨l1,l2,rfl⟩:=List.append_of_mem (h x O);have a:=Afc.1 hn;have:=Jp (s:=s) (l:=l1++l2) a.2 λp hp=>by
   have:=h p (by simp[hp]);simp only[Aek,Aei] at this ⊢;rcases this with q|rfl|q
   ·exact .inl q
   ·exact absurd hp a.1
   exact .inr q
  simp only[Ad9,Aeb] at this ⊢;omega
theorem KQ{l s:List IE}(h:(∀p∈s,p∈l)/\(s.map λp:IE=>p.2.2).Nodup):s.length<=l.length:=by
 have hs:s.Nodup:=GO h.2;exact Jp hs h.1
theorem Hn{l s:List IE}(a:(l.map λp:IE=>p.2.2).Nodup)(h:(∀p∈s,p∈l)/\(s.map λp:IE=>p.2.2).Nodup)(c:Rw l s):s.Perm l:=by
 have hs:s.Nodup:=GO h.2;have d:l.Nodup:=GO a;refine (List.perm_ext_iff_of_nodup hs d).2 λp=>⟨h.1 p,λhp=>?_⟩;have:p.2.2∈s.map λp:IE=>p.2.2:=by
  by_cases q:p.2.2∈s.map λp:IE=>p.2.2
  ·exact q
  have:p∈Ck l (s.map λp:IE=>p.2.2):=by simpa [Ck] using ⟨hp,by simpa using q⟩
  rw[show Ck l (s.map λp:IE=>p.2.2)=[] from c] at this;cases this
 obtain ⟨q,hq,e⟩:=Aeh.1 this;obtain ⟨i,hi,rfl⟩:=Af3.1 (h.1 q hq);obtain ⟨j,b,rfl⟩:=Af3.1 hp;obtain rfl:=F6 a (Ad7 hi) (Ad7 b) e;exact hq
structure PgE where
 n:Nat
 pg:Pg
 v:Value
 born:Nat
def PgE.ie(e:PgE):IE:=((e.n:Int),.agg #[.int .i64 e.pg.kind,e.v],e.born)
structure PgsIn(f:BC)(es:List PgE)(clk:Nat)(hq:Hp):Prop where
 ent:∀e∈es,f e.n=some e.pg/\e.pg.Ok/\rdH 1 e.v 240 (e.pg.body.map u8) hq
 all:∀n p,f n=some p->∃e∈es,e.n=n
 nodup:(es.map PgE.n).Nodup
 born:(es.map PgE.born).Nodup
 clk:∀e∈es,e.born<clk
def pgsA(m:Nat)(f:BC)(hq:Hp):Af:=λh=>∃es clk,PgsIn f es clk hq/\AH m (es.map PgE.ie) clk h
theorem Sep.pgs{z w:World}{Γ:List Af}(i:Nat){m:Nat}{f:BC}{hq:Hp}(H:Sep z Γ w)(hi:Γ[i]?=some (pgsA m f hq)):∃es clk,PgsIn f es clk hq/\Sep z (Γ.set i (AH m (es.map PgE.ie) clk)) w:=by
 obtain ⟨x,hp,b⟩:=H.exAt i (σ:=List PgE×Nat) (p:=λx=>PgsIn f x.1 x.2 hq) (B:=λx=>AH m (x.1.map PgE.ie) x.2) hi (λh ⟨es,clk,a,c⟩=>⟨(es,clk),a,c⟩);exact ⟨x.1,x.2,hp,b⟩
theorem Sep.toPgs{z w:World}{Γ:List Af}(i:Nat){m:Nat}{es:List PgE}{clk:Nat}{f:BC}{hq:Hp}(H:Sep z Γ w)(hi:Γ[i]?=some (AH m (es.map PgE.ie) clk))(hp:PgsIn f es clk hq):Sep z (Γ.set i (pgsA m f hq)) w:=H.mono i hi λh q=>⟨es,clk,hp,q⟩
def Eu(m:Nat)(f:BC)(k:Nat)(hq:Hp):Af:=λh=>∃es clk,PgsIn f es clk hq/\es.length=k/\AH m (es.map PgE.ie) clk h
theorem Sep.pgsc{z w:World}{Γ:List Af}(i:Nat){m k:Nat}{f:BC}{hq:Hp}(H:Sep z Γ w)(hi:Γ[i]?=some (Eu m f k hq)):∃es clk,PgsIn f es clk hq/\es.length=k/\Sep z (Γ.set i (AH m (es.map PgE.ie) clk)) w:=by
 obtain ⟨x,hp,c⟩:=H.exAt i (σ:=List PgE×Nat) (p:=λx=>PgsIn f x.1 x.2 hq/\x.1.length=k) (B:=λx=>AH m (x.1.map PgE.ie) x.2) hi (λh ⟨es,clk,a,d,b⟩=>⟨(es,clk),⟨a,d⟩,b⟩);exact ⟨x.1,x.2,hp.1,hp.2,c⟩
theorem Sep.toPgsc{z w:World}{Γ:List Af}(i:Nat){m k:Nat}{es:List PgE}{clk:Nat}{f:BC}{hq:Hp}(H:Sep z Γ w)(hi:Γ[i]?=some (AH m (es.map PgE.ie) clk))(hp:PgsIn f es clk hq)(a:es.length=k):Sep z (Γ.set i (Eu m f k hq)) w:=H.mono i hi λh q=>⟨es,clk,hp,a,q⟩
theorem PgsIn.le{f:BC}{es:List PgE}{clk:Nat}{hq a:Hp}(h:PgsIn f es clk hq)(s:CJ hq a):PgsIn f es clk a:=⟨λe b=>⟨(h.ent e b).1,(h.ent e b).2.1,(h.ent e b).2.2.le s⟩,h.all,h.nodup,h.born,h.clk⟩
theorem pgsA.le{m:Nat}{f:BC}{hq a:Hp}(s:CJ hq a):∀h,pgsA m f hq h->pgsA m f a h:=λ_ ⟨es,clk,b,c⟩=>⟨es,clk,b.le s,c⟩
theorem PgsIn.none(hq:Hp)(clk:Nat):PgsIn Do [] clk hq:=⟨λe a=>(by cases a),λn p h=>(by cases h),by simp,by simp,λe a=>(by cases a)⟩
theorem PgsIn.get{f:BC}{es:List PgE}{clk:Nat}{hq:Hp}(h:PgsIn f es clk hq)(n:Nat):(f n=Option.none/\CO (es.map PgE.ie) (n:Int)=Option.none)\/∃(p:Pg) (v:Value),f n=some p/\p.Ok/\rdH 1 v 240 (p.body.map u8) hq/\CO (es.map PgE.ie) (n:Int)=some (.agg #[I p.kind,v]):=by
 have key:∀l:List PgE,(∀e∈l,e∈es)->((∀e∈l,e.n≠n)/\CO (l.map PgE.ie) (n:Int)=Option.none)\/∃e∈es,e.n=n/\CO (l.map PgE.ie) (n:Int)=some (.agg #[I e.pg.kind,e.v]):=by
  intro l
  induction l with
  | nil=>intro _;exact .inl ⟨λe d=>(by cases d),Z⟩
  | cons e l ih=>
   intro k;simp only[AeE,PgE.ie,CO];by_cases q:(n:Int)=(e.n:Int)
   ·exact .inr ⟨e,k e O,by omega,by rw[if_pos q]⟩
   rw[if_neg q];rcases ih (λe d=>k e (by simp[d])) with ⟨g,i⟩|g
   ·refine .inl ⟨λm d=>?_,i⟩
    rcases Aei.1 d with rfl|d
    ·omega
    exact g m d
   exact .inr g
 rcases key es (λ_ h=>h) with ⟨g,i⟩|⟨e,d,j,o⟩
 ·refine .inl ⟨?_,i⟩
  cases hf:f n with
  | none=>rfl
  | some p=>
   obtain ⟨e,d,j⟩:=h.all n p hf;exact absurd j (g e d)
 subst j;obtain ⟨a,b,c⟩:=h.ent e d;exact .inr ⟨e.pg,e.v,a,b,c,o⟩
theorem PgsIn.has{f:BC}{es:List PgE}{clk:Nat}{hq:Hp}(h:PgsIn f es clk hq)(n:Nat):CP (es.map PgE.ie) (n:Int)=(f n).isSome:=by
 unfold CP;rcases h.get n with ⟨a,b⟩|⟨p,v,a,_,_,b⟩<;>rw[a,b]<;>rfl
theorem upd_pgs(es:List PgE)(k:Nat)(p:Pg)(v:Value):updM (es.map PgE.ie) (k:Int) (.agg #[I p.kind,v])=(es.map λe=>if e.n=k then {e with pg:=p,v:=v} else e).map PgE.ie\/¬(es.map PgE.n).Nodup:=by
 induction es with
 | nil=>exact .inl Z
 | cons e es ih=>
  by_cases hn:((e::es).map PgE.n).Nodup
  ·left
   have a:=hn;simp only[AeE,Afc] at a;by_cases q:(k:Int)=(e.n:Int)
   ·have c:e.n=k:=by omega
    have b:(es.map λe=>if e.n=k then {e with pg:=p,v:=v} else e)=es:=by
     conv=>rhs;rw[<-List.map_id es]
     exact Afw λf d=>by
      rw[if_neg];rfl;intro e2;exact a.1 (Aeh.2 ⟨f,d,by omega⟩)
    simp only[AeE,PgE.ie,updM,if_pos q,if_pos c];rw[b];subst c;rfl
   have c:¬e.n=k:=by omega
   simp only[AeE,PgE.ie,updM,if_neg q,if_neg c];rcases ih with ih|ih
   ·congr 1
   exact absurd a.2 ih
  exact .inr hn
theorem PgsIn.put{f:BC}{es:List PgE}{clk:Nat}{hq:Hp}(h:PgsIn f es clk hq){k:Nat}{p:Pg}{v:Value}(hp:p.Ok)(x:rdH 1 v 240 (p.body.map u8) hq):∃es2,E4 (es.map PgE.ie) (k:Int) (.agg #[I p.kind,v]) clk=es2.map PgE.ie/\PgsIn (pgSet f k p) es2 (putC (es.map PgE.ie) (k:Int) clk) hq/\es2.length=es.length+(if (f k).isSome then 0 else 1):=by
 have s:=h.has k;unfold E4 putC
 cases hs:(f k).isSome with
 | true=>
  rw[hs] at s;rw[s,if_pos Z,if_pos Z];rcases upd_pgs es k p v with e|e
  ·refine ⟨_,e,⟨λo d=>?_,λn q i=>?_,?_,?_,λo d=>?_⟩,by simp⟩
   ·obtain ⟨j,l,rfl⟩:=Aeh.1 d
    obtain ⟨a,b,c⟩:=h.ent j l;by_cases g:j.n=k
    ·rw[if_pos g];exact ⟨by unfold pgSet;rw[if_pos g],hp,x⟩
    rw[if_neg g];exact ⟨by unfold pgSet;rw[if_neg g];exact a,b,c⟩
   ·unfold pgSet at i
    have:∃j∈es,j.n=n:=by
     split at i
     ·rename_i g;subst g
      obtain ⟨y,u⟩:=Ae3.1 hs;exact h.all n y u
     exact h.all n q i
    obtain ⟨j,l,w⟩:=this;exact ⟨_,Aeu l,by split<;>exact w⟩
   ·rw[Afh]
    rw[show (PgE.n∘λe=>if e.n=k then {e with pg:=p,v:=v} else e)=PgE.n from by funext e;simp only[AgD];split<;>rfl];exact h.nodup
   ·rw[Afh]
    rw[show (PgE.born∘λe=>if e.n=k then {e with pg:=p,v:=v} else e)=PgE.born from by funext e;simp only[AgD];split<;>rfl];exact h.born
   obtain ⟨j,l,rfl⟩:=Aeh.1 d;have:=h.clk j l;split<;>exact this
  exact absurd h.nodup e
 | false=>
  rw[hs] at s;rw[s];simp only[Afm,if_false];have m:f k=Option.none:=by simpa using hs
  refine ⟨es++[⟨k,p,v,clk⟩],by simp[PgE.ie],⟨λo d=>?_,λn q i=>?_,?_,?_,λo d=>?_⟩,by simp⟩
  ·rcases Aek.1 d with g|g
   ·obtain ⟨a,b,c⟩:=h.ent o g
    have:o.n≠k:=λe=>by rw[e,m] at a;cases a
    exact ⟨by unfold pgSet;rw[if_neg this];exact a,b,c⟩
   simp at g;subst g;exact ⟨by simp[pgSet],hp,x⟩
  ·unfold pgSet at i
   split at i
   ·rename_i g;exact ⟨⟨k,p,v,clk⟩,by simp,g.symm⟩
   obtain ⟨j,l,w⟩:=h.all n q i;exact ⟨j,by simp[l],w⟩
  ·rw[AeD,Ae4]
   refine ⟨h.nodup,by simp,λa t b r=>?_⟩;simp at r;subst r;obtain ⟨j,l,rfl⟩:=Aeh.1 t;intro e;have:=(h.ent j l).1;rw[e,m] at this;cases this
  ·rw[AeD,Ae4]
   refine ⟨h.born,by simp,λa t b r=>?_⟩;simp at r;subst r;obtain ⟨j,l,rfl⟩:=Aeh.1 t;have:=h.clk j l;omega
  rcases Aek.1 d with g|g
  ·have:=h.clk o g;omega
  simp at g;subst g;simp
theorem PgsIn.keys{f:BC}{es:List PgE}{clk:Nat}{hq:Hp}{s:List IE}(h:PgsIn f es clk hq)(hs:s.Perm (es.map PgE.ie)):
  ((s.map λp:IE=>p.1).mergeSort (λx y=>decide (x<=y))).Pairwise (· < ·)/\∀k:Int,k∈(s.map λp:IE=>p.1).mergeSort (λx y=>decide (x<=y))↔0<=k/\(f k.toNat).isSome=true:=by
 have hp:((s.map λp:IE=>p.1).mergeSort (λx y=>decide (x<=y))).Perm (es.map λe:PgE=>(e.n:Int)):=by
  refine (List.mergeSort_perm _ _).trans ?_;have:=hs.map (λp:IE=>p.1);rwa[Afh] at this
 have g:((s.map λp:IE=>p.1).mergeSort (λx y=>decide (x<=y))).Nodup:=by
  refine hp.symm.nodup ?_;have d:=AfE.1 h.nodup;exact AfE.2 (d.imp λh e=>h U)
 refine ⟨?_,λk=>?_⟩
 ·have i:((s.map λp:IE=>p.1).mergeSort (λx y=>decide (x<=y))).Pairwise (λx y=>decide (x<=y)=true):=List.pairwise_mergeSort (λa b c d l=>by simp at *;omega) (λa b=>by simp;omega) _
  exact (i.and g).imp λh=>by have d:=h.1;have l:=h.2;simp at d;omega
 rw[hp.mem_iff,Aeh];constructor
 ·rintro ⟨e,j,rfl⟩
  exact ⟨by omega,by rw[AeZ,(h.ent e j).1];rfl⟩
 rintro ⟨d,l⟩;obtain ⟨p,hp⟩:=Ae3.1 l;obtain ⟨e,j,m⟩:=h.all _ p hp;exact ⟨e,j,by omega⟩
theorem Xm(c b:Value)(l a:List UInt8)(A B:Af)(e:∀h,A h->rdH 1 c l.length (l.map u8) h)(d:∀h,B h->rdH 1 b a.length (a.map u8) h):Cn prog 189 [c,b] [A,B] (λv Γ=>v=.bool (decide (l=a))/\Γ=[A,B]):=by
 intro z R w H;replace H:=H.l2;refine Ae func189 Z ntmps189 Z (Zc 8 Z (Ab Z (Co (l:=l) Z J J Z (Ay (H.rd 0 Z e))) (Zc 1 Z (Ab Z (Co (l:=a) Z J J Z (Ay (H.rd 1 Z d))) (Ab Z (IH Z J Z Z) (Zc 4 Z (Zr Z ?_)))))));exact ⟨_,⟨Z,Z⟩,H⟩
theorem Vf(b a n c:Nat)(bs:List UInt8)(A:Af)(g:∀h,A h->rdH 1 (.slice (some ⟨b,a,none⟩) n c) n (bs.map u8) h)(l:0<n/\n<=1073741824):Cn prog 143 [.slice (some ⟨b,a,none⟩) n c] [A] (λv Γ=>(∃f,v=f/\Γ=[grow 5 1 f n (bs.map u8),A])):=by
 intro z R w H;replace H:=H.l1;refine Ae func143 Z ntmps143 Z (Zc 9 Z (Ab Z (Ii Z J Z Z) (Zc 7 Z (AQ Z (EX H Z J CK) ?_))));rintro _ w ⟨i,rfl,H⟩;replace H:=H.l2;refine Zc 1 Z ?_;replace H:=(H.mono 0 (B:=grow 5 1 (.slice (some ⟨i,0,none⟩) 0 0) 0 []) Z (λh q=>q.grow U U O Z)).l2;refine AQ Z (AY 0 H Z Z J CK Z Z (H.rd 1 Z g) (by simp[u8,Value.oneCell']) U) ?_;rintro k w e;have d:([]++bs.map u8:List Value)=bs.map u8:=by simp
 rw[d] at e;rw[show (0+n:Nat)=n from by omega] at e;have H:=e.l2;refine Zc 4 Z (Zr Z ?_);exact ⟨_,⟨_,Z,Z⟩,H⟩
theorem F7(ns:List Int):(ns.flatMap (Ah 8)).length=8*ns.length:=by
 induction ns with
 | nil=>rfl
 | cons x ns ih=>simp only[AeB,Ad9,Ai,ih,Aeb];omega
theorem Rx{ns:List Int}{i:Nat}{x:Int}(h:ns[i]?=some x):(ns.take i).flatMap (Ah 8)++Ah 8 x=(ns.take (i+1)).flatMap (Ah 8):=by
 rw[AeH,h];simp
theorem Tf(ns:List Int):∀{j:Nat} {x:Int},ns[j]?=some x->((ns.flatMap (Ah 8)).drop (8*j)).take 8=Ah 8 x:=by
 induction ns with
 | nil=>intro j x h;simp at h
 | cons y ys ih=>
  intro j x h
  cases j with
  | zero=>
   simp at h;subst h;rw[AeB,AhN,Aep,AeA (Ai 8 y)]
  | succ j=>
   rw[AeB,show 8*(j+1)=(Ah 8 y).length+8*j from by rw[Ai];omega,Ae1];rw[AeF U,AeL,show (Ah 8 y).length+8*j-(Ah 8 y).length=8*j from by omega];exact ih (by simpa using h)
theorem Sup.list_len(s:Sup):s.list.length=7:=rfl
theorem Yr(s:Sup):J1 [80,83,85,80] (DC s):=by
 have a:=GL s;refine ⟨Is U,?_⟩;have:=B6 (l:=J4 s) U (p:=0) (k:=4) U;rw[Aep,Aep] at this;unfold DC;rw[this];rfl
theorem Ys{s:Sup}(hs:∀x∈s.list,0<=x/\x<=1099511627776){k:Nat}{x:Int}(a:s.list[k]?=some x):AW (((DC s).drop (4+8*k)).take 8)=x:=by
 have c:=GL s;have b:k<7:=(Ad6.1 a).1;unfold DC;rw[B6 U U];unfold J4;rw[Ae1,AeF O,AeL,show 4+8*k-([80,83,85,80]:List UInt8).length=8*k from by simp,Tf _ a];have:=hs x (Ad8 a);exact BT this.1 U U
theorem Vg(s:Sup):rz (((DC s).drop 60).take 192)=0:=by
 have a:=GL s;have:=Mv (l:=J4 s) U;rw[a] at this;exact this
theorem Abo{n:Nat}{p:Pg}(h:p.Ok):J1 [80,80,65,71] (Ei n p):=⟨Is (Agb (FQ h)),Oc h⟩
theorem Yt{n:Nat}{p:Pg}(h:p.Ok):AW (((Ei n p).drop 4).take 1)=p.kind:=by
 have a:=FQ (n:=n) h;unfold Ei;rw[B6 U U,show ID n p=[80,80,65,71]++Ah 1 p.kind++(Ah 4 (n:Int)++[0,0,0]++p.body) from by simp[ID],G7 _ _ _ O (by simp[Ai])];exact BT (by have:=h.1;omega) (by have:=h.1;omega) (by have:=h.1;omega)
theorem Abp{n:Nat}{p:Pg}(h:p.Ok)(a:n<=1023):AW (((Ei n p).drop 5).take 4)=(n:Int):=by
 have b:=FQ (n:=n) h;unfold Ei;rw[B6 U U,show ID n p=([80,80,65,71]++Ah 1 p.kind)++Ah 4 (n:Int)++([0,0,0]++p.body) from by simp[ID],G7 _ _ _ (by simp[Ai]) (by simp[Ai])];exact BT U U U
theorem Ry{n:Nat}{p:Pg}(h:p.Ok):AW (((Ei n p).drop 9).take 3)=0:=by
 have a:=FQ (n:=n) h;unfold Ei;rw[B6 U U,show ID n p=([80,80,65,71]++Ah 1 p.kind++Ah 4 (n:Int))++[0,0,0]++p.body from by simp[ID],G7 _ _ _ (by simp[Ai]) O];decide
theorem Yu{n:Nat}{p:Pg}(h:p.Ok):((Ei n p).drop 12).take 240=p.body:=by
 have a:=FQ (n:=n) h;unfold Ei;rw[B6 U U,show ID n p=([80,80,65,71]++Ah 1 p.kind++Ah 4 (n:Int)++[0,0,0])++p.body++[] from by simp[ID],G7 _ _ _ (by simp[Ai]) h.2.symm]
theorem Vh{s:Sup}{k:Nat}{x:Int}(a:s.list[k]?=some x):((s.list.take k).map I++List.replicate (7-k) (I 0)).take k++[I x]++((s.list.take k).map I++List.replicate (7-k) (I 0)).drop (k+1)=(s.list.take (k+1)).map I++List.replicate (7-(k+1)) (I 0):=by
 have c:k<7:=(Ad6.1 a).1;have b:((s.list.take k).map I).length=k:=by simp[Sup.list];omega
 rw[Aeo U,Aee U,Ae1,AeF U,AeL,b,AgC,AeH,a,show 7-k-(k+1-k)=7-(k+1) from by omega];simp
theorem Yv{s:Sup}{k:Nat}{x:Int}(a:s.list[k]?=some x):((s.list.take (k+1)).map I++List.replicate (7-(k+1)) (I 0))[k]?=some (I x):=by
 have b:k<7:=(Ad6.1 a).1;have c:((s.list.take (k+1)).map I).length=k+1:=by simp[Sup.list];omega
 rw[Aeg U,Aej,AeS,if_pos U,a];rfl
theorem Rz(a:Nat)(s:Sup)(hs:∀x∈s.list,0<=x/\x<=1099511627776):Cn prog 136 [Y a,.agg #[I s.gen,I s.epoch,I s.pages,I s.start,I s.len,I s.head,I s.seq]] [tblA a] (λv Γ=>∃g,v=.tuple #[.slice (some ⟨g,0,none⟩) 256 256,I 0]/\Γ=[blk g (A4 (DC s) 60) 154,tblA a]):=by
 intro z R w H;replace H:=H.l1;have e:=Sup.list_len s;refine Ae func136 Z ntmps136 Z (Za 2 [] H Z ?_);intro c w H;refine Zc 6 Z (AQ Z (Cb (P:=prog) H Z (zs:=(A4 (AJ []) 0)) J) ?_);rintro _ w ⟨b,rfl,H⟩;replace H:=H.l3;refine Zc 4 Z (z_E_ Z (call178 _) (IT _ 0 [80,83,85,80] _ (AR (by first|omega|(simp[Ai,F7,-List.length_flatMap]<;>omega))) (by first|omega|(simp<;>omega))) H ?_);intro w H;replace H:=H.l3;rw[show Br (AJ []) ([80,83,85,80]) 0=AJ ([80,83,85,80]) from BD Z (by first|omega|(simp[Ai,F7,-List.length_flatMap]<;>omega))] at H;have H:Sep z (blk b (A4 (AJ ([80,83,85,80])) 4) 154::blk c [I s.gen,I s.epoch,I s.pages,I s.start,I s.len,I s.head,I s.seq] 127::tblA a::R) w:=H;refine Z2 19 [0,1,0,1,1,0,2,1,0,3,1,0,4,1,0,5,1,0,6,1,0] H Z (Ab Z (Bc Z Z (out:=[I s.gen,I s.epoch,I s.pages,I s.start,I s.len,I s.head,I s.seq]) J) (Zc 4 Z ?_));refine AD (σ:=Nat) (λk=>[(25,I (k:Int)),(0,Y a),(6,Y b),(24,.agg #[I s.gen,I s.epoch,I s.pages,I s.start,I s.len,I s.head,I s.seq])])
   (λk w=>Sep z (blk b (A4 (AJ ([80,83,85,80]++(s.list.take k).flatMap (Ah 8))) ((4+8*k:Nat):Int)) 154::blk c [I s.gen,I s.epoch,I s.pages,I s.start,I s.len,I s.head,I s.seq] 127::tblA a::R) w/\(k<=7)) (λk=>7-k) 0
   fr_z ⟨(by simpa using H),by omega⟩ ?_
 clear H;rintro k w ⟨n,f⟩;have H:=n.l3;have m:=f;clear f;refine Z0 6 [0] Z (Ag Z (λh=>?_) (λh=>?_))
 ·refine Zc 6 Z ?_;obtain ⟨x,d⟩:∃x,s.list[k]?=some x:=⟨_,Ad7 (by simp[Sup.list];omega)⟩;have o:=hs x (Ad8 d)
  refine Ab Z (Nv Z J Z (l:=s.list) (j:=k) Z Z Z Z d) (Zc 7 Z (z_E_ Z (call86 _) (CX _ _) H ?_));intro w H;replace H:=H.l3;refine Ab Z (AE Z Z) (Zc 1 Z (Al 31 Z (λp=>U) (λp=>?_)));refine Zc 10 Z (z_E_ Z (call87 _) (CE _ (4+8*k) 8 x _ (AR (by first|omega|(simp[Ai,F7,-List.length_flatMap]<;>omega))) U) H ?_);intro w H;replace H:=H.l3;rw[show ((4+8*k+8:Nat):Int)=(((4+8*(k+1):Nat):Int):Int) from by omega] at H;rw[show Br (AJ ([80,83,85,80]++(s.list.take k).flatMap (Ah 8))) (Ah 8 x) (4+8*k)=AJ ([80,83,85,80]++(s.list.take k).flatMap (Ah 8)++Ah 8 x) from BD (by first|omega|(simp[Ai,F7,-List.length_flatMap]<;>omega)) (by first|omega|(simp[Ai,F7,-List.length_flatMap]<;>omega))] at H;have H:Sep z (blk b (A4 (AJ ([80,83,85,80]++(s.list.take k).flatMap (Ah 8)++Ah 8 x)) ((4+8*(k+1):Nat):Int)) 154::blk c [I s.gen,I s.epoch,I s.pages,I s.start,I s.len,I s.head,I s.seq] 127::tblA a::R) w:=H;refine Z1 7 [] [(k:Int)+1] Z U (gf ?_);intro _ i;refine ⟨(k+1),i.cz,⟨(by rw[<-Rx d,<-Aec];exact H),?_⟩,?_⟩
  ·omega
  omega
 obtain rfl:k=7:=by omega
 refine Zc 2 Z (gx (Zc 3 Z ?_));have H:Sep z (blk b (A4 (AJ (J4 s)) 60) 154::blk c [I s.gen,I s.epoch,I s.pages,I s.start,I s.len,I s.head,I s.seq] 127::tblA a::R) w:=H;refine Zc 2 Z (z_E_ Z (call179 _) (Ix _ _ _ _ (AR (by first|omega|(simp[Ai,GL]<;>omega)))) H.f2.f1 ?_);intro w H;refine Zc 5 Z (Zr Z ?_);exact ⟨_,⟨b,Z,Z⟩,H.perm 3 [0,1] Z Z⟩
theorem KR(g b o c:Nat)(sec:List UInt8)(A:Af)(f:∀h,A h->rdH 1 (.slice (some ⟨b,o,none⟩) 256 c) 256 (sec.map u8) h)(s:Sup)(hs:∀x∈s.list,0<=x/\x<=1099511627776)(d:sec=DC s):Cn prog 138 [Y g,.slice (some ⟨b,o,none⟩) 256 c] [tblA g,A] (λv Γ=>v=.tuple #[.agg #[I s.gen,I s.epoch,I s.pages,I s.start,I s.len,I s.head,I s.seq],.bool true]/\Γ=[tblA g,A]):=by
 intro z R w H;replace H:=H.l2;have t:=H.sy 1 (λq=>(f _ q).len);have a1:=H.sy 1 (λq=>(f _ q).cap);obtain ⟨c0,c1,c2,c3,hd⟩:=NZ t;refine Ae func138 Z ntmps138 Z (Za 2 [] H Z ?_);intro l w H;refine Zc 7 Z (Aq Z (call180 _) (LM _ _ _ _ _ sec _ f) H.f2.f2 ?_);rintro _ w _ (⟨e,rfl,rfl⟩|⟨e,rfl,rfl⟩) p
 ·have H:=p.l3;refine Za 3 [] H Z ?_;intro n w H;refine Za 16 [0] H Z ?_;intro a w H;refine Z0 12 [0,1,2,3,4,5,6] Z (Ab Z (Bc Z Z (out:=[Y a,.pointer (some ⟨a,1,none⟩),.pointer (some ⟨a,2,none⟩),.pointer (some ⟨a,3,none⟩),.pointer (some ⟨a,4,none⟩),.pointer (some ⟨a,5,none⟩),.pointer (some ⟨a,6,none⟩)]) J) (Zc 4 Z ?_));refine AD (σ:=Nat) (λk=>[(28,I (k:Int)),(4,Y l),(6,Y n),(8,Y a),(27,.agg #[Y a,.pointer (some ⟨a,1,none⟩),.pointer (some ⟨a,2,none⟩),.pointer (some ⟨a,3,none⟩),.pointer (some ⟨a,4,none⟩),.pointer (some ⟨a,5,none⟩),.pointer (some ⟨a,6,none⟩)])])
    (λk w=>Sep z (blk a ((s.list.take k).map I++List.replicate (7-k) (I 0)) 127::blk n [.slice (some ⟨b,(o+(4+8*k)),none⟩) (252-(4+8*k)) (c-(4+8*k))] 243::tblA g::A::blk l [I 0,I 0,I 0,I 0,I 0,I 0,I 0] 127::R) w/\(k<=7)) (λk=>7-k) 0
    fr_z ⟨H,by omega⟩ ?_
  clear H;rintro k w ⟨p,hI⟩;have H:=p.l5;have a0:=hI;clear hI;refine Z0 6 [0] Z (Ag Z (λh1=>?_) (λh1=>?_))
  ·have y:k<7:=by omega
   refine Zc 6 Z ?_;obtain ⟨x,i⟩:∃x,s.list[k]?=some x:=⟨_,Ad7 (by simp[Sup.list];omega)⟩;have a2:=hs x (Ad8 i);have r:AW ((sec.drop (4+8*k)).take 8)=x:=by rw[d];exact Ys hs i
   refine Ab Z (E6 (m:=7) Z J Z Z Z (j:=k) Z (u:=.pointer (some ⟨a,k,none⟩)) (by rcases (show k=0\/k=1\/k=2\/k=3\/k=4\/k=5\/k=6 by omega) with rfl|rfl|rfl|rfl|rfl|rfl|rfl<;>rfl)) (Zc 6 Z (z_E_ Z (call150 _) (Cz 8 _ b (o+(4+8*k)) (252-(4+8*k)) (c-(4+8*k)) ((sec.drop (4+8*k)).take (252-(4+8*k))) _ (λh q=>(f h q).cut (lo:=(4+8*k)) (m:=(252-(4+8*k))) (c':=(c-(4+8*k))) U U U) U U ((sec.drop (4+8*k)).take 8) (by rw[Aey,Aez U]) (o+(4+8*(k+1))) (252-(4+8*(k+1))) (c-(4+8*(k+1))) U U U) H.f3.f2 ?_));intro w H;replace H:=H.l5;refine AC 32 (v:=I x) Z (congrArg I r) (Zc 1 Z (Az Z Z (Ak 2 H Z Z Z Z (vs:=[I x]) Z (by simp[u8,u32,Value.oneCell']) J (by have:=Sup.list_len s;simp;omega) (out:=((s.list.take (k+1)).map I++List.replicate (7-(k+1)) (I 0))) (Vh i)) ?_));rintro w H;replace H:=H.l5;refine Zc 6 Z (Ab Z (Bf Z Z J (Ay (H.cel 2 Z k (Yv i)))) (z_E_ Z (call86 _) (CX _ _) H ?_));intro w H;replace H:=H.l5;refine Ab Z (AE Z Z) (Zc 2 Z (Ag Z (λh2=>U) (λh2=>?_)));refine Z1 7 [] [(k:Int)+1] Z U ?_;replace H:=H.f4.f2.f4.f3.f4;refine gf ?_;intro _ hF;refine ⟨(k+1),hF.cz,⟨H,?_⟩,?_⟩
   ·omega
   omega
  obtain rfl:k=7:=by omega
  refine Zc 2 Z (gx (Zc 4 Z ?_));have H:Sep z (blk a [I s.gen,I s.epoch,I s.pages,I s.start,I s.len,I s.head,I s.seq] 127::blk n [.slice (some ⟨b,(o+(4+8*7)),none⟩) (252-(4+8*7)) (c-(4+8*7))] 243::tblA g::A::blk l [I 0,I 0,I 0,I 0,I 0,I 0,I 0] 127::R) w:=H;refine Zc 1 Z (z_E_ Z (call151 _) (KO _ b (o+(4+8*7)) (252-(4+8*7)) (c-(4+8*7)) ((sec.drop (4+8*7)).take (252-(4+8*7))) _ (λh q=>(f h q).cut (lo:=(4+8*7)) (m:=(252-(4+8*7))) (c':=(c-(4+8*7))) U U U) U) H.f3.f2 ?_);intro w H;replace H:=H.l5;refine Ab Z (AE Z Z) (Zc 2 Z (Ag Z (λh3=>?_) (λh3=>?_)))
  ·exact absurd (by rw[d];exact Vg s) h3
  refine Z4 10 [2,7,4] H Z ?_;intro w H;refine Zl [4,7] H Z ?_;exact ⟨_,⟨Z,Z⟩,H.perm 5 [3,1] Z Z⟩
 exact absurd (d▸Yr s) e
end Go.Proofs.YtnifkcmmanmbbaaGreatDoor
