/-
  Steps to: Law VolumesPlay: volumes are maps; room is refused only where there is none. No condition.
-/
import Derived.Test.YtnifkcmmanmbbaaGreatDoorPart2
set_option maxRecDepth 100000
set_option linter.unusedSimpArgs false
set_option linter.unusedVariables false
open Go.Proofs.Tryz
namespace Go.Proofs.YtnifkcmmanmbbaaGreatDoor
open Go.RowKit
section
section late
variable{P:Program}{ops:Array Oper}{Q:Exit->Act->World->Prop}{S:World->Prop}{E:List Nat}
def ES(ops:Array Oper):Nat->Nat->Nat->Bool
 | 0,_,_=>false
 | f+1,j,i=>match ops[j]? with
  | some o=>o.after.any λe=>Region.binds .any e&&(e.on==i||ES ops f e.on i)
  | none=>false
theorem G8{listed:Array Bool}(c:Dc ops listed)(a:listed.size=ops.size):∀f j i,ES ops f j i=true->listed.getD j false=true->listed.getD i false=true
 | 0,j,i,h,_=>by cases h
 | f+1,j,i,h,hl=>by
  unfold ES at h
  cases ho:ops[j]? with
  | none=>rw[ho] at h;cases h
  | some o=>
   rw[ho] at h;simp only[Ahh] at h;obtain ⟨q,hq,he⟩:=h;simp only[Aex,Bool.or_eq_true,beq_iff_eq] at he;have g:j<ops.size:=(AeU.1 ho).1;have b:=c j o ho (by
    have d:j<listed.size:=by omega
    simp[d] at hl ⊢;exact hl) U _ (Ahi hq) he.1
   rcases he.2 with e|e
   ·rw[<-e];exact b
   exact G8 c a f _ i e b
theorem ready_waits{listed:Array Bool}(k:Dc ops listed)(b:listed.size=ops.size){f j i:Nat}(h:ES ops f j i=true)(g:j∈Region.ready .any ops listed):listed.getD i false=true:=by
 cases f with
 | zero=>cases h
 | succ f=>
  obtain ⟨_,o,l,a⟩:=mem_ready.1 g;unfold ES at h;rw[l] at h;simp only[Ahh] at h;obtain ⟨q,hq,c⟩:=h;simp only[Aex,Bool.or_eq_true,beq_iff_eq] at c;have d:=a _ (Ahi hq) c.1;rcases c.2 with e|e
  ·rw[<-e];exact d
  exact G8 k b f _ i e d
def ET(P:Program)(ops:Array Oper)(Q:Exit->Act->World->Prop)(S:World->Prop)(E:List Nat):Nat->Array Bool->Act->World->Prop
 | 0,listed,a,w=>Region.ready .any ops listed=[]/\Q .normal a w
 | fuel+1,listed,a,w=>
  (Region.ready .any ops listed=[]->Q .normal a w)/\
  ∀i∈Region.ready .any ops listed,wpOp P ops Q i (λa' w'=>(E.contains i=false->S w')/\ET P ops Q S E fuel (listed.setIfInBounds i true) a' w') a w
theorem KS:∀(fuel:Nat) (listed:Array Bool) (a:Act) (w:World),ET P ops Q S E fuel listed a w->wpAny P .any ops Q fuel listed a w
 | 0,_,_,_,h=>h
 | fuel+1,_,_,_,h=>⟨h.1,λi hi=>wpOp_mono (λa' w' h'=>KS fuel _ a' w' h'.2) (h.2 i hi)⟩
theorem Oi{i:Nat}{oi:Oper}{v:Value}(hi:ops[i]?=some oi){f:Nat}(hE:∀j∈E,ES ops f j i=true)(m:∀(j:Nat) (o:Oper) cs b,ops[j]?=some o->o.op≠ .select cs b)
  (hQ:∀c a w,Q (.panic c) (a.put oi.dst v) w->Q (.panic c) a w):
  ∀(fuel:Nat) (listed:Array Bool) (a:Act) (w:World),Dc ops listed->listed.size=ops.size->
   (∀j r,ops[j]?=some r->j≠i->listed.getD j true=false->(∀e∈r.after,Region.binds .any e=true->e.on≠i)->oi.apart ops r=true)->
   i∈Region.ready .any ops listed->YieldsIf P ops S oi v a->S w->
   ET P ops Q S E fuel (listed.setIfInBounds i true) (a.put oi.dst v) w->ET P ops Q S E (fuel+1) listed a w:=by
 have a5:i<ops.size:=(AeU.1 hi).1;intro fuel
 induction fuel with
 | zero=>
  intro listed a w hd p _ n hy hS H;refine ⟨λh=>(by rw[h] at n;cases n),λj t=>?_⟩;by_cases hji:j=i
  ·subst hji;exact hy.wpOp hi hS ⟨λ_=>hS,H⟩
  have:=ready_mono t hji;rw[H.1] at this;cases this
 | succ fuel ih=>
  intro listed a w hd p d n hy hS H;refine ⟨λh=>(by rw[h] at n;cases n),λj t=>?_⟩;by_cases hji:j=i
  ·subst hji;exact hy.wpOp hi hS ⟨λ_=>hS,H⟩
  have s:=H.2 j (ready_mono t hji);have a1:E.contains j=false:=by
   cases hc:E.contains j with
   | false=>rfl
   | true=>
    have hm:j∈E:=by simpa using hc
    have h2:=ready_waits hd p (hE j hm) t;have u:=(mem_ready.1 n).1;have hh:i<listed.size:=by omega
    simp[hh] at h2 u;rw[h2] at u;cases u
  obtain ⟨l,r,q,a0⟩:=mem_ready.1 t;have x:∀e∈r.after,Region.binds .any e=true->e.on≠i:=λe he hb a3=>by
   have s:=a0 e he hb;have u:=(mem_ready.1 n).1;rw[a3] at s;rcases Ael i listed.size with h'|h'
   ·simp[h'] at u s;rw[u] at s;cases s
   simp[AeT h'] at s
  have h2:=wpOp_putIf q (d j r q hji l x) (λcs b=>m i oi cs b hi) (λcs b=>m j r cs b q) hQ hy s;have g:∀k y,ops[k]?=some y->k≠i->(listed.setIfInBounds j true).getD k true=false->
    (∀e∈y.after,Region.binds .any e=true->e.on≠i)->oi.apart ops y=true:=λk y hk a4 z a2=>by
   refine d k y hk a4 ?_ a2;by_cases hjk:j=k
   ·subst hjk;exact l
   rw[getD_set_ne true hjk] at z;exact z
  refine wpOp_mono (λa' w' h3=>⟨λ_=>h3.2.1 a1,ih (listed.setIfInBounds j true) a' w' (hd.next t) (by simpa using p) g (ready_mono n (AfN hji)) h3.1 (h3.2.1 a1) ?_⟩) h2;rw[Agk _ _ hji];exact h3.2.2
theorem Pu{listed:Array Bool}{a:Act}{w:World}(hr:Region.ready .any ops listed=[])(h:Q .normal a w):∀fuel,ET P ops Q S E fuel listed a w
 | 0=>⟨hr,h⟩
 | _+1=>⟨λ_=>h,by rw[hr];simp⟩
end late
section late2
variable{P:Program}{ops:List Oper}{N R:Act->World->Prop}{X:Nat->Act->World->Prop}{S:World->Prop}{E:List Nat}{a:Act}{w:World}{fuel:Nat}{listed:Array Bool}{n d i:Nat}{ds:List Deferred}{L:List (Nat×Value)}{v:Value}{o:Oper}
def Ho(P:Program)(ops:List Oper)(Q:Exit->Act->World->Prop)(S:World->Prop)(E:List Nat)(fuel:Nat)(listed:Array Bool)(a:Act)(w:World):Prop:=Dc ops.toArray listed->listed.size=ops.length->ET P ops.toArray Q S E fuel listed a w
theorem Oj{id:Nat}(S:World->Prop)(E:List Nat)(k:Nat)(c:ops.length=k)(d:P.follows .mixedOrders=true)
  (h:∀b,Ext No w b->b.heap.size=w.heap.size->∀a,Fr n ds L a->Ho P ops (Qp N X R) S E k (Array.replicate k false) a b):∀a,Fr n ds L a->(Code.region id ops.toArray true).wp P (Qp N X R) a w:=λa e=>
 wp_region_any d (KS (S:=S) (E:=E) _ _ _ _ (by have:=h _ (Ext.drawn No w) Z a e (Dc.start _ _) (by simp[c]);simpa [c] using this))
theorem Iy(i:Nat)(hi:ops[i]?=some o)(r:(E.all λj=>ES ops.toArray ops.length j i)=true)(hs:Region.noSelect ops.toArray=true)(s:Region.free .any ops.toArray listed i=true)(q:(Region.ready .any ops.toArray listed).contains i=true)
  (p:BL ops L o.guard=true)(u:o.dst=some d)(l:Nat.blt d n=true)(g:Ar P S n ds L o v)(t:S w)
  (K:∀a',Fr n ds ((d,v)::L) a'->Ho P ops (Qp N X R) S E fuel (listed.setIfInBounds i true) a' w):∀a,Fr n ds L a->Ho P ops (Qp N X R) S E (fuel+1) listed a w:=λa k b c=>
 have e:ops.toArray[i]?=some o:=by simpa using hi
 have f:i∈Region.ready .any ops.toArray listed:=by simpa using q
 Oi (i:=i) (oi:=o) (v:=v) e (λj m=>(AfW.1 r) j m) (Agx hs) (λ_ _ _ h=>h.elim) fuel listed a w b (by simpa using c) (AgP e s) f (.inl ⟨wantL_ok k p,λx h=>g a k x h⟩) t
  (by rw[u];exact K _ (k.put d v l) (b.next f) (by simpa using c))
theorem C5(rs:List Nat)(g:Region.ready .any ops.toArray listed=rs)(d:rs≠[])
  (h:∀i∈rs,∀a,Fr n ds L a->wpOp P ops.toArray (Qp N X R) i (λa' f=>(E.contains i=false->S f)/\Ho P ops (Qp N X R) S E fuel (listed.setIfInBounds i true) a' f) a w):∀a,Fr n ds L a->Ho P ops (Qp N X R) S E (fuel+1) listed a w:=λa j b c=>
 ⟨λe=>absurd (g▸e) d,λi hi=>wpOp_mono (λa' f q=>⟨q.1,q.2 (b.next hi) (by simpa using c)⟩) (h i (g▸hi) a j)⟩
theorem KT{fuel:Nat}(b:Region.ready .any ops.toArray listed=[])(h:∀a,Fr n ds L a->N a w):∀a,Fr n ds L a->Ho P ops (Qp N X R) S E fuel listed a w:=λa c _ _=>Pu b (h a c) _
end late2
section
variable{P:Program}{o:Oper}{w z:World}{Γ:List Af}{n:Nat}{ds:List Deferred}{L:List (Nat×Value)}{x:Operand}
def RA(P:Program)(t:TypeId):Bool:=match P.underlying t with
 | some (.slice e)=>(match P.info? e with|some i=>(match i.zero with|some (.int .i64 0)=>true|_=>false)|none=>false)
 | _=>false
theorem Vi{t:TypeId}(h:RA P t=true):∃e i,P.underlying t=some (.slice e)/\P.info? e=some i/\i.zero=some (I 0):=by
 unfold RA at h;split at h
 ·rename_i e a
  split at h
  ·rename_i i c
   split at h
   ·rename_i b;exact ⟨e,i,a,c,b⟩
   cases h
  cases h
 cases h
theorem Vj(i:Nat){t:TypeId}{b d k c:Nat}{h:TypeId}{cs:List Value}(H:Sep z Γ w)(hi:Γ[i]?=some (blk b cs h))(ho:o.op=.call {callee:=.builtin .clear,args:= #[x],argTypes:= #[t]})(hd:RA P t=true)(hx:ev L x=some (.slice (some ⟨b,d,none⟩) k c))(hk:0<k)(y:d+k<=cs.length):
  Cy P n ds L o w (λv w'=>v=.tuple #[]/\Sep z (Γ.set i (blk b (cs.take d++List.replicate k (I 0)++cs.drop (d+k)) h)) w'):=λa u=>by
 obtain ⟨e,i0,r,h2,s⟩:=Vi hd;have m:=H.blk i hi;have g:=run_storeCells_at P b d h (List.replicate k (I 0)) 0 cs.toArray w m (by simpa using y) (λc hc=>by rw[AfX.1 hc |>.2];rfl);simp only[Afd,AgY,AfU] at g;have hz:(zeroValue e).run P w=.ok (I 0) w:=by simp[zeroValue,typeInfo,h2,s,go_sem]
 have l:(Builtin.zeroCells (Value.cells (I 0)) k).toList=List.replicate k (I 0):=by
  refine AgQ (by simp[Builtin.zeroCells,Value.cells]) λj g1 g2=>?_;simp[Builtin.zeroCells,Value.cells,Nat.mod_one]
 have f:(Builtin.clear_ #[t] o.type #[.slice (some ⟨b,d,none⟩) k c]).run P w=.ok (.tuple #[]) (w.setRow b (cs.take d++List.replicate k (I 0)++cs.drop (d+k)).toArray):=by
  obtain ⟨p,rfl⟩:∃p,k=p+1:=⟨k-1,by omega⟩;simp only[Builtin.clear_,Ae9,AeM,Aeq,run_underlying r,Aem,hz,l,g,Aev]
 refine ⟨.tuple #[],w.setRow b (cs.take d++List.replicate k (I 0)++cs.drop (d+k)).toArray,?_,Z,H.write i hi Z Z Z (setRow_heap w b _ _ h (0,0) m) (λq hq=>setRow_other w b q _ hq)⟩;simp only[execOp,ho,resolve,invoke,builtin,Aeq,Aev,Aem,AeR,AeE,Aft,u.ev hx,f]
end
end
theorem F8(k:Nat)(ns:List Int):(ns.flatMap (Ah k)).length=k*ns.length:=by
 induction ns with
 | nil=>rfl
 | cons x ns ih=>simp only[AeB,Ad9,Ai,ih,Aeb];rw[Agi];omega
theorem RB{k:Nat}{ns:List Int}{i:Nat}{x:Int}(h:ns[i]?=some x):(ns.take i).flatMap (Ah k)++Ah k x=(ns.take (i+1)).flatMap (Ah k):=by
 rw[AeH,h];simp
theorem Th(k:Nat)(ns:List Int):∀{j:Nat} {x:Int},ns[j]?=some x->((ns.flatMap (Ah k)).drop (k*j)).take k=Ah k x:=by
 induction ns with
 | nil=>intro j x h;simp at h
 | cons y ys ih=>
  intro j x h
  cases j with
  | zero=>simp at h;subst h;rw[AeB,AhN,Aep,AeA (Ai k y)]
  | succ j=>
   rw[AeB,show k*(j+1)=(Ah k y).length+k*j by rw[Ai,Agi];omega,Ae1,AeF U,AeL,show (Ah k y).length+k*j-(Ah k y).length=k*j by omega];exact ih (by simpa using h)
abbrev KU(ns:List Int):List UInt8:=ns.flatMap (Ah 2)
theorem Yw{ns:List Int}(h:ns.length=120):(KU ns).length=240:=by rw[F8,h]
theorem Vk{L:List UInt8}(h:L.length=240):((AJ L).drop 0).take 240=L:=by
 unfold AJ;rw[Aep,AeA h]
theorem Abq{ns:List Int}(hs:∀x∈ns,0<=x/\x<=1000){j:Nat}{x:Int}(h:ns[j]?=some x):AW (((KU ns).drop (2*j)).take 2)=x:=by
 rw[Th 2 ns h];have:=hs x (Ad8 h);exact BT this.1 U U
theorem D5{ns:List Int}{i:Nat}{x:Int}(h:ns[i]?=some x):(ns.take i).map I++[I x]=(ns.take (i+1)).map I:=by
 rw[AeH,h];simp
def DW(lf:Bool):Int:=if lf=true then 1 else 0
theorem Ti(lf:Bool):0<=DW lf/\DW lf<=1:=by cases lf<;>simp[DW]
theorem Abr(lf:Bool):(decide (DW lf=1))=lf:=by cases lf<;>simp[DW]
def Qg(e:Int×Int):List UInt8:=Ah 4 e.1++Ah 2 e.2
abbrev Gl(ks vs:List Int)(i:Nat):List UInt8:=((ks.zip vs).take i).flatMap Qg
theorem Dr(l:List (Int×Int)):(l.flatMap Qg).length=6*l.length:=by
 induction l with
 | nil=>rfl
 | cons x l ih=>simp only[AeB,Ad9,Qg,Ai,Aeb] at ih ⊢;omega
theorem Tj{a vs:List Int}{i:Nat}{x y:Int}(b:a[i]?=some x)(c:vs[i]?=some y):(a.zip vs)[i]?=some (x,y):=by
 simp[List.getElem?_zip_eq_some,b,c]
theorem Yx{a vs:List Int}{i:Nat}(c:i<=a.length)(b:i<=vs.length):(Gl a vs i).length=6*i:=by
 rw[Dr,Aes,AfC];omega
theorem Yy{a vs:List Int}{i:Nat}{x y:Int}(b:a[i]?=some x)(c:vs[i]?=some y):Gl a vs (i+1)=Gl a vs i++Ah 4 x++Ah 2 y:=by
 unfold Gl;rw[AeH,Tj b c];simp[Qg]
theorem Vm(a vs:List Int):Gl a vs 0=[]:=by simp[Gl]
def F9(lf:Bool)(ks vs:List Int):List UInt8:=Ah 1 (DW lf)++Ah 1 (ks.length:Int)++Gl ks vs ks.length
def G9(lf:Bool)(ks vs:List Int):List UInt8:=((AJ (F9 lf ks vs)).drop 0).take 240
theorem Gt{lf:Bool}{a vs:List Int}(h:a.length=vs.length):(F9 lf a vs).length=2+6*a.length:=by
 unfold F9;rw[Ad9,Ad9,Ai,Ai,Yx (Aed _) U]
theorem Yz{lf:Bool}{a vs:List Int}(h:a.length=vs.length)(b:a.length<=8):(G9 lf a vs).length=240:=by
 have:=Gt (lf:=lf) h;unfold G9;rw[Aep,Aes,AR U];omega
theorem Jq{lf:Bool}{a vs:List Int}(h:a.length=vs.length)(b:a.length<=8){p k:Nat}(hp:p+k<=2+6*a.length):((G9 lf a vs).drop p).take k=((F9 lf a vs).drop p).take k:=by
 have c:=Gt (lf:=lf) h;unfold G9 AJ;rw[Aep,AfQ,Aey,Aez U,AeO U,Aeo (by rw[AeG];omega)]
theorem YA{lf:Bool}{a vs:List Int}(h:a.length=vs.length)(b:a.length<=8):AW (((G9 lf a vs).drop 0).take 1)=DW lf:=by
 rw[Jq h b U];have:=Ti lf;unfold F9;rw[Aep,Aec,AeA (Ai 1 _)];exact BT this.1 U U
theorem YB{lf:Bool}{a vs:List Int}(h:a.length=vs.length)(b:a.length<=8):AW (((G9 lf a vs).drop 1).take 1)=(a.length:Int):=by
 rw[Jq h b U];unfold F9;rw[G7 _ _ _ (by rw[Ai]) (by rw[Ai])];exact BT U U U
theorem Abs(a vs:List Int):∀{i:Nat} {x y:Int},a[i]?=some x->vs[i]?=some y->∀n,i<n->∃t,(Gl a vs n).drop (6*i)=Ah 4 x++Ah 2 y++t:=by
 intro i x y j g n k;have e:(a.zip vs).take n=(a.zip vs).take i++((a.zip vs).take n).drop i:=by
  have f:((a.zip vs).take n).take i=(a.zip vs).take i:=by rw[Aey,Aez U]
  rw[<-f,AeI]
 have c:((a.zip vs).take n)[i]?=some (x,y):=by rw[AeS,if_pos k,Tj j g]
 have b:=(Ad6.1 c).1;have e2:((a.zip vs).take n).drop i=(x,y)::((a.zip vs).take n).drop (i+1):=by
  rw[AeX b];congr 1;exact (Ad6.1 c).2
 have h:(((a.zip vs).take i).flatMap Qg).length=6*i:=by
  rw[Dr,Aes];simp at b;simp;omega
 have d:(a.zip vs).take n=(a.zip vs).take i++(x,y)::((a.zip vs).take n).drop (i+1):=by rw[<-e2];exact e
 generalize ((a.zip vs).take n).drop (i+1)=T at d;exact ⟨T.flatMap Qg,by unfold Gl;rw[d,AfV,AfM h,AeB];rfl⟩
theorem Xn(lf:Bool){a vs:List Int}{i:Nat}{x y:Int}(b:a[i]?=some x)(d:vs[i]?=some y):∃t,(F9 lf a vs).drop (2+6*i)=Ah 4 x++(Ah 2 y++t):=by
 have hi:=(Ad6.1 b).1;obtain ⟨t,e⟩:=Abs a vs b d a.length hi;refine ⟨t,?_⟩;have c:(Ah 1 (DW lf)++Ah 1 (a.length:Int)).length=2:=by simp[Ai]
 unfold F9;rw[Ae1,AeF (by rw[c];omega),AeL,c,show 2+6*i-2=6*i by omega,e,Aec]
theorem Abt{lf:Bool}{a vs:List Int}(h:a.length=vs.length)(f:a.length<=8){i:Nat}{x y:Int}(b:a[i]?=some x)(c:vs[i]?=some y)(d:0<=x/\x<=1048575):AW (((G9 lf a vs).drop (2+6*i)).take 4)=x:=by
 have hi:=(Ad6.1 b).1;rw[Jq h f U];obtain ⟨t,e⟩:=Xn lf b c;rw[e,AeA (Ai 4 _)];exact BT d.1 U U
theorem Abu{lf:Bool}{a vs:List Int}(h:a.length=vs.length)(g:a.length<=8){i:Nat}{x y:Int}(b:a[i]?=some x)(d:vs[i]?=some y)(f:0<=y/\y<=1023):AW (((G9 lf a vs).drop (2+6*i+4)).take 2)=y:=by
 have hi:=(Ad6.1 b).1;rw[Jq h g U];obtain ⟨t,e⟩:=Xn lf b d;have c:(F9 lf a vs).drop (2+6*i+4)=((F9 lf a vs).drop (2+6*i)).drop 4:=by rw[AhH]
 rw[c,e,AfM (Ai 4 _),AeA (Ai 2 _)];exact BT f.1 U U
theorem Qh{lf:Bool}{a vs:List Int}(h:a.length=vs.length)(d:a.length<=8):rz (((G9 lf a vs).drop (2+6*a.length)).take (240-(2+6*a.length)))=0:=by
 have c:=Gt (lf:=lf) h;unfold G9 AJ;rw[Aep,AfQ,Aey,Nat.min_self,<-c,AfM Z];refine LK.2 (λx b=>?_);have:=Afa b;exact (AfX.1 this).2
def Xo:List Value:=List.replicate 48 (.int .i64 0)
theorem LN(b:Nat)(a:Int)(bs:List UInt8)(c:bs.length=256):Cn prog 89 [Y b] [blk b (A4 bs a) 154] (λv Γ=>v=.slice (some ⟨b,0,none⟩) 240 240/\Γ=[blk b (A4 bs a) 154]):=by
 intro z R w H;replace H:=H.l1;refine Ae func89 Z ntmps89 Z (Z0 10 [0] Z (Ab Z (Sy (n':=256) (z:=1) Z J Z Z Z (q:=240) Z Z (by decide) (by decide)) (Zc 4 Z (Zr Z ?_))));exact ⟨_,⟨Z,Z⟩,H⟩
theorem Pv(f:Value)(ns:List Int)(t:ns.length=120)(a:∀x∈ns,0<=x/\x<=1000)(A:Af)(k:∀h,A h->rdH 1 f 120 (ns.map I) h):Cn prog 92 [f] [A] (λv Γ=>∃g,v=.tuple #[.slice (some ⟨g,0,none⟩) 240 240,I 0]/\Γ=[blk g (A4 (AJ (KU ns)) ((2*120:Nat):Int)) 154,A]):=by
 intro z R w H;replace H:=H.l1;obtain ⟨l,o,rfl⟩:=H.sy 0 (λq=>(k _ q).slc);refine Ae func92 Z ntmps92 Z (Z0 19 [4] Z (AQ Z (Cb (P:=prog) H Z (zs:=(A4 (AJ []) 0)) J) ?_));rintro _ w ⟨c,rfl,H⟩;replace H:=H.l2;refine Zc 11 Z ?_;refine AD (σ:=Nat) (λi=>[(12,I (i:Int)),(4,Y c),(10,.slice l 120 o),(11,I 120)])
   (λi w=>Sep z (blk c (A4 (AJ ((ns.take i).flatMap (Ah 2))) ((2*i:Nat):Int)) 154::A::R) w/\(i<=120)) (λi=>120-i) 0
   fr_z ⟨(by simpa using H),by omega⟩ ?_
 clear H;rintro i w ⟨p,e⟩;have H:=p.l2;have y:=e;clear e;refine Z0 6 [0] Z (Ag Z (λm=>?_) (λm=>?_))
 ·obtain ⟨x,d⟩:∃x,ns[i]?=some x:=⟨_,Ad7 U⟩;have s:=a x (Ad8 d)
  refine Zc 6 Z ?_;have b:=(H.rd 1 Z k).at (j:=i) (u:=I x) (by simp[d]);refine Ab Z (Aj Z (z:=1) (j:=i) (r:=i) J Z Z Z U b U) (Ab Z (Ax Z Z J (Ay b)) (Zc 7 Z (z_E_ Z (call86 _) (CX _ _) H ?_)));intro w H;replace H:=H.l2;refine Ab Z (AE Z Z) (Zc 2 Z (Ag Z (λh2=>U) (λh2=>?_)));refine Zc 4 Z (z_E_ Z (call87 _) (CE _ (2*i) 2 x _ (AR (by first|omega|(simp[Ai,F8,-List.length_flatMap]<;>omega))) U) H ?_);intro w H;replace H:=H.l2;rw[show ((2*i+2:Nat):Int)=(((2*(i+1):Nat):Int):Int) from by omega] at H;rw[show Br (AJ ((ns.take i).flatMap (Ah 2))) (Ah 2 x) (2*i)=AJ ((ns.take i).flatMap (Ah 2)++Ah 2 x) from BD (by first|omega|(simp[Ai,F8,-List.length_flatMap]<;>omega)) (by first|omega|(simp[Ai,F8,-List.length_flatMap]<;>omega))] at H;have H:Sep z (blk c (A4 (AJ ((ns.take i).flatMap (Ah 2)++Ah 2 x)) ((2*(i+1):Nat):Int)) 154::A::R) w:=H;refine Z1 7 [] [(i:Int)+1] Z U (gf ?_);intro _ n;refine ⟨(i+1),n.cz,⟨(by rw[<-RB d];exact H),?_⟩,?_⟩
  ·omega
  omega
 obtain rfl:i=120:=by omega
 refine Zc 2 Z (gx (Zc 3 Z ?_));rw[Aee U] at H;have H:Sep z (blk c (A4 (AJ (KU ns)) ((2*120:Nat):Int)) 154::A::R) w:=H;refine Zc 1 Z (z_E_ Z (call89 _) (LN _ _ _ (AR (by first|omega|(simp[Ai,F8,-List.length_flatMap]<;>omega)))) H ?_);intro w H;refine Zc 5 Z (Zr Z ?_);exact ⟨_,⟨c,Z,Z⟩,H.perm 2 [0,1] Z Z⟩
theorem Abv(k:Nat)(d b o n c:Nat)(xs:List UInt8)(A:Af)(g:∀h,A h->rdH 1 (.slice (some ⟨b,o,none⟩) n c) n (xs.map u8) h)(hn:n<=c)(hk:k<=n)(a2:0<k)(ys:List UInt8)(t:xs.take k=ys)(o2 l c2:Nat)(i:(if c=k then o else o+k)=o2)(e:n-k=l)(f:c-k=c2):Cn prog 150 [Y d,I (k:Int)] [blk d [.slice (some ⟨b,o,none⟩) n c] 243,A] (λv Γ=>v=I (AW ys)/\Γ=[blk d [.slice (some ⟨b,o2,none⟩) l c2] 243,A]):=by
 intro z R w H;replace H:=H.l2;subst t i e f;have a1:=H.sy 1 (λq=>(g _ q).len);have a0:=H.sy 1 (λq=>(g _ q).cap);refine Ae func150 Z ntmps150 Z (Z2 18 [0,0,0] H Z (Ab Z (BK Z (z:=1) (p:=0) (q:=k) (o':=o) (l':=k) (c':=c) J Z (.inl ⟨Z,Z⟩) (.inr ⟨_,_,_,Z,Z,Z⟩) U U U U U U) (Zc 5 Z ?_)));refine AD (σ:=Nat) (λj=>[(15,I (j:Int)),(5,I (AW (xs.take j))),(0,Y d),(1,I (k:Int)),(4,I 0),(13,.slice (some ⟨b,o,none⟩) k c),(14,I (k:Int))])
   (λj w=>Sep z (blk d [.slice (some ⟨b,o,none⟩) n c] 243::A::R) w/\(j<=k)) (λj=>k-j) 0
   (λ_ a=>(a.co Z (by go_num) a.cz)) ⟨H,by omega⟩ ?_
 clear H;rintro j w ⟨H',s⟩;have H:=H'.l2;have u:=s;clear s;refine Z0 6 [0] Z (Ag Z (λy=>?_) (λy=>?_))
 ·obtain ⟨x,r⟩:∃x,xs[j]?=some x:=⟨_,Ad7 U⟩;refine Z1 7 [1,j,o+j] [] Z U (Ab Z (Bf Z Z J (Ay (H.cell 1 Z (λh q=>(g h q).at r)))) (Zc 5 Z (Ab Z (Sr Z Z Z (m:=8) Z (by decide)) (Zc 1 Z (Ab Z (Q9 Z J Z) (Ab Z (W8 Z Z Z (NY _) ⟨by omega,by have:=x.toNat_lt;omega⟩) (Z1 8 [] [(j:Int)+1] Z U (gf ?_))))))));intro _ a;refine ⟨(j+1),(a.co Z (by go_num) (a.co Z (congrArg I (Mu r)) (a.all Z))),⟨H,?_⟩,?_⟩
  ·omega
  omega
 obtain rfl:j=k:=by omega
 refine Zc 2 Z (gx (Z2 10 [0,0,0] H Z (Ab Z (Ut Z (z:=1) J Z Z (p:=j) Z U U (o':=if c=j then o else o+j) (l':=n-j) (c':=c-j) (by rw[AeK]) Z Z) (Z4 12 [0,0] H Z ?_))));intro w H;refine Zr Z ?_;exact ⟨_,⟨Z,Z⟩,H⟩
theorem Pw(b o c:Nat)(bd:List UInt8)(A:Af)(t:∀h,A h->rdH 1 (.slice (some ⟨b,o,none⟩) 240 c) 240 (bd.map u8) h)(ns:List Int)(a0:ns.length=120)(a:∀x∈ns,0<=x/\x<=1000)(k:bd=KU ns):Cn prog 148 [.slice (some ⟨b,o,none⟩) 240 c] [A] (λv Γ=>∃u,v=.tuple #[u,.bool true]/\Γ=[grow 3 1 u 120 (ns.map I),A]):=by
 intro z R w H;replace H:=H.l1;have a2:=H.sy 0 (λq=>(t _ q).cap);refine Ae func148 Z ntmps148 Z (Za 21 [4] H Z ?_);intro n w H;refine Z4 10 [0] H Z ?_;intro w H;replace H:=(H.nilg 3 1).l3;refine Zc 5 Z ?_;refine AD (σ:=Nat×Value×Nat) (λ⟨i,v,x⟩=>[(12,I (i:Int)),(5,v),(4,Y n)])
   (λ⟨i,v,x⟩ w=>Sep z (grow 3 1 v i ((ns.take i).map I)::blk n [.slice (some ⟨b,x,none⟩) (240-2*i) (c-2*i)] 243::A::R) w/\(i<=120/\(i<120->x=o+2*i))) (λ⟨i,v,x⟩=>120-i) ⟨0,.slice none 0 0,o⟩
   (λ_ f=>(f.co Z (by go_num) f.cz)) ⟨H,⟨by omega,λ_=>rfl⟩⟩ ?_
 clear H;rintro ⟨i,v,x⟩ w ⟨e,hI⟩;dsimp only at hI e ⊢;have H:=e.l3;have sv:=H.sy 0 (·.slc);obtain ⟨a5,j⟩:=hI;refine Z0 6 [0] Z (Ag Z (λh1=>?_) (λh1=>?_))
 ·have r:i<120:=by omega
  have g:=j r;obtain ⟨y,l⟩:∃y,ns[i]?=some y:=⟨_,Ad7 U⟩;have a3:=a y (Ad8 l);have s:AW ((bd.drop (2*i)).take 2)=y:=by rw[k];exact Abq a l
  refine Zc 6 Z (z_E_ Z (call150 _) (Abv 2 _ b x (240-2*i) (c-2*i) ((bd.drop (2*i)).take (240-2*i)) _ (λh q=>by have:=(t h q).cut (lo:=2*i) (m:=240-2*i) (c':=c-2*i) U U U;rw[g];exact this) U U U ((bd.drop (2*i)).take 2) (by rw[Aey,Aez U]) (if c-2*i=2 then x else x+2) (240-2*(i+1)) (c-2*(i+1)) Z U U) H.f2.f2 ?_);intro w H;replace H:=H.l3;refine AC 14 (v:=I y) Z (congrArg I s) (Zc 7 Z (z_E_ Z (call86 _) (CX _ _) H ?_));intro w H;replace H:=H.l3;refine Ab Z (AE Z Z) (Zc 2 Z (Ag Z (λh2=>U) (λh2=>?_)));refine Zc 5 Z (AQ Z (AM H Z J Bz Z (by decide) (by decide) (out:=[I y]) J) ?_);rintro _ w ⟨b2,rfl,H⟩;replace H:=H.l4;refine AQ Z (AY 3 H Z Z J Bz Z Z (H.rv 0 (·.rd U U O Z)) (by simp[Value.oneCell']) U) ?_;rintro v3 w e;have e:Sep z (blk b2 [I y] 3::blk n [.slice (some ⟨b,(if c-2*i=2 then x else x+2),none⟩) (240-2*(i+1)) (c-2*(i+1))] 243::A::grow 3 1 v3 (i+1) ((ns.take i).map I++[I y])::R) w:=e;have p:((ns.take i).map I++[I y]:List Value)=(ns.take (i+1)).map I:=(D5 l);rw[p] at e;have H:=e.l4;refine Z1 8 [] [(i:Int)+1] Z U ?_;replace H:=H.d.f1.f1.f2;refine gf ?_;intro _ f;refine ⟨⟨i+1,v3,if c-2*i=2 then x else x+2⟩,f.cz,⟨H,?_⟩,?_⟩
  ·refine ⟨by dsimp only;omega,λq=>?_⟩;dsimp only at q ⊢;rw[if_neg U];omega
  omega
 obtain rfl:i=120:=by omega
 refine Zc 2 Z (gx (Zc 10 Z (Zr Z ?_)));rw[Aee U] at H;exact ⟨_,⟨v,Z,Z⟩,H.perm 3 [0,2] Z Z⟩
theorem Tk(lf:Bool)(kv vv:Value)(b vs:List Int)(A B:Af)(hA:∀h,A h->rdH 1 kv b.length (b.map I) h)(t:∀h,B h->rdH 1 vv vs.length (vs.map I) h)(s:b.length=vs.length)(h8:b.length<=8)(hk:∀x∈b,0<=x/\x<=1048575)(hv:∀y∈vs,0<=y/\y<=1023):Cn prog 254 [.agg #[.bool lf,kv,vv]] [A,B] (λv Γ=>∃pw,v=.tuple #[.slice (some ⟨pw,0,none⟩) 240 240,I 0]/\Γ=[blk pw (A4 (AJ (F9 lf b vs)) ((2+6*b.length:Nat):Int)) 154,A,B]):=by
 intro z R w H;replace H:=H.l2;obtain ⟨g,f,rfl⟩:=H.sy 0 (λq=>(hA _ q).slc);obtain ⟨m,l,rfl⟩:=H.sy 1 (λq=>(t _ q).slc);have c:=s;refine Ae func254 Z ntmps254 Z (Za 2 [] H Z ?_);intro e w H;refine Z2 15 [1,0,0,2,0,0,0] H Z (Al 15 Z (λh1=>U) (λh1=>?_));refine Z2 7 [1,0,0,0] H Z (Ag Z (λh2=>U) (λh2=>?_));refine Zc 4 Z (AQ Z (Cb (P:=prog) H Z (zs:=(A4 (AJ []) 0)) J) ?_);rintro _ w ⟨k,rfl,H⟩;replace H:=H.l4;refine Zc 7 Z (Xf (λa w=>Fr 59 [] [(5,I (DW lf)),(0,.agg #[.bool lf,.slice g b.length f,.slice m vs.length l]),(1,Y e),(2,.slice none 0 0),(3,I 0),(4,Y k),(8,.pointer (some ⟨e,1,none⟩)),(9,.slice g b.length f),(10,I (b.length:Int)),(11,.pointer (some ⟨e,2,none⟩)),(12,.slice m vs.length l),(13,I (vs.length:Int)),(14,.bool (decide ((b.length:Int)≠(vs.length:Int)))),(15,.bool false),(16,.pointer (some ⟨e,1,none⟩)),(17,.slice g b.length f),(18,I (b.length:Int)),(19,.bool (decide ((8:Int)<(b.length:Int)))),(20,.bool (decide ((8:Int)<(b.length:Int))))] a/\Sep z (blk k (A4 (AJ ([])) 0) 154::blk e [.bool lf,.slice g b.length f,.slice m vs.length l] 249::A::B::R) w) ?_ ?_)
 ·refine Z2 6 [0,1,0] H Z (Ep Z (λh3=>?_) (λh3=>?_))
  ·refine Zc 3 Z ?_;exact gf λ_ n=>⟨(n.co Z (congrArg I (by simp[DW, *])) (n.all Z)),H⟩
  refine Zc 1 Z ?_;exact gf λ_ n=>⟨(n.co Z (congrArg I (by simp[DW, *])) (n.all Z)),H⟩
 rintro a w ⟨n,H⟩;revert a;refine Zc 3 Z (z_E_ Z (call87 _) (CE _ 0 1 (DW lf) _ (AR (by first|omega|(simp[Ai,c,Dr,AfC,-List.length_flatMap]<;>omega))) U) H ?_);intro w H;replace H:=H.l4;rw[show Br (AJ []) (Ah 1 (DW lf)) 0=AJ (Ah 1 (DW lf)) from BD Z (by first|omega|(simp[Ai,c,Dr,AfC,-List.length_flatMap]<;>omega))] at H;have H:Sep z (blk k (A4 (AJ (Ah 1 (DW lf))) 1) 154::blk e [.bool lf,.slice g b.length f,.slice m vs.length l] 249::A::B::R) w:=H;refine Z2 7 [1,1,0] H Z (z_E_ Z (call87 _) (CE _ 1 1 (b.length:Int) _ (AR (by first|omega|(simp[Ai,c,Dr,AfC,-List.length_flatMap]<;>omega))) U) H ?_);intro w H;replace H:=H.l4;rw[show Br (AJ (Ah 1 (DW lf))) (Ah 1 (b.length:Int)) 1=AJ (Ah 1 (DW lf)++Ah 1 (b.length:Int)) from BD (by first|omega|(simp[Ai,c,Dr,AfC,-List.length_flatMap]<;>omega)) (by first|omega|(simp[Ai,c,Dr,AfC,-List.length_flatMap]<;>omega))] at H;have H:Sep z (blk k (A4 (AJ (Ah 1 (DW lf)++Ah 1 (b.length:Int))) 2) 154::blk e [.bool lf,.slice g b.length f,.slice m vs.length l] 249::A::B::R) w:=H;refine Z2 12 [1,1,0] H Z ?_;refine AD (σ:=Nat) (λi=>[(32,I (i:Int)),(1,Y e),(4,Y k),(30,.slice g b.length f),(31,I (b.length:Int))])
   (λi w=>Sep z (blk k (A4 (AJ (Ah 1 (DW lf)++Ah 1 (b.length:Int)++Gl b vs i)) ((2+6*i:Nat):Int)) 154::blk e [.bool lf,.slice g b.length f,.slice m vs.length l] 249::A::B::R) w/\(i<=b.length)) (λi=>b.length-i) 0
   fr_z ⟨(by rw[Vm,AeQ];exact H),by omega⟩ ?_
 clear H;rintro i w ⟨H',hI⟩;have H:=H'.l4;have a3:=hI;clear hI;refine Z0 6 [0] Z (Ag Z (λh4=>?_) (λh4=>?_))
 ·have a0:i<b.length:=by omega
  obtain ⟨x,hx⟩:∃x,b[i]?=some x:=⟨_,Ad7 a0⟩;obtain ⟨y,p⟩:∃y,vs[i]?=some y:=⟨_,Ad7 U⟩;have a1:=hk x (Ad8 hx);have a2:=hv y (Ad8 p);refine Zc 6 Z ?_;have o:=(H.rd 2 Z hA).at (j:=i) (u:=I x) (by simp[hx]);refine Zc 1 Z (Ab Z (Aj Z (z:=1) (j:=i) (r:=i) J Z Z Z U o U) (Ab Z (Ax Z Z J (Ay o)) (Zc 8 Z (z_E_ Z (call86 _) (CX _ _) H ?_))));intro w H;replace H:=H.l4;refine Ab Z (AE Z Z) (Zc 1 Z (Al 40 Z (λh5=>U) (λh5=>?_)));have d:=(H.rd 3 Z t).at (j:=i) (u:=I y) (by simp[p]);refine Z2 3 [2,1,0] H Z (Ab Z (Aj Z (z:=1) (j:=i) (r:=i) J Z Z Z U d U) (Ab Z (Ax Z Z J (Ay d)) (z_E_ Z (call86 _) (CX _ _) H ?_)));intro w H;replace H:=H.l4;refine Ab Z (AE Z Z) (Zc 3 Z (Ag Z (λh6=>U) (λh6=>?_)));refine Zc 5 Z (z_E_ Z (call87 _) (CE _ (2+6*i) 4 x _ (AR (by first|omega|(simp[Ai,c,Dr,AfC,-List.length_flatMap]<;>omega))) U) H ?_);intro w H;replace H:=H.l4;rw[show Br (AJ (Ah 1 (DW lf)++Ah 1 (b.length:Int)++Gl b vs i)) (Ah 4 x) (2+6*i)=AJ (Ah 1 (DW lf)++Ah 1 (b.length:Int)++Gl b vs i++Ah 4 x) from BD (by first|omega|(simp[Ai,c,Dr,AfC,-List.length_flatMap]<;>omega)) (by first|omega|(simp[Ai,c,Dr,AfC,-List.length_flatMap]<;>omega))] at H;have H:Sep z (blk k (A4 (AJ (Ah 1 (DW lf)++Ah 1 (b.length:Int)++Gl b vs i++Ah 4 x)) ((2+6*i+4:Nat):Int)) 154::blk e [.bool lf,.slice g b.length f,.slice m vs.length l] 249::A::B::R) w:=H;refine Zc 3 Z ?_;have d:=(H.rd 3 Z t).at (j:=i) (u:=I y) (by simp[p]);refine Z2 3 [2,1,0] H Z (Ab Z (Aj Z (z:=1) (j:=i) (r:=i) J Z Z Z U d U) (Ab Z (Ax Z Z J (Ay d)) (z_E_ Z (call87 _) (CE _ (2+6*i+4) 2 y _ (AR (by first|omega|(simp[Ai,c,Dr,AfC,-List.length_flatMap]<;>omega))) U) H ?_)));intro w H;replace H:=H.l4;rw[show ((2+6*i+6:Nat):Int)=(((2+6*(i+1):Nat):Int):Int) from by omega] at H;rw[show Br (AJ (Ah 1 (DW lf)++Ah 1 (b.length:Int)++Gl b vs i++Ah 4 x)) (Ah 2 y) (2+6*i+4)=AJ (Ah 1 (DW lf)++Ah 1 (b.length:Int)++Gl b vs i++Ah 4 x++Ah 2 y) from BD (by first|omega|(simp[Ai,c,Dr,AfC,-List.length_flatMap]<;>omega)) (by first|omega|(simp[Ai,c,Dr,AfC,-List.length_flatMap]<;>omega))] at H;have H:Sep z (blk k (A4 (AJ (Ah 1 (DW lf)++Ah 1 (b.length:Int)++Gl b vs i++Ah 4 x++Ah 2 y)) ((2+6*(i+1):Nat):Int)) 154::blk e [.bool lf,.slice g b.length f,.slice m vs.length l] 249::A::B::R) w:=H;refine Z1 7 [] [(i:Int)+1] Z U (gf ?_);intro _ n;refine ⟨(i+1),n.cz,⟨(by rw[Yy hx p,<-Aec,<-Aec];exact H),?_⟩,?_⟩
  ·omega
  omega
 obtain rfl:i=b.length:=by omega
 refine Zc 2 Z (gx (Zc 3 Z ?_));have H:Sep z (blk k (A4 (AJ (F9 lf b vs)) ((2+6*b.length:Nat):Int)) 154::blk e [.bool lf,.slice g b.length f,.slice m vs.length l] 249::A::B::R) w:=H;refine Zc 1 Z (z_E_ Z (call89 _) (LN _ _ _ (AR (by first|omega|(simp[Ai,Gt s]<;>omega)))) H ?_);intro w H;refine Zc 5 Z (Zr Z ?_);exact ⟨_,⟨k,Z,Z⟩,H.perm 4 [0,2,3] Z Z⟩
theorem My(b o c:Nat)(bd:List UInt8)(A:Af)(hA:∀h,A h->rdH 1 (.slice (some ⟨b,o,none⟩) 240 c) 240 (bd.map u8) h)(lf:Bool)(a vs:List Int)(f:a.length=vs.length)(h8:a.length<=8)(hk:∀x∈a,0<=x/\x<=1048575)(hv:∀y∈vs,0<=y/\y<=1023)(g:bd=G9 lf a vs):Cn prog 199 [.slice (some ⟨b,o,none⟩) 240 c] [A] (λv Γ=>∃v1 v2,v=.tuple #[.agg #[.bool lf,v1,v2],.bool true]/\Γ=[grow 3 1 v1 a.length (a.map I),grow 3 1 v2 a.length (vs.map I),A]):=by
 intro z R w H;replace H:=H.l1;have c5:=H.sy 0 (λq=>(hA _ q).cap);have c6:=Ti lf;have g0:AW ((bd.drop 0).take 1)=DW lf:=by rw[g];exact YA f h8
 have g1:AW ((bd.drop 1).take 1)=(a.length:Int):=by rw[g];exact YB f h8
 refine Ae func199 Z ntmps199 Z (Za 2 [] H Z ?_);intro s w H;refine Za 18 [4] H Z ?_;intro t w H;refine Z4 5 [0] H Z ?_;intro w H;refine z_E_ Z (call150 _) (Cz 1 _ b o 240 (c) ((bd.drop 0).take 240) _ (λh q=>by have:=(hA h q).cut (lo:=0) (m:=240) (c':=c) U U U;exact this) U U ((bd.drop 0).take 1) (by rw[Aey,Aez U]) (o+1) 239 (c-1) U U U) H.f2.f1 ?_;intro w H;replace H:=H.l3;refine AC 16 (v:=I (DW lf)) Z (congrArg I g0) (z_E_ Z (call150 _) (Cz 1 _ b (o+1) 239 ((c-1)) ((bd.drop 1).take 239) _ (λh q=>by have:=(hA h q).cut (lo:=1) (m:=239) (c':=(c-1)) U U U;exact this) U U ((bd.drop 1).take 1) (by rw[Aey,Aez U]) (o+2) 238 (c-2) U U U) H ?_);intro w H;replace H:=H.l3;refine AC 17 (v:=I (a.length:Int)) Z (congrArg I g1) (Z0 10 [0] Z (Al 20 Z (λh1=>U) (λh1=>?_)));refine Z0 5 [0] Z (Ag Z (λh2=>U) (λh2=>?_));refine Z0 6 [0] Z (AC 26 (v:=.bool lf) Z (congrArg Value.bool (Abr lf)) (Za 1 [] H Z ?_));intro l w H;refine Z4 5 [0] H Z ?_;intro w H;replace H:=(H.nilg 3 1).l5;replace H:=(H.nilg 3 1).l6;refine Zc 6 Z ?_;refine AD (σ:=Nat×Value×Value) (λ⟨i,v,u⟩=>[(29,I (i:Int)),(2,Y s),(4,Y t),(7,Y l),(28,I (a.length:Int))])
   (λ⟨i,v,u⟩ w=>Sep z (grow 3 1 u i ((vs.take i).map I)::grow 3 1 v i ((a.take i).map I)::blk l [.bool lf,v,u] 249::blk t [.slice (some ⟨b,(o+(2+6*i)),none⟩) (240-(2+6*i)) (c-(2+6*i))] 243::A::blk s [.bool false,.slice none 0 0,.slice none 0 0] 249::R) w/\(i<=a.length)) (λ⟨i,v,u⟩=>a.length-i) ⟨0,.slice none 0 0,.slice none 0 0⟩
   fr_z ⟨H,AeJ _⟩ ?_
 clear H;rintro ⟨i,v,u⟩ w ⟨e,hI⟩;dsimp only at hI e ⊢;have H:=e.l6;have su:=H.sy 0 (·.slc);have sv:=H.sy 1 (·.slc);have c7:=hI;refine Z0 6 [0] Z (Ag Z (λh3=>?_) (λh3=>?_))
 ·have c2:i<a.length:=by omega
  obtain ⟨x,j⟩:∃x,a[i]?=some x:=⟨_,Ad7 c2⟩;obtain ⟨y,hy⟩:∃y,vs[i]?=some y:=⟨_,Ad7 U⟩;have c1:=hk x (Ad8 j);have c3:=hv y (Ad8 hy);have gx:AW ((bd.drop (2+6*i)).take 4)=x:=by rw[g];exact Abt f h8 j hy c1
  have gy:AW ((bd.drop (2+6*i+4)).take 2)=y:=by rw[g];exact Abu f h8 j hy c3
  refine Zc 6 Z (z_E_ Z (call150 _) (Cz 4 _ b (o+(2+6*i)) (240-(2+6*i)) ((c-(2+6*i))) ((bd.drop (2+6*i)).take (240-(2+6*i))) _ (λh q=>by have:=(hA h q).cut (lo:=(2+6*i)) (m:=(240-(2+6*i))) (c':=(c-(2+6*i))) U U U;exact this) U U ((bd.drop (2+6*i)).take 4) (by rw[Aey,Aez U]) (o+(2+6*i+4)) (240-(2+6*i+4)) (c-(2+6*i+4)) U U U) H.f4.f4 ?_);intro w H;replace H:=H.l6;refine AC 31 (v:=I x) Z (congrArg I gx) (z_E_ Z (call150 _) (Cz 2 _ b (o+(2+6*i+4)) (240-(2+6*i+4)) ((c-(2+6*i+4))) ((bd.drop (2+6*i+4)).take (240-(2+6*i+4))) _ (λh q=>by have:=(hA h q).cut (lo:=(2+6*i+4)) (m:=(240-(2+6*i+4))) (c':=(c-(2+6*i+4))) U U U;exact this) U U ((bd.drop (2+6*i+4)).take 2) (by rw[Aey,Aez U]) (o+(2+6*(i+1))) (240-(2+6*(i+1))) (c-(2+6*(i+1))) U U U) H ?_);intro w H;replace H:=H.l6;refine AC 32 (v:=I y) Z (congrArg I gy) (Zc 8 Z (z_E_ Z (call86 _) (CX _ _) H ?_));intro w H;replace H:=H.l6;refine Ab Z (AE Z Z) (Zc 1 Z (Al 36 Z (λh4=>U) (λh4=>?_)));refine Zc 1 Z (z_E_ Z (call86 _) (CX _ _) H ?_);intro w H;replace H:=H.l6;refine Ab Z (AE Z Z) (Zc 3 Z (Ag Z (λh5=>U) (λh5=>?_)));refine Zc 2 Z ?_;replace H:=H.f4;refine Oj (Sep z (blk l [.bool lf,v,u] 249::R)) [11,12,13] 14 Z J (A5 H λw e=>?_);have H:=e.l6;refine Iy 0 Z J J J J Z Z Z (DS Z (k:=1) (r:=1) J Z Z) (H.pick 6 [0] Z) (Iy 1 Z J J J J Z Z Z (Bf Z Z J (λ_ j=>j.cel 0 Z 1 Z)) (H.pick 6 [0] Z) (Iy 2 Z J J J J Z Z Z (Ci Z Z) (H.pick 6 [0] Z) (Iy 5 Z J J J J Z Z Z (DS Z (k:=2) (r:=2) J Z Z) (H.pick 6 [0] Z) (Iy 6 Z J J J J Z Z Z (Bf Z Z J (λ_ j=>j.cel 0 Z 2 Z)) (H.pick 6 [0] Z) (Iy 7 Z J J J J Z Z Z (Ci Z Z) (H.pick 6 [0] Z) (C5 [3,8] J O (JO ?_ ?_)))))))
  ·refine Ca Z Z Z Z (AM H Z J Bz Z (by decide) (by decide) (out:=[I x]) J) ?_;rintro _ w ⟨b4,rfl,H⟩;replace H:=H.l7;refine Au (λ_=>(H.pick 7 [1] Z)) (C5 [4,8] J O (JO ?_ ?_))
   ·refine Ca Z Z Z Z (AY 5 H Z Z J Bz Z Z (H.rv 0 (·.rd U U O Z)) (by simp[Value.oneCell']) U) ?_;rintro v5 w e;have e:Sep z (blk b4 [I x] 3::blk l [.bool lf,v,u] 249::blk t [.slice (some ⟨b,(o+(2+6*(i+1))),none⟩) (240-(2+6*(i+1))) (c-(2+6*(i+1)))] 243::A::grow 3 1 u i ((vs.take i).map I)::grow 3 1 v5 (i+1) ((a.take i).map I++[I x])::blk s [.bool false,.slice none 0 0,.slice none 0 0] 249::R) w:=e
    have b9:((a.take i).map I++[I x]:List Value)=(a.take (i+1)).map I:=(D5 j);rw[b9] at e;have H:=e.l7;have a3:=H.sy 5 (·.slc);refine Au (λ_=>(H.pick 7 [1] Z)) (Iy 10 Z J J J J Z Z Z (DS Z (k:=1) (r:=1) J Z Z) (H.pick 7 [1] Z) (C5 [8] J O (An (Ca Z Z Z Z (AM H Z J Bz Z (by decide) (by decide) (out:=[I y]) J) ?_))));rintro _ w ⟨b6,rfl,H⟩;replace H:=H.l8;refine Au (λ_=>(H.pick 8 [2] Z)) (C5 [9] J O (An (Ca Z Z Z Z (AY 5 H Z Z J Bz Z Z (H.rv 0 (·.rd U U O Z)) (by simp[Value.oneCell']) U) ?_)));rintro v7 w e;have e:Sep z (blk b6 [I y] 3::blk b4 [I x] 3::blk l [.bool lf,v,u] 249::blk t [.slice (some ⟨b,(o+(2+6*(i+1))),none⟩) (240-(2+6*(i+1))) (c-(2+6*(i+1)))] 243::A::grow 3 1 v7 (i+1) ((vs.take i).map I++[I y])::grow 3 1 v5 (i+1) ((a.take (i+1)).map I)::blk s [.bool false,.slice none 0 0,.slice none 0 0] 249::R) w:=e;have c0:((vs.take i).map I++[I y]:List Value)=(vs.take (i+1)).map I:=(D5 hy);rw[c0] at e;have H:=e.l8;have a4:=H.sy 5 (·.slc);refine Au (λ_=>(H.pick 8 [2] Z)) (C5 [11] J O (An (Bg Z Z Z (Ll 2 H Z Z Z Z a3.cells a3.one J) ?_)));rintro w H;replace H:=H.l8;refine Au (λh=>absurd h (by decide)) (C5 [12] J O (An (CI Z Z Z Z (DS Z (k:=2) (r:=2) J Z Z) (Au (λh=>absurd h (by decide)) (C5 [13] J O (An (Bg Z Z Z (JP 2 H Z Z Z Z a4.cells a4.one J) ?_)))))));rintro w H;replace H:=H.l8;refine Au (λh=>absurd h (by decide)) (KT J (gn (Z1 6 [] [(i:Int)+1] Z U ?_)));replace H:=H.f1.d.d.f5.f3.f3.f3.f5.f5;refine gf ?_;intro _ hF;refine ⟨⟨i+1,v5,v7⟩,hF.cz,⟨H,?_⟩,?_⟩
    ·dsimp only;omega
    omega
   refine Ca Z Z Z Z (AM H Z J Bz Z (by decide) (by decide) (out:=[I y]) J) ?_;rintro _ w ⟨b8,rfl,H⟩;replace H:=H.l8;refine Au (λ_=>(H.pick 8 [2] Z)) (C5 [4] J O (An (Ca Z Z Z Z (AY 6 H Z Z J Bz Z Z (H.rv 1 (·.rd U U O Z)) (by simp[Value.oneCell']) U) ?_)));rintro v9 w e;have e:Sep z (blk b8 [I y] 3::blk b4 [I x] 3::blk l [.bool lf,v,u] 249::blk t [.slice (some ⟨b,(o+(2+6*(i+1))),none⟩) (240-(2+6*(i+1))) (c-(2+6*(i+1)))] 243::A::grow 3 1 u i ((vs.take i).map I)::grow 3 1 v9 (i+1) ((a.take i).map I++[I x])::blk s [.bool false,.slice none 0 0,.slice none 0 0] 249::R) w:=e;have b7:((a.take i).map I++[I x]:List Value)=(a.take (i+1)).map I:=(D5 j);rw[b7] at e;have H:=e.l8;have b0:=H.sy 6 (·.slc);refine Au (λ_=>(H.pick 8 [2] Z)) (Iy 10 Z J J J J Z Z Z (DS Z (k:=1) (r:=1) J Z Z) (H.pick 8 [2] Z) (C5 [9] J O (An (Ca Z Z Z Z (AY 5 H Z Z J Bz Z Z (H.rv 0 (·.rd U U O Z)) (by simp[Value.oneCell']) U) ?_))));rintro b5 w e;have e:Sep z (blk b8 [I y] 3::blk b4 [I x] 3::blk l [.bool lf,v,u] 249::blk t [.slice (some ⟨b,(o+(2+6*(i+1))),none⟩) (240-(2+6*(i+1))) (c-(2+6*(i+1)))] 243::A::grow 3 1 b5 (i+1) ((vs.take i).map I++[I y])::grow 3 1 v9 (i+1) ((a.take (i+1)).map I)::blk s [.bool false,.slice none 0 0,.slice none 0 0] 249::R) w:=e;have a7:((vs.take i).map I++[I y]:List Value)=(vs.take (i+1)).map I:=(D5 hy);rw[a7] at e;have H:=e.l8;have p:=H.sy 5 (·.slc);refine Au (λ_=>(H.pick 8 [2] Z)) (C5 [11] J O (An (Bg Z Z Z (Ll 2 H Z Z Z Z b0.cells b0.one J) ?_)));rintro w H;replace H:=H.l8;refine Au (λh=>absurd h (by decide)) (C5 [12] J O (An (CI Z Z Z Z (DS Z (k:=2) (r:=2) J Z Z) (Au (λh=>absurd h (by decide)) (C5 [13] J O (An (Bg Z Z Z (JP 2 H Z Z Z Z p.cells p.one J) ?_)))))));rintro w H;replace H:=H.l8;refine Au (λh=>absurd h (by decide)) (KT J (gn (Z1 6 [] [(i:Int)+1] Z U ?_)));replace H:=H.f1.d.d.f5.f3.f3.f3.f5.f5;refine gf ?_;intro _ hF;refine ⟨⟨i+1,v9,b5⟩,hF.cz,⟨H,?_⟩,?_⟩
   ·dsimp only;omega
   omega
  refine Ca Z Z Z Z (AM H Z J Bz Z (by decide) (by decide) (out:=[I y]) J) ?_;rintro _ w ⟨a8,rfl,H⟩;replace H:=H.l7;refine Au (λ_=>(H.pick 7 [1] Z)) (C5 [3] J O (An (Ca Z Z Z Z (AM H Z J Bz Z (by decide) (by decide) (out:=[I x]) J) ?_)));rintro _ w ⟨a9,rfl,H⟩;replace H:=H.l8;refine Au (λ_=>(H.pick 8 [2] Z)) (C5 [4] J O (An (Ca Z Z Z Z (AY 6 H Z Z J Bz Z Z (H.rv 0 (·.rd U U O Z)) (by simp[Value.oneCell']) U) ?_)));rintro a1 w e;have e:Sep z (blk a9 [I x] 3::blk a8 [I y] 3::blk l [.bool lf,v,u] 249::blk t [.slice (some ⟨b,(o+(2+6*(i+1))),none⟩) (240-(2+6*(i+1))) (c-(2+6*(i+1)))] 243::A::grow 3 1 u i ((vs.take i).map I)::grow 3 1 a1 (i+1) ((a.take i).map I++[I x])::blk s [.bool false,.slice none 0 0,.slice none 0 0] 249::R) w:=e;have a5:((a.take i).map I++[I x]:List Value)=(a.take (i+1)).map I:=(D5 j);rw[a5] at e;have H:=e.l8;have a0:=H.sy 6 (·.slc);refine Au (λ_=>(H.pick 8 [2] Z)) (Iy 10 Z J J J J Z Z Z (DS Z (k:=1) (r:=1) J Z Z) (H.pick 8 [2] Z) (C5 [9] J O (An (Ca Z Z Z Z (AY 5 H Z Z J Bz Z Z (H.rv 1 (·.rd U U O Z)) (by simp[Value.oneCell']) U) ?_))));rintro a6 w e;have e:Sep z (blk a9 [I x] 3::blk a8 [I y] 3::blk l [.bool lf,v,u] 249::blk t [.slice (some ⟨b,(o+(2+6*(i+1))),none⟩) (240-(2+6*(i+1))) (c-(2+6*(i+1)))] 243::A::grow 3 1 a6 (i+1) ((vs.take i).map I++[I y])::grow 3 1 a1 (i+1) ((a.take (i+1)).map I)::blk s [.bool false,.slice none 0 0,.slice none 0 0] 249::R) w:=e;have a2:((vs.take i).map I++[I y]:List Value)=(vs.take (i+1)).map I:=(D5 hy);rw[a2] at e;have H:=e.l8;have n:=H.sy 5 (·.slc);refine Au (λ_=>(H.pick 8 [2] Z)) (C5 [11] J O (An (Bg Z Z Z (Ll 2 H Z Z Z Z a0.cells a0.one J) ?_)));rintro w H;replace H:=H.l8;refine Au (λh=>absurd h (by decide)) (C5 [12] J O (An (CI Z Z Z Z (DS Z (k:=2) (r:=2) J Z Z) (Au (λh=>absurd h (by decide)) (C5 [13] J O (An (Bg Z Z Z (JP 2 H Z Z Z Z n.cells n.one J) ?_)))))));rintro w H;replace H:=H.l8;refine Au (λh=>absurd h (by decide)) (KT J (gn (Z1 6 [] [(i:Int)+1] Z U ?_)));replace H:=H.f1.d.d.f5.f3.f3.f3.f5.f5;refine gf ?_;intro _ hF;refine ⟨⟨i+1,a1,a6⟩,hF.cz,⟨H,?_⟩,?_⟩
  ·dsimp only;omega
  omega
 obtain rfl:i=a.length:=by omega
 refine Zc 2 Z (gx (Zc 5 Z (z_E_ Z (call151 _) (KO _ b (o+(2+6*a.length)) (240-(2+6*a.length)) ((c-(2+6*a.length))) ((bd.drop (2+6*a.length)).take (240-(2+6*a.length))) _ (λh q=>by have:=(hA h q).cut (lo:=(2+6*a.length)) (m:=(240-(2+6*a.length))) (c':=(c-(2+6*a.length))) U U U;exact this) (.inr ⟨by omega,by rw[g];exact Qh f h8,by omega⟩)) H.f4.f4 ?_)));intro w H;replace H:=H.l6;refine Ab Z (AE Z Z) (Zc 2 Z (Ag Z (λh6=>?_) (λh6=>?_)))
 ·exact absurd (by rw[g];exact Qh f h8) h6
 refine Z2 5 [4,3] H Z (Az Z Z (Ak 5 H Z Z Z Z (vs:=[.bool lf,v,u]) Z (Ad Z (Ad sv.one (Ad su.one Aw))) J O (out:=[.bool lf,v,u]) Z) ?_);rintro w H;replace H:=H.l6;refine Zc 4 Z (Zl [5,3] H Z ?_);have e1:a.take a.length=a:=Ae2;have e2:vs.take a.length=vs:=by rw[f];exact Ae2
 rw[e1,e2] at H;exact ⟨_,⟨v,u,Z,Z⟩,H.perm 6 [3,2,1] Z Z⟩
def C3(C:Nat->Nat)(n:Nat):List Value:=(List.range n).map λk=>.int .i64 (C k:Int)
abbrev Cf(bn:Nat)(C:Nat->Nat)(n:Nat):Af:=blk bn (C3 C n) 3
abbrev coB(pc bn n m:Nat):Af:=blk pc [.slice (some ⟨bn,0,none⟩) n n,.map (some m)] 162
def updN(C:Nat->Nat)(p x:Nat):Nat->Nat:=λq=>if q=p then x else C q
theorem CW(C:Nat->Nat)(n:Nat):(C3 C n).length=n:=by simp[C3]
theorem cnL_at(C:Nat->Nat){n k:Nat}(h:k<n):(C3 C n)[k]?=some (I (C k:Int)):=by simp[C3,h]
theorem Jr(C:Nat->Nat){n k x:Nat}{y:Int}(h:k<n)(c:y=(x:Int)):(C3 C n).take k++[I y]++(C3 C n).drop (k+1)=C3 (updN C k x) n:=by
 subst c;have e:=Ae5 (l:=C3 C n) (i:=k) (a:=I (x:Int));rw[if_pos (by rw[CW];exact h)] at e;rw[Aec,AhG,<-e];refine Afk λj=>?_;rw[Afi];rcases Ael j n with b|b
 ·rw[cnL_at (updN C k x) b]
  split
  ·rename_i e1;subst e1;rw[if_pos (by rw[CW];exact h)];simp[updN]
  rename_i e1;rw[cnL_at C b];simp[updN,AfN e1]
 rw[AeC (by rw[CW];exact b),AeC (by rw[CW];exact b)];split
 ·rename_i e1;subst e1;rw[if_neg (by rw[CW];omega)]
 rfl
structure WasOk(C C0:Nat->Nat)(n:Nat)(l:List IE)(clk:Nat):Prop where
 clk:∀p∈l,p.2.2<clk
 born:(l.map λp:IE=>p.2.2).Nodup
 keys:(l.map λp:IE=>p.1).Nodup
 ent:∀p∈l,∃k:Nat,p.1=(k:Int)/\k<n/\p.2.1=.int .i64 (C0 k:Int)
 rest:∀k,k<n->(∀p∈l,p.1≠(k:Int))->C k=C0 k
theorem WasOk.nil(C:Nat->Nat)(n clk:Nat):WasOk C C n [] clk:=⟨by simp,by simp,by simp,by simp,λ_ _ _=>rfl⟩
theorem Mz:∀{l:List IE} {k:Int},CO l k=none->∀p∈l,p.1≠k
 | [],_,_,p,h=>by simp at h
 | q::l,k,h,p,hp=>by
  simp only[CO] at h;split at h
  ·cases h
  rename_i hne;rcases Aei.1 hp with rfl|hp
  ·exact λe=>hne e.symm
  exact Mz h p hp
theorem MA:∀{l:List IE} {k:Int} {v:Value},CO l k=some v->∃p∈l,p.1=k/\p.2.1=v
 | [],_,_,h=>by simp[CO] at h
 | q::l,k,v,h=>by
  simp only[CO] at h;split at h
  ·rename_i e;simp at h;exact ⟨q,by simp,e.symm,h⟩
  obtain ⟨p,hp,h1,h2⟩:=MA h;exact ⟨p,by simp[hp],h1,h2⟩
theorem Ol:∀{l:List IE} {p:IE},(l.map λp:IE=>p.1).Nodup->p∈l->CO l p.1=some p.2.1
 | [],p,_,h=>by simp at h
 | q::l,p,hn,h=>by
  simp only[AeE,Afc] at hn;simp only[CO];rcases Aei.1 h with rfl|h
  ·simp
  rw[if_neg (λe=>hn.1 (by rw[<-e];exact Aeh.2 ⟨p,h,Z⟩))];exact Ol hn.2 h
theorem WasOk.has{C C0:Nat->Nat}{n clk p:Nat}{l:List IE}(W:WasOk C C0 n l clk)(h:CP l (p:Int)=true)(x:Nat):WasOk (updN C p x) C0 n l clk:=by
 refine ⟨W.clk,W.born,W.keys,W.ent,λk b a=>?_⟩;unfold updN;split
 ·rename_i e;subst e
  obtain ⟨v,d⟩:=Ae3.1 h;obtain ⟨q,hq,c,_⟩:=MA d;exact absurd c (a q hq)
 exact W.rest k b a
theorem WasOk.put{C C0:Nat->Nat}{n clk p:Nat}{l:List IE}(W:WasOk C C0 n l clk)(hp:p<n)(h:CP l (p:Int)=false)(x:Nat):
  WasOk (updN C p x) C0 n (E4 l (p:Int) (I (C p:Int)) clk) (putC l (p:Int) clk):=by
 have f:∀q∈l,q.1≠(p:Int):=Mz (by unfold CP at h;simpa using h);have e1:E4 l (p:Int) (I (C p:Int)) clk=l++[((p:Int),I (C p:Int),clk)]:=by unfold E4;rw[h];rfl
 have e2:putC l (p:Int) clk=clk+1:=by unfold putC;rw[h];rfl
 have j:C p=C0 p:=W.rest p hp f;rw[e1,e2];refine ⟨λq hq=>?_,?_,?_,λq hq=>?_,λk i c=>?_⟩
 ·rcases Aek.1 hq with hq|hq
  ·have:=W.clk q hq;omega
  simp at hq;subst hq;simp
 ·rw[AeD,Ae4]
  refine ⟨W.born,by simp,λa g b d=>?_⟩;simp at d;subst d;obtain ⟨q,hq,rfl⟩:=Aeh.1 g;have:=W.clk q hq;omega
 ·rw[AeD,Ae4]
  refine ⟨W.keys,by simp,λa g b d=>?_⟩;simp at d;subst d;obtain ⟨q,hq,rfl⟩:=Aeh.1 g;exact f q hq
 ·rcases Aek.1 hq with hq|hq
  ·exact W.ent q hq
  simp at hq;subst hq;exact ⟨p,Z,hp,by rw[j]⟩
 unfold updN;split
 ·rename_i e;subst e
  exact absurd Z (c ((k:Int),I (C k:Int),clk) O)
 exact W.rest k i (λq hq=>c q (by simp[hq]))
theorem WasOk.len{C C0:Nat->Nat}{n clk:Nat}{l:List IE}(W:WasOk C C0 n l clk):l.length<=n:=by
 have h:=Jp (s:=l.map λp:IE=>p.1) (l:=(List.range n).map λk:Nat=>(k:Int)) W.keys (λx a=>by
  obtain ⟨p,hp,rfl⟩:=Aeh.1 a;obtain ⟨k,b,c,_⟩:=W.ent p hp;rw[b];exact Aeh.2 ⟨k,AfL.2 c,Z⟩)
 simpa using h
def manyN(n:Nat):Nat:=(n+119)/120
def Ev(C:Nat->Nat)(n i:Nat):List Int:=(List.range 120).map λk=>if 120*i+k<n then (C (120*i+k):Int) else 0
theorem Js(C:Nat->Nat)(n i:Nat):(Ev C n i).length=120:=by simp[Ev]
theorem Tl{C:Nat->Nat}(h:∀k,C k<=1000)(n i:Nat):∀x∈Ev C n i,0<=x/\x<=1000:=λx a=>by
 simp only[Ev,Aeh] at a;obtain ⟨k,_,rfl⟩:=a;split
 ·have:=h (120*i+k);omega
 omega
theorem Vn(C:Nat->Nat)(n i:Nat)(hi:120*i<n):(List.replicate 120 (I 0)).take 0++((C3 C n).drop (120*i)).take (min (n-120*i) 120)++(List.replicate 120 (I 0)).drop (0+min (n-120*i) 120)=(Ev C n i).map I:=by
 rw[Afz,AeL,AfH];refine Afk λj=>?_;have b:(((C3 C n).drop (120*i)).take (min (n-120*i) 120)).length=min (n-120*i) 120:=by rw[Aes,AeG,CW];omega
 rcases Ael j 120 with a|a
 ·have c:((Ev C n i).map I)[j]?=some (I (if 120*i+j<n then (C (120*i+j):Int) else 0)):=by simp[Ev,a]
  rw[c];rcases Ael j (min (n-120*i) 120) with h|h
  ·rw[Aeg U,AeS,if_pos h,Aff,cnL_at C U,if_pos U]
  rw[Aen U,b,Aff,Ahz,if_pos U,if_neg U]
 rw[AeC (by rw[Ad9,b,AeG,Afd];omega),AeC (by simp[Ev];omega)]
theorem YC(C:Nat->Nat)(n:Nat):∀c∈C3 C n,c.oneCell'=true:=λc a=>by
 simp only[C3,Aeh] at a;obtain ⟨k,_,rfl⟩:=a;rfl
def HJ(C:Nat->Nat)(i:Nat)(ns:List Int)(j:Nat):Nat->Nat:=λp=>if p/120=i/\p%120<j then (ns.getD (p%120) 0).toNat else C p
theorem Vo(C:Nat->Nat)(i:Nat)(ns:List Int):HJ C i ns 0=C:=by funext p;simp[HJ]
theorem Vp(C:Nat->Nat){i j:Nat}{ns:List Int}{x:Int}(b:j<120)(a:ns[j]?=some x)(c:0<=x):updN (HJ C i ns j) (120*i+j) x.toNat=HJ C i ns (j+1):=by
 funext p;unfold updN HJ;split
 ·rename_i e;subst e
  rw[if_pos ⟨by omega,by omega⟩,show (120*i+j)%120=j by omega];simp[List.getD,a]
 rename_i e;by_cases h:p/120=i/\p%120<j
 ·rw[if_pos h,if_pos ⟨h.1,by omega⟩]
 rw[if_neg h,if_neg (λq=>h ⟨q.1,by omega⟩)]
theorem Vq(C:Nat->Nat){n i j:Nat}{ns:List Int}(h:n<=120*i+j)(a:j<120):C3 (HJ C i ns j) n=C3 (HJ C i ns (j+1)) n:=by
 refine Afk λp=>?_;rcases Ael p n with hp|hp
 ·rw[cnL_at _ hp,cnL_at _ hp]
  unfold HJ;by_cases q:p/120=i/\p%120<j
  ·rw[if_pos q,if_pos ⟨q.1,by omega⟩]
  rw[if_neg q,if_neg (λr=>q ⟨r.1,by omega⟩)]
 rw[AeC (by rw[CW];exact hp),AeC (by rw[CW];exact hp)]
def Ha(C C0:Nat->Nat)(s:List IE):Nat->Nat:=λk=>if s.any (λp=>decide (p.1=(k:Int))) then C0 k else C k
theorem YD(C C0:Nat->Nat):Ha C C0 []=C:=by funext k;simp[Ha]
theorem Vr(C C0:Nat->Nat){s:List IE}{p:IE}{k:Nat}(a:p.1=(k:Int)):updN (Ha C C0 s) k (C0 k)=Ha C C0 (s++[p]):=by
 funext q;unfold updN Ha;rw[List.any_append];have b:([p]:List IE).any (λp=>decide (p.1=(q:Int)))=decide (k=q):=by
  simp[a];omega
 rw[b];split
 ·rename_i e;subst e;simp
 rename_i e;have:decide (k=q)=false:=decide_eq_false (λh=>e h.symm);rw[this,Bool.or_false]
theorem YE{C C0:Nat->Nat}{n clk:Nat}{l s:List IE}(W:WasOk C C0 n l clk)(hs:s.Perm l):C3 (Ha C C0 s) n=C3 C0 n:=by
 refine Afk λk=>?_;rcases Ael k n with a|a
 ·rw[cnL_at _ a,cnL_at _ a]
  unfold Ha;split
  ·rfl
  rename_i h;rw[W.rest k a (λp hp e=>h (by
   rw[Ahq];exact ⟨p,hs.mem_iff.2 hp,by simpa using e⟩))]
 rw[AeC (by rw[CW];exact a),AeC (by rw[CW];exact a)]
def unA(b1 pc bn m n:Nat)(C C0:Nat->Nat)(l s:List IE):Af:=λh=>((∀p∈s,p∈l)/\(s.map λp:IE=>p.2.2).Nodup)/\seps [blk b1 [.pointer (some ⟨pc,0,none⟩)] 90,blk pc [.slice (some ⟨bn,0,none⟩) n n,.map (some m)] 162,blk bn (C3 (Ha C C0 s) n) 3] h
theorem Sep.un{z w:World}{Γ:List Af}{c a b m n:Nat}{C C0:Nat->Nat}{l s:List IE}(H:Sep z (unA c a b m n C C0 l s::Γ) w):((∀p∈s,p∈l)/\(s.map λp:IE=>p.2.2).Nodup)/\Sep z (YtnifkcmmanmbbaaGreatDoor.blk c [Y a] 90::YtnifkcmmanmbbaaGreatDoor.blk a [.slice (some ⟨b,0,none⟩) n n,.map (some m)] 162::YtnifkcmmanmbbaaGreatDoor.blk b (C3 (Ha C C0 s) n) 3::Γ) w:=by
 obtain ⟨_,hp,d⟩:=H.into (σ:=Unit) (p:=λ_=>(∀p∈s,p∈l)/\(s.map λp:IE=>p.2.2).Nodup) (As:=λ_=>[YtnifkcmmanmbbaaGreatDoor.blk c [Y a] 90,YtnifkcmmanmbbaaGreatDoor.blk a [.slice (some ⟨b,0,none⟩) n n,.map (some m)] 162,YtnifkcmmanmbbaaGreatDoor.blk b (C3 (Ha C C0 s) n) 3]) (λh q=>⟨(),q.1,q.2⟩);exact ⟨hp,d⟩
theorem Sep.toUn{z w:World}{Γ:List Af}{c a b m n:Nat}{C C0:Nat->Nat}{l s:List IE}(H:Sep z (YtnifkcmmanmbbaaGreatDoor.blk c [Y a] 90::YtnifkcmmanmbbaaGreatDoor.blk a [.slice (some ⟨b,0,none⟩) n n,.map (some m)] 162::YtnifkcmmanmbbaaGreatDoor.blk b (C3 (Ha C C0 s) n) 3::Γ) w)(d:(∀p∈s,p∈l)/\(s.map λp:IE=>p.2.2).Nodup):Sep z (unA c a b m n C C0 l s::Γ) w:=
 H.made 3 (A:=unA c a b m n C C0 l s) (λh q=>⟨d,q⟩)
theorem Sep.permut{z w:World}{Γ Γ':List Af}(p:Γ.Perm Γ'):∀Δ:List Af,Sep z (Δ++Γ) w->Sep z (Δ++Γ') w:=by
 induction p with
 | nil=>exact λ_ H=>H
 | cons a _ ih=>
  intro Δ H;have:=ih (Δ++[a]) (by rw[Aec];exact H);rw[Aec] at this;exact this
 | swap a b l=>
  intro Δ H;have c:Sep z (b::a::(l++Δ)) w:=H.swap;have d:Sep z ((a::b::l)++Δ) w:=c.pick 2 [1,0] Z;exact d.swap
 | trans _ _ ih1 ih2=>exact λΔ H=>ih2 Δ (ih1 Δ H)
theorem Vs{z w:World}{A B C:Af}{R:List Af}(H:Sep z (A::B::C::R) w):Sep z ((A::R)++[B,C]) w:=
 Sep.permut (Afe A (AfZ (l₁:=[B,C]) (l₂:=R))) [] H
theorem YF{z w:World}{A1 A2 a B C:Af}{R F:List Af}(H:Sep z (A1::A2::a::(R++([B,C]++F))) w):Sep z (A1::A2::a::B::C::(R++F)) w:=
 Sep.permut (Ag9 R [B,C] F) [A1,A2,a] H
theorem YG{z w:World}{A B C:Af}{R F:List Af}(H:Sep z (A::B::C::(R++F)) w):Sep z ((A::R)++([B,C]++F)) w:=
 Sep.permut (Ag9 [B,C] R F) [A] H
theorem Abw{z w:World}{D A B C:Af}{R:List Af}(H:Sep z (D::((A::R)++[B,C])) w):Sep z (A::D::B::C::R) w:=
 Sep.permut ((AfR A D _).trans (Afe A (Afe D (AfZ (l₁:=R) (l₂:=[B,C]))))) [] H
theorem Vt{L:List Int}{rest:List Value}{k:Nat}{x:Int}(b:k<L.length):(L.map I++rest).take k++[I x]++(L.map I++rest).drop (k+1)=(L.set k x).map I++rest:=by
 rw[Aeo (by simp;omega),AeO (by simp;omega)];have e:=Ae5 (l:=L) (i:=k) (a:=x);rw[if_pos b] at e;rw[e];simp[Afj,AfP]
theorem GP{L:List Int}{rest:List Value}{k:Nat}{x:Int}(a:L[k]?=some x):(L.map I++rest)[k]?=some (I x):=by
 rw[Aeg (by simpa using (Ad6.1 a).1),Aej,a];rfl
structure CpI(ys:List Int)(n k0 k j:Nat)(L:List Int):Prop where
 k0k:k0<=k
 kj:k+1<=k0+j
 j1:1<=j
 jn:k0+j<=n
 len:L.length=n
 same:∀i,k0+j<=i+1->L[i]?=ys[i]?
 mem:∀x,x∈L.take k↔x∈ys.take (k0+j)
theorem EZ{l:List Int}{k:Nat}{x:Int}(h:l[k]?=some x)(z:Int):z∈l.take (k+1)↔z∈l.take k\/z=x:=by
 rw[AeH,h];simp
theorem CpI.start{ys:List Int}{n k:Nat}{x:Int}(d:ys.length=n)(f:1<=k)(c:k<n)(b:ys[k]?=some x)(a:ys[k-1]?=some x):CpI ys n k k 1 ys:=by
 refine ⟨Aed _,Aed _,Aed _,by omega,d,λ_ _=>rfl,λz=>?_⟩;rw[EZ b];refine ⟨.inl,λh=>h.elim id λe=>?_⟩;subst e;exact Ahn.2 ⟨k-1,by have:=(Ad6.1 a).1;omega,(Ad6.1 a).2⟩
theorem CpI.skip{ys L:List Int}{n a k j:Nat}{x:Int}(I_:CpI ys n a k j L)(b:ys[a+j]?=some x)(c:ys[a+(j-1)]?=some x):CpI ys n a k (j+1) L:=by
 have f:=I_.j1;have d:=(Ad6.1 b).1;refine ⟨I_.k0k,by have:=I_.kj;omega,by omega,?_,I_.len,λi hi=>I_.same i U,λz=>?_⟩
 ·have hs:=I_.same (a+j) U
  rw[b] at hs;have:=(Ad6.1 hs).1;have:=I_.len;omega
 rw[<-Af5,EZ b,I_.mem z];refine ⟨.inl,λh=>h.elim id λe=>?_⟩;subst e;exact Ahn.2 ⟨a+(j-1),by have:=(Ad6.1 c).1;omega,(Ad6.1 c).2⟩
theorem CpI.put{ys L:List Int}{n a k j:Nat}{x:Int}(I_:CpI ys n a k j L)(c:ys[a+j]?=some x):CpI ys n a (k+1) (j+1) (L.set k x):=by
 have g:=I_.j1;have f:=I_.kj;have b:=I_.len;have hs:=I_.same (a+j) U;rw[c] at hs;have d:=(Ad6.1 hs).1;have e:(L.set k x)[k]?=some x:=by rw[Afi];simp;omega
 refine ⟨by have:=I_.k0k;omega,by omega,by omega,by omega,by simpa using I_.len,λi hi=>?_,λz=>?_⟩
 ·rw[Afi,if_neg U];exact I_.same i U
 rw[EZ e,<-Af5,EZ c,<-I_.mem z,List.take_set_of_le (Aed _)]
def Fj(C C0:Nat->Nat)(s:List IE):List Int:=(s.filter λp=>decide (C0 p.1.toNat≠C p.1.toNat)).map λp=>p.1/120
theorem Qi{C C0:Nat->Nat}{s:List IE}{p:IE}{k:Nat}(a:p.1=(k:Int))(h:(C0 k:Int)≠(C k:Int)):Fj C C0 (s++[p])=Fj C C0 s++[(k:Int)/120]:=by
 unfold Fj;have:decide (C0 k≠C k)=true:=decide_eq_true (λe=>h (by rw[e]));rw[AfI,AeD];congr 1;simp only[List.filter,a,AeZ,this];simp[a]
theorem Vu{C C0:Nat->Nat}{s:List IE}{p:IE}{k:Nat}(a:p.1=(k:Int))(h:(C0 k:Int)=(C k:Int)):Fj C C0 (s++[p])=Fj C C0 s:=by
 unfold Fj;have:decide (C0 k≠C k)=false:=decide_eq_false (λe=>e U);rw[AfI,AeD];simp only[List.filter,a,AeZ,this];simp
theorem Abx(C C0:Nat->Nat)(s:List IE):(Fj C C0 s).length<=s.length:=by unfold Fj;rw[Aea];exact AfO _ _
theorem YH{C C0:Nat->Nat}{n clk:Nat}{l s:List IE}(W:WasOk C C0 n l clk)(hs:s.Perm l)(x:Int):x∈Fj C C0 s↔∃k:Nat,k<n/\C k≠C0 k/\x=((k/120:Nat):Int):=by
 unfold Fj;simp only[Aeh,Ae6,decide_eq_true_eq];constructor
 ·rintro ⟨p,⟨hp,a⟩,rfl⟩
  obtain ⟨k,b,f,_⟩:=W.ent p (hs.mem_iff.1 hp);rw[b,AeZ] at a;exact ⟨k,f,λe=>a e.symm,by rw[b];omega⟩
 rintro ⟨k,d,a,rfl⟩;have:∃p∈l,p.1=(k:Int):=by
  refine Ae8 λc=>a (W.rest k d λp hp e=>c ⟨p,hp,e⟩)
 obtain ⟨p,hp,b⟩:=this;exact ⟨p,⟨hs.mem_iff.2 hp,by rw[b,AeZ];exact λe=>a e.symm⟩,by rw[b];omega⟩
theorem Xp(n:Int):Cn prog 91 [I n] [] (λv Γ=>v=.bool (decide (16<=n/\n<=1024))/\Γ=[]):=by
 intro z R w H;replace H:=H.l0;refine Ae func91 Z ntmps91 Z (Z0 10 [0] Z (Al 5 Z (λa=>?_) (λa=>?_)))
 ·refine Z0 7 [0] Z (Zr Z ?_);exact ⟨_,⟨congrArg Value.bool (by first|(rw[Aer];simp<;>omega)|(simp<;>omega)),Z⟩,H⟩
 refine Zc 7 Z (Zr Z ?_);exact ⟨_,⟨congrArg Value.bool (by first|(rw[Aer];simp<;>omega)|(simp<;>omega)),Z⟩,H⟩
theorem Ga(n:Nat)(b:16<=n/\n<=1024):Cn prog 43 [I (n:Int)] [] (λv Γ=>v=I (manyN n:Int)/\Γ=[]):=by
 intro z R w H;replace H:=H.l0;refine Ae func43 Z ntmps43 Z (Zc 9 Z (z_E_ Z (call91 _) (Xp _) H ?_));intro w H;replace H:=H.l0;refine Ab Z (AE Z Z) (Zc 2 Z (Ag Z (λa=>U) (λa=>?_)));refine Z1 12 [] [(n:Int)+120,((n:Int)+120)-1,(((n:Int)+120)-1)/120] Z U (Zr Z ?_);exact ⟨_,⟨congrArg I (by unfold manyN;omega),Z⟩,H⟩
theorem Tm(n:Nat)(h:16<=n/\n<=1024):Cn prog 42 [I (n:Int)] [] (λv Γ=>∃a b m:Nat,v=.tuple #[Y a,I 0]/\Γ=[coB a b n m,Cf b (λ_=>0) n,AH m [] 0]):=by
 intro z R w H;replace H:=H.l0;refine Ae func42 Z ntmps42 Z (Zc 10 Z (z_E_ Z (call91 _) (Xp _) H ?_));intro w H;replace H:=H.l0;refine Ab Z (AE Z Z) (Zc 2 Z (Ag Z (λd=>U) (λd=>?_)));refine Zc 5 Z (AQ Z (Em (k:=n) H Z J Bz Z Z Z U) ?_);rintro _ w ⟨g,rfl,H⟩;replace H:=H.l1;refine AQ Z (F5 H Z) ?_;rintro _ w ⟨e,rfl,H⟩;replace H:=H.l2;refine Za 1 [] H Z ?_;intro f w H;refine Zc 5 Z (Zr Z ?_);have c:List.replicate n (I 0)=C3 (λ_=>0) n:=by
   unfold C3;rw[List.map_const',List.length_range];rfl
 rw[c] at H;exact ⟨_,⟨f,g,e,Z,Z⟩,H.perm 3 [0,2,1] Z Z⟩
theorem Fz(b a m n:Nat)(C:Nat->Nat)(p:Nat)(hp:p<n)(e:16<=n/\n<=1024):Cn prog 100 [Y b,I (p:Int)] [coB b a n m,Cf a C n] (λv Γ=>v=I (C p:Int)/\Γ=[coB b a n m,Cf a C n]):=by
 intro z R w H;replace H:=H.l2;refine Ae func100 Z ntmps100 Z (Z0 11 [0] Z (Al 7 Z (λc=>U) (λc=>?_)));refine Z2 10 [0,0,0,0] H Z (Ag Z (λd=>U) (λd=>?_));refine Z3 10 [0,0,0,1,p,p] [] H Z U (Ab Z (Bf Z Z J (Ay (H.cel 1 Z p (cnL_at _ U)))) (Zc 4 Z (Zr Z ?_)));exact ⟨_,⟨Z,Z⟩,H⟩
theorem IW(c b m n:Nat)(C:Nat->Nat)(C0:Nat->Nat)(l:List IE)(clk p x:Nat)(y:Int)(hp:p<n)(hn:16<=n/\n<=1024)(t:(C p:Int)+y=x)(h:x<=1000)(u:C p<=1000)(W:WasOk C C0 n l clk):Cn prog 44 [Y c,I (p:Int),I y] [coB c b n m,Cf b C n,AH m l clk] (λv Γ=>∃(f:List IE) (a:Nat),WasOk (updN C p x) C0 n f a/\v=I 0/\Γ=[coB c b n m,Cf b (updN C p x) n,AH m f a]):=by
 intro z R w H;replace H:=H.l3;refine Ae func44 Z ntmps44 Z (Z0 11 [0] Z (Al 11 Z (λi=>U) (λi=>?_)));refine Z2 10 [0,0,0,0] H Z (Ag Z (λq=>U) (λq=>?_));refine Z3 12 [0,0,0,1,p,p] [] H Z U (Ab Z (Bf Z Z J (Ay (H.cel 1 Z p (cnL_at _ U)))) (Z1 3 [0] [1000-(C p:Int)] Z U (Al 30 Z (λj=>U) (λj=>?_))));refine Z3 7 [0,0,0,1,p,p] [] H Z U (Ab Z (Bf Z Z J (Ay (H.cel 1 Z p (cnL_at _ U)))) (Ab Z (PF Z Z (r:= -(C p:Int)) U U) (Z0 4 [0] Z (Ag Z (λs=>U) (λs=>?_)))));refine Z2 10 [1,0,0] H Z (Ab Z (DI (e:=3) (zv:=I 0) Z J J Z Z (Ay (H.bk 2 Z))) (Zc 13 Z (Ep Z (λd=>?_) (λd=>?_))))
 ·have o:CP l (p:Int)=false:=by simpa using d
  refine BG 12 J J (A5 H λw k=>?_);have H:=k.l3;refine EQ 11 [1,0,0,0,0,0,1,p,p] [] H Z J U (B9 Z Z Z (Bf Z Z J (Ay (H.cel 1 Z p (cnL_at _ U)))) (CD (gw (Az Z Z (DN 2 (e:=3) H Z Z J Z Z Z) ?_))));rintro w H;replace H:=H.l3;refine Z3 10 [0,0,0,1,p,p] [] H Z U (Ab Z (Bf Z Z J (Ay (H.cel 1 Z p (cnL_at _ U)))) (Z1 3 [1,p,p] [(x:Int)] Z U (Az Z Z (Ak 1 H Z Z Z Z (vs:=[I (x:Int)]) Z (Ad Z Aw) J (by simp only[CW,Aeb,Aew];omega) (out:=C3 (updN C p x) n) (Jr _ U Z)) ?_)));rintro w H;replace H:=H.l3;refine Zc 8 Z (Zr Z ?_);exact ⟨_,⟨_,_,W.put hp o x,Z,Z⟩,H⟩
 have g:CP l (p:Int)=true:=by simpa using d
 refine Z3 10 [0,0,0,1,p,p] [] H Z U (Ab Z (Bf Z Z J (Ay (H.cel 1 Z p (cnL_at _ U)))) (Z1 3 [1,p,p] [(x:Int)] Z U (Az Z Z (Ak 1 H Z Z Z Z (vs:=[I (x:Int)]) Z (Ad Z Aw) J (by simp only[CW,Aeb,Aew];omega) (out:=C3 (updN C p x) n) (Jr _ U Z)) ?_)));rintro w H;replace H:=H.l3;refine Zc 8 Z (Zr Z ?_);exact ⟨_,⟨_,_,W.has g x,Z,Z⟩,H⟩
theorem Tn(a b m n:Nat)(l:List IE)(clk:Nat):Cn prog 206 [Y a] [coB a b n m,AH m l clk] (λv Γ=>v=.tuple #[]/\Γ=[coB a b n m,AH m [] clk]):=by
 intro z R w H;replace H:=H.l2;refine Ae func206 Z ntmps206 Z (Z2 5 [1,0,0] H Z (Ky Z Z (Jh 1 (e:=3) H Z Z J Z) ?_));rintro _ w ⟨rfl,H⟩;replace H:=H.l2;refine Zc 1 Z (Zf Z ?_);exact ⟨_,⟨Z,Z⟩,H⟩
theorem Qj(e b m n:Nat)(C:Nat->Nat)(i:Nat)(hi:i<manyN n)(o:16<=n/\n<=1024)(j:∀k,C k<=1000):Cn prog 45 [Y e,I (i:Int)] [coB e b n m,Cf b C n] (λv Γ=>∃a:Nat,v=.slice (some ⟨a,0,none⟩) 240 240/\Γ=[blk a (A4 (AJ (KU (Ev C n i))) ((2*120:Nat):Int)) 154,coB e b n m,Cf b C n]):=by
 intro z R w H;replace H:=H.l2;have d:120*i<n:=by unfold manyN at hi;omega
 refine Ae func45 Z ntmps45 Z (Z0 11 [0] Z (Al 10 Z (λf=>U) (λf=>?_)));refine Z2 6 [0,0,0] H Z (z_E_ Z (call43 _) (Ga _ U) H ?_);intro w H;refine Z0 4 [0] Z (Ag Z (λl=>U) (λl=>?_));refine Zc 4 Z (AQ Z (Em (k:=120) H Z J Bz Z Z Z U) ?_);rintro _ w ⟨r,rfl,H⟩;replace H:=H.l3;refine Z3 12 [0,1,0] [(i:Int)*120] H Z U (Ab Z (BK Z (z:=1) (p:=(120*i)) (q:=n) (o':=120*i) (l':=(n-120*i)) (c':=(n-120*i)) J Z (.inr ⟨_,_,_,Z,Z,U⟩) (.inl ⟨Z,Z⟩) U U U U U U) (AQ Z (XJ 0 H Z Z J Z Z (m:=(n-120*i)) (news:=((C3 C n).drop (120*i))) (.inl (H.rv 2 (·.rd U U (by rw[CW];omega) (by rw[AeK];exact Aee (by rw[AeG,CW];omega))))) (λc g=>YC C n c (Afo g)) (by rw[Afd];omega) (k:=(min (n-120*i) 120)) Z (out:=((Ev C n i).map I)) (Vn C n i d)) ?_));rintro _ w ⟨rfl,H⟩;replace H:=H.l3;refine Zc 5 Z (Aq Z (call92 _) (Pv _ (Ev C n i) (Js _ _ _) (Tl j _ _) _ (λh q=>q.rd U U (by simp[Ev]) (by rw[Aep];exact Aee (by simp[Ev])))) H ?_);rintro _ w _ ⟨a,rfl,rfl⟩ H;refine Zc 14 Z (Zr Z ?_);exact ⟨_,⟨a,Z,Z⟩,H.perm 4 [0,2,3] Z Z⟩
theorem YI(p l m n:Nat)(C:Nat->Nat)(clk i:Nat)(hi:i<manyN n)(hn:16<=n/\n<=1024)(b o c:Nat)(bd:List UInt8)(A:Af)(hA:∀h,A h->rdH 1 (.slice (some ⟨b,o,none⟩) 240 c) 240 (bd.map u8) h)(ns:List Int)(a1:ns.length=120)(d:∀x∈ns,0<=x/\x<=1000)(a0:bd=KU ns)(hz:∀(k:Nat) (x:Int),ns[k]?=some x->n<=120*i+k->x=0):Cn prog 99 [Y p,I (i:Int),.slice (some ⟨b,o,none⟩) 240 c] [coB p l n m,Cf l C n,AH m ([]) clk,A] (λv Γ=>v=I 0/\Γ=[coB p l n m,Cf l (HJ C i ns 120) n,AH m [] clk,A]):=by
 intro z R w H;replace H:=H.l4;have a4:120*i<n:=by unfold manyN at hi;omega
 refine Ae func99 Z ntmps99 Z (Z0 11 [0] Z (Al 16 Z (λh1=>U) (λh1=>?_)));refine Z2 6 [0,0,0] H Z (z_E_ Z (call43 _) (Ga _ U) H ?_);intro w H;refine Z0 4 [0] Z (Ag Z (λh2=>U) (λh2=>?_));refine Zc 5 Z (Aq Z (call148 _) (Pw _ _ _ bd _ hA ns a1 d a0) H.f3 ?_);rintro _ w _ ⟨v1,rfl,rfl⟩ H;refine Zc 19 Z ?_;have a2:=H.sy 0 (·.slc);obtain ⟨a,f,rfl⟩:=a2;refine Zc 7 Z ?_;refine AD (σ:=Nat) (λj=>[(35,I (j:Int)),(0,Y p),(1,I (i:Int)),(7,.slice a 120 f),(33,.slice a 120 f),(34,I 120)])
   (λj w=>Sep z (grow 3 1 (.slice a 120 f) 120 (ns.map I)::A::coB p l n m::Cf l C n::AH m ([]) clk::R) w/\(j<=120)) (λj=>120-j) 0
   fr_z ⟨H,by omega⟩ ?_
 clear H;rintro j w ⟨H',t⟩;have H:=H'.l5;have hj:=t;clear t;refine Z0 6 [0] Z (Ag Z (λh3=>?_) (λh3=>?_))
 ·obtain ⟨x,q⟩:∃x,ns[j]?=some x:=⟨_,Ad7 U⟩;have y:=d x (Ad8 q)
  refine Zc 7 Z ?_;have g:=(H.rv 0 (·.rd)).at (j:=j) (u:=I x) (by simp[q]);refine Ab Z (Aj Z (z:=1) (j:=j) (r:=j) J Z Z Z U g U) (Ab Z (Ax Z Z J (Ay g)) (Z0 9 [0] Z (Al 42 Z (λh4=>U) (λh4=>?_))));refine Z0 3 [0] Z (Al 45 Z (λh5=>?_) (λh5=>?_))
  ·refine Z3 14 [0,2,0,0] [(i:Int)*120,((i:Int)*120)+(j:Int)] H Z U (Ag Z (λh6=>?_) (λh6=>?_))
   ·(exfalso;have:=hz j x q;omega)
   refine Z1 7 [] [(j:Int)+1] Z U (gf ?_);intro _ s;refine ⟨(j+1),s.cz,⟨H,?_⟩,?_⟩
   ·omega
   omega
  refine Z1 22 [] [(j:Int)+1] Z U (gf ?_);intro _ s;refine ⟨(j+1),s.cz,⟨H,?_⟩,?_⟩
  ·omega
  omega
 obtain rfl:j=120:=by omega
 refine Zc 2 Z (gx (Zc 11 Z ?_));refine AD (σ:=Nat) (λj=>[(61,I (j:Int)),(0,Y p),(1,I (i:Int)),(59,.slice a 120 f),(60,I 120)])
   (λj w=>Sep z (grow 3 1 (.slice a 120 f) 120 (ns.map I)::A::coB p l n m::Cf l (HJ C i ns j) n::AH m ([]) clk::R) w/\(j<=120)) (λj=>120-j) 0
   fr_z ⟨(by rw[Vo];exact H),by omega⟩ ?_
 clear H;rintro j w ⟨H',t⟩;have H:=H'.l5;have hj:=t;clear t;refine Z0 6 [0] Z (Ag Z (λh7=>?_) (λh7=>?_))
 ·obtain ⟨x,q⟩:∃x,ns[j]?=some x:=⟨_,Ad7 U⟩;have y:=d x (Ad8 q)
  refine Zc 7 Z ?_;have g:=(H.rv 0 (·.rd)).at (j:=j) (u:=I x) (by simp[q]);refine Ab Z (Aj Z (z:=1) (j:=j) (r:=j) J Z Z Z U g U) (Ab Z (Ax Z Z J (Ay g)) (Z3 24 [0,2,0,0] [(i:Int)*120,((i:Int)*120)+(j:Int)] H Z U (Ag Z (λh8=>?_) (λh8=>?_))))
  ·refine Z3 9 [0,2,0,1,(120*i+j),120*i+j] [] H Z U (Az Z Z (Ak 3 H Z Z Z Z (vs:=[I x]) Z (Ad Z Aw) J (by simp only[CW,Aeb,Aew];omega) (out:=C3 (HJ C i ns (j+1)) n) ((Jr (x:=x.toNat) _ U U).trans (by rw[Vp C U q y.1]))) ?_);rintro w H;replace H:=H.l5;refine Z2 8 [1,2,0] H Z (Ky Z Z (Nu 4 (e:=3) H Z Z J Z Z) ?_);rintro _ w ⟨rfl,H⟩;replace H:=H.l5;refine Z1 7 [] [(j:Int)+1] Z U (gf ?_);intro _ s;refine ⟨(j+1),s.cz,⟨H,?_⟩,?_⟩
   ·omega
   omega
  refine Z1 7 [] [(j:Int)+1] Z U (gf ?_);intro _ s;refine ⟨(j+1),s.cz,⟨(by dsimp only[Cf];rw[<-Vq C U U];exact H),?_⟩,?_⟩
  ·omega
  omega
 obtain rfl:j=120:=by omega
 refine Zc 2 Z (gx (Zc 8 Z (Zr Z ?_)));exact ⟨_,⟨Z,Z⟩,H.perm 5 [2,3,4,1] Z Z⟩
theorem Vv(g m clk:Nat)(l:List IE)(f:∀p∈l,p.2.2<clk)(o:(l.map λp:IE=>p.2.2).Nodup):Xh prog 261 [Y g] [blk g [.map (some m)] 160,AH m l clk] (Abn l) [] (Rw l):=by
 intro z k J_ n w a;have H:=a.l2;refine JY (args:=[.func (.yield k) #[] #[],Y g]) func261 Z Z 14 ntmps261 Z ?_;refine CR ?_;refine Ce ?_;refine s_do Z Z Z (Bf Z Z J (Ay (H.cel 0 Z 0 Z))) ?_;refine E3 Z Z Z (HD 1 (e:=3) H Z Z J Z) ?_;rintro _ w ⟨i,rfl,a⟩;have H:=a.l3;refine AP ?_;refine D9 ?_;refine LE (σ:=List IE) (λs=>[(0,.func (.yield k) #[] #[]),(5,Y i)])
  (λs w=>Sep z (GG i m clk (s.map λp:IE=>p.2.2)::blk g [.map (some m)] 160::AH m l clk::J_ s) w/\(True)) (λs=>(Ck l (s.map λp:IE=>p.2.2)).length) ([])
  (λ_ d=>(d.all Z)) ⟨H,trivial⟩ ?_
 clear H;rintro s w ⟨a,q⟩;have H:=a.l3;refine CR ?_;refine Ce ?_;refine E3 Z Z Z (IM 0 2 H Z Z Z Z f) ?_;rintro _ w ⟨j,rfl,b,a⟩;have H:=a.l3;refine s_do Z Z Z (KC Z Z) ?_;refine AP ?_;refine CR ?_;refine Jg Z (λh=>?_) (λh=>?_)
 ·-- yes:j.isSome
  obtain ⟨c,rfl⟩:=Ae3.1 h;refine Gr ?_;refine D9 ?_;refine CR ?_;refine Ce ?_;refine s_do Z Z Z (HE (p:=c) Z Z (Ay ⟨H.bk 0 Z,H.bk 2 Z⟩) (C6 b).1 o) ?_;refine s_do Z Z Z (Fe Z Z Z) ?_;refine s_do Z Z Z (Bi Z Z) ?_;refine AP ?_;refine CR ?_;refine JX ?_;refine Eq Z Z Z (Ci Z Z) ?_;refine Eq Z Z Z (Ci Z Z) ?_;replace H:=H.f2.f2;refine LG Z Z Z Z Z Z (n s _ (s++[c]) [GG i m clk ((s.map λp:IE=>p.2.2)++[c.2.2])] ⟨c,b,Z,Z⟩ _ H) ?_;rintro _ w ⟨rfl,a⟩;refine ⟨_,Z,?_⟩;have H:=a.l3;refine Eq Z Z Z (Km Z Z) ?_;refine Rk ?_;refine Ip Z ?_;refine Gr ?_;replace H:=H.f1.f1.f2;intro _ d;refine ⟨(s++[c]),(d.all Z),⟨(by rw[AeD];exact H),?_⟩,?_⟩
  ·trivial
  (have:=EB b;rwa[show (s++[c]).map (λp:IE=>p.2.2)=(s.map λp:IE=>p.2.2)++[c.2.2] from by simp])
 -- no:j.isSome
 obtain rfl:j=none:=by simpa using h
 refine LD ?_;refine IF ?_;exact λ_ d=>⟨d.defers,s,b,H.perm 3 [1,2] Z Z⟩
theorem YJ(m:Nat):Cn prog 236 [.map (some m)] [] (λv Γ=>∃a:Nat,v=.func (.func 261) #[] #[Y a]/\Γ=[blk a [.map (some m)] 160]):=by
 intro z R w H;replace H:=H.l0;refine Ae func236 Z ntmps236 Z (Za 2 [] H Z ?_);intro b w H;refine Zc 5 Z (Ab Z (C4 Z Z Z) (Zc 4 Z (Zr Z ?_)));exact ⟨_,⟨b,Z,Z⟩,H⟩
theorem YK(c d m n:Nat)(C:Nat->Nat)(C0:Nat->Nat)(l:List IE)(clk:Nat)(W:WasOk C C0 n l clk):Cn prog 203 [Y c] [coB c d n m,Cf d C n,AH m l clk] (λv Γ=>v=.tuple #[]/\Γ=[coB c d n m,Cf d C0 n,AH m [] clk]):=by
 intro z R w b;have H:=b.l3;refine NH func203 Z 25 ntmps203 Z (AX (AI (E3 Z Z Z (G0 H Z Z (cs:=[Y c]) Z) ?_)));rintro _ w ⟨o,rfl,b⟩;have H:=b.l4;refine AP (AX (AX (AI (Gi 4 [0,1,1] (AS (H.blk 0 Z) (AS (H.blk 1 Z) AN)) Z J Z (Ft Z Z Z Z Z (λw=>call236 _ w) (YJ _) H Z ?_)))));rintro _ w _ ⟨t,rfl,rfl⟩ b;have H:=b.l5;refine AP (FJ ?_);replace H:=H.f4.f1.f4.f4.f4;dsimp only[Cf] at H;rw[show C3 C n=C3 (Ha C C0 []) n by rw[YD]] at H;have b:=H.toUn (l:=l) (s:=[]) O;clear H;have H:=Vs b;clear b;refine NK (λs=>(unA o c d m n C C0 l s::R)) Z (λu w=>call261 u w) Z (Vv t m clk l W.clk W.born) H ?_ ?_
 ·rintro ro s v s2 ⟨p,hp,rfl,rfl⟩ w;obtain ⟨k,g,i,a0⟩:=W.ent p (C6 hp).1;refine Ce (BY 1 Z Z (AP ?_));refine λa hF=>⟨Z,λF w b=>?_⟩
  revert a hF;have H:Sep z (unA o c d m n C C0 l s::(R++([blk t [.map (some m)] 160,AH m l clk]++F))) w:=b;clear b;obtain ⟨f,b⟩:=H.un;clear H;have H:=YF b;clear b;have H:Sep z (blk o [Y c] 90::coB c d n m::Cf d (Ha C C0 s) n::blk t [.map (some m)] 160::AH m l clk::(R++F)) w:=H;refine D9 ?_;replace H:=H.f4.f2.f2;refine IL (Sep z (blk o [Y c] 90::coB c d n m::AH m l clk::(R++F))) 13 Z J (A5 H λw b=>?_);have H:=b.l5;refine Bw [0,1,2,3,4,5,6,7,8,9] [0,0,1,0,1,1] J (λ_ y=>(AS (y.blk 0 Z) (AS (y.blk 1 Z) AN))) (by exact H.pick 5 [0,1,2] Z) Z J Z Z (BS 10 J Z Z J J J Z Z Z (FM (e:=3) (zv:=I 0) Z J J Z Z (λ_ y=>y.bk 2 Z)) (H.pick 5 [0,1,2] Z) (AC 19 (v:=I (C0 k:Int)) Z (by rw[Ol W.keys (C6 hp).1,a0];rfl) (BS 11 J Z Z J J J Z Z Z (CH Z (z:=1) (j:=k) (r:=k) J Z Z g i U) (H.pick 5 [0,1,2] Z) (AF [12] J O (An (Bg Z Z Z (Ak 3 H Z Z Z Z (vs:=[I (C0 k:Int)]) Z (Ad Z Aw) J (by simp only[CW,Aeb,Aew];omega) (out:=C3 (Ha C C0 (s++[p])) n) ((Jr (x:=C0 k) _ i Z).trans (by rw[Vr C C0 g]))) ?_))))));rintro w b;have H:=b.l5;refine Au (λh=>absurd Z h) (Bn J ?_);replace H:=H.f2.f4.f4.f4.f4;exact λ_ _=>YG (H.toUn (F2 f hp))
 rintro D0 w s q b;have H:=Abw b;clear b;obtain ⟨f,b⟩:=H.un;clear H;rw[YE W (Hn W.born f q)] at b;have H:Sep z (blk o [Y c] 90::coB c d n m::Cf d C0 n::bk D0 (.deferred (some []))::blk t [.map (some m)] 160::AH m l clk::R) w:=b;clear b;refine AI (Gi 4 [0,1,1] (AS (H.blk 0 Z) (AS (H.blk 1 Z) AN)) Z J Z (W5 Z Z (Jh 5 (e:=3) H Z Z J Z) ?_));rintro _ w ⟨rfl,b⟩;have H:=b.l6;refine AP ?_;replace H:=H.f3;refine NJ H (rs:=[]) Z [] (λ_=>trivial) (v:=.tuple #[]) Z (λw b=>?_);clear H;have H:=b.l5;exact ⟨[coB c d n m,Cf d C0 n,AH m ([]) clk],⟨Z,Z⟩,H.perm 5 [1,2,4] Z Z⟩
theorem compS_c(v0:Value)(ys:List Int)(d:ys.length<2):Cn prog 237 [v0] [grow 3 1 v0 ys.length (ys.map I)] (λv Γ=>∃(b:Value) (zs:List Int) (B:Af),(zs.length<=ys.length/\(∀x,x∈zs↔x∈ys)/\∀h,B h->rdH 1 b zs.length (zs.map I) h)/\v=b/\Γ=[B]):=by
 intro z R w H;replace H:=H.l1;have a:=H.sy 0 (·.slc);refine Ae func237 Z ntmps237 Z (Zc 9 Z (Ab Z (Ed Z (sz:=1) J Z a) (Z0 3 [0] Z (Ag Z (λc=>?_) (λc=>?_)))))
 ·refine Zc 7 Z (Zr Z ?_);exact ⟨_,⟨v0,ys,_,⟨Aed _,λ_=>Ahp,λh q=>q.rd⟩,Z,Z⟩,H⟩
 (exfalso;omega)
theorem compact_c(v0:Value)(ys:List Int)(n:Nat)(u:ys.length=n)(hn:2<=n/\n<=1073741824):Cn prog 237 [v0] [grow 3 1 v0 n (ys.map I)] (λv Γ=>∃(v1:Value) (zs:List Int) (B:Af),(zs.length<=ys.length/\(∀x,x∈zs↔x∈ys)/\∀h,B h->rdH 1 v1 zs.length (zs.map I) h)/\v=v1/\Γ=[B]):=by
 intro z R w H;replace H:=H.l1;obtain ⟨g,c,rest,rfl,c1,c2,c3,H⟩:=H.ungrow 0 Z U;replace H:=H.l1;refine Ae func237 Z ntmps237 Z (Z0 13 [0] Z (Ag Z (λh1=>U) (λh1=>?_)));refine Zc 9 Z ?_;refine AD (σ:=Nat) (λa=>[(3,I (a:Int)),(0,.slice (some ⟨g,0,none⟩) n c)])
   (λa w=>Sep z (blk g (ys.map I++rest) 3::R) w/\(1<=a/\a<=n)) (λa=>n-a) 1
   fr_z ⟨H,by omega⟩ ?_
 clear H;rintro a w ⟨l,r⟩;have H:=l.l1;have hk:=r;clear r;refine Z0 9 [0] Z (Ag Z (λh2=>?_) (λh2=>?_))
 ·obtain ⟨x,d⟩:∃x,ys[a]?=some x:=⟨_,Ad7 U⟩;obtain ⟨y,e⟩:∃y,ys[a-1]?=some y:=⟨_,Ad7 U⟩;refine Zc 5 Z (Bu (Sep z _) J J H.drew (G4 3 [1,a,a] [] Z J U (AL Z Z Z (Bf Z Z J (λ_ m=>m.cel 0 Z a (GP d))) (G4 4 [1,(a-1),(a-1)] [(a:Int)-1] Z J U (AL Z Z Z (Bf Z Z J (λ_ m=>m.cel 0 Z (a-1) (GP e))) (BZ 1 [] Z J (BH (λw l=>?_))))))));have H:=l.l1;refine gn (Zc 1 Z (Ag Z (λh3=>?_) (λh3=>?_)))
  ·have o:x=y:=h3
   refine Zc 4 Z (Ab Z (BK Z (z:=1) (p:=a) (q:=n) (o':=a) (l':=n-a) (c':=c-a) J Z (.inr ⟨_,_,_,Z,Z,Z⟩) (.inl ⟨Z,Z⟩) U U U U U U) (Zc 10 Z ?_));refine AD (σ:=Nat×Nat×List Int) (λ⟨k,j,L⟩=>[(3,I (k:Int)),(5,I (j:Int)),(0,.slice (some ⟨g,0,none⟩) n c),(4,.slice (some ⟨g,a,none⟩) (n-a) (c-a)),(10,I (a:Int)),(11,.slice (some ⟨g,0,none⟩) n c),(12,I (n:Int)),(13,.bool (decide ((a:Int)<(n:Int)))),(16,.slice (some ⟨g,0,none⟩) n c),(17,I (a:Int)),(18,.pointer (some ⟨g,a,none⟩)),(19,I x),(20,.slice (some ⟨g,0,none⟩) n c),(21,I (a:Int)),(22,I ((a:Int)-1)),(23,.pointer (some ⟨g,(a-1),none⟩)),(24,I y),(25,.bool (decide ((x:Int)=y))),(26,.slice (some ⟨g,0,none⟩) n c),(27,I (a:Int)),(28,.slice (some ⟨g,a,none⟩) (n-a) (c-a))])
     (λ⟨k,j,L⟩ w=>Sep z (blk g (L.map I++rest) 3::R) w/\(CpI ys n a k j L)) (λ⟨k,j,L⟩=>n-j) ⟨a,1,ys⟩
     (λ_ f=>(f.co Z Z f.cz)) ⟨H,CpI.start u U U d (by rw[o];exact e)⟩ ?_
   clear H;rintro ⟨k,j,L⟩ w ⟨l,r⟩;dsimp only at r l ⊢;have H:=l.l1;have b:=r;clear r;have a3:=b.kj;have a2:=b.j1;have a6:=b.jn;have a4:=b.len;refine Z0 9 [0] Z (Ag Z (λh4=>?_) (λh4=>?_))
   ·obtain ⟨x,d⟩:∃x,ys[a+j]?=some x:=⟨_,Ad7 U⟩;obtain ⟨y,e⟩:∃y,ys[a+(j-1)]?=some y:=⟨_,Ad7 (by have:=b.j1;omega)⟩;have i:L[a+j]?=some x:=(b.same _ U).trans d
    have s:L[a+(j-1)]?=some y:=(b.same _ (by have:=b.j1;omega)).trans e;refine Zc 5 Z (Bu (Sep z _) J J H.drew (G4 3 [1,j,a+j] [] Z J U (AL Z Z Z (Bf Z Z J (λ_ m=>m.cel 0 Z (a+j) (GP i))) (G4 4 [1,(j-1),a+(j-1)] [(j:Int)-1] Z J U (AL Z Z Z (Bf Z Z J (λ_ m=>m.cel 0 Z (a+(j-1)) (GP s))) (BZ 1 [] Z J (BH (λw l=>?_))))))));have H:=l.l1;refine gn (Zc 1 Z (Ag Z (λh5=>?_) (λh5=>?_)))
    ·refine Z1 7 [1,j,a+j] [] Z U (Ab Z (Bf Z Z J (Ay (H.cel 0 Z (a+j) (GP i)))) (Z1 1 [1,k,k] [] Z U (Az Z Z (Ak 0 H Z Z Z Z (vs:=[I x]) Z (by simp[u8,u32,Value.oneCell']) J (by simp only[Ad9,Aea,Aeb,Aew];have:=b.len;omega) (out:=((L.set k x).map I++rest)) (Vt (by have:=b.len;have:=b.kj;have:=b.jn;omega))) ?_)));rintro w H;replace H:=H.l1;refine Z1 14 [] [(k:Int)+1,(j:Int)+1] Z U (gf ?_);intro _ f;refine ⟨⟨k+1,j+1,L.set k x⟩,(f.co Z (by go_num) f.cz),⟨H,?_⟩,?_⟩
     ·exact b.put d
     (dsimp only;omega)
    have o:x=y:=Ahj.1 h5;refine Z1 8 [] [(j:Int)+1] Z U (gf ?_);intro _ f;refine ⟨⟨k,j+1,L⟩,(f.co Z Z f.cz),⟨H,?_⟩,?_⟩
    ·exact b.skip d (by rw[o];exact e)
    (dsimp only;omega)
   have a0:a+j=n:=by omega
   refine Zc 2 Z (gx (Zc 6 Z (Ab Z (BK Z (z:=1) (p:=k) (q:=n) (o':=k) (l':=n-k) (c':=c-k) J Z (.inr ⟨_,_,_,Z,Z,Z⟩) (.inl ⟨Z,Z⟩) U U U U U U) (Ky Z Z (Vj 0 H Z Z J Z (by have:=b.kj;have:=b.jn;omega) (by simp;have:=b.len;have:=b.kj;have:=b.jn;omega)) ?_))));rintro _ w ⟨rfl,H⟩;replace H:=H.l1;refine Zc 6 Z (Ab Z (BK Z (z:=1) (p:=0) (q:=k) (o':=0) (l':=k) (c':=c) J Z (.inl ⟨Z,Z⟩) (.inr ⟨_,_,_,Z,Z,Z⟩) U U U U U U) (Zc 4 Z (Zr Z ?_)));have t:(L.take k).length=k:=by rw[Aes];have:=b.len;have:=b.kj;have:=b.jn;omega
   exact ⟨_,⟨_,L.take k,_,⟨by have:=b.kj;have:=b.jn;omega,λz=>(b.mem z).trans (by rw[Aee U]),λh q=>by rw[t];exact q.rd (by have:=b.kj;have:=b.jn;omega) U (by simp;have:=b.len;have:=b.kj;have:=b.jn;omega) (by rw[Aep,AeK,Aec,AeA (by rw[Aes];simp;have:=b.len;have:=b.kj;have:=b.jn;omega),Aeo (by simp;have:=b.len;have:=b.kj;have:=b.jn;omega),Afj])⟩,Z,Z⟩,H.perm 1 [0] Z Z⟩
  refine Z1 8 [] [(a:Int)+1] Z U (gf ?_);intro _ f;refine ⟨(a+1),f.cz,⟨H,?_⟩,?_⟩
  ·omega
  omega
 refine Zc 2 Z (gx (Zc 9 Z (Zr Z ?_)));exact ⟨_,⟨_,ys,_,⟨by omega,λ_=>Ahp,λh q=>by rw[u];exact q.rd U U (by simp;omega) (by rw[Aep,AeA (by simp;omega)])⟩,Z,Z⟩,H.perm 1 [0] Z Z⟩
theorem Aby(v0:Value)(ys:List Int)(b:ys.length<=1073741824):Cn prog 237 [v0] [grow 3 1 v0 ys.length (ys.map I)] (λv Γ=>∃(a:Value) (zs:List Int) (B:Af),(zs.length<=ys.length/\(∀x,x∈zs↔x∈ys)/\∀h,B h->rdH 1 a zs.length (zs.map I) h)/\v=a/\Γ=[B]):=by
 rcases Ael ys.length 2 with h|h
 ·exact compS_c v0 ys h
 exact compact_c v0 ys _ Z ⟨h,b⟩
theorem To(o i m n:Nat)(C:Nat->Nat)(C0:Nat->Nat)(l:List IE)(clk:Nat)(hn:16<=n/\n<=1024)(W:WasOk C C0 n l clk):Cn prog 205 [Y o] [coB o i n m,Cf i C n,AH m l clk] (λv Γ=>∃(f:Value) (zs:List Int) (B:Af),(zs.length<=n/\(∀x:Int,x∈zs↔∃k:Nat,k<n/\C k≠C0 k/\x=((k/120:Nat):Int))/\∀h,B h->rdH 1 f zs.length (zs.map I) h)/\v=f/\Γ=[B,coB o i n m,Cf i C n,AH m l clk]):=by
 intro z R w H;replace H:=H.l3;have a8:=W.len;refine Ae func205 Z ntmps205 Z (Z2 17 [1,0,0] H Z (AQ Z (HD 2 (e:=3) H Z Z J Z) ?_));rintro _ w ⟨rr,rfl,H⟩;replace H:=H.l4;refine Zc 1 Z ?_;replace H:=(H.nilg 3 1).l5;refine Zc 2 Z ?_;refine AD (σ:=List IE×Value) (λ⟨s,f⟩=>[(3,f),(0,Y o),(2,.slice none 0 0),(10,Y rr)])
   (λ⟨s,f⟩ w=>Sep z (grow 3 1 f ((Fj C C0 s).length) ((Fj C C0 s).map I)::GG rr m clk (s.map λp:IE=>p.2.2)::coB o i n m::Cf i C n::AH m l clk::R) w/\((∀p∈s,p∈l)/\(s.map λp:IE=>p.2.2).Nodup)) (λ⟨s,f⟩=>(Ck l (s.map λp:IE=>p.2.2)).length) ⟨[],.slice none 0 0⟩
   fr_z ⟨H,⟨by simp,by simp⟩⟩ ?_
 clear H;rintro ⟨s,f⟩ w ⟨j,hI⟩;dsimp only at hI j ⊢;have H:=j.l5;have g:=hI;clear hI;have a4:=KQ g;have a7:=Abx C C0 s;refine Zc 2 Z (AQ Z (IM 1 4 H Z Z Z Z W.clk) ?_);rintro _ w ⟨qx,rfl,a,H⟩;replace H:=H.l5;refine Ab Z (KC Z Z) (Zc 3 Z (Ep Z (λh1=>?_) (λh1=>?_)))
 ·obtain ⟨b,rfl⟩:=Ae3.1 h1;obtain ⟨k,c,a9,a3⟩:=W.ent b (C6 a).1;refine Zc 5 Z (Ab Z (HE (p:=b) Z Z (Ay ⟨H.bk 1 Z,H.bk 4 Z⟩) (C6 a).1 W.born) (Zc 2 Z (AC 14 (v:=I (k:Int)) Z (congrArg I c) (AC 15 (v:=I (C0 k:Int)) Z a3 (Z3 13 [0,2,0,1,k,k] [] H Z U (Ab Z (Bf Z Z J (Ay (H.cel 3 Z k (cnL_at _ U)))) (Z0 3 [0] Z (Ag Z (λh2=>?_) (λh2=>?_)))))))))
  ·have r:(C0 k:Int)≠(C k:Int):=h2
   refine Z1 4 [] [(k:Int)/120] Z U (AQ Z (AM H Z J Bz Z (by decide) (by decide) (out:=[I ((k:Int)/120)]) J) ?_);rintro _ w ⟨b1,rfl,H⟩;replace H:=H.l6;refine AQ Z (AY 1 H Z Z J Bz Z Z (H.rv 0 (·.rd U U O Z)) (by simp[Value.oneCell']) U) ?_;rintro v2 w j;have j:Sep z (blk b1 [I ((k:Int)/120)] 3::grow 3 1 v2 ((Fj C C0 s).length+1) ((Fj C C0 s).map I++[I ((k:Int)/120)])::GG rr m clk (JJ (s.map λp:IE=>p.2.2) (some b))::coB o i n m::Cf i C n::AH m l clk::R) w:=j;have a1:((Fj C C0 s).map I++[I ((k:Int)/120)]:List Value)=(Fj C C0 (s++[b])).map I:=(by rw[Qi c r];simp);rw[a1] at j;rw[show ((Fj C C0 s).length+1:Nat)=(Fj C C0 (s++[b])).length from (by rw[Qi c r];simp)] at j;have H:=j.l6;refine Zc 3 Z ?_;replace H:=H.d;refine gf ?_;intro _ hF;refine ⟨⟨s++[b],v2⟩,(hF.all Z),⟨(by dsimp only;rw[AeD];exact H),?_⟩,?_⟩
   ·exact F2 g a
   (have:=EB a;rwa[show (s++[b]).map (λp:IE=>p.2.2)=(s.map λp:IE=>p.2.2)++[b.2.2] from by simp])
  have a2:(C0 k:Int)=(C k:Int):=Ahj.1 h2;refine Zc 2 Z (gf ?_);intro _ hF;refine ⟨⟨s++[b],f⟩,(hF.all Z),⟨(by dsimp only;rw[AeD,Vu c a2];exact H),?_⟩,?_⟩
  ·exact F2 g a
  (have:=EB a;rwa[show (s++[b]).map (λp:IE=>p.2.2)=(s.map λp:IE=>p.2.2)++[b.2.2] from by simp])
 obtain rfl:qx=none:=by simpa using h1
 have t:Rw l s:=a;refine Zc 2 Z (gx (Zc 5 Z (Aq Z (call186 _) (Te _ _ U) H ?_)));rintro _ w _ ⟨rfl,ys,rfl,rfl⟩ H;refine Zc 5 Z ?_;have b2:((Fj C C0 s).mergeSort (λx y=>decide (x<=y))).length=(Fj C C0 s).length:=AhI _;refine Aq Z (call237 _) (Aby _ _ U) H ?_;rintro v2 w _ ⟨v3,zs,B,⟨a5,u,a0⟩,rfl,rfl⟩ H;replace H:=H.l5;refine Zc 4 Z (Zr Z ?_);have q:=λx=>(u x).trans (List.mem_mergeSort.trans (YH W (Hn W.born g t) x));exact ⟨_,⟨_,zs,B,⟨by omega,q,a0⟩,Z,Z⟩,H.perm 5 [0,2,3,4] Z Z⟩
theorem KW(e b o c:Nat)(sec:List UInt8)(A:Af)(g:∀h,A h->rdH 1 (.slice (some ⟨b,o,none⟩) 256 c) 256 (sec.map u8) h)(n:Nat)(a:sec=List.replicate 256 0):Cn prog 147 [Y e,.slice (some ⟨b,o,none⟩) 256 c,I (n:Int)] [tblA e,A] (λv Γ=>v=.tuple #[.agg #[I 0,.slice none 0 0],.bool true]/\Γ=[tblA e,A]):=by
 intro z R w H;replace H:=H.l2;have d:=H.sy 1 (λq=>(g _ q).len);refine Ae func147 Z ntmps147 Z (Za 2 [] H Z ?_);intro j w H;refine Zc 10 Z (AQ Z (Em (k:=256) H Z J CK Z Z Z U) ?_);rintro _ w ⟨i,rfl,H⟩;replace H:=H.l4;refine z_E_ Z (call189 _) (Xm _ _ sec (List.replicate 256 0) _ _ (λh q=>by rw[d];exact g h q) (λh q=>by rw[Afd,Aha];exact q.rd U U O Z)) H.f3 ?_;intro w H;refine Zc 3 Z (Ag Z (λf=>?_) (λf=>?_))
 ·refine Z4 8 [2] H Z ?_;intro w H;refine Zl [2,2] H Z ?_;exact ⟨_,⟨Z,Z⟩,H.perm 4 [3,0] Z Z⟩
 exact absurd a f
theorem MB(j b o c:Nat)(sec:List UInt8)(A:Af)(d:∀h,A h->rdH 1 (.slice (some ⟨b,o,none⟩) 256 c) 256 (sec.map u8) h)(n:Nat)(p:Pg)(hp:p.Ok)(u:n<=1023)(a:sec=Ei n p):Cn prog 147 [Y j,.slice (some ⟨b,o,none⟩) 256 c,I (n:Int)] [tblA j,A] (λv Γ=>∃l,v=.tuple #[.agg #[I p.kind,l],.bool true]/\Γ=[grow 5 1 l 240 (p.body.map u8),tblA j,A]):=by
 intro z R w H;replace H:=H.l2;have f:=H.sy 1 (λq=>(d _ q).len);have y:=H.sy 1 (λq=>(d _ q).cap);obtain ⟨c0,c1,c2,c3,hd⟩:=NZ f;have t:=hp.1;refine Ae func147 Z ntmps147 Z (Za 2 [] H Z ?_);intro b1 w H;refine Zc 10 Z (AQ Z (Em (k:=256) H Z J CK Z Z Z U) ?_);rintro _ w ⟨b2,rfl,H⟩;replace H:=H.l4;refine z_E_ Z (call189 _) (Xm _ _ sec (List.replicate 256 0) _ _ (λh q=>by rw[f];exact d h q) (λh q=>by rw[Afd,Aha];exact q.rd U U O Z)) H.f3 ?_;intro w H;refine Zc 3 Z (Ag Z (λr=>?_) (λr=>?_))
 ·exact absurd (a.symm.trans r) (Ps hp)
 refine Zc 6 Z (Aq Z (call180 _) (LM _ _ _ _ _ sec _ d) H.f3 ?_);rintro _ w _ (⟨e,rfl,rfl⟩|⟨e,rfl,rfl⟩) H'
 ·have H:=H'.l4;refine Za 3 [] H Z ?_;intro b3 w H;refine Z4 16 [0] H Z ?_;intro w H;refine z_E_ Z (call150 _) (Cz 1 _ b (o+4) 248 (c-4) ((sec.drop 4).take 248) _ (λh q=>(d h q).cut (lo:=4) (m:=248) (c':=(c-4)) U U U) U U ((sec.drop 4).take 1) (by rw[Aey,Aez U]) (o+5) 247 (c-5) U U U) H.f2.f1 ?_;intro w H;replace H:=H.l5;refine AC 28 (v:=I p.kind) Z (congrArg I (by rw[a];exact Yt hp)) (Za 1 [] H Z ?_);intro b4 w H;refine Z4 10 [0,0,0,0,0] H Z ?_;intro w H;refine Al 33 Z (λh2=>U) (λh2=>?_)
  refine Z2 5 [0,0,0,0] H Z (Al 38 Z (λx=>U) (λx=>?_));refine Zc 1 Z (z_E_ Z (call86 _) (CX _ _) H ?_);intro w H;replace H:=H.l6;refine Ab Z (AE Z Z) (Zc 2 Z (Al 43 Z (λh4=>U) (λh4=>?_)));refine z_E_ Z (call150 _) (Cz 4 _ b (o+5) 247 (c-5) ((sec.drop 5).take 247) _ (λh q=>(d h q).cut (lo:=5) (m:=247) (c':=(c-5)) U U U) U U ((sec.drop 5).take 4) (by rw[Aey,Aez U]) (o+9) 243 (c-9) U U U) H.f2.f2 ?_;intro w H;replace H:=H.l6;refine AC 44 (v:=I (n:Int)) Z (congrArg I (by rw[a];exact Abp hp u)) (Z0 4 [0] Z (Al 48 Z (λs=>?_) (λs=>?_)))
  ·exact absurd Z s
  refine z_E_ Z (call150 _) (Cz 3 _ b (o+9) 243 (c-9) ((sec.drop 9).take 243) _ (λh q=>(d h q).cut (lo:=9) (m:=243) (c':=(c-9)) U U U) U U ((sec.drop 9).take 3) (by rw[Aey,Aez U]) (o+12) 240 (c-12) U U U) H ?_;intro w H;replace H:=H.l6;refine AC 49 (v:=I 0) Z (congrArg I (by rw[a];exact Ry hp)) (Z2 11 [4,0,0,0] H Z (Aq Z (call134 _) (Jo _ _ 240 _ p.body _ ((λh q=>by have:=(d h q).cut (lo:=12) (m:=240) (c':=c-12) U U U;rw[a,Yu hp] at this;exact this)) U) H.f1 ?_));rintro _ w _ ⟨g,i,rest,rfl,⟨cg,cc,cl⟩,rfl⟩ H;refine Z4 12 [1,3,3,2,6] H Z ?_;intro w H;refine Zl [6,2] H Z ?_;replace H:=(H.mono 0 (B:=grow 5 1 (.slice (some ⟨g,0,none⟩) 240 i) 240 (p.body.map u8)) Z (λh q=>q.grow U U (by simp[hp.2];omega) (by rw[AeK,Aeo (by simp[hp.2])];exact Aee (by simp[hp.2])))).l7;exact ⟨_,⟨_,Z,Z⟩,H.perm 7 [0,4,1] Z Z⟩
 exact absurd (a▸Abo hp) e
def MC(D:Dsk)(S:List IE):Dsk:= {D with dur:=λi=>if (i:Int)∈S.map (λp:IE=>p.1) then D.cont i else D.dur i}
theorem Jt{es:List Ent}{e:Ent}(b:e∈es){h:Hp}(hs:seps (es.map Ent.row) h):rdH 1 e.v e.pvs.length e.pvs h:=by
 obtain ⟨i,hi⟩:=AeV b;obtain ⟨h',c,a⟩:=FO hs (i:=i) (A:=e.row) (by rw[Aej,hi];rfl);exact (grow.rd c).le a
theorem YL{D:Dsk}:MC D []=D:=by simp[MC]
theorem YM{n k:Nat}{bs q:List UInt8}{b:Nat->List UInt8}(e:bs.length=n*256)(hq:q.length=256)(d:k<n)(c:∀i,i<n->(bs.drop (i*256)).take 256=b i):
  (bs.take (k*256)++q++bs.drop (k*256+256)).length=n*256/\∀i,i<n->((bs.take (k*256)++q++bs.drop (k*256+256)).drop (i*256)).take 256=if i=k then q else b i:=by
 have a:(bs.take (k*256)).length=k*256:=by rw[Aes];omega
 refine ⟨by simp only[Ad9,AeG,a];omega,λi hi=>?_⟩;rcases AfD i k with h|h|h
 ·rw[if_neg U,<-c i hi,Aec,AeO (by rw[a];omega),Aeo (by rw[AeG,a];omega),AfQ,Aey,Aez U]
 ·subst h
  rw[if_pos Z,Aec,Ae1,AeF U,AeL,a,Agw,Aep,AgR,Aee U,hq];simp
 rw[if_neg U,<-c i hi,Ae1,AeF (by rw[Ad9,a];omega),AeL,Ad9,a,hq,AhH];congr 2;omega
theorem Vw{D:Dsk}{S:List IE}{bs:List UInt8}{es:List Ent}{clk:Nat}{hq:Hp}(d:D.Ok)(a:(MC D S).In bs es clk hq){p:IE}{k:Nat}(hp:p.1=(k:Int))(b:k<D.n):(MC D (S++[p])).In (bs.take (k*256)++D.cont k++bs.drop (k*256+256)) es clk hq:=by
 have c:=YM (q:=D.cont k) a.len (Dsk.cont_len d b) b a.own;refine ⟨c.1,λi hi=>?_,a.ent,a.all,a.nodup,a.born,a.clk⟩;rw[c.2 i hi];show _=(if (i:Int)∈(S++[p]).map (λp:IE=>p.1) then D.cont i else D.dur i);show (if i=k then D.cont k else (if (i:Int)∈S.map (λp:IE=>p.1) then D.cont i else D.dur i))=_;simp only[AeD,AeE,Aft,Aek,Afn,hp];by_cases h:i=k
 ·subst h;rw[if_pos Z,if_pos (.inr Z)]
 rw[if_neg h];have:¬((i:Int)=(k:Int)):=by omega
 simp only[this,or_false]
theorem YN{D:Dsk}{S:List IE}{bs:List UInt8}{es:List Ent}{clk:Nat}{hq:Hp}(b:(MC D S).In bs es clk hq)(k:Ck (es.map Ent.ie) (S.map λp:IE=>p.2.2)=[])(l:∀p∈S,p∈es.map Ent.ie):Dsk.In {D with dur:=D.cont,ver:=λ_=>[]} bs [] clk hq:=by
 have key:∀i,i<D.n->(MC D S).dur i=D.cont i:=λi hi=>by
  simp only[MC];split
  ·rfl
  rename_i m;by_cases hv:D.ver i=[]
  ·exact (JV hv).symm
  obtain ⟨e,a,o⟩:=b.all i hi hv;exfalso;have j:e.ie∈es.map Ent.ie:=Aeu a;by_cases q:e.born∈S.map λp:IE=>p.2.2
  ·obtain ⟨p,hp,g⟩:=Aeh.1 q
   obtain ⟨s,c,rfl⟩:=Aeh.1 (l p hp);obtain ⟨r,f⟩:=AeV a;obtain ⟨t,d⟩:=AeV c;have:=F6 b.born f d g.symm;subst this;rw[f] at d;cases d;exact m (Aeh.2 ⟨_,hp,by show (e.key:Int)=i;omega⟩)
  have:e.ie∈Ck (es.map Ent.ie) (S.map λp:IE=>p.2.2):=by
   simp only[Ck,Ae6];exact ⟨j,by simpa [Ent.ie] using q⟩
  rw[k] at this;cases this
 exact ⟨b.len,λi hi=>(b.own i hi).trans (key i hi),λe a=>(by cases a),λi hi h=>absurd Z h,by simp,by simp,λe a=>(by cases a)⟩
theorem Ac5{D:Dsk}(g:D.Ok){f:Nat->List UInt8}(m:∀i,i<D.n->(f i).length=256){a b c e:Int}{d:Bool}(h:0<=a/\a<=1099511627776)(j:0<=b/\b<=1099511627776)(l:0<=c/\c<=1099511627776)(k:0<=e/\e<=1099511627776):Dsk.Ok ⟨D.n,f,λ_=>[],a,b,c,d,e⟩:=
 ⟨g.n1,g.n2,m,λi hi p hp=>(by cases hp),h,j,l,k⟩
set_option maxHeartbeats 1000000 in
theorem HK (pd:Nat) (D:Dsk):Cn prog 79 [Y pd] [diskA pd D] (λv Γ=>((D.f3=1\/(D.cut=true/\D.left=0))/\v=I 12/\Γ=[diskA pd {D with f3:=Be D.f3}])\/(¬(D.f3=1\/(D.cut=true/\D.left=0))/\v=I 0/\Γ=[diskA pd D.fl])):=by
 intro z R w H;replace H:=H.l1;obtain ⟨bd,m,f0,bs,es,clk,hq,c,o,H'⟩:=H.disk;clear H;have b8:=c.n1;have b4:=c.n2;have b7:=c.f3;have c0:=c.left;have H:=H'.l5;have a2:∀p∈es.map Ent.ie,p.2.2<clk:=λp hp=>by obtain ⟨e,he,rfl⟩:=Aeh.1 hp;exact o.clk e he
 have b0:(es.map Ent.ie).map (λp:IE=>p.2.2)=es.map Ent.born:=by rw[Afh];rfl
 have hn:((es.map Ent.ie).map λp:IE=>p.2.2).Nodup:=by rw[b0];exact o.born
 refine Ae func79 Z ntmps79 Z (Zc 9 Z (z_E_ Z (call131 _) (UE _ _ _ _ _ _ _ _ _ _ U) H ?_));intro w H;refine Zc 1 Z (Al 7 Z (λh1=>?_) (λh1=>?_))
 ·refine Zc 12 Z (Zr Z ?_);replace H:=(Sep.toDisk (D:= {D with f3:=Be D.f3}) (pd:=pd) (bd:=bd) (m:=m) (f0:=f0) (bs:=bs) (es:=es) (clk:=clk) (hq:=hq) (Γ:=R) H (c.f c.f1 c.f2 (Fg c.f3) c.left) (o.f _ _ _ _ _)).l1
  exact ⟨_,.inl ⟨by simp_all,Z,Z⟩,H⟩
 refine Zc 1 Z (z_E_ Z (call132 _) (SH _ _ _ _ _ _ _ _ _ _) H ?_);intro w H;refine Zc 3 Z (Ep Z (λh2=>?_) (λh2=>?_))
 ·refine Zc 6 Z (Zr Z ?_);replace H:=(Sep.toDisk (D:= {D with f3:=Be D.f3}) (pd:=pd) (bd:=bd) (m:=m) (f0:=f0) (bs:=bs) (es:=es) (clk:=clk) (hq:=hq) (Γ:=R) H (c.f c.f1 c.f2 (Fg c.f3) c.left) (o.f _ _ _ _ _)).l1
  exact ⟨_,.inl ⟨by simp_all,Z,Z⟩,H⟩
 refine Z2 9 [1,0,0] H Z (AQ Z (HD 2 (e:=205) H Z Z J Z) ?_);rintro _ w ⟨rr,rfl,H⟩;replace H:=H.l6;refine Zc 3 Z ?_;refine AD (σ:=List IE×List UInt8) (λ⟨S,b⟩=>[(0,Y pd),(2,I 0),(15,Y rr)])
   (λ⟨S,b⟩ w=>Sep z (GG rr m clk (S.map λp:IE=>p.2.2)::blk pd [.slice (some ⟨bd,0,none⟩) (D.n*256) (D.n*256),.map (some m),I f0,I D.f1,I D.f2,I (if D.f3=0 then 0 else D.f3-1),.bool D.cut,I D.left] 83::blk bd (b.map u8) 5::AH m (es.map Ent.ie) clk::poolA hq::seps (es.map Ent.row)::R) w/\((∀p∈S,p∈es.map Ent.ie)/\(MC D S).In b es clk hq)) (λ⟨S,b⟩=>(Ck (es.map Ent.ie) (S.map λp:IE=>p.2.2)).length) ⟨[],bs⟩
   (λ_ hF=>(hF.all Z)) ⟨H,λp hp=>absurd hp O,by rw[YL];exact o⟩ ?_
 clear H;rintro ⟨S,b⟩ w ⟨H',hI⟩;dsimp only at hI H' ⊢;have H:=H'.l6;obtain ⟨hS,l⟩:=hI;refine Zc 2 Z (AQ Z (IM 0 3 H Z Z Z Z a2) ?_);rintro _ w ⟨qx,rfl,x,H⟩;replace H:=H.l6;refine Ab Z (KC Z Z) (Zc 3 Z (Ep Z (λh3=>?_) (λh3=>?_)))
 ·obtain ⟨p1,rfl⟩:=Ae3.1 h3;refine Zc 5 Z ?_;obtain ⟨⟨g,ve,a,ps,bo⟩,d,rfl⟩:=Aeh.1 (C6 x).1;obtain ⟨a1,y,s,a7,a5⟩:=l.ent _ d;obtain ⟨ao,cc,a8⟩:=H.sy 5 (λq=>(Jt d q).slc);dsimp only at a8 a1 y s a7 a5
  subst a8;have a4:=H.rv 5 (λq=>Jt d q);have a9:=H.sy 5 (λq=>(Jt d q).small);dsimp only at a9;have b3:0<a.length:=by rw[s];exact Ag7.2 a7
  have a3:g<D.n:=a1;obtain ⟨pv,t⟩:∃pv,a[a.length-1]?=some pv:=⟨_,Ad7 U⟩;obtain ⟨p,hp⟩:∃p,ps[a.length-1]?=some p:=⟨_,Ad7 U⟩;have b1:D.cont g=p:=Ms (n:=a.length) (by rw[s,y];rfl) (by rw[show D.ver g=ps from y.symm];exact hp);obtain ⟨u,a0⟩:=a5 _ _ _ t hp;have b2:=a4.at t;refine Ab Z (HE (p:=(Ent.ie ⟨g,.slice ao a.length cc,a,ps,bo⟩)) Z Z (Ay ⟨H.bk 0 Z,H.bk 3 Z⟩) (Aeu d) hn) (Zc 6 Z (Bl (Sep z (GG rr m clk (JJ (S.map λp:IE=>p.2.2) (some (Ent.ie ⟨g,.slice ao a.length cc,a,ps,bo⟩)))::blk pd [.slice (some ⟨bd,0,none⟩) (D.n*256) (D.n*256),.map (some m),I f0,I D.f1,I D.f2,I (if D.f3=0 then 0 else D.f3-1),.bool D.cut,I D.left] 83::blk bd (b.map u8) 5::AH m (es.map Ent.ie) clk::poolA hq::seps (es.map Ent.row)::R)) 10 Z J (A5 H λw H'=>?_)));have H:=H'.l6;refine Bw [0,1,3,4] [] J (λ_ _=>AN) (by exact H.pick 6 [0,1,2,3,4,5] Z) Z J Z Z (BS 5 J Z Z J J J Z Z Z (FZ Z (z:=1) J Z) (H.pick 6 [0,1,2,3,4,5] Z) (BS 6 J Z Z J J J Z Z Z (Hr Z Z Z (r:=((a.length-1:Nat):Int)) U U) (H.pick 6 [0,1,2,3,4,5] Z) (BS 7 J Z Z J J J Z Z Z (Aj Z (z:=1) (j:=(a.length-1)) (r:=(a.length-1)) J Z Z Z U b2 U) (H.pick 6 [0,1,2,3,4,5] Z) (BS 8 J Z Z J J J Z Z Z (Ax Z Z J (λ_ hx=>(hx.rv 5 (λq=>Jt d q)).at t)) (H.pick 6 [0,1,2,3,4,5] Z) (AF [2] J O (An (Bo Z Z Z Z Z Z (λw=>call135 _ w) (Xg _ _ _ _ _ _ _ _ _ _ g U U) H.f1 Z ?_)))))));rintro _ w _ ⟨rfl,rfl⟩ H;replace H:=H.l6;refine Au (λ_=>(H.pick 6 [1,0,2,3,4,5] Z)) (AF [9] J O (An (Ca Z Z Z Z (F4 2 H Z Z J Z Z (m:=256) (news:=(p.map u8)) (.inl (H.rv 4 (λq=>a0.le q))) (by simp[u8,Value.oneCell']) (by have:=l.len;simp;omega) (k:=256) U (out:=((b.take (g*256)++p++b.drop (g*256+256)).map u8)) (by simp[u,Aee])) ?_)));rintro _ w ⟨rfl,H⟩;replace H:=H.l6;refine Au (λh=>absurd Z h) (Bn J (gn (Zc 1 Z ?_)));replace H:=H.f5.f5.f5.f5.f4.f5;refine gf ?_;intro _ hF;refine ⟨⟨S++[(Ent.ie ⟨g,.slice ao a.length cc,a,ps,bo⟩)],(b.take (g*256)++p++b.drop (g*256+256))⟩,(hF.all Z),⟨(by dsimp only;rw[AeD];exact H),?_⟩,?_⟩
  ·refine ⟨λp hp=>?_,?_⟩
   ·rcases Aek.1 hp with hp|hp
    ·exact hS p hp
    simp at hp;subst hp;exact Aeu d
   have:=Vw c l (p:=(Ent.ie ⟨g,.slice ao a.length cc,a,ps,bo⟩)) (k:=g) Z a3;rwa[b1] at this
  (dsimp only;have:=EB x;rwa[show (S++[(Ent.ie ⟨g,.slice ao a.length cc,a,ps,bo⟩)]).map (λp:IE=>p.2.2)=(S.map λp:IE=>p.2.2)++[bo] from by simp[Ent.ie]])
 obtain rfl:qx=none:=by simpa using h3
 refine Zc 2 Z (gx (Zc 3 Z ?_));have a6:=YN l x hS;refine Z2 5 [1,1,0] H Z (Ky Z Z (Jh 3 (e:=205) H Z Z J Z) ?_);rintro _ w ⟨rfl,H⟩;replace H:=H.l6;refine Z3 10 [7,1,0] [D.left-1] H Z U (Ab Z (M8 Z Z Z) (Z4 11 [7,1] H Z ?_));intro w H;refine Zr Z ?_;replace H:=(H.mono 5 (B:=seps (([]:List Ent).map Ent.row)) Z (λh q=>⟨λ_=>0,λi A hi=>by simp at hi⟩)).l6;replace H:=H.f5.f5.f5.f5.f5;replace H:=(Sep.toDisk (D:=D.fl) (pd:=pd) (bd:=bd) (m:=m) (f0:=f0) (bs:=b) (es:=([]:List Ent)) (clk:=clk) (hq:=hq) (Γ:=GG rr m clk (JJ (S.map λp:IE=>p.2.2) none)::R) H (Ac5 c (λi hi=>Dsk.cont_len c hi) c.f1 c.f2 (Fg c.f3) U) (a6.f _ _ _ _ _)).l2;exact ⟨_,.inr ⟨by simp_all,Z,Z⟩,H.perm 2 [0] Z Z⟩
def wr1(D:Dsk)(fua:Bool)(i:Nat)(p:List UInt8):Dsk:= {Dsk.ws {D with f2:=Be D.f2} fua i [p] with left:=max 0 (D.left-1)}
theorem J7(pd b a c:Nat)(D:Dsk)(x:Int)(d:Bool)(p:List UInt8)(A:Af)(hp:p.length=256)(k:∀h,A h->rdH 1 (.slice (some ⟨b,a,none⟩) 256 c) 256 (p.map u8) h)(e:∀i,(D.ver i).length<=1099511627776)(j:0<=x/\x+1<=(D.n:Int)):
  Cn prog 78 [Y pd,I x,.slice (some ⟨b,a,none⟩) 256 c,.bool d] [diskA pd D,A] (λv Γ=>(D.bad/\v=I 11/\Γ=[diskA pd D.wf,A])\/(¬D.bad/\v=I 0/\Γ=[diskA pd (wr1 D d x.toNat p),A])):=by
 have h:=Qf pd b a c D x d [p] A (by simpa using hp) O e (λh q=>by simpa using k h q);refine Cn.mono h ?_;have f:0<=x/\x+(([p]:List (List UInt8)).length:Int)<=(D.n:Int):=by simpa using j
 rintro v Γ (⟨g,_⟩|⟨_,g,rfl,rfl⟩|⟨_,g,rfl,rfl⟩)
 ·exact absurd f g
 ·exact .inl ⟨g,Z,Z⟩
 exact .inr ⟨λh=>by rcases h with h|h;exact g.1 h;exact g.2 h,Z,Z⟩
theorem HL(pd:Nat)(D:Dsk):Cn prog 77 [Y pd] [diskA pd D] (λv Γ=>v=I (D.n:Int)/\Γ=[diskA pd D]):=by
 refine Cn.mono (Cn.onDisk (post:=λv Γ=>v=I (D.n:Int)/\Γ=[]) (pre:=[]) (λa bd m f0=>?_)) ?_
 ·have b:=a.n2
  refine Cn.mono (KA pd bd m (D.n*256) f0 D.f1 D.f2 D.f3 D.left D.cut U) ?_;rintro v Γ ⟨rfl,rfl⟩;exact ⟨[],⟨congrArg I U,Z⟩,Z⟩
 rintro v Γ ⟨Γ',⟨rfl,rfl⟩,rfl⟩;exact ⟨Z,Z⟩
theorem Om(pd f:Nat)(D:Dsk)(s:Sup)(b:s.Ok (D.n:Int))(d:∀i,(D.ver i).length<=1099511627776):Cn prog 81 [Y pd,Y f,.agg #[I s.gen,I s.epoch,I s.pages,I s.start,I s.len,I s.head,I s.seq]] [diskA pd D,tblA f] (λv Γ=>(D.bad/\v=I 11/\Γ=[diskA pd D.wf,tblA f])\/(¬D.bad/\v=I 0/\Γ=[diskA pd (Fi D s),tblA f])):=by
 intro z R w H;replace H:=H.l2;have m:=H.sy 0 (λq=>(diskA.ok q).n1);have k:=H.sy 0 (λq=>(diskA.ok q).n2);have o:=Sup.get b;have j:=b.2;refine Ae func81 Z ntmps81 Z (Za 2 [] H Z ?_);intro r w H;refine Zc 5 Z (Bu (Sep z _) J J H.drew (GF 9 [0,7] [] Z J (Dl Z Z Z Z Z (λw=>call77 _ w) (v:=I (D.n:Int)) (cq (HL _ _) (by rintro _ _ ⟨rfl,rfl⟩;exact ⟨Z,Z⟩) 2 [1,0] [1,0] Z Z Z Z) (Dl Z Z Z Z Z (λw=>call76 _ w) (v:=I (if s.Ok (D.n:Int) then 0 else 1)) (cq (HI _ _ U) (by rintro _ _ ⟨rfl,rfl⟩;exact ⟨Z,Z⟩) 0 [] [] Z Z Z Z) (BZ 2 [] Z J (BH (λw e=>?_)))))));have H:=e.l3;refine gn (Zc 1 Z (Ag Z (λg=>?_) (λg=>?_)))
 ·exact absurd (if_pos b) g
 refine Z2 6 [0,7] H Z (Aq Z (call136 _) (Rz _ _ (λx l=>b.1 x l)) H.f2 ?_);rintro _ w _ ⟨p,rfl,rfl⟩ H;refine Z3 24 [4,0,2,0] [s.gen%2] H Z U (Aq Z (call78 _) (J7 _ _ _ _ _ _ _ (DC s) _ (GM s) (λh q=>HG (lo:=0) (n:=256) (c:=256) (ys:=DC s) q (GM s) U U U (by rw[Aep];exact Aee (Agb (GM s)))) d U) H.f3 ?_);rintro _ w _ (⟨a,rfl,rfl⟩|⟨a,rfl,rfl⟩) e
 ·have H:=e.l4;refine Zc 4 Z (Zr Z ?_);exact ⟨_,.inl ⟨a,Z,Z⟩,H.perm 4 [0,2] Z Z⟩
 have H:=e.l4;refine Zc 4 Z (Zr Z ?_);exact ⟨_,.inr ⟨a,Z,Z⟩,H.perm 4 [0,2] Z Z⟩
set_option maxHeartbeats 1000000 in
theorem Abz (pd pt:Nat) (D:Dsk) (f:D.f1=0) (x b c:Sup) (e:b.Ok (D.n:Int)) (d:c.Ok (D.n:Int)) (g0:b.gen%2=0) (g1:c.gen%2=1) (c0:D.cont 0=DC b) (c1:D.cont 1=DC c) (a:x=if b.gen<c.gen then c else b):Cn prog 82 [Y pd,Y pt] [diskA pd D,tblA pt] (λv Γ=>v=.tuple #[.agg #[I x.gen,I x.epoch,I x.pages,I x.start,I x.len,I x.head,I x.seq],I 0]/\Γ=[diskA pd D,tblA pt]):=by
 intro z R w H;replace H:=H.l2;have a4:=H.sy 0 (λq=>(diskA.ok q).n1);have a2:=H.sy 0 (λq=>(diskA.ok q).n2);have a3:=Sup.get e;have a5:=Sup.get d;have a6:=e.2;have a1:=d.2;refine Ae func82 Z ntmps82 Z (Za 2 [] H Z ?_);intro b1 w H;refine Zc 14 Z (z_E_ Z (call77 _) (HL _ _) H.f1 ?_);intro w H;refine Z0 4 [0] Z (Ag Z (λh1=>U) (λh1=>?_));refine Za 4 [] H Z ?_;intro b2 w H;refine Zc 14 Z (GI 3 (DE (Z0 21 [3] Z (Aq Z (call137 _) (IU _ _ _) H.f1 ?_))));rintro _ w _ (⟨a,_,_⟩|⟨_,a,_,_⟩|⟨_,_,g0,i,t,rfl,⟨a0,s,l⟩,rfl⟩) g
 ·exact absurd ⟨by omega,by omega⟩ a
 ·(rw[f] at a;cases a)
 rw[diskA.f1 f] at g;have H:=g.l5;refine Z5 25 [4,2,1,0,0,2] [1] H Z U ?_;intro w H;refine gf (DE (Z0 21 [3] Z (Aq Z (call137 _) (IU _ _ _) H.f1 ?_)));rintro _ w _ (⟨a,_,_⟩|⟨_,a,_,_⟩|⟨_,_,g1,k,o,rfl,⟨p,r,y⟩,rfl⟩) g
 ·exact absurd ⟨by omega,by omega⟩ a
 ·(rw[f] at a;cases a)
 rw[diskA.f1 f] at g;have H:=g.l6;refine Z5 25 [4,2,1,1,1,3] [2] H Z U ?_;intro w H;refine gf (DE (Z0 9 [4] Z (gx (Zc 13 Z (Ab Z (Bc Z Z (out:=[I (-1),I 0,I 0,I 0,I 0,I 0,I 0]) J) (Za 0 [] H Z ?_))))));intro b3 w H;refine Z4 11 [0,4,2] H Z ?_;intro w H;refine GI 3 (DE (Z0 14 [3] Z (Ab Z (E6 (m:=2) Z J Z Z Z (j:=0) Z (u:=.slice (some ⟨g0,0,none⟩) 256 i) Z) (Zc 8 Z (z_E_ Z (call138 _) (KR _ _ _ _ (D.cont (0:Int).toNat) _ (λh q=>EF q (by rw[show D.cont (0:Int).toNat=DC b from c0];exact GM _) ⟨a0,s,l⟩) b e.1 c0) H.f3.f6 ?_)))));intro w H;refine Za 3 [] H Z ?_;intro b4 w H;refine Z4 5 [0] H Z ?_;intro w H;refine Bu (Sep z _) J J H.drew (GF 4 [0,7] [] Z J (Dl Z Z Z Z Z (λw=>call77 _ w) (v:=I (D.n:Int)) (cq (HL _ _) (by rintro _ _ ⟨rfl,rfl⟩;exact ⟨Z,Z⟩) 6 [5,0,1,2,3,4] [1,2,3,4,5,0] Z Z Z Z) (Dl Z Z Z Z Z (λw=>call76 _ w) (v:=I (if b.Ok (D.n:Int) then 0 else 1)) (cq (HI _ _ U) (by rintro _ _ ⟨rfl,rfl⟩;exact ⟨Z,Z⟩) 0 [] [] Z Z Z Z) (BZ 3 [] Z J (Cd 68 Z (λh2=>?_) (λh2=>?_))))))
 ·refine G4 7 [0,0,0,0] [b.gen%2] Z J U (Cd 75 Z (λh3=>?_) (λh3=>?_))
  ·refine DZ 6 [0,0,0,1] (λ_ a=>(AS (a.blk 0 Z) (AS (a.blk 3 Z) AN))) Z J Z (BH (λw g=>?_));have H:=g.l8;refine gn (Zc 1 Z (Ag Z (λh4=>?_) (λh4=>?_)))
   ·refine Z5 10 [0,7,3] [1] H Z U ?_;intro w H;refine gf (DE (Z0 14 [3] Z (Ab Z (E6 (m:=2) Z J Z Z Z (j:=1) Z (u:=.slice (some ⟨g1,0,none⟩) 256 k) Z) (Zc 8 Z (z_E_ Z (call138 _) (KR _ _ _ _ (D.cont (1:Int).toNat) _ (λh q=>EF q (by rw[show D.cont (1:Int).toNat=DC c from c1];exact GM _) ⟨p,r,y⟩) c d.1 c1) H.f4.f2 ?_)))));intro w H;refine Za 3 [] H Z ?_;intro b5 w H;refine Z4 5 [0] H Z ?_;intro w H;refine Bu (Sep z _) J J H.drew (GF 4 [0,7] [] Z J (Dl Z Z Z Z Z (λw=>call77 _ w) (v:=I (D.n:Int)) (cq (HL _ _) (by rintro _ _ ⟨rfl,rfl⟩;exact ⟨Z,Z⟩) 7 [6,0,1,2,3,4,5] [1,2,3,4,5,6,0] Z Z Z Z) (Dl Z Z Z Z Z (λw=>call76 _ w) (v:=I (if c.Ok (D.n:Int) then 0 else 1)) (cq (HI _ _ U) (by rintro _ _ ⟨rfl,rfl⟩;exact ⟨Z,Z⟩) 0 [] [] Z Z Z Z) (BZ 3 [] Z J (Cd 68 Z (λh5=>?_) (λh5=>?_))))))
    ·refine G4 7 [0,0,0,0] [c.gen%2] Z J U (Cd 75 Z (λh6=>?_) (λh6=>?_))
     ·refine DZ 6 [0,0,0,1] (λ_ a=>(AS (a.blk 0 Z) (AS (a.blk 5 Z) AN))) Z J Z (BH (λw g=>?_));have H:=g.l9;refine gn (Zc 1 Z (Ag Z (λh7=>?_) (λh7=>?_)))
      ·refine Z5 10 [0,7,5] [2] H Z U ?_;intro w H;refine gf (DE (Z0 9 [4] Z (gx (Z2 10 [0,5,0,0] H Z (Ag Z (λh8=>U) (λh8=>?_))))))
       refine Z4 10 [5,7,8] H Z ?_;intro w H;refine Zl [8,7] H Z ?_;obtain rfl:x=c:=by rw[a];first|exact if_pos U|exact if_neg U
       exact ⟨_,⟨rfl,rfl⟩,H.perm 9 [6,1] rfl rfl⟩
      refine Z1 7 [] [2] Z U (gf (DE (Z0 9 [4] Z (gx (Z2 10 [0,5,0,0] H Z (Ag Z (λh9=>U) (λh9=>?_)))))));refine Z4 10 [5,7,8] H Z ?_;intro w H;refine Zl [8,7] H Z ?_;obtain rfl:x=b:=by rw[a];first|exact if_pos U|exact if_neg U
      exact ⟨_,⟨rfl,rfl⟩,H.perm 9 [6,1] rfl rfl⟩
     (exfalso;omega)
    exact absurd (if_pos d) h5
   (exfalso;omega)
  (exfalso;omega)
 exact absurd (if_pos e) h2
theorem Vx(g m clk:Nat)(l:List IE)(f:∀p∈l,p.2.2<clk)(o:(l.map λp:IE=>p.2.2).Nodup):Xh prog 187 [Y g] [blk g [.map (some m)] 129,AH m l clk] (Abn l) [] (Rw l):=by
 intro z k J_ n w a;have H:=a.l2;refine JY (args:=[.func (.yield k) #[] #[],Y g]) func187 Z Z 14 ntmps187 Z ?_;refine CR ?_;refine Ce ?_;refine s_do Z Z Z (Bf Z Z J (Ay (H.cel 0 Z 0 Z))) ?_;refine E3 Z Z Z (HD 1 (e:=89) H Z Z J Z) ?_;rintro _ w ⟨i,rfl,a⟩;have H:=a.l3;refine AP ?_;refine D9 ?_;refine LE (σ:=List IE) (λs=>[(0,.func (.yield k) #[] #[]),(5,Y i)])
  (λs w=>Sep z (GG i m clk (s.map λp:IE=>p.2.2)::blk g [.map (some m)] 129::AH m l clk::J_ s) w/\(True)) (λs=>(Ck l (s.map λp:IE=>p.2.2)).length) ([])
  (λ_ d=>(d.all Z)) ⟨H,trivial⟩ ?_
 clear H;rintro s w ⟨a,q⟩;have H:=a.l3;refine CR ?_;refine Ce ?_;refine E3 Z Z Z (IM 0 2 H Z Z Z Z f) ?_;rintro _ w ⟨j,rfl,b,a⟩;have H:=a.l3;refine s_do Z Z Z (KC Z Z) ?_;refine AP ?_;refine CR ?_;refine Jg Z (λh=>?_) (λh=>?_)
 ·-- yes:j.isSome
  obtain ⟨c,rfl⟩:=Ae3.1 h;refine Gr ?_;refine D9 ?_;refine CR ?_;refine Ce ?_;refine s_do Z Z Z (HE (p:=c) Z Z (Ay ⟨H.bk 0 Z,H.bk 2 Z⟩) (C6 b).1 o) ?_;refine s_do Z Z Z (Fe Z Z Z) ?_;refine s_do Z Z Z (Bi Z Z) ?_;refine AP ?_;refine CR ?_;refine JX ?_;refine Eq Z Z Z (Ci Z Z) ?_;refine Eq Z Z Z (Ci Z Z) ?_;replace H:=H.f2.f2;refine LG Z Z Z Z Z Z (n s _ (s++[c]) [GG i m clk ((s.map λp:IE=>p.2.2)++[c.2.2])] ⟨c,b,Z,Z⟩ _ H) ?_;rintro _ w ⟨rfl,a⟩;refine ⟨_,Z,?_⟩;have H:=a.l3;refine Eq Z Z Z (Km Z Z) ?_;refine Rk ?_;refine Ip Z ?_;refine Gr ?_;replace H:=H.f1.f1.f2;intro _ d;refine ⟨(s++[c]),(d.all Z),⟨(by rw[AeD];exact H),?_⟩,?_⟩
  ·trivial
  (have:=EB b;rwa[show (s++[c]).map (λp:IE=>p.2.2)=(s.map λp:IE=>p.2.2)++[c.2.2] from by simp])
 -- no:j.isSome
 obtain rfl:j=none:=by simpa using h
 refine LD ?_;refine IF ?_;exact λ_ d=>⟨d.defers,s,b,H.perm 3 [1,2] Z Z⟩
theorem On(f m clk:Nat)(l:List IE)(j:∀p∈l,p.2.2<clk)(r:(l.map λp:IE=>p.2.2).Nodup)(y:l.length<=1099511627776):Cn prog 215 [.slice none 0 0,.func (.func 187) #[] #[Y f]] [blk f [.map (some m)] 129,AH m l clk] (λv Γ=>∃s:List IE,s.Perm l/\Γ=[blk f [.map (some m)] 129,AH m l clk,grow 3 1 v s.length (kC s)]):=by
 intro z R w b;have H:=b.l2;refine NH func215 Z 13 ntmps215 Z (AX (AI (E3 Z Z Z (G0 H Z Z (cs:=[.slice none 0 0]) Z) ?_)));rintro _ w ⟨q,rfl,b⟩;have H:=b.l3;refine BY 1 Z Z (AP (AX (AX (AI (BY 1 Z Z (AP (FJ ?_)))))));have b:=H.nilg 3 1;have H:=b.l4;replace H:=H.f1;have b:=H.toVec (l:=l) (s:=[]) O O;have H:=b.l3;replace H:=H.f2.f2;have b:=Sep.swap (As:=[blk f [.map (some m)] 129,AH m l clk]) (Bs:=(vecA q l []::R)) H;clear H;refine UG (λs=>(vecA q l s::R)) Z (λu w=>call187 u w) Z (Vx f m clk l j r) b ?_ ?_
 ·rintro ro s v s2 ⟨p,hp,rfl,rfl⟩ w;refine Ce (BY 1 Z Z (AP ?_));refine λa x=>⟨Z,λF w b=>?_⟩
  revert a x;have H:=b.l1;obtain ⟨c,g,b⟩:=H.vec;clear H;have H:=b.l2;have a0:=KQ c;refine D9 (Ce (Gi 2 [0] (AS (H.blk 0 Z) AN) Z J Z (E3 Z Z Z (AM H Z J (Elt.mk (P:=prog) (e:=3) (z:=I 0) (sz:=1) (by_:=8) J Z U U) Z (by decide) (by decide) (out:=[I p.1]) J) ?_)));rintro _ w ⟨t,rfl,b⟩;have H:=b.l3;refine E3 Z Z Z (AY 2 H Z Z J (Elt.mk (P:=prog) (e:=3) (z:=I 0) (sz:=1) (by_:=8) J Z U U) Z Z (H.rv 0 (·.rd U U O Z)) (by simp[Value.oneCell']) U) ?_;rintro v3 w b;have b:Sep z (blk t [I p.1] 3::blk q [g] 68::grow 3 1 v3 (s.length+1) (kC s++[I p.1])::(R++F)) w:=b;have o:(kC s++[I p.1]:List Value)=kC (s++[p]):=Yq s p;rw[o] at b;rw[show (s.length+1:Nat)=(s++[p]).length from by simp] at b;have H:=b.l3;have i:=H.sy 2 (·.slc);refine FY Z Z (Lk 1 H Z Z Z Z i.cells i.one J) ?_;rintro w b;have H:=b.l3;refine AP ?_;replace H:=H.d;have h:=F2 c hp;exact λ_ _=>H.toVec h.1 h.2
 rintro D0 w s k b;have H:=b.l2;replace H:=H.f1;obtain ⟨c,g,b⟩:=H.vec;clear H;have H:=b.l3;refine AX (AI (Gi 2 [0] (AS (H.blk 0 Z) AN) Z J Z (AP (D7 ?_))));replace H:=H.f2;refine NJ H (rs:=[.tmp 4]) Z [g] (λ_=>⟨Z,trivial⟩) (v:=g) Z (λw b=>?_);clear H;have H:=b.l2;have b:=Sep.swap (As:=grow 3 1 g s.length (kC s)::R) (Bs:=[blk f [.map (some m)] 129,AH m l clk]) (H.pick 2 [1] Z);exact ⟨[blk f [.map (some m)] 129,AH m l clk,grow 3 1 g s.length (kC s)],⟨s,Hn r c k,Z⟩,b⟩
theorem Qk(m:Nat):Cn prog 145 [.map (some m)] [] (λv Γ=>∃a,v=.func (.func 187) #[] #[Y a]/\Γ=[blk a [.map (some m)] 129]):=by
 intro z R w H;replace H:=H.l0;refine Ae func145 Z ntmps145 Z (Za 2 [] H Z ?_);intro b w H;refine Zc 5 Z (Ab Z (C4 Z Z Z) (Zc 4 Z (Zr Z ?_)));exact ⟨_,⟨b,Z,Z⟩,H⟩
theorem RC(b m clk:Nat)(l:List IE)(a:∀p∈l,p.2.2<clk)(d:(l.map λp:IE=>p.2.2).Nodup)(c:l.length<=1099511627776):Cn prog 185 [.func (.func 187) #[] #[Y b]] [blk b [.map (some m)] 129,AH m l clk] (λv Γ=>∃s:List IE,s.Perm l/\Γ=[blk b [.map (some m)] 129,AH m l clk,grow 3 1 v s.length (kC s)]):=by
 intro z R w H;replace H:=H.l2;refine Ae func185 Z ntmps185 Z (Zc 8 Z (Aq Z (call215 _) (On _ _ _ _ a d c) H ?_));rintro f w _ ⟨s,hs,rfl⟩ H;replace H:=H.l3;refine Zc 4 Z (Zr Z ?_);exact ⟨_,⟨s,hs,Z⟩,H⟩
theorem MD(b m clk:Nat)(l:List IE)(a:∀p∈l,p.2.2<clk)(g:(l.map λp:IE=>p.2.2).Nodup)(c:l.length<=1099511627776):Cn prog 144 [.func (.func 187) #[] #[Y b]] [blk b [.map (some m)] 129,AH m l clk] (λv Γ=>∃s:List IE,s.Perm l/\Γ=[grow 3 1 v ((s.map λp:IE=>p.1).mergeSort (λx y=>decide (x<=y))).length (((s.map λp:IE=>p.1).mergeSort (λx y=>decide (x<=y))).map I),blk b [.map (some m)] 129,AH m l clk]):=by
 intro z R w H;replace H:=H.l2;refine Ae func144 Z ntmps144 Z (Zc 8 Z (Aq Z (call185 _) (RC _ _ _ _ a g c) H ?_));rintro e w _ ⟨s,hs,rfl⟩ H;replace H:=H.l3;refine Zc 6 Z ?_;have d:(s.map λp:IE=>p.1).length=s.length:=by simp
 have f:=hs.length_eq;replace H:=(H.mono 2 (B:=grow 3 1 e (s.map λp:IE=>p.1).length ((s.map λp:IE=>p.1).map I)) Z (λh q=>by rw[d,Afh];exact q)).l3;refine Aq Z (call186 _) (Te _ _ U) H.f2 ?_;rintro _ w _ ⟨rfl,ys,rfl,rfl⟩ H;refine Zc 9 Z (Zr Z ?_);exact ⟨_,⟨s,hs,Z⟩,H⟩
def Fa(f:BC)(ks:List Int):Prop:=ks.Pairwise (· < ·)/\∀k:Int,k∈ks↔0<=k/\(f k.toNat).isSome=true
def pgLst(f:BC)(ks:List Int):List (Nat×Pg):=ks.map λk=>(k.toNat,(f k.toNat).getD noPg)
theorem Ew{f:BC}{a:List Int}(h:Fa f a)(n:Nat)(p:Pg):(n,p)∈pgLst f a↔f n=some p:=by
 unfold pgLst;rw[Aeh];constructor
 ·rintro ⟨k,b,e⟩
  obtain ⟨d,c⟩:=(h.2 k).1 b;obtain ⟨q,hq⟩:=Ae3.1 c;rw[hq] at e;simp only[Option.getD_some,Afy] at e;obtain ⟨e1,e2⟩:=e;rw[<-e1,hq,e2]
 intro e;refine ⟨(n:Int),(h.2 _).2 ⟨by omega,by rw[AeZ,e];rfl⟩,?_⟩;rw[AeZ,e];rfl
theorem EU{f:BC}{c:List Int}(h:Fa f c):((pgLst f c).map Prod.fst).Nodup:=by
 unfold pgLst;rw[Afh];refine AfE.2 (List.Pairwise.imp_of_mem ?_ h.1);intro a b e g d;have i:=((h.2 a).1 e).1;have j:=((h.2 b).1 g).1;simp only[AgD];omega
theorem Vy{f:BC}{a:List Int}{j n:Nat}{p:Pg}(b:a[j]?=some (n:Int))(c:f n=some p):(pgLst f a)[j]?=some (n,p):=by
 unfold pgLst;rw[Aej,b];simp[c]
theorem YO{D:Dsk}{l:List (Nat×Pg)}{j n:Nat}{p:Pg}(h:l[j]?=some (n,p)):wr1 (hwD D (l.take j)) false ((2:Int)+(n:Int)).toNat (Ei n p)=hwD D (l.take (j+1)):=by
 rw[AeH,h];show _=hwD D (l.take j++[(n,p)]);rw[U7,show ((2:Int)+(n:Int)).toNat=2+n from by omega];rfl
def Dsk.flb(D:Dsk):Prop:=D.f3=1\/(D.cut=true/\D.left=0)
def LO(D:Dsk)(l:List (Nat×Pg))(c:Int)(D2:Dsk):Prop:=
 (∃j,(hwD D (l.take j)).bad/\c=11/\D2=(hwD D (l.take j)).wf)\/((hwD D l).flb/\c=12/\D2= {hwD D l with f3:=Be (hwD D l).f3})\/((hwD D l).fl.bad/\c=11/\D2=(hwD D l).fl.wf)
theorem PgsIn.small{f:BC}{es:List PgE}{clk:Nat}{hq:Hp}(h:PgsIn f es clk hq)(a:∀n,(f n).isSome=true->n<1024):es.length<=1024:=by
 have:=Jp (s:=es.map PgE.n) (l:=List.range 1024) h.nodup (λk b=>by
  obtain ⟨e,c,rfl⟩:=Aeh.1 b;exact AfL.2 (a _ (by rw[(h.ent e c).1];rfl)))
 simpa using this
theorem Vz(ps pd m md:Nat)(x:Sup)(k j:Value)(l:Bool)(f:BC)(hq:Hp)(d:∀n,(f n).isSome=true->n<1024):Cn prog 141 [Y ps] [stB ps pd m x k md l j,pgsA md f hq] (λv Γ=>(∃b:List Int,Fa f b/\Γ=[grow 3 1 v b.length (b.map I),stB ps pd m x k md l j,pgsA md f hq])):=by
 intro z R w H;replace H:=H.l2;obtain ⟨es,clk,a,H⟩:=H.pgs 1 Z;replace H:=H.l2;have c:es.length<=1099511627776:=by have:=a.small d;omega
 refine Ae func141 Z ntmps141 Z (Z2 11 [10,0,0] H Z (Aq Z (call145 _) (Qk _) H ?_));rintro _ w _ ⟨q,rfl,rfl⟩ H;replace H:=H.l3;have g:∀h:IE->Nat,(es.map PgE.ie).map h=es.map λe=>h e.ie:=λh=>by simp
 refine Aq Z (call144 _) (MD _ _ _ _ (λp hp=>by obtain ⟨e,o,rfl⟩:=Aeh.1 hp;exact a.clk e o) (by rw[g];exact a.born) (by simp;exact c)) H.f2.f1 ?_;rintro r w _ ⟨s,hs,rfl⟩ H;replace H:=H.l4;have i:Fa f ((s.map λp:IE=>p.1).mergeSort (λx y=>decide (x<=y))):=a.keys hs;refine Zc 4 Z (Zr Z ?_);replace H:=(H.toPgs 2 Z a).l4;exact ⟨_,⟨_,i,Z⟩,H.perm 4 [0,3,2] Z Z⟩
set_option maxHeartbeats 2000000 in
theorem VA (ps pd l md:Nat) (x:Sup) (lp mo:Value) (un:Bool) (f:BC) (hq:Hp) (y:Sup) (D:Dsk) (a7:∀n,(f n).isSome=true->n<1024) (a8:∀n,(f n).isSome=true->2+n<D.n) (a3:y.Ok (D.n:Int)) (a5:∀i,(D.ver i).length<=1000000000000):Cn prog 84 [Y ps,.agg #[I y.gen,I y.epoch,I y.pages,I y.start,I y.len,I y.head,I y.seq]] [stB ps pd l x lp md un mo,tblA l,diskA pd D,pgsA md f hq,poolA hq] (λv Γ=>∃a:List Int,Fa f a/\((v=I 0/\Γ=[stB ps pd l y lp md un mo,tblA l,diskA pd (Fi (hwD D (pgLst f a)).fl y),pgsA md Do hq,poolA hq])\/(∃(c:Int) (D2:Dsk),c≠0/\LO D (pgLst f a) c D2/\v=I c/\Γ=[stB ps pd l x lp md un mo,tblA l,diskA pd D2,pgsA md f hq,poolA hq]))):=by
 intro z R w H;replace H:=H.l5;refine Ae func84 Z ntmps84 Z (Za 2 [] H Z ?_);intro b1 w H;refine Zc 7 Z (Aq Z (call141 _) (Vz _ _ _ _ _ _ _ _ _ _ a7) H.f4.f2 ?_);rintro v3 w _ ⟨a,m,rfl⟩ H;replace H:=H.l7;have b3:=H.sy 0 (·.slc);have b6:=H.sy 0 (·.rd.small);obtain ⟨t,c3,rfl⟩:=b3;have H:Sep z (grow 3 1 (.slice t a.length c3) a.length (a.map I)::stB ps pd l x lp md un mo::pgsA md f hq::blk b1 [I y.gen,I y.epoch,I y.pages,I y.start,I y.len,I y.head,I y.seq] 127::tblA l::diskA pd D::poolA hq::R) w:=H;obtain ⟨es,clk,s,H⟩:=H.pgs 2 Z;replace H:=H.l7;refine Zc 5 Z ?_;refine AD (σ:=Nat) (λj=>[(15,I (j:Int)),(0,Y ps),(3,Y b1),(13,.slice t a.length c3),(14,I (a.length:Int))])
   (λj w=>Sep z (grow 3 1 (.slice t a.length c3) a.length (a.map I)::stB ps pd l x lp md un mo::AH md (es.map PgE.ie) clk::blk b1 [I y.gen,I y.epoch,I y.pages,I y.start,I y.len,I y.head,I y.seq] 127::tblA l::diskA pd (hwD D ((pgLst f a).take j))::poolA hq::R) w/\(j<=a.length)) (λj=>a.length-j) 0
   fr_z ⟨H,by omega⟩ ?_
 clear H;rintro j w ⟨g,hI⟩;have H:=g.l7;have b9:=hI;clear hI;refine Z0 6 [0] Z (Ag Z (λh1=>?_) (λh1=>?_))
 ·have b5:j<a.length:=by omega
  refine Zc 6 Z ?_;obtain ⟨x,hx⟩:∃x,a[j]?=some x:=⟨_,Ad7 U⟩;obtain ⟨c1,o⟩:=(m.2 x).1 (Ad8 hx);obtain ⟨n,rfl⟩:∃n:Nat,x=(n:Int):=⟨x.toNat,by omega⟩;rw[AeZ] at o;obtain ⟨p,pv,b0,b,a6,b2⟩:∃(p:Pg) (v:Value),f n=some p/\p.Ok/\rdH 1 v 240 (p.body.map u8) hq/\CO (es.map PgE.ie) (n:Int)=some (.agg #[I p.kind,v]):=by
    rcases s.get n with ⟨q,_⟩|q
    · rw[q] at o;cases o
    · exact q
  have hn:=a7 n o;have b8:=a8 n o;have a1:=(H.rv 0 (·.rd)).at (j:=j) (u:=I (n:Int)) (by simp[hx]);have a2:∀i,((hwD D ((pgLst f a).take j)).ver i).length<=1099511627776:=λi=>by have h1:=Od ((pgLst f a).take j) D i ((EU m).sublist ((List.take_sublist _ _).map _));have h2:=a5 i;omega
  refine Ab Z (Aj Z (z:=1) (j:=j) (r:=j) J Z Z Z U a1 U) (Ab Z (Ax Z Z J (Ay a1)) (Zc 4 Z ?_));replace H:=H.f2.f2;refine AO (Sep z (stB ps pd l x lp md un mo::AH md (es.map PgE.ie) clk::R)) 18 Z J (A5 H λw g=>?_);have H:=g.l7;refine AU [0,1,2,3,4,5,6,7,8,9] [1,0,0,10,0,0] [] (by exact H.pick 7 [0,1] Z) Z J Z (BO 10 Z J J J Z Z Z (FM (e:=89) (zv:=.agg #[I 0,.slice none 0 0]) Z J J Z Z (λ_ hx=>hx.bk 1 Z)) (H.pick 7 [0,1] Z) (AC 30 (v:=.agg #[I p.kind,pv]) Z (by rw[b2];rfl) (BO 11 Z J J J Z Z Z (Bc Z Z (out:=[I (n:Int),I p.kind,pv]) J) (H.pick 7 [0,1] Z) (AB [12] J O (An (Bo Z Z Z Z Z Z (λw=>call142 _ w) (Mx _ _ _ _ p.body _ (λh q=>by rw[b.2];exact a6.le q)) H.f6.f5 Z ?_))))));rintro _ w _ (⟨k,rfl,rfl⟩|⟨_,pw,rfl,rfl⟩) g
  ·exact absurd ⟨⟨by omega,by omega⟩,b.1,b.2⟩ k
  have H:=g.l8;refine Av (H.pick 8 [3,4] Z) (AU [13,14,15,16,17] [] [] (by exact H.pick 8 [3,4] Z) Z J Z (a_done J (gn (Z3 20 [4,0,3,0] [(2:Int)+(n:Int)] H Z U (Aq Z (call78 _) (J7 _ _ _ _ _ _ _ (Ei n p) _ (FR b) (λh q=>HG (lo:=0) (n:=256) (c:=256) (ys:=Ei n p) q (FR b) U U U (by rw[Aep];exact Aee (Agb (FR b)))) a2 (by rw[E9];omega)) H.f7 ?_)))));rintro _ w _ (⟨k,rfl,rfl⟩|⟨k,rfl,rfl⟩) g
  ·have H:=g.l8;refine Z0 17 [3] Z (Zr Z ?_);replace H:=(H.toPgs 5 Z s).l8
   exact ⟨_,⟨a,m,.inr ⟨_,_,by decide,.inl ⟨j,k,Z,Z⟩,Z,Z⟩⟩,H.perm 8 [4,2,0,5,3] Z Z⟩
  have H:=g.l8;refine Z1 17 [4] [(j:Int)+1] Z U ?_;replace H:=H.f1.d.f2.f1.f2.f6.f5.f5.f6;refine gf ?_;intro _ hF;refine ⟨(j+1),hF.cz,⟨(by rw[<-YO (Vy hx b0)];exact H),?_⟩,?_⟩
  ·omega
  omega
 obtain rfl:j=a.length:=by omega
 refine Zc 2 Z (gx (Zc 4 Z ?_));have a9:(pgLst f a).take a.length=pgLst f a:=Aee (by simp only[pgLst,Aea];omega);rw[a9] at H;have H:Sep z (grow 3 1 (.slice t a.length c3) a.length (a.map I)::stB ps pd l x lp md un mo::AH md (es.map PgE.ie) clk::blk b1 [I y.gen,I y.epoch,I y.pages,I y.start,I y.len,I y.head,I y.seq] 127::tblA l::diskA pd (hwD D (pgLst f a))::poolA hq::R) w:=H;refine Z2 5 [0,1,0] H Z (Aq Z (call79 _) (HK _ _) H.f5 ?_);rintro _ w _ (⟨a0,rfl,rfl⟩|⟨a0,rfl,rfl⟩) g
 ·have H:=g.l7;refine Z0 17 [3] Z (Zr Z ?_);replace H:=(H.toPgs 3 Z s).l7
  exact ⟨_,⟨a,m,.inr ⟨_,_,by decide,.inr (.inl ⟨a0,Z,Z⟩),Z,Z⟩⟩,H.perm 7 [2,5,0,3,6] Z Z⟩
 have H:=g.l7;refine Z0 14 [4] Z ?_;replace H:=H.f4.f3;refine AO (Sep z (stB ps pd l x lp md un mo::blk b1 [I y.gen,I y.epoch,I y.pages,I y.start,I y.len,I y.head,I y.seq] 127::R)) 11 Z J (A5 H λw g=>?_);have H:=g.l7;refine AU [0,1,2,3,4,5,6,7,8] [0,0,0,1,0,0,1,7] [] (by exact H.pick 7 [0,1] Z) Z J Z (AB [9] J O (An (Bo Z Z Z Z Z Z (λw=>call81 _ w) (Om _ _ _ y (by show y.Ok ((hwD D (pgLst f a)).n:Int);rw[E9];exact a3) (λi=>by show ([]:List (List UInt8)).length<=_;simp)) H.f5.f3 Z ?_)));rintro _ w _ (⟨a4,rfl,rfl⟩|⟨a4,rfl,rfl⟩) g
 ·have H:=g.l7;refine Av (H.pick 7 [2,3] Z) (AU [10] [] [] (by exact H.pick 7 [2,3] Z) Z J Z (a_done J (gn (Z0 15 [3] Z (Zr Z ?_)))));replace H:=(H.toPgs 5 Z s).l7
  exact ⟨_,⟨a,m,.inr ⟨_,_,by decide,.inr (.inr ⟨a4,Z,Z⟩),Z,Z⟩⟩,H.perm 7 [2,1,0,5,6] Z Z⟩
 have H:=g.l7;refine Av (H.pick 7 [2,3] Z) (AU [10] [] [] (by exact H.pick 7 [2,3] Z) Z J Z (a_done J (gn (Z4 25 [4,3,7,2,2,10,2,0] H Z ?_))));intro w H;refine Ky Z Z (Jh 5 (e:=89) H Z Z J Z) ?_;rintro _ w ⟨rfl,H⟩;replace H:=H.l7;refine Zc 8 Z (Zr Z ?_);replace H:=(H.toPgs 5 Z (PgsIn.none hq clk)).l7;exact ⟨_,⟨a,m,.inl ⟨Z,Z⟩⟩,H.perm 7 [2,1,0,5,6] Z Z⟩
theorem YP(ps pd a md:Nat)(x:Sup)(b d:Value)(c:Bool):Cn prog 93 [Y ps] [stB ps pd a x b md c d] (λv Γ=>v=.tuple #[]/\Γ=[stB ps pd a x b md false (.map none)]):=by
 intro z R w H;replace H:=H.l1;refine Ae func93 Z ntmps93 Z (Z4 10 [11,0,12,0] H Z ?_);intro w H;refine Zf Z ?_;exact ⟨_,⟨Z,Z⟩,H⟩
theorem YQ(ps pd a md:Nat)(x:Sup)(b c:Value):Cn prog 39 [Y ps] [stB ps pd a x b md false c] (λv Γ=>v=I 0/\∃m,Γ=[stB ps pd a x b md true (.map (some m)),AH m [] 0]):=by
 intro z R w H;replace H:=H.l1;refine Ae func39 Z ntmps39 Z (Z4 28 [11,0,0,11,0] H Z ?_);intro w H;refine AQ Z (F5 H Z) ?_;rintro _ w ⟨d,rfl,H⟩;replace H:=H.l2;refine Z4 11 [12,1] H Z ?_;intro w H;refine Zr Z ?_;exact ⟨_,⟨Z,d,Z⟩,H.perm 2 [1,0] Z Z⟩
theorem Ql(ps pd a md:Nat)(x:Sup)(d c:Value)(b:Bool):Cn prog 96 [Y ps] [stB ps pd a x d md b c] (λv Γ=>v=.agg #[I x.gen,I x.epoch,I x.pages,I x.start,I x.len,I x.head,I x.seq]/\Γ=[stB ps pd a x d md b c]):=by
 intro z R w H;replace H:=H.l1;refine Ae func96 Z ntmps96 Z (Za 2 [] H Z ?_);intro e w H;refine Z4 12 [2,1,7,0] H Z ?_;intro w H;refine Zl [0,7] H Z ?_;exact ⟨_,⟨Z,Z⟩,H.perm 2 [1] Z Z⟩
theorem GQ(p:Pg)(f:Value)(A:Af)(d:∀h,A h->rdH 1 f 240 (p.body.map u8) h)(hp:p.Ok):Cn prog 90 [.agg #[I p.kind,f]] [A] (λv Γ=>∃e,v=.agg #[I p.kind,e]/\Γ=[grow 5 1 e 240 (p.body.map u8),A]):=by
 intro z R w H;replace H:=H.l1;obtain ⟨b,o,c,rfl⟩:=H.sy 0 (λq=>(d _ q).sl (by simp[hp.2]));have k:=d;refine Ae func90 Z ntmps90 Z (Za 2 [] H Z ?_);intro g w H;refine Za 0 [] H Z ?_;intro i w H;refine Zc 3 Z ?_;replace H:=H.f1.f2;refine AO (Sep z (A::blk g [I p.kind,.slice (some ⟨b,o,none⟩) 240 c] 89::R)) 7 Z J (A5 H λw j=>?_);have H:=j.l3;refine AU [0,1,2,3] [0,1,0,1,1,0] [] (by exact H.pick 3 [0,1] Z) Z J Z (AB [4] J O (An (Bo Z Z Z Z Z Z (λw=>call143 _ w) (Vf _ _ 240 _ p.body _ k U) H Z ?_)));rintro e w _ ⟨_,rfl,rfl⟩ H;replace H:=H.l4;obtain ⟨a,c1,rfl⟩:=H.sy 0 (·.slc);have H:Sep z (grow 5 1 (.slice a 240 c1) 240 (p.body.map u8)::A::blk g [I p.kind,.slice (some ⟨b,o,none⟩) 240 c] 89::blk i [I 0,.slice none 0 0] 89::R) w:=H;refine Av (H.pick 4 [1,2] Z) (AU [5] [] [] (by exact H.pick 4 [1,2] Z) Z J Z (AB [6] J O (An (Bg Z Z Z (Ak 3 H Z Z Z Z (vs:=[I p.kind,.slice a 240 c1]) Z (by simp[u8,u32,Value.oneCell']) J O (out:=[I p.kind,.slice a 240 c1]) Z) ?_))));rintro w H;replace H:=H.l4;refine Av (H.pick 4 [1,2] Z) (a_done J (gn (Zc 2 Z (Zl [3,2] H Z ?_))));exact ⟨_,⟨_,Z,Z⟩,H.perm 4 [0,1] Z Z⟩
set_option maxHeartbeats 2000000 in
theorem VB (ps pd k md:Nat) (x:Sup) (t:Value) (u:Bool) (f:BC) (hq:Hp) (D:Dsk) (n:Nat) (hn:(n:Int)<x.pages) (l:D.f1=0) (a1:x.Ok (D.n:Int)) (q i:Pg) (j:q=(f n).getD i) (hB:f n=none->HomeP (D.cont (2+n)) n i):Cn prog 98 [Y ps,I (n:Int)] [stB ps pd k x t md u (.map none),tblA k,diskA pd D,pgsA md f hq,poolA hq] (λv Γ=>(q=noPg/\v=.tuple #[.agg #[I 0,.slice none 0 0],I 0]/\Γ=[stB ps pd k x t md u (.map none),tblA k,diskA pd D,pgsA md f hq,poolA hq])\/(q.Ok/\∃c,v=.tuple #[.agg #[I q.kind,c],I 0]/\Γ=[grow 5 1 c 240 (q.body.map u8),stB ps pd k x t md u (.map none),tblA k,diskA pd D,pgsA md f hq,poolA hq])):=by
 intro z R w H;replace H:=H.l5;have a4:=a1.2;obtain ⟨es,clk,d,H⟩:=H.pgs 3 Z;replace H:=H.l5;refine Ae func98 Z ntmps98 Z (Za 2 [] H Z ?_);intro b1 w H;refine Z0 9 [0] Z (Al 16 Z (λh1=>U) (λh1=>?_));refine Z2 10 [2,4,1,0,0] H Z (Ag Z (λh2=>U) (λh2=>?_));refine Z2 10 [12,1,0] H Z (Ab Z (Rm (e:=89) (zv:=.agg #[I 0,.slice none 0 0]) Z J J Z Z) (Za 3 [] H Z ?_));intro b2 w H;refine Z4 20 [0,10,2,0] H Z ?_;intro w H;rcases d.get n with ⟨hf,y⟩|⟨p,r,hf,b,m,y⟩
 ·refine Ab Z (DI (e:=89) (zv:=.agg #[I 0,.slice none 0 0]) Z J J Z Z (Ay (H.bk 5 Z))) (AC 44 (v:=.tuple #[.agg #[I 0,.slice none 0 0],.bool false]) Z (by simp[CP,y]) (Za 3 [] H Z ?_));intro b3 w H;refine Z5 20 [0,0,3,0] [(2:Int)+(n:Int)] H Z U ?_;intro w H;refine Aq Z (call137 _) (IU _ _ _) H.f5 ?_;rintro _ w _ (⟨s,_,_⟩|⟨_,s,_,_⟩|⟨_,_,gb,a5,rest,rfl,⟨cg,cc,cl⟩,rfl⟩) H'
  ·exact absurd ⟨by omega,by omega⟩ s
  ·(rw[l] at s;cases s)
  rw[diskA.f1 l,show ((2:Int)+(n:Int)).toNat=2+n from by omega] at H';have H:=H'.l9;refine Z2 25 [4,1,5,0] H Z ?_;rcases hB (by simp_all) with ⟨hz,rfl⟩|⟨a,o⟩
  ·refine z_E_ Z (call147 _) (KW _ _ _ _ (D.cont (2+n)) _ (λh q=>EF q (by rw[hz];first|rfl|exact FR a) ⟨cg,cc,cl⟩) n hz) H.f6 ?_;intro w H;refine Za 3 [] H Z ?_;intro b4 w H;refine Z4 22 [0,0,2,6] H Z ?_;intro w H;refine Zl [6,2] H Z ?_;replace H:=(H.toPgs 8 Z d).l10
   exact ⟨_,.inl ⟨by first|(rw[j];simp_all;done)|(simp_all;done),rfl,rfl⟩,H.perm 10 [7,1,3,8,9] rfl rfl⟩
  refine Aq Z (call147 _) (MB _ _ _ _ (D.cont (2+n)) _ (λh q=>EF q (by rw[o];first|rfl|exact FR a) ⟨cg,cc,cl⟩) n i a U o) H.f6 ?_;rintro _ w _ ⟨c,rfl,rfl⟩ H;replace H:=H.l10;have g:=H.sy 0 (·.slc);refine Za 3 [] H Z ?_;intro b5 w H;refine Az Z Z (Ak 0 H Z Z Z Z (vs:=[I i.kind,c]) Z (Ad Z (Ad g.one Aw)) J O (out:=[I i.kind,c]) Z) ?_;rintro w H;replace H:=H.l11;refine Z2 16 [0,2] H Z (Az Z Z (Ak 7 H Z Z Z Z (vs:=[I i.kind,c]) Z (Ad Z (Ad g.one Aw)) J O (out:=[I i.kind,c]) Z) ?_);rintro w H;replace H:=H.l11;refine Zc 4 Z (Zl [7,2] H Z ?_);replace H:=(H.toPgs 9 Z d).l11;obtain rfl:q=i:=by rw[j];simp_all
  exact ⟨_,.inr ⟨by first|exact b|exact hpoko|exact a,_,rfl,rfl⟩,H.perm 11 [1,8,2,4,9,10] rfl rfl⟩
 have a3:=b.1;have a0:Slc r 240:=m.slc;refine Ab Z (DI (e:=89) (zv:=.agg #[I 0,.slice none 0 0]) Z J J Z Z (Ay (H.bk 5 Z))) (AC 44 (v:=.tuple #[.agg #[I p.kind,r],.bool true]) Z (by simp[CP,y]) (Za 3 [] H Z ?_));intro b6 w H;refine Az Z Z (Ak 0 H Z Z Z Z (vs:=[I p.kind,r]) Z (Ad Z (Ad a0.one Aw)) J O (out:=[I p.kind,r]) Z) ?_;rintro w H;replace H:=H.l8;refine Z2 12 [0,2] H Z (Aq Z (call90 _) (GQ p r _ (λh q=>m.le q) b) H.f7 ?_);rintro _ w _ ⟨c,rfl,rfl⟩ H;replace H:=H.l9;have g:=H.sy 0 (·.slc);refine Az Z Z (Ak 4 H Z Z Z Z (vs:=[I p.kind,c]) Z (Ad Z (Ad g.one Aw)) J O (out:=[I p.kind,c]) Z) ?_;rintro w H;replace H:=H.l9;refine Zc 4 Z (Zl [4,2] H Z ?_);replace H:=(H.toPgs 8 Z d).l9;obtain rfl:q=p:=by rw[j];simp_all
 exact ⟨_,.inr ⟨by first|exact b|exact hpoko|exact a,_,rfl,rfl⟩,H.perm 9 [0,5,6,7,8,1] rfl rfl⟩
set_option maxHeartbeats 2000000 in
theorem VC (ps pd pt md mo:Nat) (x:Sup) (lp:Value) (un:Bool) (f g:BC) (k:Nat) (hq:Hp) (D:Dsk) (n:Nat) (hn:(n:Int)<x.pages) (a1:D.f1=0) (a6:x.Ok (D.n:Int)) (q t:Pg) (r:q=((g n).or (f n)).getD t) (hB:(g n).or (f n)=none->HomeP (D.cont (2+n)) n t):Cn prog 98 [Y ps,I (n:Int)] [stB ps pd pt x lp md un (.map (some mo)),tblA pt,diskA pd D,pgsA md f hq,Eu mo g k hq,poolA hq] (λv Γ=>(q=noPg/\v=.tuple #[.agg #[I 0,.slice none 0 0],I 0]/\Γ=[stB ps pd pt x lp md un (.map (some mo)),tblA pt,diskA pd D,pgsA md f hq,Eu mo g k hq,poolA hq])\/(q.Ok/\∃j,v=.tuple #[.agg #[I q.kind,j],I 0]/\Γ=[grow 5 1 j 240 (q.body.map u8),stB ps pd pt x lp md un (.map (some mo)),tblA pt,diskA pd D,pgsA md f hq,Eu mo g k hq,poolA hq])):=by
 intro z R w H;replace H:=H.l6;have c0:=a6.2;obtain ⟨es,clk,m,H⟩:=H.pgs 3 Z;replace H:=H.l6;obtain ⟨b9,a9,c,i,H⟩:=H.pgsc 4 Z;replace H:=H.l6;refine Ae func98 Z ntmps98 Z (Za 2 [] H Z ?_);intro b1 w H;refine Z0 9 [0] Z (Al 16 Z (λh1=>U) (λh1=>?_));refine Z2 10 [2,4,1,0,0] H Z (Ag Z (λh2=>U) (λh2=>?_));refine Z2 10 [12,1,0] H Z ?_;rcases c.get n with ⟨a5,u⟩|⟨y,o,a5,a,s,u⟩
 ·refine Ab Z (DI (e:=89) (zv:=.agg #[I 0,.slice none 0 0]) Z J J Z Z (Ay (H.bk 5 Z))) (AC 32 (v:=.tuple #[.agg #[I 0,.slice none 0 0],.bool false]) Z (by simp[CP,u]) (Za 3 [] H Z ?_));intro b2 w H;refine Z4 20 [0,10,2,0] H Z ?_;intro w H;rcases m.get n with ⟨hf,hg⟩|⟨p,pv,hf,d,a2,hg⟩
  ·refine Ab Z (DI (e:=89) (zv:=.agg #[I 0,.slice none 0 0]) Z J J Z Z (Ay (H.bk 5 Z))) (AC 44 (v:=.tuple #[.agg #[I 0,.slice none 0 0],.bool false]) Z (by simp[CP,hg]) (Za 3 [] H Z ?_));intro b3 w H;refine Z5 20 [0,0,3,0] [(2:Int)+(n:Int)] H Z U ?_;intro w H;refine Aq Z (call137 _) (IU _ _ _) H.f5 ?_;rintro _ w _ (⟨hx,_,_⟩|⟨_,hx,_,_⟩|⟨_,_,gb,c1,rest,rfl,⟨cg,cc,cl⟩,rfl⟩) H'
   ·exact absurd ⟨by omega,by omega⟩ hx
   ·(rw[a1] at hx;cases hx)
   rw[diskA.f1 a1,show ((2:Int)+(n:Int)).toNat=2+n from by omega] at H';have H:=H'.l10;refine Z2 25 [4,1,5,0] H Z ?_;rcases hB (by simp_all) with ⟨hz,rfl⟩|⟨b,a3⟩
   ·refine z_E_ Z (call147 _) (KW _ _ _ _ (D.cont (2+n)) _ (λh q=>EF q (by rw[hz];first|rfl|exact FR b) ⟨cg,cc,cl⟩) n hz) H.f6 ?_;intro w H;refine Za 3 [] H Z ?_;intro b4 w H;refine Z4 22 [0,0,2,6] H Z ?_;intro w H;refine Zl [6,2] H Z ?_;replace H:=(H.toPgs 8 Z m).l11
    replace H:=(H.toPgsc 9 Z c i).l11;exact ⟨_,.inl ⟨by first|(rw[r];simp_all;done)|(simp_all;done),rfl,rfl⟩,H.perm 11 [7,1,3,8,9,10] rfl rfl⟩
   refine Aq Z (call147 _) (MB _ _ _ _ (D.cont (2+n)) _ (λh q=>EF q (by rw[a3];first|rfl|exact FR b) ⟨cg,cc,cl⟩) n t b U a3) H.f6 ?_;rintro _ w _ ⟨j,rfl,rfl⟩ H;replace H:=H.l11;have l:=H.sy 0 (·.slc);refine Za 3 [] H Z ?_;intro b5 w H;refine Az Z Z (Ak 0 H Z Z Z Z (vs:=[I t.kind,j]) Z (Ad Z (Ad l.one Aw)) J O (out:=[I t.kind,j]) Z) ?_;rintro w H;replace H:=H.l12;refine Z2 16 [0,2] H Z (Az Z Z (Ak 7 H Z Z Z Z (vs:=[I t.kind,j]) Z (Ad Z (Ad l.one Aw)) J O (out:=[I t.kind,j]) Z) ?_);rintro w H;replace H:=H.l12;refine Zc 4 Z (Zl [7,2] H Z ?_);replace H:=(H.toPgs 9 Z m).l12;replace H:=(H.toPgsc 10 Z c i).l12;obtain rfl:q=t:=by rw[r];simp_all
   exact ⟨_,.inr ⟨by first|exact d|exact a|exact b,_,rfl,rfl⟩,H.perm 12 [1,8,2,4,9,10,11] rfl rfl⟩
  have b8:=d.1;have a4:Slc pv 240:=a2.slc;refine Ab Z (DI (e:=89) (zv:=.agg #[I 0,.slice none 0 0]) Z J J Z Z (Ay (H.bk 5 Z))) (AC 44 (v:=.tuple #[.agg #[I p.kind,pv],.bool true]) Z (by simp[CP,hg]) (Za 3 [] H Z ?_));intro b6 w H;refine Az Z Z (Ak 0 H Z Z Z Z (vs:=[I p.kind,pv]) Z (Ad Z (Ad a4.one Aw)) J O (out:=[I p.kind,pv]) Z) ?_;rintro w H;replace H:=H.l9;refine Z2 12 [0,2] H Z (Aq Z (call90 _) (GQ p pv _ (λh q=>a2.le q) d) H.f8 ?_);rintro _ w _ ⟨j,rfl,rfl⟩ H;replace H:=H.l10;have l:=H.sy 0 (·.slc);refine Az Z Z (Ak 4 H Z Z Z Z (vs:=[I p.kind,j]) Z (Ad Z (Ad l.one Aw)) J O (out:=[I p.kind,j]) Z) ?_;rintro w H;replace H:=H.l10;refine Zc 4 Z (Zl [4,2] H Z ?_);replace H:=(H.toPgs 8 Z m).l10;replace H:=(H.toPgsc 9 Z c i).l10;obtain rfl:q=p:=by rw[r];simp_all
  exact ⟨_,.inr ⟨by first|exact d|exact a|exact b,_,rfl,rfl⟩,H.perm 10 [0,5,6,7,8,9,1] rfl rfl⟩
 have a8:=a.1;have a0:Slc o 240:=s.slc;refine Ab Z (DI (e:=89) (zv:=.agg #[I 0,.slice none 0 0]) Z J J Z Z (Ay (H.bk 5 Z))) (AC 32 (v:=.tuple #[.agg #[I y.kind,o],.bool true]) Z (by simp[CP,u]) (Za 3 [] H Z ?_));intro b7 w H;refine Az Z Z (Ak 0 H Z Z Z Z (vs:=[I y.kind,o]) Z (Ad Z (Ad a0.one Aw)) J O (out:=[I y.kind,o]) Z) ?_;rintro w H;replace H:=H.l8;refine Z2 12 [0,2] H Z (Aq Z (call90 _) (GQ y o _ (λh q=>s.le q) a) H.f7 ?_);rintro _ w _ ⟨j,rfl,rfl⟩ H;replace H:=H.l9;have l:=H.sy 0 (·.slc);refine Az Z Z (Ak 3 H Z Z Z Z (vs:=[I y.kind,j]) Z (Ad Z (Ad l.one Aw)) J O (out:=[I y.kind,j]) Z) ?_;rintro w H;replace H:=H.l9;refine Zc 4 Z (Zl [3,2] H Z ?_);replace H:=(H.toPgs 7 Z m).l9;replace H:=(H.toPgsc 8 Z c i).l9;obtain rfl:q=y:=by rw[r];simp_all
 exact ⟨_,.inr ⟨by first|exact d|exact a|exact b,_,rfl,rfl⟩,H.perm 9 [0,4,5,6,7,8,1] rfl rfl⟩
set_option maxHeartbeats 2000000 in
theorem VD (ps pd pt md f:Nat) (x:Sup) (u:Value) (g:BC) (k:Nat) (hq:Hp) (n:Nat) (hn:(n:Int)<x.pages) (p:Pg) (hp:p.Ok) (bv:Value) (A:Af) (hA:∀h,A h->rdH 1 bv 240 (p.body.map u8) h):Cn prog 41 [Y ps,I (n:Int),.agg #[I p.kind,bv]] [stB ps pd pt x u md true (.map (some f)),Eu f g k hq,poolA hq,A] (λv Γ=>((g n=none/\40<=k)/\v=I 16/\Γ=[stB ps pd pt x u md true (.map (some f)),Eu f g k hq,poolA hq,A])\/(¬(g n=none/\40<=k)/\∃a,CJ hq a/\v=I 0/\Γ=[stB ps pd pt x u md true (.map (some f)),Eu f (pgSet g n p) (k+(if (g n).isSome then 0 else 1)) a,poolA a,A])):=by
 intro z R w H;replace H:=H.l4;obtain ⟨y,o,d,c,H⟩:=H.pgsc 1 Z;replace H:=H.l4;obtain ⟨bb,oo,cc,rfl⟩:=H.sy 3 (λq=>(hA _ q).sl (by simp[hp.2]));have a5:=hp.1;have a6:(y.map PgE.ie).length=k:=by simp[c]
 refine Ae func41 Z ntmps41 Z (Za 2 [] H Z ?_);intro b1 w H;refine Z2 10 [12,1,0] H Z ?_;rcases d.get n with ⟨m,r⟩|⟨po,l,m,a0,a2,r⟩
 ·refine Ab Z (DI (e:=89) (zv:=.agg #[I 0,.slice none 0 0]) Z J J Z Z (Ay (H.bk 2 Z))) (AC 15 (v:=.tuple #[.agg #[I 0,.slice none 0 0],.bool false]) Z (by simp[CP,r]) (Za 3 [] H Z ?_));intro b2 w H;refine Z4 22 [0,11,2,0,0] H Z ?_;intro w H;refine Al 27 Z (λh1=>U) (λh1=>?_)
  refine Z2 11 [2,4,2,0,0] H Z (Ag Z (λh2=>U) (λh2=>?_));refine Z2 6 [0,1,0,0] H Z (Al 40 Z (λh3=>U) (λh3=>?_));refine Z2 5 [0,1,0,0] H Z (Al 45 Z (λh4=>U) (λh4=>?_));refine Z2 18 [1,1,0,4,12,2,0] H Z (Ab Z (NO (e:=89) Z J Z (Ay (H.bk 3 Z))) (Z0 5 [0] Z (Ag Z (λh5=>?_) (λh5=>?_))))
  ·refine Zc 6 Z (Zr Z ?_);replace H:=(H.toPgsc 3 Z d c).l6
   exact ⟨_,.inl ⟨⟨m,by omega⟩,Z,Z⟩,H.perm 6 [2,3,4,5] Z Z⟩
  refine Zc 4 Z ?_;replace H:=H.f1.f2;refine AO (Sep z (stB ps pd pt x u md true (.map (some f))::blk b1 [I p.kind,.slice (some ⟨bb,oo,none⟩) 240 cc] 89::R)) 8 Z J (A5 H λw H'=>?_);have H:=H'.l6;refine AU [0,1,2,3,4,5] [12,0,0,1,2] [] (by exact H.pick 6 [0,1] Z) Z J Z (AB [6] J O (An (Bo Z Z Z Z Z Z (λw=>call90 _ w) (GQ p _ _ hA hp) H.f5 Z ?_)));rintro _ w _ ⟨v1,rfl,rfl⟩ H;replace H:=H.l7;refine Av (H.pick 7 [2,3] Z) (AB [7] J O (An (Bg Z Z Z (DN 5 (e:=89) H Z Z J Z Z Z) ?_)));rintro w H;replace H:=H.l7;refine Av (H.pick 7 [2,3] Z) (a_done J (gn (Zc 7 Z (Zr Z ?_))));replace H:=H.f6;obtain ⟨a,⟨b,j⟩,H⟩:=DV H (λh q=>q.rd);replace H:=H.l6;obtain ⟨es2,t,i,s⟩:=(d.le b).put (k:=n) (p:=p) hp j;rw[t] at H;have H:Sep z (poolA a::A::stB ps pd pt x u md true (.map (some f))::blk b1 [I p.kind,.slice (some ⟨bb,oo,none⟩) 240 cc] 89::blk b2 [I 0,.slice none 0 0] 89::AH f (es2.map PgE.ie) (putC (y.map PgE.ie) (n:Int) o)::R) w:=H;replace H:=(H.toPgsc 5 Z i (by rw[s,c])).l6;exact ⟨_,.inr ⟨λq=>by first|(rw[m] at q;cases q.1;done)|omega,a,b,rfl,rfl⟩,H.perm 6 [2,5,0,1] rfl rfl⟩
 have a1:Slc l 240:=a2.slc;refine Ab Z (DI (e:=89) (zv:=.agg #[I 0,.slice none 0 0]) Z J J Z Z (Ay (H.bk 2 Z))) (AC 15 (v:=.tuple #[.agg #[I po.kind,l],.bool true]) Z (by simp[CP,r]) (Za 3 [] H Z ?_));intro b3 w H;refine Az Z Z (Ak 0 H Z Z Z Z (vs:=[I po.kind,l]) Z (Ad Z (Ad a1.one Aw)) J O (out:=[I po.kind,l]) Z) ?_;rintro w H;replace H:=H.l6;refine Z2 21 [11,2,0,0] H Z (Al 27 Z (λh6=>U) (λh6=>?_));refine Z2 11 [2,4,2,0,0] H Z (Ag Z (λh7=>U) (λh7=>?_));refine Z2 6 [0,1,0,0] H Z (Al 40 Z (λh8=>U) (λh8=>?_));refine Z2 5 [0,1,0,0] H Z (Al 45 Z (λh9=>U) (λh9=>?_));refine Z2 29 [1,1,0,4] H Z ?_;replace H:=H.f1.f2;refine AO (Sep z (stB ps pd pt x u md true (.map (some f))::blk b1 [I p.kind,.slice (some ⟨bb,oo,none⟩) 240 cc] 89::R)) 8 Z J (A5 H λw H'=>?_);have H:=H'.l6;refine AU [0,1,2,3,4,5] [12,0,0,1,2] [] (by exact H.pick 6 [0,1] Z) Z J Z (AB [6] J O (An (Bo Z Z Z Z Z Z (λw=>call90 _ w) (GQ p _ _ hA hp) H.f5 Z ?_)));rintro _ w _ ⟨v1,rfl,rfl⟩ H;replace H:=H.l7;refine Av (H.pick 7 [2,3] Z) (AB [7] J O (An (Bg Z Z Z (DN 5 (e:=89) H Z Z J Z Z Z) ?_)));rintro w H;replace H:=H.l7;refine Av (H.pick 7 [2,3] Z) (a_done J (gn (Zc 7 Z (Zr Z ?_))));replace H:=H.f6;obtain ⟨a,⟨b,j⟩,H⟩:=DV H (λh q=>q.rd);replace H:=H.l6;obtain ⟨es2,t,i,s⟩:=(d.le b).put (k:=n) (p:=p) hp j;rw[t] at H;have H:Sep z (poolA a::A::stB ps pd pt x u md true (.map (some f))::blk b1 [I p.kind,.slice (some ⟨bb,oo,none⟩) 240 cc] 89::blk b3 [I po.kind,l] 89::AH f (es2.map PgE.ie) (putC (y.map PgE.ie) (n:Int) o)::R) w:=H;replace H:=(H.toPgsc 5 Z i (by rw[s,c])).l6;exact ⟨_,.inr ⟨λq=>by first|(rw[m] at q;cases q.1;done)|omega,a,b,rfl,rfl⟩,H.perm 6 [2,5,0,1] rfl rfl⟩
section
theorem Ju{s:Sup}(hs:SOk s)(x:Int):s.start<=(ringAt s x:Int)/\(ringAt s x:Int)<s.start+s.len:=by
 have a:=hs.start;have d:=hs.head;have b:=Agd x (by omega:s.len≠0);have c:=AfY x (by omega:0<s.len);unfold ringAt;omega
def Oo(s:Sup)(D D':Dsk):Prop:=∀i:Nat,s.start<=(i:Int)->(i:Int)<s.start+s.len->D'.dur i=D.dur i/\D'.ver i=D.ver i
def SameOut(s:Sup)(D D':Dsk):Prop:=∀i:Nat,¬(s.start<=(i:Int)/\(i:Int)<s.start+s.len)->D'.dur i=D.dur i/\D'.ver i=D.ver i
theorem PInv.out{D D':Dsk}{s:Sup}{rs:List Rc}{f:List (List UInt8)}{a q u:Int}{b:Bool}{sure:Nat}(h:PInv D s rs f a q u b sure)(hs:SOk s)(g:Oo s D D'):PInv D' s rs f a q u b sure:=by
 have d:∀x:Int,D'.dur (ringAt s x)=D.dur (ringAt s x)/\D'.ver (ringAt s x)=D.ver (ringAt s x):=λx=>g _ (Ju hs x).1 (Ju hs x).2;refine ⟨h.fa,h.fq,h.fu,h.ul,h.pb,h.part,h.recs,λi hi c e=>h.old i hi c ?_,λi c e=>?_,λi c e=>?_,h.sure⟩
 ·unfold Dn at e ⊢;rwa[(d _).1,(d _).2] at e
 ·have:=h.last i c e
  unfold Dsk.cont at this ⊢;rw[(d _).1,(d _).2];exact this
 rw[(d _).1,(d _).2];exact h.dura i c e
theorem RD{f:BC}{ims:List Img}{n:Nat}(h:(f n).isSome=true):(EK f ims n).isSome=true:=by rw[Qc,h];rfl
theorem Gh(a:List Rc):∀(rs:List Rc) {n:Nat},(ov rs n).isSome=true->(ov (rs++a) n).isSome=true:=by
 induction a with
 | nil=>intro rs n h;rwa[AeQ]
 | cons r a ih=>
  intro rs n h;rw[show rs++r::a=(rs++[r])++a from by simp];exact ih _ (by rw[Jn];exact RD h)
theorem HM{rs:List Rc}{k n:Nat}(h:(ov (rs.take k) n).isSome=true):(ov rs n).isSome=true:=by
 have:=Gh (rs.drop k) _ h;rwa[AeI] at this
structure Clean(D:Dsk):Prop where
 f1:D.f1=0
 f2:D.f2=0
 f3:D.f3=0
 cut:D.cut=false
theorem Clean.bad{D:Dsk}(h:Clean D):¬D.bad:=by
 rintro (g|⟨g,_⟩)
 ·rw[h.f2] at g;cases g
 rw[h.cut] at g;cases g
theorem Clean.flb{D:Dsk}(h:Clean D):¬D.flb:=by
 rintro (g|⟨g,_⟩)
 ·rw[h.f3] at g;cases g
 rw[h.cut] at g;cases g
theorem Clean.wr1{D:Dsk}(h:Clean D)(b:Bool)(x:Nat)(p:List UInt8):Clean (wr1 D b x p):=by
 have a:=Dsk.ws_f b [p] {D with f2:=Be D.f2} x;refine ⟨a.1.trans h.f1,a.2.1.trans ?_,a.2.2.1.trans h.f3,a.2.2.2.1.trans h.cut⟩;show Be D.f2=0;rw[h.f2];rfl
theorem Clean.wr{D:Dsk}(h:Clean D)(x:Nat)(ps:List (List UInt8)):Clean (D.wr x ps):=by
 have a:=Dsk.ws_f false ps {D with f2:=Be D.f2} x;refine ⟨a.1.trans h.f1,a.2.1.trans ?_,a.2.2.1.trans h.f3,a.2.2.2.1.trans h.cut⟩;show Be D.f2=0;rw[h.f2];rfl
theorem Clean.hw(l:List (Nat×Pg)):∀{D:Dsk},Clean D->Clean (hwD D l):=by
 induction l with
 | nil=>intro D h;exact h
 | cons x l ih=>intro D h;rw[hwD_cons];exact ih (h.wr _ _)
theorem Clean.fl{D:Dsk}(h:Clean D):Clean D.fl:=⟨h.f1,h.f2,by show Be D.f3=0;rw[h.f3];rfl,h.cut⟩
theorem Clean.sv{D:Dsk}(h:Clean D)(x:Sup):Clean (Fi D x):=h.wr1 true _ _
theorem Clean.setF{D:Dsk}(h:Clean D){l:List (Nat×Pg)}{c:Int}{a:Dsk}:¬LO D l c a:=by
 rintro (⟨j,g,_⟩|⟨g,_⟩|⟨g,_⟩)
 ·exact (h.hw _).bad g
 ·exact (h.hw _).flb g
 exact (h.hw _).fl.bad g

structure SInv(D:Dsk)(x:Sup)(B:Nat->Pg)(rs:List Rc)(ptl:List (List UInt8))(a q u:Int)(b:Bool)(sure:Nat):Prop where
 ok:x.Ok (D.n:Int)
 p:PInv D x rs ptl a q u b sure
 s:SOk x
 gen:1<=x.gen
 num:∀r∈rs,∀m∈r.ims,m.num<x.pages
 home:∀i:Nat,(i:Int)<x.pages->∀c,Dn D (2+i) c->HomeP c i (B i)\/((ov (rs.take sure) i).isSome=true/\∃p,HomeP c i p)
 sup:D.dur (x.gen%2).toNat=DC x/\D.ver (x.gen%2).toNat=[]
 oth:∃y:Sup,y.Ok (D.n:Int)/\y.gen=x.gen-1/\D.dur ((x.gen+1)%2).toNat=DC y/\D.ver ((x.gen+1)%2).toNat=[]
 rest:∀i:Nat,2+x.pages<=(i:Int)->¬(x.start<=(i:Int)/\(i:Int)<x.start+x.len)->∀c,Dn D i c->∀e q,Tg c e q->e<=x.epoch
variable{D D':Dsk}{x:Sup}{B:Nat->Pg}{rs:List Rc}{ptl:List (List UInt8)}{a q u:Int}{b:Bool}{sure:Nat}
theorem SInv.cur(h:SInv D x B rs ptl a q u b sure){i:Nat}(hi:(i:Int)<x.pages)(c:ov rs i=none):HomeP (D.cont (2+i)) i (B i):=by
 rcases h.home i hi _ (cont_has D _) with g|⟨g,_⟩
 ·exact g
 have:=HM g;rw[c] at this;cases this
theorem SInv.ovb(h:SInv D x B rs ptl a q u b sure){n:Nat}(e:(ov rs n).isSome=true):(n:Int)<x.pages:=by
 obtain ⟨p,hp⟩:=Ae3.1 e;obtain ⟨r,c,m,d,i,_⟩:=KL _ rs Z hp;have f:=h.num r c m d;have g:=h.ok.2;omega
theorem SInv.ovok(h:SInv D x B rs ptl a q u b sure){n:Nat}{p:Pg}(f:ov rs n=some p):p.Ok:=by
 obtain ⟨r,c,m,e,_,rfl⟩:=KL _ rs Z f;obtain ⟨j,d⟩:=AeV c;exact Qb ((h.p.recs j r d).2.2 m e)
theorem SInv.f(h:SInv D x B rs ptl a q u b sure)(k:D'.n=D.n)(g:D'.dur=D.dur)(j:D'.ver=D.ver):SInv D' x B rs ptl a q u b sure:=
 ⟨by rw[k];exact h.ok,h.p.f g j,h.s,h.gen,h.num,λi hi c e=>h.home i hi c (by unfold Dn at e ⊢;rwa[g,j] at e),by rw[g,j];exact h.sup,by
  obtain ⟨y,a,b,c,d⟩:=h.oth;exact ⟨y,by rw[k];exact a,b,by rw[g];exact c,by rw[j];exact d⟩,λi hi l c e=>h.rest i hi l c (by unfold Dn at e ⊢;rwa[g,j] at e)⟩
theorem SInv.log(h:SInv D x B rs ptl a q u b sure)(o:D'.n=D.n)(v:SameOut x D D'){e:List Rc}{f:List (List UInt8)}{a' t p:Int}{b':Bool}(hp:PInv D' x e f a' t p b' sure)(l:e.take sure=rs.take sure)(k:∀r∈e,∀m∈r.ims,m.num<x.pages):SInv D' x B e f a' t p b' sure:=by
 have z:=h.ok.2;have w:=h.gen;have g:∀i:Nat,(i:Int)<x.start->D'.dur i=D.dur i/\D'.ver i=D.ver i:=λi hi=>v i U;refine ⟨by rw[o];exact h.ok,hp,h.s,w,k,λi hi c j=>?_,?_,?_,λi hi l c j=>h.rest i hi l c (by have:=v i l;unfold Dn at j ⊢;rwa[this.1,this.2] at j)⟩
 ·have:=g (2+i) U
  unfold Dn at j;rw[this.1,this.2] at j;rw[l];exact h.home i hi c j
 ·have:=g (x.gen%2).toNat U
  rw[this.1,this.2];exact h.sup
 obtain ⟨y,a,b,c,d⟩:=h.oth;have:=g ((x.gen+1)%2).toNat U;exact ⟨y,by rw[o];exact a,b,by rw[this.1];exact c,by rw[this.2];exact d⟩
theorem EH{D:Dsk}{i:Nat}(h:D.ver i=[]):D.cont i=D.dur i:=JV h
theorem SInv.flush(h:SInv D x B rs ptl a q u b sure):SInv D.fl x B rs ptl a q u b rs.length:=by
 refine ⟨h.ok,h.p.flush,h.s,h.gen,h.num,λi hi c e=>?_,?_,?_,λi hi f c e=>h.rest i hi f c (fl_has e)⟩
 ·rw[Ae2]
  rcases h.home i hi c (fl_has e) with g|⟨j,k⟩
  ·exact .inl g
  exact .inr ⟨HM j,k⟩
 ·exact ⟨(EH h.sup.2).trans h.sup.1,Z⟩
 obtain ⟨y,a,b,c,d⟩:=h.oth;exact ⟨y,a,b,(EH d).trans c,Z⟩
theorem YR(a:x.Ok (D.n:Int)){l:List (Nat×Pg)}(c:∀y∈l,(y.1:Int)<x.pages):Oo x D (hwD D l):=λi hi _=>by
 have d:=a.2;refine ⟨by rw[KM],KN l D i λy b e=>?_⟩;have:=c y b;omega
theorem SInv.hw(h:SInv D x B rs ptl a q u b rs.length){l:List (Nat×Pg)}(n:∀y∈l,ov rs y.1=some y.2):SInv (hwD D l) x B rs ptl a q u b rs.length:=by
 have t:=h.gen;have k:∀y∈l,(y.1:Int)<x.pages:=λy j=>h.ovb (by rw[n y j];rfl);have f:∀i:Nat,i<2->(hwD D l).ver i=D.ver i:=λi hi=>KN l D i λy _ e=>by omega
 refine ⟨by rw[E9];exact h.ok,h.p.out h.s (YR h.ok k),h.s,t,h.num,λi hi c m=>?_,?_,?_,λi hi o c m=>?_⟩
 ·rcases hw_has l D _ c m with g|⟨y,j,r,m⟩
  ·exact h.home i hi c g
  refine .inr ⟨?_,y.2,.inr ⟨h.ovok (n y j),?_⟩⟩
  ·rw[Ae2,show i=y.1 from by omega,n y j];rfl
  rw[m,show i=y.1 from by omega]
 ·rw[KM,f _ U];exact h.sup
 ·obtain ⟨y,a,b,c,d⟩:=h.oth
  exact ⟨y,by rw[E9];exact a,b,by rw[KM];exact c,by rw[f _ U];exact d⟩
 rcases hw_has l D _ c m with g|⟨y,j,r,_⟩
 ·exact h.rest i hi o c g
 have:=k y j;omega
theorem SInv.setF(h:SInv D x B rs ptl a q u b rs.length){e:List Int}(g:Fa (ov rs) e){c:Int}{k:Dsk}(m:LO D (pgLst (ov rs) e) c k):SInv k x B rs ptl a q u b rs.length:=by
 have i:∀l:List (Nat×Pg),(∀y∈l,y∈pgLst (ov rs) e)->SInv (hwD D l) x B rs ptl a q u b rs.length:=λl n=>h.hw λy d=>(Ew g y.1 y.2).1 (n y d);rcases m with ⟨j,_,_,rfl⟩|⟨_,_,rfl⟩|⟨_,_,rfl⟩
 ·exact (i _ λy d=>Afa d).f Z Z Z
 ·exact (i _ λy d=>d).f Z Z Z
 exact (i _ λy d=>d).flush.f Z Z Z
theorem SInv.settled(h:SInv D x B rs ptl a q u b rs.length){f:List Int}(j:Fa (ov rs) f)(hq:q<=1099511627776){y:Sup}(hy:y.Ok (D.n:Int))(h1:y.start=x.start)(o:y.len=x.len)(h3:y.epoch=x.epoch)(h4:y.head=a)(h5:y.seq=q)(h6:y.pages=x.pages)(h7:y.gen=x.gen+1):
  SInv (Fi (hwD D (pgLst (ov rs) f)).fl y) y (pgMap (ov rs) B) [] [] a q 0 false 0:=by
 have hk:=h.ok.2;have hg:=h.gen;have l:SInv (hwD D (pgLst (ov rs) f)) x B rs ptl a q u b rs.length:=h.hw λz hz=>(Ew j z.1 z.2).1 hz;have k:=l.flush;have m:=h.p.at_ok h.s;have a4:=Sup.get hy;have a0:=h.p.fq;have v:0<=q:=by split at a0<;>omega
 have w:SOk y:=⟨by rw[h1];exact h.s.start,by rw[h4,o];exact m,by rw[h3];exact h.s.epoch,by rw[h5];exact v⟩;have a2:Oo x (hwD D (pgLst (ov rs) f)).fl (Fi (hwD D (pgLst (ov rs) f)).fl y):=λi hi _=>by
  have:=ER (hwD D (pgLst (ov rs) f)).fl y i U;exact this
 have t:=k.p.out h.s a2;have a1:=t.drop h.s hq h1 o h3 h4 h5 U (by rw[h4,o];exact m);refine ⟨by show y.Ok ((hwD D _).n:Int);rw[E9];exact hy,a1,w,by omega,λr hr=>(by cases hr),λi hi c g=>.inl ?_,HH _ y,?_,λi hi hr c g e q' ht=>?_⟩
 ·have d:=ER (hwD D (pgLst (ov rs) f)).fl y (2+i) U
  unfold Dn at g;rw[d.1,d.2] at g;rcases g with rfl|g
  ·show HomeP ((hwD D (pgLst (ov rs) f)).cont (2+i)) i _
   unfold pgMap
   cases ho:ov rs i with
   | some p=>
    have hm:(i,p)∈pgLst (ov rs) f:=(Ew j i p).2 ho;rw[Xk _ D (EU j) (i,p) hm];exact .inr ⟨h.ovok ho,Z⟩
   | none=>
    rw[hw_cont_out _ D _ (λz hz e=>by
     have:=(Ew j z.1 z.2).1 hz;rw[show z.1=i from by omega,ho] at this;cases this)]
    exact h.cur U ho
  cases g
 ·refine ⟨x,by show x.Ok ((hwD D _).n:Int);rw[E9];exact h.ok,by omega,?_⟩
  have d:=ER (hwD D (pgLst (ov rs) f)).fl y ((y.gen+1)%2).toNat U;rw[d.1,d.2,show (y.gen+1)%2=x.gen%2 from by omega];exact k.sup
 have d:=ER (hwD D (pgLst (ov rs) f)).fl y i U;unfold Dn at g;rw[d.1,d.2] at g;rw[h3];exact k.rest i U (by rwa[h1,o] at hr) c g e q' ht
theorem SInv.tags(h:SInv D x B rs ptl a q u b sure)(hq:q<=1099511627776){i:Nat}(hi:2+x.pages<=(i:Int)){c:List UInt8}(g:Dn D i c){e f:Int}(d:Tg c e f):e<=x.epoch:=by
 by_cases hr:x.start<=(i:Int)/\(i:Int)<x.start+x.len
 ·have m:0<x.len:=by have:=h.s.head;omega
  obtain ⟨j,k,l⟩:=Ob m x.head ((i:Int)-x.start);have hi:ringAt x ((i:Int)-x.start)=i:=by
   unfold ringAt;rw[Agf U U];omega
  have:=h.p.tags h.s hq k (c:=c) (by rw[<-l,hi];exact g) d;omega
 exact h.rest i hi hr c g e f d
theorem PInv.fresh{D:Dsk}{s:Sup}(hs:SOk s)(h:∀i:Nat,s.start<=(i:Int)->(i:Int)<s.start+s.len->∀c,Dn D i c->∀e q,Tg c e q->e<s.epoch):PInv D s [] [] s.head s.seq 0 false 0:=by
 refine ⟨?_,by simp,by simp[secs],by have:=hs.head;omega,λ_=>rfl,.inl Z,λj r h=>by simp at h,λi hi c b=>.inl λe q a=>.inl ?_,λi c h=>by simp[secs] at h,λi c h=>by simp[secs] at h,Aed _⟩
 ·rw[AhP,Agf hs.head.1 hs.head.2]
 have:=Ju hs (s.head+i);exact h _ this.1 this.2 c b e q a
end
def Xq(c:Int)(ims:List Img)(room:Prop):Prop:=(c=16/\ims.length > 40)\/(c=1/\ims.length<=40/\(ims=[]\/¬EG ims))\/(c=15/\(1<=ims.length/\ims.length<=40)/\EG ims/\¬room)
structure OpM where
 k0:Int
 kd:Int
 fl:Int
 k4:Int
 k5:Int
 ns:List Int
abbrev OpE:=OpM×Value×Value
def OpE.cells(e:OpE):List Value:=[.int .i64 e.1.k0,e.2.1,.int .i64 e.1.kd,.int .i64 e.1.fl,.int .i64 e.1.k4,.int .i64 e.1.k5,e.2.2]
def s5:Sup:=⟨1,1,16,18,64,0,5⟩
theorem SameOut.one{s:Sup}{D:Dsk}{x:Nat}{ps:List (List UInt8)}(a:s.start<=x)(b:(x:Int)+ps.length<=s.start+s.len):SameOut s D (D.wr x ps):=λi hi=>⟨by rw[S5],Gs _ _ _ _ U⟩
theorem SameOut.trans{s:Sup}{D d a:Dsk}(b:SameOut s D d)(c:SameOut s d a):SameOut s D a:=λi hi=>⟨(c i hi).1.trans (b i hi).1,(c i hi).2.trans (b i hi).2⟩
theorem ME(pl pd l:Nat)(d x:Sup)(w:Bool)(v:Value)(ims:List Img)(A:Af)(hA:∀h,A h->imgsH v ims h)(D:Dsk){B:Nat->Pg}{rs:List Rc}{ptl:List (List UInt8)}{a q u:Int}{b:Bool}{sure:Nat}(j:SInv D x B rs ptl a q u b sure)(a7:∀m∈ims,m.num<x.pages)(h1:d.start=x.start)(h2:d.len=x.len)(h3:d.epoch=x.epoch)(a8:d.Ok (D.n:Int))(a9:w=decide (d.epoch<4294967296))(hq:0<=q/\q<=1099511627776)(a5:∀i,(D.ver i).length<=1000000000000):
  Cn prog 146 [Y pl,v] [blk pl [Y pd,Y l,I d.gen,I d.epoch,I d.pages,I d.start,I d.len,I d.head,I d.seq,I a,I q,I u,.bool b,.bool w] 227,tblA l,diskA pd D,A] (λv Γ=>
   (∃(Da:Dsk) (a2 q2 u2:Int),(1<=ims.length/\ims.length<=40)/\EG ims/\SInv Da x B (rs++[⟨q,ims⟩]) [] a2 q2 u2 b sure/\b=false/\(Clean D->Clean Da)/\(Da.n=D.n/\∀i,(Da.ver i).length<=(D.ver i).length+2)/\q2=q+1/\u2=u+(1+(ims.length:Int))/\v=I 0/\Γ=[blk pl [Y pd,Y l,I d.gen,I d.epoch,I d.pages,I d.start,I d.len,I d.head,I d.seq,I a2,I q2,I u2,.bool b,.bool w] 227,tblA l,diskA pd Da,A])\/
   (∃c:Int,Xq c ims (1+(ims.length:Int)<=(if b then 0 else x.len-u)/\w=true/\q<1099511627776)/\v=I c/\Γ=[blk pl [Y pd,Y l,I d.gen,I d.epoch,I d.pages,I d.start,I d.len,I d.head,I d.seq,I a,I q,I u,.bool b,.bool w] 227,tblA l,diskA pd D,A])\/
   (∃(Df:Dsk) (a6:List (List UInt8)),¬Clean D/\SInv Df x B rs a6 a (q+1) u true sure/\(Df.n=D.n/\∀i,(Df.ver i).length<=(D.ver i).length+2)/\v=I 11/\Γ=[blk pl [Y pd,Y l,I d.gen,I d.epoch,I d.pages,I d.start,I d.len,I d.head,I d.seq,I a,I (q+1),I u,.bool true,.bool w] 227,tblA l,diskA pd Df,A])):=by
 have z:=j.p;have hs:=j.s;have b4:=z.at_ok hs;have b1:=hs.head;have b3:=hs.start;have b2:=z.fu;have b0:=z.ul;refine Cn.mono (Vd pl pd l d a q u b w v ims A hA D a8 a9 U U U a5) ?_;rintro v Γ (⟨g,rfl,rfl⟩|⟨g,o,rfl,rfl⟩|⟨g,o,g3,rfl,rfl⟩|⟨g,o,g3,k,hk,g4⟩)
 ·exact .inr (.inl ⟨16,.inl ⟨Z,g⟩,Z,Z⟩)
 ·exact .inr (.inl ⟨1,.inr (.inl ⟨Z,g,o⟩),Z,Z⟩)
 ·exact .inr (.inl ⟨15,.inr (.inr ⟨Z,g,o,by rw[<-h2];exact g3⟩),Z,Z⟩)
 have a1:=g3.1
 cases b with
 | true=>rw[if_pos Z] at a1;omega
 | false=>
  rw[if_neg (by decide)] at a1;have t:1+(ims.length:Int)<=x.len-u:=by omega
  have a3:(k:Int)=min (1+(ims.length:Int)) (x.len-a):=by rw[<-h2];exact hk
  have a0:=FP x.epoch q ims;rw[h1,h3] at g4;have l1:=λi=>Dsk.wr_len D (x.start+a).toNat ((BB x.epoch q ims).take k) i;have l2:=λi=>Dsk.wr_len (D.wr (x.start+a).toNat ((BB x.epoch q ims).take k)) x.start.toNat ((BB x.epoch q ims).drop k) i;have o1:SameOut x D (D.wr (x.start+a).toNat ((BB x.epoch q ims).take k)):=SameOut.one U (by rw[Aes,a0];omega);have o2:SameOut x (D.wr (x.start+a).toNat ((BB x.epoch q ims).take k)) ((D.wr (x.start+a).toNat ((BB x.epoch q ims).take k)).wr x.start.toNat ((BB x.epoch q ims).drop k)):=SameOut.one U (by rw[AeG,a0];omega);have e:=z.app hs g o.1 t a3;have a4:(rs++[(⟨q,ims⟩:Rc)]).take sure=rs.take sure:=Aeo z.sure;have f:∀r∈rs++[(⟨q,ims⟩:Rc)],∀m∈r.ims,m.num<x.pages:=λr t m hm=>by
   rcases Aek.1 t with t|t
   ·exact j.num r t m hm
   rw[Afn.1 t] at hm;exact a7 m hm
  rcases g4 with ⟨_,g5,rfl,rfl⟩|⟨_,g5,_,rfl,rfl⟩|⟨g5,rfl,rfl⟩|⟨_,g6,g5,rfl,rfl⟩
  ·unfold E7 at e
   rw[if_neg U] at e;exact .inl ⟨_,(a+(1+(ims.length:Int)))%x.len,q+1,u+(1+(ims.length:Int)),g,o,j.log (Dsk.wr_n _ _ _) o1 e a4 f,Z,λy=>y.wr _ _,⟨Dsk.wr_n _ _ _,λi=>by have:=l1 i;omega⟩,Z,Z,Z,by simp only[lgB,h1,h2,h3]⟩
  ·unfold E7 at e
   rw[if_pos U] at e;exact .inl ⟨_,(a+(1+(ims.length:Int)))%x.len,q+1,u+(1+(ims.length:Int)),g,o,j.log (by rw[Dsk.wr_n,Dsk.wr_n]) (o1.trans o2) e a4 f,Z,λy=>(y.wr _ _).wr _ _,⟨by rw[Dsk.wr_n,Dsk.wr_n],λi=>by have:=l1 i;have:=l2 i;omega⟩,Z,Z,Z,by simp only[lgB,h1,h2,h3]⟩
  ·exact .inr (.inr ⟨D.wf,_,λy=>y.bad g5,SInv.log (D':=D.wf) j Z (λ_ _=>⟨Z,Z⟩) z.fail0 Z j.num,⟨Z,λi=>by show (D.ver i).length<=_;omega⟩,Z,by simp only[lgB,h1,h3]⟩)
  exact .inr (.inr ⟨Dsk.wf (D.wr (x.start+a).toNat ((BB x.epoch q ims).take k)),_,λy=>(y.wr _ _).bad g5,SInv.log (D':=Dsk.wf (D.wr (x.start+a).toNat ((BB x.epoch q ims).take k))) j (Dsk.wr_n _ _ _) o1 (z.fail1 hs g o.1 t a3 g6) Z j.num,⟨Dsk.wr_n _ _ _,λi=>by have:=l1 i;show ((D.wr (x.start+a).toNat ((BB x.epoch q ims).take k)).ver i).length<=_;omega⟩,Z,by simp only[lgB,h1,h3]⟩)
def Ee(x:Sup)(a q:Int):Sup:= {x with gen:=x.gen+1,head:=a,seq:=q}
theorem Nf(x:Sup)(a q:Int):(Ee x a q).gen=x.gen+1/\(Ee x a q).epoch=x.epoch/\(Ee x a q).pages=x.pages/\(Ee x a q).start=x.start/\(Ee x a q).len=x.len/\(Ee x a q).head=a/\(Ee x a q).seq=q:=⟨Z,Z,Z,Z,Z,Z,Z⟩
theorem Sup.ok_mk{s:Sup}{n:Int}(c:0<=s.gen/\s.gen<=1099511627776)(f:0<=s.epoch/\s.epoch<=1099511627776)(d:16<=s.pages/\s.pages<=1024)(g:2+s.pages<=s.start/\s.start<=1099511627776)(h:64<=s.len/\s.len<=1099511627776)(b:0<=s.head/\s.head<s.len)(e:0<=s.seq/\s.seq<=1099511627776)(i:s.start<=n-s.len/\s.len<=n):s.Ok n:=by
 refine ⟨λy a=>?_,by omega,by omega,by omega,by omega,by omega,by omega,by omega⟩;simp only[Sup.list,Aei,List.not_mem_nil,or_false] at a;omega
theorem IX(ps pd b md:Nat)(x:Sup)(k h:Value)(l:Bool)(f:BC)(hq:Hp)(y:Sup)(D:Dsk)(p:∀n,(f n).isSome=true->n<1024)(m:∀n,(f n).isSome=true->2+n<D.n)(e:y.Ok (D.n:Int))(g:∀i,(D.ver i).length<=1000000000000):
  Cn prog 84 [Y ps,.agg #[I y.gen,I y.epoch,I y.pages,I y.start,I y.len,I y.head,I y.seq]] [stB ps pd b x k md l h,tblA b,diskA pd D,pgsA md f hq,poolA hq] (λv Γ=>(∃a:List Int,Fa f a/\v=I 0/\Γ=[stB ps pd b y k md l h,tblA b,diskA pd (Fi (hwD D (pgLst f a)).fl y),pgsA md Do hq,poolA hq])\/(∃(a:List Int) (c:Int) (j:Dsk),Fa f a/\c≠0/\LO D (pgLst f a) c j/\v=I c/\Γ=[stB ps pd b x k md l h,tblA b,diskA pd j,pgsA md f hq,poolA hq])):=by
 refine Cn.mono (VA ps pd b md x k h l f hq y D p m e g) ?_;rintro v Γ ⟨a,d,⟨o,q⟩|⟨c,j,o,q,r,s⟩⟩
 ·exact .inl ⟨a,d,o,q⟩
 exact .inr ⟨a,c,j,d,o,q,r,s⟩
theorem Tp{D a:Dsk}{l:List (Nat×Pg)}{c:Int}(h:LO D l c a):a.n=D.n:=by
 rcases h with ⟨j,_,_,rfl⟩|⟨_,_,rfl⟩|⟨_,_,rfl⟩
 ·exact E9 _ _
 ·exact E9 _ _
 exact E9 _ _
theorem Or{D a:Dsk}{l:List (Nat×Pg)}{c:Int}(b:(l.map Prod.fst).Nodup)(h:LO D l c a)(i:Nat):(a.ver i).length<=(D.ver i).length+1:=by
 rcases h with ⟨j,_,_,rfl⟩|⟨_,_,rfl⟩|⟨_,_,rfl⟩
 ·exact Od _ D i (b.sublist ((List.take_sublist _ _).map _))
 ·exact Od _ D i b
 show ([]:List (List UInt8)).length<=_;simp
theorem HN{D:Dsk}(h:∀i,D.ver i=[])(x:Sup)(i:Nat):(Fi D x).ver i=[]:=by
 by_cases e:i=(x.gen%2).toNat
 ·rw[e];exact (HH D x).2
 rw[(ER D x i e).2];exact h i
theorem Ot{b:Bool}{l u:Int}(h:(0:Int)<(if b then 0 else l-u)):b=false/\u<l:=by
 cases b with
 | true=>rw[if_pos Z] at h;omega
 | false=>rw[if_neg (by decide)] at h;exact ⟨Z,by omega⟩
theorem PgsIn.nil_iff{f:BC}{es:List PgE}{clk:Nat}{hq:Hp}(h:PgsIn f es clk hq):es.length=0↔∀n,f n=Option.none:=by
 constructor
 ·intro e n
  obtain rfl:=Af7.1 e
  cases a:f n with
  | none=>rfl
  | some p=>obtain ⟨e,b,_⟩:=h.all n p a;cases b
 intro a
 cases es with
 | nil=>rfl
 | cons e es=>
  have:=(h.ent e O).1;rw[a] at this;cases this
set_option maxHeartbeats 2000000 in
theorem IY (ps pd t pl md:Nat) (x sL:Sup) (mo:Value) (un nu:Bool) (hq:Hp) (D:Dsk) (B:Nat->Pg) (rs:List Rc) (ptl:List (List UInt8)) (a q u:Int) (b:Bool) (sure:Nat) (o:SInv D x B rs ptl a q u b sure) (hL:sL.start=x.start/\sL.len=x.len/\sL.epoch=x.epoch) (b5:q<=1099511627776) (a9:∀i,(D.ver i).length<=1000000000000):Cn prog 71 [Y ps] [stB ps pd t x (Y pl) md un mo,lgB pl pd t sL a q u b nu,tblA t,diskA pd D,pgsA md (ov rs) hq,poolA hq] (λv Γ=>((∀n,ov rs n=none)/\b=false/\u<x.len/\v=I 0/\Γ=[stB ps pd t x (Y pl) md un mo,lgB pl pd t sL a q u b nu,tblA t,diskA pd D,pgsA md (ov rs) hq,poolA hq])\/(∃r:Dsk,¬((∀n,ov rs n=none)/\b=false/\u<x.len)/\SInv r (Ee x a q) (pgMap (ov rs) B) [] [] a q 0 false 0/\(Clean D->Clean r)/\r.n=D.n/\(∀i,r.ver i=[])/\v=I 0/\Γ=[stB ps pd t (Ee x a q) (Y pl) md un mo,lgB pl pd t sL a q 0 false nu,tblA t,diskA pd r,pgsA md Do hq,poolA hq])\/(∃(c:Int) (r:Dsk) (a0:Nat),c≠0/\(¬Clean D\/1099511627776<x.gen+1)/\(SInv r x B rs ptl a q u b a0/\sure<=a0)/\r.n=D.n/\(∀i,(r.ver i).length<=(D.ver i).length+1)/\v=I c/\Γ=[stB ps pd t x (Y pl) md un mo,lgB pl pd t sL a q u b nu,tblA t,diskA pd r,pgsA md (ov rs) hq,poolA hq])):=by
 intro z R w H;replace H:=H.l6;have a3:=o.ok;have b6:=Sup.get a3;have c0:=a3.2;have hP:=o.p;have c1:=hP.at_ok o.s;have b8:=hP.ul;have b9:=hP.fu;have a7:=o.gen;have a4:=hP.fq;have b3:0<=q:=by split at a4<;>omega
 have a2:∀n,(ov rs n).isSome=true->n<1024:=λn h=>by have:=o.ovb h;omega
 have a1:∀n,(ov rs n).isSome=true->2+n<D.n:=λn h=>by have:=o.ovb h;omega
 have b0:=Nf x a q;obtain ⟨es,clk,d,H⟩:=H.pgs 4 Z;replace H:=H.l6;refine Ae func71 Z ntmps71 Z (Z2 12 [10,0,0] H Z (Ab Z (NO (e:=89) Z J Z (Ay (H.bk 4 Z))) (Z0 2 [0] Z (Al 12 Z (λh1=>?_) (λh1=>?_)))))
 ·refine Z2 4 [9,0,0] H Z (z_E_ Z (call122 _) (Ta _ _ _ _ _ _ _ _ _ U) H.f1 ?_);intro w H;refine Z0 4 [0] Z (Ag Z (λh2=>?_) (λh2=>?_))
  ·refine Zc 6 Z (Zr Z ?_);replace H:=(H.toPgs 4 Z d).l6
   have a5:=d.nil_iff.1 (by simpa using h1);exact ⟨_,.inl ⟨a5,(Ot h2).1,by have:=(Ot h2).2;omega,Z,Z⟩,H.perm 6 [1,0,2,3,4,5] Z Z⟩
  refine Za 8 [2,1,7] H Z ?_;intro b1 w H;refine Z5 18 [0,0,0,0,0,0,9,2,0] [x.gen+1] H Z U ?_;intro w H;refine z_E_ Z (call123 _) (Tc _ _ _ _ _ _ _ _ _) H.f1 ?_;intro w H;refine Z4 17 [5,1,6,1,0,1,0,0] H Z ?_;intro w H;refine Ag Z (λh3=>?_) (λh3=>?_)
  ·refine Zc 6 Z (Zr Z ?_);replace H:=(H.toPgs 5 Z d).l7
   exact ⟨_,.inr (.inr ⟨_,D,sure,by decide,.inr U,⟨o,Aed _⟩,Z,λi=>by omega,Z,Z⟩),H.perm 7 [2,0,3,4,5,6] Z Z⟩
  refine Zc 4 Z ?_;have m:(Ee x a q).Ok (D.n:Int):=Sup.ok_mk U U U U U U U U;refine Z2 5 [0,2,0] H Z (Aq Z (call79 _) (HK _ _) H.f4 ?_);rintro _ w _ (⟨k,rfl,rfl⟩|⟨k,rfl,rfl⟩) H'
  ·have H:=H'.l7;refine Z0 17 [3] Z (Zr Z ?_);replace H:=(H.toPgs 5 Z d).l7
   exact ⟨_,.inr (.inr ⟨_,_,sure,by decide,.inl (λy=>y.flb k),⟨SInv.f (D':= {D with f3:=Be D.f3}) o Z Z Z,Aed _⟩,Z,λi=>by show (D.ver i).length<=_;omega,Z,Z⟩),H.perm 7 [3,1,4,0,5,6] Z Z⟩
  have H:=H'.l7;refine Z0 14 [4] Z ?_;replace H:=(H.toPgs 5 Z d).l7;refine Z2 3 [2,7] H Z (Aq Z (call84 _) (IX _ _ _ _ _ _ _ _ (ov rs) _ (Ee x a q) D.fl a2 a1 m (λi=>by show ([]:List (List UInt8)).length<=_;simp)) H.f6.f6.f2.f6.f6 ?_);rintro _ w _ (⟨ks,j,rfl,rfl⟩|⟨ks,c,r,j,l,g,rfl,rfl⟩) H'
  ·have H:=H'.l7;refine Z2 18 [4,9,0,0] H Z (z_E_ Z (call124 _) (Td _ _ _ _ _ _ _ _ _) H.f5 ?_);intro w H;refine Zc 8 Z (Zr Z ?_);exact ⟨_,.inr (.inl ⟨_,(λe=>by first|exact h1 (by have:=d.nil_iff.2 e.1;simpa using this)|exact h2 (by rw[e.2.1];simp;omega)),o.flush.settled j U m Z Z Z Z Z Z Z,λy=>((y.fl.hw _).fl).sv _,by show (hwD _ _).n=_;exact E9 _ _,HN (λ_=>rfl) _,Z,Z⟩),H.perm 7 [1,0,2,3,4,5] Z Z⟩
  have H:=H'.l7;refine Z0 9 [0] Z (Ag Z (λh4=>?_) (λh4=>?_))
  ·refine Zc 7 Z (Zr Z ?_);exact ⟨_,.inr (.inr ⟨_,r,rs.length,l,.inl (λy=>y.fl.setF g),⟨o.flush.setF j g,hP.sure⟩,Tp (D:=D.fl) g,λi=>by have:=Or (EU j) g i;have h0:(D.fl.ver i).length=0:=rfl;omega,Z,Z⟩),H.perm 7 [0,5,1,2,3,4] Z Z⟩
  exact absurd l h4
 refine Za 18 [2,0,7] H Z ?_;intro b2 w H;refine Z5 18 [0,0,0,0,0,0,9,1,0] [x.gen+1] H Z U ?_;intro w H;refine z_E_ Z (call123 _) (Tc _ _ _ _ _ _ _ _ _) H.f2 ?_;intro w H;refine Z4 17 [5,1,6,1,0,1,0,0] H Z ?_;intro w H;refine Ag Z (λh5=>?_) (λh5=>?_)
 ·refine Zc 6 Z (Zr Z ?_);replace H:=(H.toPgs 5 Z d).l7
  exact ⟨_,.inr (.inr ⟨_,D,sure,by decide,.inr U,⟨o,Aed _⟩,Z,λi=>by omega,Z,Z⟩),H.perm 7 [2,0,3,4,5,6] Z Z⟩
 refine Zc 4 Z ?_;have m:(Ee x a q).Ok (D.n:Int):=Sup.ok_mk U U U U U U U U;refine Z2 5 [0,2,0] H Z (Aq Z (call79 _) (HK _ _) H.f4 ?_);rintro _ w _ (⟨k,rfl,rfl⟩|⟨k,rfl,rfl⟩) H'
 ·have H:=H'.l7;refine Z0 17 [3] Z (Zr Z ?_);replace H:=(H.toPgs 5 Z d).l7
  exact ⟨_,.inr (.inr ⟨_,_,sure,by decide,.inl (λy=>y.flb k),⟨SInv.f (D':= {D with f3:=Be D.f3}) o Z Z Z,Aed _⟩,Z,λi=>by show (D.ver i).length<=_;omega,Z,Z⟩),H.perm 7 [3,1,4,0,5,6] Z Z⟩
 have H:=H'.l7;refine Z0 14 [4] Z ?_;replace H:=(H.toPgs 5 Z d).l7;refine Z2 3 [2,7] H Z (Aq Z (call84 _) (IX _ _ _ _ _ _ _ _ (ov rs) _ (Ee x a q) D.fl a2 a1 m (λi=>by show ([]:List (List UInt8)).length<=_;simp)) H.f6.f6.f2.f6.f6 ?_);rintro _ w _ (⟨ks,j,rfl,rfl⟩|⟨ks,c,r,j,l,g,rfl,rfl⟩) H'
 ·have H:=H'.l7;refine Z2 18 [4,9,0,0] H Z (z_E_ Z (call124 _) (Td _ _ _ _ _ _ _ _ _) H.f5 ?_);intro w H;refine Zc 8 Z (Zr Z ?_);exact ⟨_,.inr (.inl ⟨_,(λe=>by first|exact h1 (by have:=d.nil_iff.2 e.1;simpa using this)|exact h2 (by rw[e.2.1];simp;omega)),o.flush.settled j U m Z Z Z Z Z Z Z,λy=>((y.fl.hw _).fl).sv _,by show (hwD _ _).n=_;exact E9 _ _,HN (λ_=>rfl) _,Z,Z⟩),H.perm 7 [1,0,2,3,4,5] Z Z⟩
 have H:=H'.l7;refine Z0 9 [0] Z (Ag Z (λh6=>?_) (λh6=>?_))
 ·refine Zc 7 Z (Zr Z ?_);exact ⟨_,.inr (.inr ⟨_,r,rs.length,l,.inl (λy=>y.fl.setF g),⟨o.flush.setF j g,hP.sure⟩,Tp (D:=D.fl) g,λi=>by have:=Or (EU j) g i;have h0:(D.fl.ver i).length=0:=rfl;omega,Z,Z⟩),H.perm 7 [0,5,1,2,3,4] Z Z⟩
 exact absurd l h6
def Cr(g:BC)(ks:List Int):List Img:=ks.map λk=>⟨k,((g k.toNat).getD noPg).kind,((g k.toNat).getD noPg).body⟩
theorem RE(g:BC)(a:List Int):(Cr g a).length=a.length:=by simp[Cr]
theorem Px{g:BC}{a:List Int}{j n:Nat}{p:Pg}(c:a[j]?=some (n:Int))(b:g n=some p):(Cr g a).take j++[(⟨(n:Int),p.kind,p.body⟩:Img)]=(Cr g a).take (j+1):=by
 rw[AeH];congr 1;unfold Cr;rw[Aej,c];simp[b]
theorem PgsIn.okp{f:BC}{es:List PgE}{clk:Nat}{hq:Hp}(h:PgsIn f es clk hq){n:Nat}{p:Pg}(hp:f n=some p):p.Ok:=by
 obtain ⟨e,b,c⟩:=h.all n p hp;obtain ⟨a,d,_⟩:=h.ent e b;rw[c,hp] at a;cases a;exact d
theorem MF{g:BC}{c:List Int}(h:Fa g c)(j:∀n p,g n=some p->p.Ok)(l:∀n,(g n).isSome=true->n<1024):EG (Cr g c):=by
 have a:∀k∈c,∃p,g k.toNat=some p/\0<=k/\k<1024:=λk b=>by
  obtain ⟨d,e⟩:=(h.2 k).1 b;obtain ⟨p,hp⟩:=Ae3.1 e;have:=l _ e;exact ⟨p,hp,d,by omega⟩
 refine ⟨λm f=>?_,?_⟩
 ·obtain ⟨k,b,rfl⟩:=Aeh.1 f
  obtain ⟨p,hp,d,e⟩:=a k b;have:=j _ p hp;simp only[hp,Option.getD_some];exact ⟨⟨d,by dsimp only;omega⟩,this.1,this.2⟩
 unfold Cr;rw[Afh];refine AfE.2 (h.1.imp λi=>?_);simp only[AgD];omega
theorem RF{g:BC}{a:List Int}{b:Int}(h:Fa g a)(f:∀n,(g n).isSome=true->(n:Int)<b):∀m∈Cr g a,m.num<b:=λm d=>by
 obtain ⟨k,c,rfl⟩:=Aeh.1 d;obtain ⟨i,e⟩:=(h.2 k).1 c;have:=f _ e;dsimp only;omega
theorem Tq{c:Int}{ims:List Img}{a:Prop}(h:Xq c ims a)(b:1<=ims.length/\ims.length<=40)(d:EG ims):c=15/\¬a:=by
 rcases h with ⟨_,h⟩|⟨_,_,rfl|h⟩|⟨rfl,_,_,h⟩
 ·omega
 ·simp at b
 ·exact absurd d h
 exact ⟨Z,h⟩
theorem YS(ims:List Img):∀(f:BC) (n:Nat),(ims.map Img.num).Nodup->(∀m∈ims,0<=m.num)->EK f ims n=((ims.find? λm=>decide (m.num=(n:Int))).map GN).or (f n):=by
 induction ims with
 | nil=>intro f n _ _;rfl
 | cons m ims ih=>
  intro f n c hp;simp only[AeE,Afc] at c;have:EK f (m::ims)=EK (pgSet f m.num.toNat (GN m)) ims:=rfl;rw[this,ih _ _ c.2 (λa h=>hp a (by simp[h])),List.find?_cons];have i:=hp m O;by_cases e:m.num=(n:Int)
  ·have d:(ims.find? λm=>decide (m.num=(n:Int)))=none:=by
    rw[Ahb];intro a b g;exact c.1 (Aeh.2 ⟨a,b,by simp at g;omega⟩)
   rw[d];simp[e,pgSet]
  have:¬n=m.num.toNat:=by omega
  simp[e,pgSet,this]
theorem RG{f g:BC}{a:List Int}(h:Fa g a)(i:EG (Cr g a)):EK f (Cr g a)=Hl f g:=by
 funext n;rw[YS _ _ _ i.2 (λm d=>(i.1 m d).1.1)];unfold Hl;congr 1
 cases hg:g n with
 | some p=>
  have l:(n:Int)∈a:=(h.2 _).2 ⟨by omega,by rw[AeZ,hg];rfl⟩
  cases b:(Cr g a).find? λm=>decide (m.num=(n:Int)) with
  | none=>
   rw[Ahb] at b;exact absurd O (b _ (Aeh.2 ⟨(n:Int),l,Z⟩))
  | some m=>
   have j:=List.find?_some b;obtain ⟨k,c,rfl⟩:=Aeh.1 (List.mem_of_find?_eq_some b);simp only[decide_eq_true_eq] at j;subst j;simp[hg,GN]
 | none=>
  have b:((Cr g a).find? λm=>decide (m.num=(n:Int)))=none:=by
   rw[Ahb];intro m d e;obtain ⟨k,c,rfl⟩:=Aeh.1 d;simp only[decide_eq_true_eq] at e;subst e;have:=((h.2 _).1 c).2;rw[AeZ,hg] at this;cases this
  rw[b];rfl
theorem Qm{rs:List Rc}(h:∀n,ov rs n=none)(b:∀(j:Nat) (r:Rc),rs[j]?=some r->1<=r.ims.length):rs=[]:=by
 cases rs with
 | nil=>rfl
 | cons r rs=>
  exfalso;have d:=b 0 r Z;have c:(ov [r] ((r.ims[0]'U).num.toNat)).isSome=true:=by
   show (EK Do r.ims _).isSome=true;rw[Qc];simp only[Do,Option.isSome_none,Bool.false_or,Ahq];exact ⟨r.ims[0]'U,AfJ _,by simp⟩
  have a:=Gh rs [r] c;rw[show [r]++rs=r::rs from Z,h] at a;cases a
set_option maxHeartbeats 4000000 in
theorem Ts (ps pd pt pl md mo:Nat) (x sL:Sup) (un nu:Bool) (hq:Hp) (g:BC) (k:Nat) (D:Dsk) (B:Nat->Pg) (rs:List Rc) (ptl:List (List UInt8)) (a q u:Int) (b:Bool) (sure:Nat) (hS:SInv D x B rs ptl a q u b sure) (hL:sL.start=x.start/\sL.len=x.len/\sL.epoch=x.epoch) (c9:sL.Ok (D.n:Int)) (d5:nu=decide (sL.epoch<4294967296)) (j0:q<1099511627775) (c7:∀i,(D.ver i).length<=1000000000000) (e2:∀n,(g n).isSome=true->(n:Int)<x.pages) (hk:1<=k/\k<=40):Cn prog 94 [Y ps] [stB ps pd pt x (Y pl) md un (.map (some mo)),lgB pl pd pt sL a q u b nu,tblA pt,diskA pd D,pgsA md (ov rs) hq,Eu mo g k hq,poolA hq] (λv Γ=>(∃(o:List Int) (l:Hp) (D2:Dsk) (x2:Sup) (B2:Nat->Pg) (d2:List Rc) (a2 u2:Int) (t:Nat),Fa g o/\CJ hq l/\SInv D2 x2 B2 (d2++[⟨q,Cr g o⟩]) [] a2 (q+1) u2 false t/\pgMap (ov d2) B2=pgMap (ov rs) B/\(x2=x\/x2=Ee x a q)/\(Clean D->Clean D2)/\(D2.n=D.n/\∀i,(D2.ver i).length<=(D.ver i).length+2)/\v=I 0/\Γ=[stB ps pd pt x2 (Y pl) md un (.map (some mo)),lgB pl pd pt sL a2 (q+1) u2 false nu,tblA pt,diskA pd D2,pgsA md (ov d2) l,Eu mo g k l,poolA l])\/(∃(c:Int) (l:Hp) (D2:Dsk) (x2:Sup) (B2:Nat->Pg) (d6:List Rc) (a4:List (List UInt8)) (a2 q2 u2:Int) (b2:Bool) (t:Nat),c≠0/\(¬Clean D\/1099511627776<x.gen+1)/\CJ hq l/\SInv D2 x2 B2 d6 a4 a2 q2 u2 b2 t/\pgMap (ov d6) B2=pgMap (ov rs) B/\(x2=x\/x2=Ee x a q)/\(D2.n=D.n/\∀i,(D2.ver i).length<=(D.ver i).length+2)/\(q<=q2/\q2<=q+1)/\v=I c/\Γ=[stB ps pd pt x2 (Y pl) md un (.map (some mo)),lgB pl pd pt sL a2 q2 u2 b2 nu,tblA pt,diskA pd D2,pgsA md (ov d6) l,Eu mo g k l,poolA l])):=by
 intro z R w H;replace H:=H.l7;have e4:=hS.ok;have j5:=Sup.get e4;have k0:=e4.2;have hP:=hS.p;have j8:=hP.ul;have g9:=hP.fu;have g4:=hP.fq;have e6:0<=q:=by split at g4<;>omega
 have i3:∀n,(ov rs n).isSome=true->n<1024:=λn h=>by have:=hS.ovb h;omega
 have i2:∀n,(ov rs n).isSome=true->2+n<D.n:=λn h=>by have:=hS.ovb h;omega
 have i1:=H.sy 3 (λq=>(diskA.ok q).n2);have g1:=Nf x a q;obtain ⟨a5,a8,m,a0,H⟩:=H.pgsc 5 Z;replace H:=H.l7;have h7:a5.length<=1099511627776:=by omega
 refine Ae func94 Z ntmps94 Z (Z2 17 [12,0,0] H Z (Aq Z (call145 _) (Qk _) H ?_));rintro _ w _ ⟨bb,rfl,rfl⟩ H;replace H:=H.l8;have g2:∀h:IE->Nat,(a5.map PgE.ie).map h=a5.map λe=>h e.ie:=λh=>by simp
 refine Aq Z (call144 _) (MD _ _ _ _ (λp hp=>by obtain ⟨e,he,rfl⟩:=Aeh.1 hp;exact m.clk e he) (by rw[g2];exact m.born) (by simp;exact h7)) H.f6.f1 ?_;rintro v2 w _ ⟨s,hs,rfl⟩ H;replace H:=H.l9;have a9:Fa g ((s.map λp:IE=>p.1).mergeSort (λx y=>decide (x<=y))):=m.keys hs;have h0:((s.map λp:IE=>p.1).mergeSort (λx y=>decide (x<=y))).length=k:=by simp[hs.length_eq,a0]
 obtain ⟨o,e0⟩:∃o:List Int,((s.map λp:IE=>p.1).mergeSort (λx y=>decide (x<=y)))=o:=⟨_,Z⟩;rw[e0] at H a9 h0;clear e0 hs;have H:Sep z (grow 3 1 v2 o.length (o.map I)::blk bb [.map (some mo)] 129::AH mo (a5.map PgE.ie) a8::stB ps pd pt x (Y pl) md un (.map (some mo))::lgB pl pd pt sL a q u b nu::tblA pt::diskA pd D::pgsA md (ov rs) hq::poolA hq::R) w:=H;have g0:=H.sy 0 (·.slc);obtain ⟨b7,c3,rfl⟩:=g0;have H:Sep z (grow 3 1 (.slice b7 o.length c3) o.length (o.map I)::blk bb [.map (some mo)] 129::AH mo (a5.map PgE.ie) a8::stB ps pd pt x (Y pl) md un (.map (some mo))::lgB pl pd pt sL a q u b nu::tblA pt::diskA pd D::pgsA md (ov rs) hq::poolA hq::R) w:=H;replace H:=(H.nilg 148 3).l10;have h4:=RE g o;have e8:∀n p,g n=some p->p.Ok:=λn p h=>m.okp h;have e5:∀n,(g n).isSome=true->n<1024:=λn h=>by have:=e2 n h;omega
 have c4:EG (Cr g o):=MF a9 e8 e5;have b0:=RF a9 e2;have f0:1<=(Cr g o).length/\(Cr g o).length<=40:=by omega
 refine Zc 5 Z ?_;refine AD (σ:=Nat×Value×List ImE) (λ⟨j,v1,ie⟩=>[(15,I (j:Int)),(3,v1),(0,Y ps),(2,I 0),(13,.slice b7 o.length c3),(14,I (o.length:Int))])
   (λ⟨j,v1,ie⟩ w=>Sep z (grow 148 3 v1 j (Gk ie)::grow 3 1 (.slice b7 o.length c3) o.length (o.map I)::blk bb [.map (some mo)] 129::AH mo (a5.map PgE.ie) a8::stB ps pd pt x (Y pl) md un (.map (some mo))::lgB pl pd pt sL a q u b nu::tblA pt::diskA pd D::pgsA md (ov rs) hq::poolA hq::R) w/\(j<=o.length/\ie.map Prod.fst=(Cr g o).take j/\imesOk ie hq)) (λ⟨j,v1,ie⟩=>o.length-j) ⟨0,.slice none 0 0,[]⟩
   (λ_ hF=>(hF.co Z (by go_num) hF.cz)) ⟨H,by omega,Z,λe he=>absurd he O⟩ ?_
 clear H;rintro ⟨j,v1,ie⟩ w ⟨H',hI⟩;dsimp only at hI H' ⊢;have H:=H'.l10;have j2:=H.sy 0 (·.slc);obtain ⟨j4,c5,d0⟩:=hI;refine Z0 6 [0] Z (Ag Z (λh1=>?_) (λh1=>?_))
 ·have h9:j<o.length:=by omega
  refine Zc 6 Z ?_;obtain ⟨x,hx⟩:∃x,o[j]?=some x:=⟨_,Ad7 U⟩;obtain ⟨j1,d9⟩:=(a9.2 x).1 (Ad8 hx);obtain ⟨n,rfl⟩:∃n:Nat,x=(n:Int):=⟨x.toNat,by omega⟩;rw[AeZ] at d9;obtain ⟨p,pv,h5,e1,f2,g5⟩:∃(p:Pg) (v:Value),g n=some p/\p.Ok/\rdH 1 v 240 (p.body.map u8) hq/\CO (a5.map PgE.ie) (n:Int)=some (.agg #[I p.kind,v]):=by
    rcases m.get n with ⟨q,_⟩|q
    · rw[q] at d9;cases d9
    · exact q
  have g8:Slc pv 240:=f2.slc;have c1:=(H.rv 1 (·.rd)).at (j:=j) (u:=I (n:Int)) (by simp[hx]);refine Ab Z (Aj Z (z:=1) (j:=j) (r:=j) J Z Z Z U c1 U) (Ab Z (Ax Z Z J (Ay c1)) (Z2 11 [12,4,0] H Z (Ab Z (FM (e:=89) (zv:=.agg #[I 0,.slice none 0 0]) Z J J Z Z (Ay (H.bk 3 Z))) (AC 26 (v:=.agg #[I p.kind,pv]) Z (by rw[g5];rfl) (Ab Z (Bc Z Z (out:=[I (n:Int),I p.kind,pv]) J) (AQ Z (AM H Z J Dz Z (by decide) (by decide) (out:=[I (n:Int),I p.kind,pv]) J) ?_))))));rintro _ w ⟨b1,rfl,H⟩;replace H:=H.l11;refine AQ Z (AY 1 H Z Z J Dz Z Z (H.rv 0 (·.rd U U O Z)) (Ad Z (Ad Z (Ad g8.one Aw))) U) ?_;rintro v2 w H';have H':Sep z (blk b1 [I (n:Int),I p.kind,pv] 148::grow 148 3 v2 (j+1) (Gk ie++[I (n:Int),I p.kind,pv])::grow 3 1 (.slice b7 o.length c3) o.length (o.map I)::blk bb [.map (some mo)] 129::AH mo (a5.map PgE.ie) a8::stB ps pd pt x (Y pl) md un (.map (some mo))::lgB pl pd pt sL a q u b nu::tblA pt::diskA pd D::pgsA md (ov rs) hq::poolA hq::R) w:=H';have g3:(Gk ie++[I (n:Int),I p.kind,pv]:List Value)=Gk (ie++[(⟨(n:Int),p.kind,p.body⟩,pv)]):=N4 ie (⟨(n:Int),p.kind,p.body⟩,pv);rw[g3] at H';have H:=H'.l11;refine Z1 8 [] [(j:Int)+1] Z U ?_;replace H:=H.d;refine gf ?_;intro _ hF;refine ⟨⟨j+1,v2,ie++[(⟨(n:Int),p.kind,p.body⟩,pv)]⟩,hF.cz,⟨H,?_⟩,?_⟩
  ·dsimp only
   refine ⟨by omega,by rw[AeD,c5,<-Px hx h5];rfl,λe he=>?_⟩;rcases Aek.1 he with q|q
   ·exact d0 e q
   rw[Afn.1 q];show rdH 1 pv p.body.length _ _;rw[e1.2];exact f2
  (dsimp only;omega)
 obtain rfl:j=o.length:=by omega
 refine Zc 2 Z (gx (Zc 3 Z ?_));replace H:=H.f9;obtain ⟨l,⟨f,e3⟩,H⟩:=DV H (λh q=>q.rd);replace H:=H.l9;have d8:ie.map Prod.fst=Cr g o:=by rw[c5];exact Aee U
 have e7:imgsH v1 (Cr g o) l:=⟨ie,d8,by rw[h4];exact e3,d0.le f⟩;replace H:=(H.mono 8 (B:=pgsA md (ov rs) l) Z (pgsA.le f)).l9;have c2:nu=true:=by rw[d5];have:=hS.s.epoch;simp;omega
 refine Z2 6 [9,4,0] H Z (Aq Z (call146 _) (ME _ _ _ sL x _ _ (Cr g o) _ (λh q=>e7.le q) D hS b0 hL.1 hL.2.1 hL.2.2 c9 d5 ⟨e6,by omega⟩ c7) H.f7.f7.f7 ?_);rintro _ w _ (⟨Da,a3,q3,u3,h8,h6,a6,c0,b3,b8,d7,d3,rfl,rfl⟩|⟨cq,a7,hv,rfl⟩|⟨Df,a4,b5,a6,b9,rfl,rfl⟩) H'
 ·have H:=H'.l9;subst d7;subst d3;refine Z0 18 [3] Z (Zr Z ?_);replace H:=(H.toPgsc 6 Z (m.le f) a0).l9
  subst c0;exact ⟨_,.inl ⟨o,l,Da,x,B,rs,a3,_,sure,a9,f,a6,Z,.inl Z,b3,b8,Z,Z⟩,H.perm 9 [7,0,1,2,8,6,3] Z Z⟩
 ·have H:=H'.l9;obtain ⟨e9,g6⟩:=Tq a7 f0 c4;subst e9;subst hv;refine Z0 16 [4] Z (Aq Z (call71 _) (IY _ _ _ _ _ _ _ _ _ _ _ _ _ _ _ _ _ _ _ _ hS hL U c7) H.f3.f8.f4.f4.f4.f8 ?_);rintro _ w _ (⟨g7,c0,i8,rfl,rfl⟩|⟨D2,i4,b6,d1,a1,d4,rfl,rfl⟩|⟨j6,D2,t,b4,c6,⟨b6,i6⟩,a1,c8,rfl,rfl⟩) H'
  ·(obtain rfl:=Qm g7 (λj r h=>(hP.recs j r h).2.1.1);exact absurd ⟨by rw[c0,if_neg (by decide)];have j9:u=0:=g9;omega,c2,by omega⟩ g6)
  ·have H:=H'.l9;refine Z2 23 [3,9,0,0] H Z (Aq Z (call146 _) (ME _ _ _ sL (Ee x a q) _ _ (Cr g o) _ (λh q=>e7.le q) D2 b6 b0 hL.1 hL.2.1 hL.2.2 (by rw[a1];exact c9) d5 ⟨e6,by omega⟩ (λi=>by rw[d4];simp)) H.f5.f4.f4.f4 ?_);rintro _ w _ (⟨Da,a3,q3,u3,h8,h6,a6,c0,b3,b8,d7,d3,rfl,rfl⟩|⟨cq,a7,hv,rfl⟩|⟨Df,a4,b5,a6,b9,rfl,rfl⟩) H'
   ·have H:=H'.l9;subst d7;subst d3;refine Zc 4 Z (Zr Z ?_);replace H:=(H.toPgsc 8 Z (m.le f) a0).l9
    exact ⟨_,.inl ⟨o,l,Da,_,_,[],a3,_,0,a9,f,a6,Z,.inr Z,λhc=>b3 (d1 hc),⟨b8.1.trans a1,λi=>by have h1:=b8.2 i;rw[d4] at h1;simp at h1;omega⟩,Z,Z⟩,H.perm 9 [4,0,1,2,5,8,3] Z Z⟩
   ·exact absurd ⟨by rw[if_neg (by decide)];have:=g1.2.2.2.2.1;omega,c2,by omega⟩ (Tq a7 f0 c4).2
   have H:=H'.l9;refine Zc 4 Z (Zr Z ?_);replace H:=(H.toPgsc 8 Z (m.le f) a0).l9;exact ⟨_,.inr ⟨_,l,Df,_,_,[],a4,a,q+1,0,true,0,by decide,.inl (λhc=>b5 (d1 hc)),f,a6,Z,.inr Z,⟨b9.1.trans a1,λi=>by have h1:=b9.2 i;rw[d4] at h1;simp at h1;omega⟩,by omega,Z,Z⟩,H.perm 9 [4,0,1,2,5,8,3] Z Z⟩
  have H:=H'.l9;refine Z0 15 [0] Z (Ag Z (λh2=>?_) (λh2=>?_))
  ·exact absurd h2 b4
  refine Z0 6 [0] Z (Ag Z (λh3=>?_) (λh3=>?_))
  ·refine Zc 6 Z (Zr Z ?_);replace H:=(H.toPgsc 8 Z (m.le f) a0).l9
   exact ⟨_,.inr ⟨_,l,D2,x,B,rs,ptl,a,q,u,b,t,by first|decide|exact b4,c6,f,b6,rfl,.inl rfl,⟨a1,λi=>by have:=c8 i;omega⟩,by omega,Z,Z⟩,H.perm 9 [0,1,2,3,4,8,5] Z Z⟩
  refine Zc 7 Z (Zr Z ?_);replace H:=(H.toPgsc 8 Z (m.le f) a0).l9;exact ⟨_,.inr ⟨_,l,D2,x,B,rs,ptl,a,q,u,b,t,by first|decide|exact b4,c6,f,b6,rfl,.inl rfl,⟨a1,λi=>by have:=c8 i;omega⟩,by omega,Z,Z⟩,H.perm 9 [0,1,2,3,4,8,5] Z Z⟩
 have H:=H'.l9;refine Z0 18 [3] Z (Zr Z ?_);replace H:=(H.toPgsc 6 Z (m.le f) a0).l9;exact ⟨_,.inr ⟨_,l,Df,x,B,rs,a4,a,q+1,u,true,sure,by decide,.inl b5,f,a6,Z,.inl Z,b9,by omega,Z,Z⟩,H.perm 9 [7,0,1,2,8,6,3] Z Z⟩
def IZ(f g:BC)(S:List IE):BC:=λi=>if (i:Int)∈S.map (λp:IE=>p.1) then g i else f i
theorem VE(f g:BC):IZ f g []=f:=by funext i;simp[IZ]
theorem Tt{f g:BC}{S:List IE}{n:Nat}{p:Pg}{q:IE}(hq:q.1=(n:Int))(a:g n=some p):IZ f g (S++[q])=pgSet (IZ f g S) n p:=by
 funext i;unfold IZ pgSet;simp only[AeD,AeE,Aft,Aek,Afn,hq];by_cases h:i=n
 ·subst h;simp[a]
 have:¬((i:Int)=(n:Int)):=by omega
 simp only[this,or_false,h,if_false]
theorem VF{f g:BC}{es:List PgE}{clk:Nat}{hq:Hp}{S:List IE}(h:PgsIn g es clk hq)(r:Ck (es.map PgE.ie) (S.map λp:IE=>p.2.2)=[])(l:∀p∈S,p∈es.map PgE.ie):IZ f g S=Hl f g:=by
 funext i;unfold IZ Hl;by_cases hi:(i:Int)∈S.map (λp:IE=>p.1)
 ·rw[if_pos hi]
  obtain ⟨p,hp,e⟩:=Aeh.1 hi;obtain ⟨b,a,rfl⟩:=Aeh.1 (l p hp);have c:=(h.ent b a).1;have:b.n=i:=by have:(b.n:Int)=i:=e;omega
  rw[this] at c;rw[c];rfl
 rw[if_neg hi]
 cases hg:g i with
 | none=>rfl
 | some p=>
  exfalso;obtain ⟨b,a,t⟩:=h.all i p hg;have o:b.ie∈es.map PgE.ie:=Aeu a;by_cases q:b.born∈S.map λp:IE=>p.2.2
  ·obtain ⟨p',d,m⟩:=Aeh.1 q
   obtain ⟨e1,j,rfl⟩:=Aeh.1 (l p' d);obtain ⟨s,c⟩:=AeV a;obtain ⟨u,k⟩:=AeV j;have:=F6 h.born c k m.symm;subst this;rw[c] at k;cases k;exact hi (Aeh.2 ⟨_,d,by show (b.n:Int)=i;omega⟩)
  have:b.ie∈Ck (es.map PgE.ie) (S.map λp:IE=>p.2.2):=by
   simp only[Ck,Ae6];exact ⟨o,by simpa [PgE.ie] using q⟩
  rw[r] at this;cases this
theorem J8(f g:BC)(B:Nat->Pg):pgMap (Hl f g) B=λi=>(g i).getD (pgMap f B i):=by
 funext i;unfold pgMap Hl;cases g i<;>rfl
theorem YT(md m:Nat)(f g:BC)(k:Nat)(hq:Hp):Cn prog 95 [.map (some md),.map (some m)] [pgsA md f hq,Eu m g k hq] (λv Γ=>v=.tuple #[]/\Γ=[pgsA md (Hl f g) hq,Eu m g k hq]):=by
 intro z R w H;replace H:=H.l2;obtain ⟨es,clk,a7,H⟩:=H.pgs 0 Z;replace H:=H.l2;obtain ⟨c,a,b,a2,H⟩:=H.pgsc 1 Z;replace H:=H.l2;have a3:∀p∈c.map PgE.ie,p.2.2<a:=λp hp=>by obtain ⟨e,he,rfl⟩:=Aeh.1 hp;exact b.clk e he
 have hn:((c.map PgE.ie).map λp:IE=>p.2.2).Nodup:=by rw[Afh];exact b.born
 refine Ae func95 Z ntmps95 Z (Zc 3 Z (AQ Z (HD 1 (e:=89) H Z Z J Z) ?_));rintro _ w ⟨rr,rfl,H⟩;replace H:=H.l3;refine Zc 3 Z ?_;refine AD (σ:=List IE×List PgE×Nat) (λ⟨S,o,l⟩=>[(0,.map (some md)),(7,Y rr)])
   (λ⟨S,o,l⟩ w=>Sep z (GG rr m a (S.map λp:IE=>p.2.2)::AH md (o.map PgE.ie) l::AH m (c.map PgE.ie) a::R) w/\((∀p∈S,p∈c.map PgE.ie)/\PgsIn (IZ f g S) o l hq)) (λ⟨S,o,l⟩=>(Ck (c.map PgE.ie) (S.map λp:IE=>p.2.2)).length) ⟨[],es,clk⟩
   (λ_ hF=>(hF.all Z)) ⟨H,λp hp=>absurd hp O,by rw[VE];exact a7⟩ ?_
 clear H;rintro ⟨S,o,l⟩ w ⟨H',hI⟩;dsimp only at hI H' ⊢;have H:=H'.l3;obtain ⟨hS,a0⟩:=hI;refine Zc 2 Z (AQ Z (IM 0 2 H Z Z Z Z a3) ?_);rintro _ w ⟨qx,rfl,x,H⟩;replace H:=H.l3;refine Ab Z (KC Z Z) (Zc 3 Z (Ep Z (λh1=>?_) (λh1=>?_)))
 ·obtain ⟨p1,rfl⟩:=Ae3.1 h1;refine Zc 5 Z ?_;obtain ⟨⟨j,h,i,s⟩,t,rfl⟩:=Aeh.1 (C6 x).1;obtain ⟨a1,a4,u⟩:=b.ent _ t;dsimp only at a1 a4 u
  have a8:Slc i 240:=u.slc;obtain ⟨y,a6,a5,_⟩:=a0.put (k:=j) (p:=h) (v:=i) a4 u;refine Ab Z (HE (p:=(PgE.ie ⟨j,h,i,s⟩)) Z Z (Ay ⟨H.bk 0 Z,H.bk 2 Z⟩) (Aeu t) hn) (Za 2 [] H Z ?_);intro b1 w H;refine Zc 1 Z (Az Z Z (Ak 0 H Z Z Z Z (vs:=[I h.kind,i]) Z (Ad Z (Ad a8.one Aw)) J O (out:=[I h.kind,i]) Z) ?_);rintro w H;replace H:=H.l4;refine Z2 6 [0,2] H Z (Az Z Z (DN 2 (e:=89) H Z Z J Z Z Z) ?_);rintro w H;replace H:=H.l4;refine Zc 1 Z ?_;have H':=H;have H:Sep z (blk b1 [I h.kind,i] 89::GG rr m a (JJ (S.map λp:IE=>p.2.2) (some (PgE.ie ⟨j,h,i,s⟩)))::AH md (E4 (o.map PgE.ie) (j:Int) (.agg #[I h.kind,i]) l) (putC (o.map PgE.ie) (j:Int) l)::AH m (c.map PgE.ie) a::R) w:=H';clear H';rw[a6] at H;have H:Sep z (blk b1 [I h.kind,i] 89::GG rr m a (JJ (S.map λp:IE=>p.2.2) (some (PgE.ie ⟨j,h,i,s⟩)))::AH md (y.map PgE.ie) (putC (o.map PgE.ie) (j:Int) l)::AH m (c.map PgE.ie) a::R) w:=H;refine Zc 1 Z ?_;replace H:=H.d;refine gf ?_;intro _ hF;refine ⟨⟨S++[(PgE.ie ⟨j,h,i,s⟩)],y,putC (o.map PgE.ie) (j:Int) l⟩,(hF.all Z),⟨(by dsimp only;rw[AeD];exact H),?_⟩,?_⟩
  ·refine ⟨λp hp=>?_,?_⟩
   ·rcases Aek.1 hp with hp|hp
    ·exact hS p hp
    simp at hp;subst hp;exact Aeu t
   dsimp only;rw[Tt (n:=j) (p:=h) (q:=(PgE.ie ⟨j,h,i,s⟩)) Z a1];exact a5
  (dsimp only;have:=EB x;rwa[show (S++[(PgE.ie ⟨j,h,i,s⟩)]).map (λp:IE=>p.2.2)=(S.map λp:IE=>p.2.2)++[s] from by simp[PgE.ie]])
 obtain rfl:qx=none:=by simpa using h1
 refine Zc 2 Z (gx (Zc 1 Z (Zf Z ?_)));have r:=a0;rw[VF b x hS] at r;replace H:=(H.toPgs 1 Z r).l3;replace H:=(H.toPgsc 2 Z b a2).l3;exact ⟨_,⟨Z,Z⟩,H.perm 3 [1,2] Z Z⟩
theorem LP(ps pd b md:Nat)(x:Sup)(c e:Value)(d:Bool):Xi prog 93 [Y ps] [stB ps pd b x c md d e] (λv Γ=>v=.tuple #[]/\Γ=[stB ps pd b x c md false (.map none)]):=by
 intro z R u w a;have H:=a.l1;refine NN func93 Z 8 ntmps93 Z (AI (Mn 4 [11] Z J (FY Z Z (AcR 0 H Z Z Z Z Z Z J) ?_)));rintro w a;have H:=a.l1;refine Mn 2 [12] Z J (FY Z Z (AcS 0 H Z Z Z Z Z Z J) ?_);rintro w a;have H:=a.l1;refine AP (dn0 Z ?_);exact ⟨[stB ps pd b x c md false (.map none)],⟨Z,Z⟩,H⟩
set_option maxHeartbeats 4000000 in
theorem VG (ps pd j r md mo:Nat) (x s:Sup) (nu:Bool) (hq:Hp) (g:BC) (k:Nat) (D:Dsk) (B:Nat->Pg) (rs:List Rc) (ptl:List (List UInt8)) (a q u:Int) (b:Bool) (sure:Nat) (hS:SInv D x B rs ptl a q u b sure) (hL:s.start=x.start/\s.len=x.len/\s.epoch=x.epoch) (b3:s.Ok (D.n:Int)) (c7:nu=decide (s.epoch<4294967296)) (c3:q<1099511627775) (b9:∀i,(D.ver i).length<=1000000000000) (b4:∀n,(g n).isSome=true->(n:Int)<x.pages) (hk:k<=40):Cn prog 46 [Y ps] [stB ps pd j x (Y r) md true (.map (some mo)),lgB r pd j s a q u b nu,tblA j,diskA pd D,pgsA md (ov rs) hq,Eu mo g k hq,poolA hq] (λv Γ=>(k=0/\v=I 0/\Γ=[stB ps pd j x (Y r) md false (.map none),lgB r pd j s a q u b nu,tblA j,diskA pd D,pgsA md (ov rs) hq,poolA hq])\/(1<=k/\∃(d:Hp) (o:Dsk) (x2:Sup) (B2:Nat->Pg) (l:List Rc) (a2 t:Int) (f:Nat),CJ hq d/\SInv o x2 B2 l [] a2 (q+1) t false f/\(pgMap (ov l) B2=pgMap (Hl (ov rs) g) B/\∀n,(g n).isSome=true->(ov l n).isSome=true)/\(x2=x\/x2=Ee x a q)/\(Clean D->Clean o)/\(o.n=D.n/\∀i,(o.ver i).length<=(D.ver i).length+2)/\v=I 0/\Γ=[stB ps pd j x2 (Y r) md false (.map none),lgB r pd j s a2 (q+1) t false nu,tblA j,diskA pd o,pgsA md (ov l) d,poolA d])\/(1<=k/\∃(c:Int) (d:Hp) (o:Dsk) (x2:Sup) (B2:Nat->Pg) (l:List Rc) (y:List (List UInt8)) (a2 q2 t:Int) (b2:Bool) (f:Nat),c≠0/\(¬Clean D\/1099511627776<x.gen+1)/\CJ hq d/\SInv o x2 B2 l y a2 q2 t b2 f/\pgMap (ov l) B2=pgMap (ov rs) B/\(x2=x\/x2=Ee x a q)/\(o.n=D.n/\∀i,(o.ver i).length<=(D.ver i).length+2)/\(q<=q2/\q2<=q+1)/\v=I c/\Γ=[stB ps pd j x2 (Y r) md false (.map none),lgB r pd j s a2 q2 t b2 nu,tblA j,diskA pd o,pgsA md (ov l) d,poolA d])):=by
 intro z R w m;have H:=m.l7;have d0:=hS.ok.2;have c1:∀n,(g n).isSome=true->n<1024:=λn h=>by have:=b4 n h;omega
 obtain ⟨c5,c8,a5,a4,m⟩:=H.pgsc 5 Z;clear H;have H:=m.l7;have b1:∀n p,g n=some p->p.Ok:=λn p h=>a5.okp h;have c9:(c5.map PgE.ie).length=k:=by simp[a4]
 refine SM func46 Z 30 ntmps46 Z (AX (AI (BY 1 Z Z (AP (AX (AX (AI (Gi 5 [11,0] (AS (H.blk 0 Z) AN) Z J Z (AP (EA Z (DF (AX (AI ?_)))))))))))));refine BY 1 Z Z (LH Z Z Z Z (AP (AX (AX (AI (Gi 4 [12,0] (AS (H.blk 0 Z) AN) Z J Z (s_do Z Z Z (NO (e:=89) Z J Z (Ay (H.bk 5 Z))) (BY 1 Z Z (AP (Gp Z (λh1=>?_) (λh1=>?_)))))))))))
 ·refine AX (AI (BY 1 Z Z (AP (D7 ?_))));intro a_ hF;unfold Ji;rw[hF.defers];refine GH (λw=>call93 _ w) (LP _ _ _ _ _ _ _ _) H 7 [0,1,2,3,4,5,6] Z Z ?_;rintro _ w _ ⟨rfl,rfl⟩ m;clear H;have H:=m.l7;refine Rn hF (rs:=[.tmp 2]) Z [I 0] ⟨Z,trivial⟩ (v:=I 0) Z ?_;exact ⟨[stB ps pd j x (Y r) md false (.map none),lgB r pd j s a q u b nu,tblA j,diskA pd D,pgsA md (ov rs) hq,poolA hq],.inl ⟨by omega,Z,Z⟩,H.perm 7 [0,1,2,3,4,6] Z Z⟩
 refine DF (AX (AX ?_));have c2:1<=k:=by omega
 have m:=H.toPgsc 5 Z a5 a4;have H:=m.l7;refine AI (BY 1 Z Z (Ft Z Z Z Z Z (λw=>call94 _ w) (Ts _ _ _ _ _ _ _ _ _ _ _ _ _ _ _ _ _ _ _ _ _ _ hS hL b3 c7 c3 b9 b4 U) H Z ?_));rintro _ w _ (⟨ks,d,o,x2,B2,a1,a2,t,f,b7,a0,a7,a6,a8,b5,a9,rfl,rfl⟩|⟨c4,d,o,x2,B2,l,y,a2,q2,t,b6,f,a3,b8,a0,a7,a6,a8,a9,c0,rfl,rfl⟩) m
 ·have H:=m.l7;refine BY 1 Z Z (AP (AX (AI (BY 2 Z Z (Adx 19 Z Z (AP (EA Z (DF (AX (AO (Sep z (stB ps pd j x2 (Y r) md true (.map (some mo))::R)) 9 Z J (A5 H λw m=>?_)))))))))))
  have H:=m.l7;refine a_L [0,1,2,3,4,5,6,7] [10,0,12,0] (λ_ hx=>(AS (hx.blk 0 Z) AN)) (by exact H.pick 7 [0] Z) Z J Z Z (AB [8] J O (An (Bo Z Z Z Z Z Z (λw=>call95 _ w) (YT _ _ _ _ _ _) H.f5.f5 Z ?_)));rintro _ w _ ⟨rfl,rfl⟩ m;have H:=m.l7;refine Av (H.pick 7 [2] Z) (a_done J (AX (AI (BY 1 Z Z (AP (D7 ?_))))));intro a_ hF;unfold Ji;rw[hF.defers];refine GH (λw=>call93 _ w) (LP _ _ _ _ _ _ _ _) H 7 [2,0,1,3,4,5,6] Z Z ?_;rintro _ w _ ⟨rfl,rfl⟩ m;clear H;have H:=m.l7;refine Rn hF (rs:=[.tmp 2]) Z [I 0] ⟨Z,trivial⟩ (v:=I 0) Z ?_;have b0:Hl (ov a1) g=ov (a1++[⟨q,Cr g ks⟩]):=by rw[Jn,RG b7 (MF b7 b1 c1)]
  rw[b0] at H;have H:Sep z (stB ps pd j x2 (Y r) md false (.map none)::pgsA md (ov (a1++[⟨q,Cr g ks⟩])) d::Eu mo g k d::lgB r pd j s a2 (q+1) t false nu::tblA j::diskA pd o::poolA d::R) w:=H;exact ⟨[stB ps pd j x2 (Y r) md false (.map none),lgB r pd j s a2 (q+1) t false nu,tblA j,diskA pd o,pgsA md (ov (a1++[⟨q,Cr g ks⟩])) d,poolA d],.inr (.inl ⟨c2,d,o,x2,B2,_,a2,t,f,a0,a7,⟨by rw[<-b0,J8,J8,a6],λn hn=>by rw[<-b0];obtain ⟨p_,c6⟩:=Ae3.1 hn;simp[Hl,c6]⟩,a8,b5,a9,Z,Z⟩),H.perm 7 [0,3,4,5,1,6] Z Z⟩
 have H:=m.l7;refine BY 1 Z Z (AP (AX (AI (BY 2 Z Z (AP (Gp Z (λh2=>?_) (λh2=>?_)))))))
 ·refine AX (AI (BY 2 Z Z (AP (D7 ?_))));intro a_ hF;unfold Ji;rw[hF.defers];refine GH (λw=>call93 _ w) (LP _ _ _ _ _ _ _ _) H 7 [0,1,2,3,4,5,6] Z Z ?_;rintro _ w _ ⟨rfl,rfl⟩ m;clear H;have H:=m.l7;refine Rn hF (rs:=[.tmp 2]) Z [I c4] ⟨Z,trivial⟩ (v:=I c4) Z ?_;exact ⟨[stB ps pd j x2 (Y r) md false (.map none),lgB r pd j s a2 q2 t b6 nu,tblA j,diskA pd o,pgsA md (ov l) d,poolA d],.inr (.inr ⟨c2,_,d,o,x2,B2,l,y,a2,q2,t,b6,f,a3,b8,a0,a7,a6,a8,a9,c0,Z,Z⟩),H.perm 7 [0,1,2,3,4,6] Z Z⟩
 exact absurd a3 h2
section
def Dq(x:Sup):Sup:= {x with gen:=x.gen+1,epoch:=x.epoch+1,head:=0,seq:=1}
theorem Xr(x:Sup):(Dq x).gen=x.gen+1/\(Dq x).epoch=x.epoch+1/\(Dq x).pages=x.pages/\(Dq x).start=x.start/\(Dq x).len=x.len/\(Dq x).head=0/\(Dq x).seq=1:=⟨Z,Z,Z,Z,Z,Z,Z⟩
def Ac6(D:Dsk)(s:Sup)(a q u:Int):Prop:=s.len<=u\/∀ims,¬nextP (Di D s a) s.epoch q (s.len-u) ims
structure OInv(D:Dsk)(x:Sup)(B:Nat->Pg)(Gd:List Rc->Prop):Prop where
 ok:x.Ok (D.n:Int)
 s:SOk x
 gen:1<=x.gen
 ver:∀i,D.ver i=[]
 sup:D.dur (x.gen%2).toNat=DC x
 oth:∃y:Sup,y.Ok (D.n:Int)/\y.gen=x.gen-1/\D.dur ((x.gen+1)%2).toNat=DC y
 tags:∀i:Nat,2+x.pages<=(i:Int)->∀e q,Tg (D.dur i) e q->e<=x.epoch
 read:∀(got:List Rc) (a q u:Int),Runs D x x.head x.seq 0 got a q u->Ac6 D x a q u->Gd got
 recs:∀got,Gd got->∀r∈got,(1<=r.ims.length/\r.ims.length<=40)/\∀m∈r.ims,m.Ok/\m.num<x.pages
 gd:∀got,Gd got->∀i:Nat,(i:Int)<x.pages->ov got i=none->HomeP (D.dur (2+i)) i (B i)
theorem RH{rs:List Rc}{k m n:Nat}(a:k<=m)(h:(ov (rs.take k) n).isSome=true):(ov (rs.take m) n).isSome=true:=by
 have:=Gh ((rs.take m).drop k) _ (show (ov ((rs.take m).take k) n).isSome=true by rw[Aey,Aez a];exact h);rwa[AeI] at this
theorem SInv.crashed{D D':Dsk}{x:Sup}{B:Nat->Pg}{rs:List Rc}{ptl:List (List UInt8)}{a q u:Int}{b:Bool}{sure:Nat}(h:SInv D x B rs ptl a q u b sure)(hq:q<=1099511627776)(l:Crashed D D'):OInv D' x B (λf=>sure<=f.length/\f.length<=rs.length/\f=rs.take f.length):=by
 have hg:=h.gen;refine ⟨by rw[l.n];exact h.ok,h.s,hg,l.ver,?_,?_,λi hi e q' z=>h.tags hq hi (l.dur i) z,λf a' q' u' t v=>h.p.read h.s l hq t v,λf k r t=>?_,λf k i hi ho=>?_⟩
 ·rcases l.dur (x.gen%2).toNat with g|g
  ·rw[g];exact h.sup.1
  rw[h.sup.2] at g;cases g
 ·obtain ⟨y,a,b,c,d⟩:=h.oth
  refine ⟨y,by rw[l.n];exact a,b,?_⟩;rcases l.dur ((x.gen+1)%2).toNat with g|g
  ·rw[g];exact c
  rw[d] at g;cases g
 ·rw[k.2.2] at t
  have o:=Afa t;obtain ⟨j,hj⟩:=AeV o;obtain ⟨_,h2,h3⟩:=h.p.recs j r hj;exact ⟨h2,λm w=>⟨h3 m w,h.num r o m w⟩⟩
 rcases h.home i hi _ (l.dur _) with g|⟨g,_⟩
 ·exact g
 have:=RH k.1 g;rw[<-k.2.2,ho] at this;cases this
variable{D:Dsk}{x:Sup}{B:Nat->Pg}{Gd:List Rc->Prop}
theorem OInv.ovb(h:OInv D x B Gd){a:List Rc}(d:Gd a){n:Nat}(e:(ov a n).isSome=true):(n:Int)<x.pages:=by
 obtain ⟨p,hp⟩:=Ae3.1 e;obtain ⟨r,b,m,c,i,_⟩:=KL _ a Z hp;have f:=((h.recs a d r b).2 m c).2;have g:=h.ok.2;omega
theorem OInv.ovok(h:OInv D x B Gd){a:List Rc}(d:Gd a){n:Nat}{p:Pg}(e:ov a n=some p):p.Ok:=by
 obtain ⟨r,b,m,c,_,rfl⟩:=KL _ a Z e;exact Qb ((h.recs a d r b).2 m c).1
theorem OInv.opened(h:OInv D x B Gd){a:List Rc}(hg:Gd a){d:List Int}(k:Fa (ov a) d)(l:(Dq x).Ok (D.n:Int))(he:x.epoch+1<4294967296):
  SInv (Fi (hwD D (pgLst (ov a) d)).fl (Dq x)) (Dq x) (pgMap (ov a) B) [] [] 0 1 0 false 0:=by
 have hk:=h.ok.2;have a0:=h.gen;have w:=Xr x;have m:=h.s;have o:SOk (Dq x):=⟨by rw[w.2.2.2.1];exact m.start,by have:=m.head;omega,by have:=m.epoch;omega,by omega⟩;have t:∀y∈pgLst (ov a) d,(y.1:Int)<x.pages:=λy l=>h.ovb hg (by rw[(Ew k y.1 y.2).1 l];rfl);have f:∀i c,Dn (Fi (hwD D (pgLst (ov a) d)).fl (Dq x)) i c->i≠((Dq x).gen%2).toNat->c=(hwD D (pgLst (ov a) d)).cont i:=λi c b hi=>by
  have g:=ER (hwD D (pgLst (ov a) d)).fl (Dq x) i hi;unfold Dn at b;rw[g.1,g.2] at b;rcases b with b|b
  ·exact b
  cases b
 have q:∀i:Nat,i<2->(hwD D (pgLst (ov a) d)).cont i=D.dur i:=λi hi=>by
  rw[hw_cont_out _ D i (λy _ e=>by omega)];exact EH (h.ver i)
 refine ⟨by show (Dq x).Ok ((hwD D _).n:Int);rw[E9];exact l,?_,o,by omega,λr hr=>(by cases hr),λi hi c b=>.inl ?_,HH _ _,?_,λi hi hr c b e v u=>?_⟩
 ·have:=PInv.fresh (D:=Fi (hwD D (pgLst (ov a) d)).fl (Dq x)) o (λi h1 h2 c b e v u=>?_)
  ·rw[w.2.2.2.2.2.1,w.2.2.2.2.2.2] at this;exact this
  have hi:=f i c b U;rw[hw_cont_out _ D i (λy l e=>by have:=t y l;omega),EH (h.ver i)] at hi;subst hi;have:=h.tags i U e v u;omega
 ·have j:=f (2+i) c b U
  subst j;unfold pgMap
  cases g:ov a i with
  | some p=>
   have hm:(i,p)∈pgLst (ov a) d:=(Ew k i p).2 g;rw[Xk _ D (EU k) (i,p) hm];exact .inr ⟨h.ovok hg g,Z⟩
  | none=>
   rw[hw_cont_out _ D _ (λz hz e=>by
    have:=(Ew k z.1 z.2).1 hz;rw[show z.1=i from by omega,g] at this;cases this),EH (h.ver _)]
   exact h.gd a hg i U g
 ·refine ⟨x,by show x.Ok ((hwD D _).n:Int);rw[E9];exact h.ok,by omega,?_⟩
  have g:=ER (hwD D (pgLst (ov a) d)).fl (Dq x) (((Dq x).gen+1)%2).toNat U;refine ⟨?_,by rw[g.2];rfl⟩;rw[g.1];show (hwD D (pgLst (ov a) d)).cont _=_;rw[q _ U,show ((Dq x).gen+1)%2=x.gen%2 from by omega];exact h.sup
 have j:=f i c b U;rw[hw_cont_out _ D i (λy l e=>by have:=t y l;omega),EH (h.ver i)] at j;subst j;have:=h.tags i U e v u;omega

def EV(D:Dsk):Nat->Dsk
 | 0=>D
 | k+1=>(EV D k).wr (2+k) [List.replicate 256 0]
theorem Ou(D:Dsk):∀k,(EV D k).n=D.n
 | 0=>rfl
 | k+1=>by show ((EV D k).wr _ _).n=_;rw[Dsk.wr_n];exact Ou D k
theorem YU(n k i:Nat):(EV (Ct n) k).cont i=List.replicate 256 0:=by
 induction k with
 | zero=>rfl
 | succ k ih=>
  show ((EV (Ct n) k).wr _ _).cont i=_;rw[wr_cont,ih];by_cases h:2+k<=i
  ·rw[if_pos h]
   rcases AgL (i-(2+k)) with e|e
   ·rw[e];rfl
   rw[AeC (by simp;omega)];rfl
  rw[if_neg h];rfl
theorem FS{D:Dsk}(h:Clean D):∀k,Clean (EV D k)
 | 0=>h
 | k+1=>(FS h k).wr _ _
theorem Tu(n:Nat)(i:Nat):∀k,((EV (Ct n) k).ver i).length<=k
 | 0=>by simp[EV,Ct]
 | k+1=>by
  have h1:=Dsk.wr_len (EV (Ct n) k) (2+k) [List.replicate 256 0] i;have a:=Tu n i k;show (((EV (Ct n) k).wr _ _).ver i).length<=_;omega
def CA(p s l g:Int):Sup:=⟨g,1,p,s,l,0,1⟩
def MG(n:Nat)(p s l:Int):Dsk:=Fi (Fi (EV (Ct n) p.toNat).fl (CA p s l 1)) (CA p s l 2)
theorem FA(n:Nat):Clean (Ct n):=⟨Z,Z,Z,Z⟩
theorem VH(n:Nat)(p s l:Int):Clean (MG n p s l):=((FS (FA n) _).fl.sv _).sv _
theorem VI(n:Nat)(p s l:Int):(MG n p s l).n=n:=Ou _ _
theorem Tv(n:Nat)(p s l:Int)(i:Nat):(MG n p s l).ver i=[]:=HN (HN (λ_=>rfl) _) _ i
theorem Ov(n:Nat)(p s l:Int)(i:Nat)(hi:2<=i):(MG n p s l).dur i=List.replicate 256 0:=by
 have a:=ER (Fi (EV (Ct n) p.toNat).fl (CA p s l 1)) (CA p s l 2) i (by show i≠((2:Int)%2).toNat;simp;omega);have b:=ER (EV (Ct n) p.toNat).fl (CA p s l 1) i (by show i≠((1:Int)%2).toNat;simp;omega);exact (a.1.trans b.1).trans (YU n _ i)
theorem YV{n:Nat}{p s l:Int}(c:(CA p s l 2).Ok (n:Int)):OInv (MG n p s l) (CA p s l 2) (λ_=>noPg) (λb=>b=[]):=by
 have v:(CA p s l 2).gen=2/\(CA p s l 2).epoch=1/\(CA p s l 2).pages=p/\(CA p s l 2).start=s/\(CA p s l 2).len=l/\(CA p s l 2).head=0/\(CA p s l 2).seq=1:=⟨Z,Z,Z,Z,Z,Z,Z⟩;have w:=Sup.get c;have t:=c.2;have f:SOk (CA p s l 2):=⟨by omega,by omega,by omega,by omega⟩;have d:∀z:Int,(MG n p s l).cont (ringAt (CA p s l 2) z)=List.replicate 256 0:=λz=>by
  have:=Ju f z;rw[EH (Tv _ _ _ _ _)];exact Ov _ _ _ _ _ U
 refine ⟨by rw[VI];exact c,f,by omega,Tv _ _ _ _,(HH _ _).1,⟨CA p s l 1,?_,Z,?_⟩,λi m e q j=>?_,λb a q u g o=>?_,λb h r g=>?_,λb _ i hi _=>?_⟩
 ·rw[VI]
  exact Sup.ok_mk (by show 0<=(1:Int)/\(1:Int)<=1099511627776;omega) (by show 0<=(1:Int)/\(1:Int)<=1099511627776;omega) (by show 16<=p/\p<=1024;omega) (by show 2+p<=s/\s<=1099511627776;omega) (by show 64<=l/\l<=1099511627776;omega) (by show 0<=(0:Int)/\(0:Int)<l;omega) (by show 0<=(1:Int)/\(1:Int)<=1099511627776;omega) (by show s<=n-l/\l<=n;omega)
 ·have m:=ER (Fi (EV (Ct n) p.toNat).fl (CA p s l 1)) (CA p s l 2) 1 (by show 1≠((2:Int)%2).toNat;decide)
  exact m.1.trans (HH (EV (Ct n) p.toNat).fl (CA p s l 1)).1
 ·rw[Ov _ _ _ _ _ U] at j
  exact (U4 _ _ j).elim
 ·cases g with
  | nil=>rfl
  | snoc r hlt hn=>
   exfalso;have k:=hn.1;have e:∀z,Di (MG n p s l) (CA p s l 2) z 0=List.replicate 256 0:=λz=>d (z+((0:Nat):Int));rw[e] at k;exact Mw k
 ·subst h;cases g
 rw[Ov _ _ _ _ _ U];exact .inl ⟨Z,Z⟩
end
theorem OInv.two{D:Dsk}{x:Sup}{B:Nat->Pg}{Gd:List Rc->Prop}(h:OInv D x B Gd):∃a b:Sup,a.Ok (D.n:Int)/\b.Ok (D.n:Int)/\a.gen%2=0/\b.gen%2=1/\D.cont 0=DC a/\D.cont 1=DC b/\x=if a.gen<b.gen then b else a:=by
 obtain ⟨y,f,i,c⟩:=h.oth;have hs:=h.sup;have g:=h.gen;have d:=EH (h.ver 0);have c1:=EH (h.ver 1);rcases (show x.gen%2=0\/x.gen%2=1 by omega) with e|e
 ·rw[show (x.gen%2).toNat=0 by omega] at hs
  rw[show ((x.gen+1)%2).toNat=1 by omega] at c;exact ⟨x,y,h.ok,f,e,by omega,d.trans hs,c1.trans c,by rw[if_neg U]⟩
 rw[show (x.gen%2).toNat=1 by omega] at hs;rw[show ((x.gen+1)%2).toNat=0 by omega] at c;exact ⟨y,x,f,h.ok,by omega,e,d.trans c,c1.trans hs,by rw[if_pos U]⟩
theorem AbA{x:Sup}{n:Int}(h:x.Ok n)(e:1<=x.gen)(d:x.gen+1<=1099511627776)(b:x.epoch+1<=1099511627776):(Dq x).Ok n:=by
 have hs:=Sup.get h;have a:=h.2;have c:=Xr x;exact Sup.ok_mk U U U U U U U U
theorem Ow{rs:List Rc}{k:Nat}{r:Rc}(h:rs[k]?=some r):EK (ov (rs.take k)) r.ims=ov (rs.take (k+1)):=by
 rw[AeH,h];exact (Jn _ _).symm
theorem MY{f:BC}{ims:List Img}{k:Nat}{m:Img}(h:ims[k]?=some m):pgSet (EK f (ims.take k)) m.num.toNat (GN m)=EK f (ims.take (k+1)):=by
 rw[AeH,h];exact (U6 _ _ _).symm
set_option maxHeartbeats 4000000 in
theorem sopen_c (pd:Nat) (D:Dsk) (x:Sup) (B:Nat->Pg) (Gd:List Rc->Prop) (hO:OInv D x B Gd) (a7:Clean D) (g9:x.gen+1<=1099511627776) (e4:x.epoch+1<4294967296):Cn prog 38 [Y pd] [diskA pd D] (λv Γ=>∃(ps pl b md:Nat) (hq:Hp) (D2:Dsk) (d2:List Rc),Gd d2/\SInv D2 (Dq x) (pgMap (ov d2) B) [] [] 0 1 0 false 0/\Clean D2/\D2.n=D.n/\(∀i,D2.ver i=[])/\v=.tuple #[Y ps,I 0]/\Γ=[stB ps pd b (Dq x) (Y pl) md false (.map none),lgB pl pd b (Dq x) 0 1 0 false (decide ((Dq x).epoch<4294967296)),tblA b,diskA pd D2,pgsA md Do hq,poolA hq]):=by
 intro z R w H;replace H:=H.l1;obtain ⟨y0,y1,f9,e5,g1,e3,e6,g0,f8⟩:=hO.two;have b1:=hO.ok;have g8:=Sup.get b1;have h6:=b1.2;have d4:=hO.gen;have a2:(Dq x).Ok (D.n:Int):=AbA b1 d4 U U;refine Ae func38 Z ntmps38 Z (Zc 19 Z (Aq Z (call80 _) (Of) H ?_));rintro _ w _ ⟨b,rfl,rfl⟩ H;replace H:=H.l2;refine AQ Z (F5 H Z) ?_;rintro _ w ⟨m1,rfl,H⟩;replace H:=H.l3;refine Ab Z (Bc Z Z (out:=[Y pd,Y b,I 0,I 0,I 0,I 0,I 0,I 0,I 0,.pointer none,.map (some m1),.bool false,.map none]) J) (Za 0 [] H Z ?_);intro b2 w H;refine Z2 10 [1,0,0] H Z (z_E_ Z (call82 _) (Abz _ _ _ a7.f1 x y0 y1 f9 e5 g1 e3 e6 g0 f8) H.f2.f3 ?_);intro w H;refine Za 3 [] H Z ?_;intro b3 w H;refine Z4 24 [0,4,0,7,2,3] H Z ?_;intro w H;replace H:=H.f3;refine AO (Sep z (stB b2 pd b x (.pointer none) m1 false (.map none)::blk b3 [I x.gen,I x.epoch,I x.pages,I x.start,I x.len,I x.head,I x.seq] 127::R)) 14 Z J (A5 H λw t=>?_);have H:=t.l5;refine AU [0,1,2,3,4,5] [1,0,0,1,7] [] (by exact H.pick 5 [0,1] Z) Z J Z (AB [6] J O (An (Bo Z Z Z Z Z Z (λw=>call83 _ w) (Abm _ _ x _ b1 a7.f1) H.f2.f3 Z ?_)));rintro _ w _ ⟨b0,a,a5,q5,u5,v5,s,rfl,a9,b7,m,rfl⟩ H;replace H:=H.l7;obtain ⟨c1,c2,rfl⟩:=m.slc;obtain ⟨es2,b8,a3,c9⟩:=m;have g6:es2.length=a.length:=by rw[<-b8];simp
 have a4:=hO.read a a5 q5 u5 a9 b7;have e8:=hO.recs a a4;have g2:=a3.small;have d8:∀n,(ov a n).isSome=true->n<1024:=λn h=>by have:=hO.ovb a4 h;omega
 have d6:∀n,(ov a n).isSome=true->2+n<D.n:=λn h=>by have:=hO.ovb a4 h;omega
 have H:Sep z (poolA s::lgB b0 pd b x a5 q5 u5 false (decide (x.epoch<4294967296))::tblA b::diskA pd D::stB b2 pd b x (.pointer none) m1 false (.map none)::blk b3 [I x.gen,I x.epoch,I x.pages,I x.start,I x.len,I x.head,I x.seq] 127::AH m1 ([]) 0::R) w:=H;refine Av (H.pick 7 [4,5] Z) (AU [7,8,9,10,11,12,13] [] [] (by exact H.pick 7 [4,5] Z) Z J Z (a_done J (gn (Z5 36 [4,0,5,0,0,5,1,5,0,1,5,0,5,0,0] [x.gen+1,x.epoch+1] H Z U ?_))));intro w H;refine Al 62 Z (λh1=>U) (λh1=>?_);refine Z2 6 [1,5,0,0] H Z (Ag Z (λh2=>U) (λh2=>?_));refine Zc 11 Z ?_;refine AD (σ:=Nat×List PgE×Nat) (λ⟨k,es,cl⟩=>[(69,I (k:Int)),(0,Y pd),(2,.pointer none),(3,I 0),(4,Y b2),(5,Y b3),(67,.slice c1 a.length c2),(68,I (a.length:Int))])
   (λ⟨k,es,cl⟩ w=>Sep z (poolA s::lgB b0 pd b x a5 q5 u5 false (decide (x.epoch<4294967296))::tblA b::diskA pd D::stB b2 pd b x (.pointer none) m1 false (.map none)::blk b3 [I (x.gen+1),I (x.epoch+1),I x.pages,I x.start,I x.len,I x.head,I x.seq] 127::AH m1 (es.map PgE.ie) cl::R) w/\(k<=a.length/\PgsIn (ov (a.take k)) es cl s)) (λ⟨k,es,cl⟩=>a.length-k) ⟨0,[],0⟩
   fr_z ⟨H,by omega,PgsIn.none _ _⟩ ?_
 clear H;rintro ⟨k,es,cl⟩ w ⟨t,hI⟩;dsimp only at hI t ⊢;have H:=t.l7;obtain ⟨h0,c0⟩:=hI;refine Z0 6 [0] Z (Ag Z (λh3=>?_) (λh3=>?_))
 ·refine Zc 6 Z ?_;obtain ⟨⟨g,w1⟩,b6⟩:∃e:RcE,es2[k]?=some e:=⟨_,Ad7 U⟩;have d1:a[k]?=some g:=by rw[<-b8];simp[b6]
  obtain ⟨c7,c4,f,c8⟩:=c9 _ (Ad8 b6);dsimp only at c4 f;obtain ⟨a1,c3,rfl⟩:=f.slc;have g7:c7.length=g.ims.length:=by rw[<-c4];simp
  have g3:=f.small;have e0:=e8 _ (Ad8 d1);have d3:=(H.rv 0 (λq=>a3.le q)).at (LL b6 0 _ Z);refine Ab Z (Aj Z (z:=2) (j:=k) (r:=k*2) J Z Z Z U d3 U) (Ab Z (Bq Z Z (vs:=[I g.seq,.slice a1 g.ims.length c3]) J O (Ay (λk u hk=>(H.rv 0 (λq=>a3.le q)).at (LL b6 k u hk)))) (Za 0 [] H Z ?_));intro b4 w H;refine Z4 12 [0,1,0,0] H Z ?_;intro w H;refine AD (σ:=Nat×List PgE×Nat) (λ⟨j,ei,ci⟩=>[(76,I (j:Int)),(0,Y pd),(2,.pointer none),(3,I 0),(4,Y b2),(5,Y b3),(10,Y b4),(67,.slice c1 a.length c2),(68,I (a.length:Int)),(69,I (k:Int)),(70,.bool (decide ((k:Int)<(a.length:Int)))),(71,Ie c1 (k*2)),(72,.agg #[I g.seq,.slice a1 g.ims.length c3]),(73,.pointer (some ⟨b4,1,none⟩)),(74,.slice a1 g.ims.length c3),(75,I (g.ims.length:Int))])
    (λ⟨j,ei,ci⟩ w=>Sep z (blk b4 [I g.seq,.slice a1 g.ims.length c3] 146::poolA s::lgB b0 pd b x a5 q5 u5 false (decide (x.epoch<4294967296))::tblA b::diskA pd D::stB b2 pd b x (.pointer none) m1 false (.map none)::blk b3 [I (x.gen+1),I (x.epoch+1),I x.pages,I x.start,I x.len,I x.head,I x.seq] 127::AH m1 (ei.map PgE.ie) ci::R) w/\(j<=g.ims.length/\PgsIn (EK (ov (a.take k)) (g.ims.take j)) ei ci s)) (λ⟨j,ei,ci⟩=>g.ims.length-j) ⟨0,es,cl⟩
    fr_z ⟨H,by omega,c0⟩ ?_
  clear H;rintro ⟨j,ei,ci⟩ w ⟨t,hI⟩;dsimp only at hI t ⊢;have H:=t.l8;obtain ⟨h5,y⟩:=hI;refine Z0 6 [0] Z (Ag Z (λh4=>?_) (λh4=>?_))
  ·refine Zc 6 Z ?_;obtain ⟨⟨⟨a6,l,d9⟩,u1⟩,o⟩:∃e:ImE,c7[j]?=some e:=⟨_,Ad7 U⟩;have c6:g.ims[j]?=some ⟨a6,l,d9⟩:=by rw[<-c4];simp[o]
   obtain ⟨⟨e1,e2⟩,b9,a0⟩:=(e0.2 _ (Ad8 c6)).1;dsimp only at e1 e2 b9 a0;obtain ⟨n,rfl⟩:∃n:Nat,a6=(n:Int):=⟨a6.toNat,by omega⟩;have a8:=c8 _ (Ad8 o);dsimp only at a8;rw[a0] at a8;have f0:=a8.slc;have d0:=(H.rv 1 (λq=>f.le q)).at (Jm o 0 _ Z);obtain ⟨d5,e7,c5,_⟩:=y.put (k:=n) (p:=⟨l,d9⟩) (v:=u1) ⟨b9,a0⟩ a8;refine Ab Z (Aj Z (z:=3) (j:=j) (r:=j*3) J Z Z Z U d0 U) (Ab Z (Bq Z Z (vs:=[I (n:Int),I l,u1]) J O (Ay (λk u hk=>(H.rv 1 (λq=>f.le q)).at (Jm o k u hk)))) (Za 0 [] H Z ?_));intro b5 w H;refine Az Z Z (Ak 0 H Z Z Z Z (vs:=[I (n:Int),I l,u1]) Z (Ad Z (Ad Z (Ad f0.one Aw))) J O (out:=[I (n:Int),I l,u1]) Z) ?_;rintro w H;replace H:=H.l9;refine Zc 2 Z ?_;replace H:=H.f6;refine AO (Sep z (stB b2 pd b x (.pointer none) m1 false (.map none)::blk b5 [I (n:Int),I l,u1] 148::R)) 9 Z J (A5 H λw t=>?_);have H:=t.l9;refine AU [0,1,2,3,4,5,6,7] [10,0,0,0,1,0,1,1,2] [] (by exact H.pick 9 [0,1] Z) Z J Z (AB [8] J O (An (Bg Z Z Z (DN 8 (e:=89) H Z Z J Z Z Z) ?_)));rintro w H;replace H:=H.l9;refine Av (H.pick 9 [0,1] Z) (a_done J (gn ?_));rw[e7] at H;have H:Sep z (stB b2 pd b x (.pointer none) m1 false (.map none)::blk b5 [I (n:Int),I l,u1] 148::blk b4 [I g.seq,.slice a1 g.ims.length c3] 146::poolA s::lgB b0 pd b x a5 q5 u5 false (decide (x.epoch<4294967296))::tblA b::diskA pd D::blk b3 [I (x.gen+1),I (x.epoch+1),I x.pages,I x.start,I x.len,I x.head,I x.seq] 127::AH m1 (d5.map PgE.ie) (putC (ei.map PgE.ie) (n:Int) ci)::R) w:=H;refine Z1 6 [] [(j:Int)+1] Z U ?_;replace H:=H.f1.d.f7.f7.f2.f7.f7.f7.f7.f7;refine gf ?_;intro _ hF;refine ⟨⟨j+1,d5,putC (ei.map PgE.ie) (n:Int) ci⟩,hF.cz,⟨H,?_⟩,?_⟩
   ·dsimp only
    exact ⟨by omega,(MY c6)▸c5⟩
   (dsimp only;omega)
  obtain rfl:j=g.ims.length:=by omega
  refine Zc 2 Z (gx (Z1 7 [] [(k:Int)+1] Z U ?_));replace H:=H.d;refine gf ?_;intro _ hF;refine ⟨⟨k+1,ei,ci⟩,hF.cz,⟨H,?_⟩,?_⟩
  ·dsimp only
   rw[Aee (Aed _),Ow d1] at y;exact ⟨by omega,y⟩
  (dsimp only;omega)
 obtain rfl:k=a.length:=by omega
 have y:=c0;rw[Aee (Aed _)] at y;refine Zc 2 Z (gx (Z4 15 [5,5,6,5,5,7] H Z ?_));intro w H;replace H:=(H.toPgs 6 Z y).l7;refine Aq Z (call84 _) (IX _ _ _ _ _ _ _ _ (ov a) _ (Dq x) D d8 d6 a2 (λi=>by rw[hO.ver];simp)) H.f6.f4.f4.f5 ?_;rintro _ w _ (⟨ks,d7,rfl,rfl⟩|⟨ks,c,D2,d7,g4,e9,rfl,rfl⟩) t
 ·have H:=t.l7;refine Z0 13 [4] Z ?_;replace H:=H.f6.f1;refine Bl (Sep z (stB b2 pd b (Dq x) (.pointer none) m1 false (.map none)::blk b3 [I (x.gen+1),I (x.epoch+1),I x.pages,I x.start,I x.len,I 0,I 1] 127::R)) 11 Z J (A5 H λw t=>?_)
  have H:=t.l7;refine Bw [0,1,2,3,4,5] [1,0] J (λ_ hx=>(AS (hx.blk 0 Z) AN)) (by exact H.pick 7 [0,1] Z) Z J Z Z (BS 6 J Z Z J J J Z Z Z (BX Z Z (vs:=[I (x.gen+1),I (x.epoch+1),I x.pages,I x.start,I x.len,I 0,I 1]) J (λ_ hx=>(hx.blk 1 Z).part 0 7 _ Z)) (H.pick 7 [0,1] Z) (AF [7] J O (An (Bo Z Z Z Z Z Z (λw=>call85 _ w) (Qe _ _ _ (Dq x) (by show (Dq x).Ok ((hwD D _).n:Int);rw[E9];exact a2)) H.f3 Z ?_))));rintro _ w _ ⟨pl,rfl,rfl⟩ H;replace H:=H.l8;refine Au (λ_=>(H.pick 8 [2,3] Z)) (Bw [8,9] [9] J (λ_ _=>AN) (by exact H.pick 8 [2,3] Z) Z J Z Z (AF [10] J O (An (Bg Z Z Z (AdB 2 H Z Z Z Z Z Z J) ?_))));rintro w H;replace H:=H.l8;refine Au (λh=>absurd Z h) (Bn J (gn (Zc 9 Z (Zr Z ?_))));exact ⟨_,⟨b2,pl,_,m1,_,_,a,a4,hO.opened a4 d7 a2 e4,(((a7.hw _).fl).sv _),by show (hwD _ _).n=_;exact E9 _ _,HN (λ_=>rfl) _,Z,Z⟩,H.perm 8 [2,0,4,1,5,6] Z Z⟩
 exact absurd e9 a7.setF
theorem YW(n k:Nat):wr1 (EV (Ct n) k) false ((2:Int)+(k:Int)).toNat (List.replicate 256 0)=EV (Ct n) (k+1):=by
 rw[show ((2:Int)+(k:Int)).toNat=2+k from by omega];rfl
theorem AbB{n:Nat}{p s l:Int}(h:(CA p s l 2).Ok (n:Int)):(CA p s l 1).Ok (n:Int):=by
 have a:=h.2;have hs:=Sup.get h;have b:(CA p s l 2).pages=p/\(CA p s l 2).start=s/\(CA p s l 2).len=l/\(CA p s l 2).head=0:=⟨Z,Z,Z,Z⟩;exact Sup.ok_mk (by show 0<=(1:Int)/\(1:Int)<=1099511627776;omega) (by show 0<=(1:Int)/\(1:Int)<=1099511627776;omega) (by show 16<=p/\p<=1024;omega) (by show 2+p<=s/\s<=1099511627776;omega) (by show 64<=l/\l<=1099511627776;omega) (by show 0<=(0:Int)/\(0:Int)<l;omega) (by show 0<=(1:Int)/\(1:Int)<=1099511627776;omega) (by show s<=n-l/\l<=n;omega)
theorem AdK{n:Nat}{p s l:Int}(h:(CA p s l 2).Ok (n:Int)):(16<=p/\p<=1024)/\2+p<=s/\s+l<=n/\0<=l:=by
 have a:=h.2;have b:(CA p s l 2).pages=p/\(CA p s l 2).start=s/\(CA p s l 2).len=l/\(CA p s l 2).head=0:=⟨Z,Z,Z,Z⟩;omega
set_option maxHeartbeats 2000000 in
theorem VJ (pd n:Nat) (p s l:Int) (c:(CA p s l 2).Ok (n:Int)):Cn prog 37 [Y pd,I p,I s,I l] [diskA pd (Ct n)] (λv Γ=>v=I 0/\Γ=[diskA pd (MG n p s l)]):=by
 intro z R w a;have H:Sep z (diskA pd (Ct n)::R) w:=a;clear a;have b:(CA p s l 1).Ok (n:Int):=AbB c;have a2:(16<=p/\p<=1024)/\2+p<=s/\s+l<=n/\0<=l:=AdK c;have m:=H.sy 0 (λq=>(diskA.ok q).n2);refine enter func37 Z 57 ntmps37 Z (AX (AI (BY 1 Z Z (AP (AX (AX (AI (BY 1 Z Z (s_do Z Z Z (Nq Z J Z Z) (AP (EA Z (DF (AX ?_)))))))))))));refine AI (BY 3 Z Z (s_do Z Z Z (Bc Z Z (out:=[I 1,I 1,I p,I s,I l,I 0,I 1]) J) (E3 Z Z Z (Cb (P:=prog) H Z (zs:=[I 0,I 0,I 0,I 0,I 0,I 0,I 0]) J) ?_)));rintro _ w ⟨x,rfl,a⟩;have H:=a.l2;refine FY Z Z (Ak 0 H Z Z Z Z (vs:=[I 1,I 1,I p,I s,I l,I 0,I 1]) Z (by simp[u8,u32,Value.oneCell']) J O (out:=[I 1,I 1,I p,I s,I l,I 0,I 1]) Z) ?_;rintro w a;have H:=a.l2;refine AP (AX (AX (Bu (Sep z _) J J H.drew (AL Z Z Z (BX Z Z (vs:=[I 1,I 1,I p,I s,I l,I 0,I 1]) J (λ_ hx=>(hx.blk 0 Z).part 0 7 _ Z)) (BZ 1 [] Z J (Dl Z Z Z Z Z (λw=>call77 _ w) (v:=I ((Ct n).n:Int)) (cq (HL _ _) (by rintro _ _ ⟨rfl,rfl⟩;exact ⟨Z,Z⟩) 2 [1,0] [1,0] Z Z Z Z) (Dl Z Z Z Z Z (λw=>call76 _ w) (v:=I (if (Sup.mk 1 1 p s l 0 1).Ok ((Ct n).n:Int) then 0 else 1)) (cq (HI (Sup.mk 1 1 p s l 0 1) _ U) (by rintro _ _ ⟨rfl,rfl⟩;exact ⟨Z,Z⟩) 0 [] [] Z Z Z Z) (BZ 1 [] Z J (BH (λw a=>?_))))))))));have H:=a.l2;refine Gp Z (λo=>?_) (λo=>?_)
 ·exact (o (if_pos b)).elim
 refine DF (AX (AX (AI (BY 2 Z Z (AP (FJ ?_))))));refine Sa (σ:=Nat) (λk=>[(27,I (k:Int)),(0,Y pd),(9,Y x),(26,I p)])
   (λk w=>Sep z (blk x [I 1,I 1,I p,I s,I l,I 0,I 1] 127::diskA pd (EV (Ct n) k)::R) w/\(k<=p.toNat)) (λk=>p.toNat-k) 0
   fr_z ⟨H,by omega⟩ ?_
 clear H;rintro k w ⟨a,t⟩;have H:=a.l2;have a1:=t;clear t;refine AX (AI (BY 1 Z Z (AP (AX (Gp Z (λh2=>?_) (λh2=>?_))))))
 ·refine DF (AX (FJ (AX (AI (BY 2 Z Z (AP (AX (AI (BY 2 Z Z (s_do Z Z Z (CZ Z Z Z (r:=(2:Int)+(k:Int)) U U) (E3 Z Z Z (Em (k:=256) H Z J (Elt.mk (P:=prog) (e:=5) (z:=u8 0) (sz:=1) (by_:=1) J Z U U) Z Z Z U) ?_)))))))))));rintro _ w ⟨b2,rfl,a⟩;have H:=a.l3;refine Ft Z Z Z Z Z (λw=>call78 _ w) (J7 _ _ _ _ _ _ _ (List.replicate 256 0) _ O (λh q=>by rw[Aha];exact q.rd U U O Z) (λi=>by have:=Tu n i k;omega) (by rw[Ou];show 0<=(2:Int)+(k:Int)/\(2:Int)+(k:Int)+1<=(n:Int);omega)) H.f2 Z ?_;rintro _ w _ (⟨g,rfl,rfl⟩|⟨_,rfl,rfl⟩) a
  ·exact absurd g (FS (FA n) k).bad
  have H:=a.l3;refine BY 1 Z Z (AP (AX (AI (BY 2 Z Z (AC 36 (u:=.bool (decide ((0:Int)≠0))) (v:=.bool false) Z (congrArg Value.bool (by decide)) (AP (EA Z (DF (AI (s_do Z Z Z (CZ Z Z Z (r:=(k:Int)+1) U U) (BY 1 Z Z (AP ?_))))))))))));replace H:=H.f1.d.f1;intro _ y;refine ⟨(k+1),y.cz,⟨(by rw[<-YW];exact H),?_⟩,?_⟩
  ·omega
  omega
 obtain rfl:k=p.toNat:=by omega
 refine R7 (IF (AX (AX (AI (BY 1 Z Z (Ft Z Z Z Z Z (λw=>call79 _ w) (HK _ _) H.f1 Z ?_))))));rintro _ w _ (⟨j,rfl,rfl⟩|⟨_,rfl,rfl⟩) a
 ·exact absurd j (FS (FA n) p.toNat).flb
 have H:=a.l2;refine BY 1 Z Z (AP (AX (AI (BY 2 Z Z (AC 42 (u:=.bool (decide ((0:Int)≠0))) (v:=.bool false) Z (congrArg Value.bool (by decide)) (AP (EA Z (DF (AX (AI (Ft Z Z Z Z Z (λw=>call80 _ w) (Of) H Z ?_)))))))))));rintro _ w _ ⟨pt,rfl,rfl⟩ a;have H:=a.l3;refine BY 1 Z Z (AP (AX (AX (AI (BY 2 Z Z (s_do Z Z Z (BX Z Z (vs:=[I 1,I 1,I p,I s,I l,I 0,I 1]) J (Ay ((H.blk 2 Z).part 0 7 _ Z))) (Ft Z Z Z Z Z (λw=>call81 _ w) (Om _ _ _ (CA p s l 1) (by show (CA p s l 1).Ok ((EV (Ct n) p.toNat).n:Int);rw[Ou];exact b) (λi=>by show ([]:List (List UInt8)).length<=_;simp)) H.f1 Z ?_)))))));rintro _ w _ (⟨f,rfl,rfl⟩|⟨_,rfl,rfl⟩) a
 ·exact absurd f ((FS (FA n) p.toNat).fl).bad
 have H:=a.l3;refine BY 1 Z Z (AP (AX (AI (BY 2 Z Z (AC 50 (u:=.bool (decide ((0:Int)≠0))) (v:=.bool false) Z (congrArg Value.bool (by decide)) (AP (EA Z (DF (AX (AI (Mn 1 [0] Z J (FY Z Z (Ak 2 H Z Z Z Z (vs:=[I 2]) Z (by simp[u8,u32,Value.oneCell']) J O (out:=[I 2,I 1,I p,I s,I l,I 0,I 1]) Z) ?_))))))))))));rintro w a;have H:=a.l3;refine AP (AX (AI (BY 2 Z Z (s_do Z Z Z (BX Z Z (vs:=[I 2,I 1,I p,I s,I l,I 0,I 1]) J (Ay ((H.blk 2 Z).part 0 7 _ Z))) (Ft Z Z Z Z Z (λw=>call81 _ w) (Om _ _ _ (CA p s l 2) (by show (CA p s l 2).Ok ((EV (Ct n) p.toNat).n:Int);rw[Ou];exact c) (λi=>by rw[HN (λ_=>rfl)];simp)) H Z ?_)))));rintro _ w _ (⟨f,rfl,rfl⟩|⟨_,rfl,rfl⟩) a
 ·exact absurd f (((FS (FA n) p.toNat).fl.sv _)).bad
 have H:=a.l3;refine BY 1 Z Z (AP (D7 (Fq Z [I 0] ⟨Z,trivial⟩ (v:=I 0) Z ?_)));exact ⟨[diskA pd (Fi (Fi ((EV (Ct n) p.toNat).fl) (CA p s l 1)) (CA p s l 2))],⟨Z,Z⟩,H.perm 3 [0] Z Z⟩
theorem YX(ps pd b md:Nat)(x:Sup)(d c:Value)(D:Dsk):Cn prog 47 [Y ps] [stB ps pd b x d md false c,diskA pd D] (λv Γ=>(D.flb/\v=I 12/\Γ=[stB ps pd b x d md false c,diskA pd {D with f3:=Be D.f3}])\/(¬D.flb/\v=I 0/\Γ=[stB ps pd b x d md false c,diskA pd D.fl])):=by
 intro z R w e;have H:Sep z (stB ps pd b x d md false c::diskA pd D::R) w:=e;clear e;refine enter func47 Z 12 ntmps47 Z (AX (AI (BY 1 Z Z (AP (AX (AX (AI (Gi 4 [11,0] (AS (H.blk 0 Z) AN) Z J Z (AP (EA Z (DF (AX (AI ?_)))))))))))));refine Gi 4 [0,0] (AS (H.blk 0 Z) AN) Z J Z (Ft Z Z Z Z Z (λw=>call79 _ w) (HK _ _) H.f1 Z ?_);rintro _ w _ (⟨a,rfl,rfl⟩|⟨a,rfl,rfl⟩) e
 ·have H:=e.l2;refine BY 1 Z Z (AP (D7 (Fq Z [I 12] ⟨Z,trivial⟩ (v:=I 12) Z ?_)));exact ⟨[stB ps pd b x d md false c,diskA pd ({D with f3:=Be D.f3})],.inl ⟨a,Z,Z⟩,H.perm 2 [1,0] Z Z⟩
 have H:=e.l2;refine BY 1 Z Z (AP (D7 (Fq Z [I 0] ⟨Z,trivial⟩ (v:=I 0) Z ?_)));exact ⟨[stB ps pd b x d md false c,diskA pd D.fl],.inr ⟨a,Z,Z⟩,H.perm 2 [1,0] Z Z⟩
set_option maxHeartbeats 2000000 in
theorem RI (ps pd d g md:Nat) (x h:Sup) (l:Value) (k:Bool) (hq:Hp) (D:Dsk) (B:Nat->Pg) (rs:List Rc) (ptl:List (List UInt8)) (a q u:Int) (b:Bool) (sure:Nat) (hS:SInv D x B rs ptl a q u b sure) (hL:h.start=x.start/\h.len=x.len/\h.epoch=x.epoch) (a7:q<=1099511627776) (a0:∀i,(D.ver i).length<=1000000000000):Cn prog 33 [Y ps] [stB ps pd d x (Y g) md false l,lgB g pd d h a q u b k,tblA d,diskA pd D,pgsA md (ov rs) hq,poolA hq] (λv Γ=>((∀n,ov rs n=none)/\b=false/\u<x.len/\v=I 0/\Γ=[stB ps pd d x (Y g) md false l,lgB g pd d h a q u b k,tblA d,diskA pd D,pgsA md (ov rs) hq,poolA hq])\/(∃f:Dsk,¬((∀n,ov rs n=none)/\b=false/\u<x.len)/\SInv f (Ee x a q) (pgMap (ov rs) B) [] [] a q 0 false 0/\(Clean D->Clean f)/\f.n=D.n/\(∀i,f.ver i=[])/\v=I 0/\Γ=[stB ps pd d (Ee x a q) (Y g) md false l,lgB g pd d h a q 0 false k,tblA d,diskA pd f,pgsA md Do hq,poolA hq])\/(∃(c:Int) (f:Dsk) (e:Nat),c≠0/\(¬Clean D\/1099511627776<x.gen+1)/\(SInv f x B rs ptl a q u b e/\sure<=e)/\f.n=D.n/\(∀i,(f.ver i).length<=(D.ver i).length+1)/\v=I c/\Γ=[stB ps pd d x (Y g) md false l,lgB g pd d h a q u b k,tblA d,diskA pd f,pgsA md (ov rs) hq,poolA hq])):=by
 intro z R w p;have H:Sep z (stB ps pd d x (Y g) md false l::lgB g pd d h a q u b k::tblA d::diskA pd D::pgsA md (ov rs) hq::poolA hq::R) w:=p;clear p;refine enter func33 Z 9 ntmps33 Z (AX (AI (BY 1 Z Z (AP (AX (AX (AI (Gi 4 [11,0] (AS (H.blk 0 Z) AN) Z J Z (AP (EA Z (DF (AX (AI ?_)))))))))))));refine BY 1 Z Z (Ft Z Z Z Z Z (λw=>call71 _ w) (IY _ _ _ _ _ _ _ _ _ _ _ _ _ _ _ _ _ _ _ _ hS hL U a0) H Z ?_);rintro _ w _ (⟨a4,a6,a1,rfl,rfl⟩|⟨f,a2,o,r,j,a5,rfl,rfl⟩|⟨m,f,e,s,y,⟨o,t⟩,j,a3,rfl,rfl⟩) p
 ·have H:=p.l6;refine BY 1 Z Z (AP (D7 (Fq Z [I 0] ⟨Z,trivial⟩ (v:=I 0) Z ?_)));exact ⟨[stB ps pd d x (Y g) md false l,lgB g pd d h a q u b k,tblA d,diskA pd D,pgsA md (ov rs) hq,poolA hq],.inl ⟨a4,a6,a1,Z,Z⟩,H⟩
 ·have H:=p.l6;refine BY 1 Z Z (AP (D7 (Fq Z [I 0] ⟨Z,trivial⟩ (v:=I 0) Z ?_)));exact ⟨[stB ps pd d (Ee x a q) (Y g) md false l,lgB g pd d h a q 0 false k,tblA d,diskA pd f,pgsA md Do hq,poolA hq],.inr (.inl ⟨f,a2,o,r,j,a5,Z,Z⟩),H⟩
 have H:=p.l6;refine BY 1 Z Z (AP (D7 (Fq Z [I m] ⟨Z,trivial⟩ (v:=I m) Z ?_)));exact ⟨[stB ps pd d x (Y g) md false l,lgB g pd d h a q u b k,tblA d,diskA pd f,pgsA md (ov rs) hq,poolA hq],.inr (.inr ⟨m,f,e,s,y,⟨o,t⟩,j,a3,Z,Z⟩),H⟩
section
structure StG where
 x:Sup
 B:Nat->Pg
 rs:List Rc
 ptl:List (List UInt8)
 a:Int
 q:Int
 u:Int
 b:Bool
 sure:Nat
def StG.M(G:StG):Nat->Pg:=pgMap (ov G.rs) G.B
def StG.home(G:StG):Prop:=∀n,ov G.rs n=none
structure StX where
 pl:Nat
 pt:Nat
 md:Nat
 mm:Nat
 sL:Sup
 nu:Bool
 hq:Hp
abbrev Hb:=Option (BC×Nat)
def AbC(mm:Nat):Hb->Value
 | none=>.map none
 | some _=>.map (some mm)
def AdL(mm:Nat)(hq:Hp):Hb->List Af
 | none=>[]
 | some o=>[Eu mm o.1 o.2 hq]
abbrev AbD(ps pd pt md:Nat)(x:Sup)(lp:Value)(un:Bool)(mo:Value):Af:=blk ps [.pointer (some ⟨pd,0,none⟩),.pointer (some ⟨pt,0,none⟩),.int .i64 x.gen,.int .i64 x.epoch,.int .i64 x.pages,.int .i64 x.start,.int .i64 x.len,.int .i64 x.head,.int .i64 x.seq,lp,.map (some md),.bool un,mo] 131
abbrev AbE(pl pd pt:Nat)(sL:Sup)(a q u:Int)(b nu:Bool):Af:=blk pl [.pointer (some ⟨pd,0,none⟩),.pointer (some ⟨pt,0,none⟩),.int .i64 sL.gen,.int .i64 sL.epoch,.int .i64 sL.pages,.int .i64 sL.start,.int .i64 sL.len,.int .i64 sL.head,.int .i64 sL.seq,.int .i64 a,.int .i64 q,.int .i64 u,.bool b,.bool nu] 227
def RJ(ps pd:Nat)(D:Dsk)(G:StG)(own:Hb)(X:StX):List Af:=
 [AbD ps pd X.pt X.md G.x (.pointer (some ⟨X.pl,0,none⟩)) own.isSome (AbC X.mm own),AbE X.pl pd X.pt X.sL G.a G.q G.u G.b X.nu,tblA X.pt,diskA pd D,pgsA X.md (ov G.rs) X.hq,poolA X.hq]++AdL X.mm X.hq own
structure StP(D:Dsk)(G:StG)(own:Hb)(X:StX):Prop where
 inv:SInv D G.x G.B G.rs G.ptl G.a G.q G.u G.b G.sure
 l:X.sL.start=G.x.start/\X.sL.len=G.x.len/\X.sL.epoch=G.x.epoch
 ok:X.sL.Ok (D.n:Int)
 nu:X.nu=decide (X.sL.epoch<4294967296)
 own:∀o,own=some o->o.2<=40/\∀n,(o.1 n).isSome=true->(n:Int)<G.x.pages
def stoA(ps pd:Nat)(D:Dsk)(G:StG)(own:Hb):Af:=λh=>∃X,StP D G own X/\seps (RJ ps pd D G own X) h
structure Fine(D:Dsk)(G:StG)(m:Nat):Prop where
 clean:Clean D
 b:G.b=false
 ver:∀i,(D.ver i).length<=m
 gen:G.x.gen<=m
 epoch:G.x.epoch<=m
 q:G.q<=m
theorem Fine.le{D:Dsk}{G:StG}{m a:Nat}(h:Fine D G m)(e:m<=a):Fine D G a:=
 ⟨h.clean,h.b,λi=>Agl (h.ver i) e,by have:=h.gen;omega,by have:=h.epoch;omega,by have:=h.q;omega⟩
variable{z w:World}{Γ:List Af}{ps pd:Nat}{D:Dsk}{G:StG}{own:Hb}
theorem Sep.sto(H:Sep z (stoA ps pd D G own::Γ) w):∃X,StP D G own X/\Sep z (RJ ps pd D G own X++Γ) w:=
 H.into (p:=λX=>StP D G own X) (As:=λX=>RJ ps pd D G own X) (λ_ q=>q)
theorem Sep.toSto{X:StX}(n:Nat)(H:Sep z Γ w)(a:StP D G own X)(b:Γ.take n=RJ ps pd D G own X):Sep z (stoA ps pd D G own::Γ.drop n) w:=
 H.made n (λh q=>⟨X,a,by rwa[b] at q⟩)
def Ej(M:Nat->Pg):Hb->Nat->Pg
 | none,n=>M n
 | some o,n=>(o.1 n).getD (M n)
def Qn(x:Sup)(B:Nat->Pg):StG:=⟨Dq x,B,[],[],0,1,0,false,0⟩
theorem Tw(pd:Nat)(D:Dsk)(x:Sup)(B:Nat->Pg)(Gd:List Rc->Prop)(m:Nat)(l:OInv D x B Gd)(c:Clean D)(s:x.gen<=m/\x.epoch<=m)(r:m<=1000000000):
  Cn prog 38 [Y pd] [diskA pd D] (λv Γ=>∃(ps:Nat) (b:Dsk) (a:List Rc),Gd a/\Fine b (Qn x (pgMap (ov a) B)) (m+1)/\b.n=D.n/\v=.tuple #[Y ps,I 0]/\Γ=[stoA ps pd b (Qn x (pgMap (ov a) B)) none]):=by
 intro z R w H;refine Ret.mono (sopen_c pd D x B Gd l c U U z R w H) ?_;rintro v t ⟨Γ',⟨ps,h,q,md,hq,b,a,g,d,j,p,f,rfl,rfl⟩,k⟩;refine ⟨_,⟨ps,b,a,g,⟨j,Z,λi=>by rw[f];simp,?_,?_,?_⟩,p,Z,Z⟩,k.toSto (X:=⟨h,q,md,0,Dq x,decide ((Dq x).epoch<4294967296),hq⟩) 6 ⟨d,⟨Z,Z,Z⟩,d.ok,Z,λo e=>(by cases e)⟩ Z⟩
 ·show x.gen+1<=_;omega
 ·show x.epoch+1<=_;omega
 show (1:Int)<=_;omega
theorem Qo(ps pd:Nat)(D:Dsk)(G:StG):Cn prog 39 [Y ps] [stoA ps pd D G none] (λv Γ=>v=I 0/\Γ=[stoA ps pd D G (some (Do,0))]):=by
 intro z R w H;obtain ⟨X,a,H⟩:=H.sto;refine Ret.mono (Cn.at (YQ ps pd X.pt X.md G.x _ _) H 6 [0,1,2,3,4,5] Z Z) ?_;rintro v c ⟨Γ',⟨rfl,m,rfl⟩,b⟩;have H2:=b.mono 1 (B:=Eu m Do 0 X.hq) Z (λh q=>⟨[],0,PgsIn.none _ _,Z,q⟩);have H3:=H2.pick 7 [0,2,3,4,5,6,1] Z;exact ⟨_,⟨Z,Z⟩,H3.toSto (X:=⟨X.pl,X.pt,X.md,m,X.sL,X.nu,X.hq⟩) 7 ⟨a.inv,a.l,a.ok,a.nu,λo e=>by cases e;exact ⟨by omega,λn h=>(by cases h)⟩⟩ Z⟩
theorem YY(ps pd:Nat)(D:Dsk)(G:StG)(own:Hb):Cn prog 93 [Y ps] [stoA ps pd D G own] (λv Γ=>v=.tuple #[]/\Γ=[stoA ps pd D G none]):=by
 intro z R w H;obtain ⟨X,c,H⟩:=H.sto;have H2:Sep z (AbD ps pd X.pt X.md G.x (.pointer (some ⟨X.pl,0,none⟩)) own.isSome (AbC X.mm own)::AbE X.pl pd X.pt X.sL G.a G.q G.u G.b X.nu::tblA X.pt::diskA pd D::pgsA X.md (ov G.rs) X.hq::poolA X.hq::R) w:=by
  cases own with
  | none=>exact H
  | some o=>exact H.pick 7 [0,1,2,3,4,5] Z
 refine Ret.mono (Cn.at (YP ps pd X.pt X.md G.x _ _ _) H2 6 [0,1,2,3,4,5] Z Z) ?_;rintro v f ⟨Γ',⟨rfl,rfl⟩,d⟩;exact ⟨_,⟨Z,Z⟩,d.toSto (X:=X) 6 ⟨c.inv,c.l,c.ok,c.nu,λo e=>(by cases e)⟩ Z⟩
theorem YZ(ps pd:Nat)(D:Dsk)(G:StG)(own:Hb):Cn prog 96 [Y ps] [stoA ps pd D G own] (λv Γ=>v=.agg #[I G.x.gen,I G.x.epoch,I G.x.pages,I G.x.start,I G.x.len,I G.x.head,I G.x.seq]/\Γ=[stoA ps pd D G own]):=by
 intro z R w H;obtain ⟨X,b,H⟩:=H.sto
 cases own with
 | none=>
  refine Ret.mono (Cn.at (Ql ps pd X.pt X.md G.x _ _ _) H 6 [0,1,2,3,4,5] Z Z) ?_;rintro v c ⟨Γ',⟨rfl,rfl⟩,a⟩;exact ⟨_,⟨Z,Z⟩,a.toSto (X:=X) 6 b Z⟩
 | some o=>
  refine Ret.mono (Cn.at (Ql ps pd X.pt X.md G.x _ _ _) H 7 [0,1,2,3,4,5,6] Z Z) ?_;rintro v c ⟨Γ',⟨rfl,rfl⟩,a⟩;exact ⟨_,⟨Z,Z⟩,a.toSto (X:=X) 7 b Z⟩
theorem Gu(ps pd:Nat)(D:Dsk)(G:StG)(g:BC)(k:Nat)(n:Nat)(t:(n:Int)<G.x.pages)(p:Pg)(hp:p.Ok)(r:Value)(A:Af)(y:∀h,A h->rdH 1 r 240 (p.body.map u8) h):
  Cn prog 41 [Y ps,I (n:Int),.agg #[I p.kind,r]] [stoA ps pd D G (some (g,k)),A] (λv Γ=>((g n=none/\40<=k)/\v=I 16/\Γ=[stoA ps pd D G (some (g,k)),A])\/(¬(g n=none/\40<=k)/\v=I 0/\Γ=[stoA ps pd D G (some (pgSet g n p,k+(if (g n).isSome then 0 else 1))),A])):=by
 intro z R w H;obtain ⟨X,b,H⟩:=H.sto;obtain ⟨f,s⟩:=b.own _ Z;refine Ret.mono (Cn.at (VD ps pd X.pt X.md X.mm G.x _ g k X.hq n t p hp r A y) H 8 [0,6,5,7,1,2,3,4] Z Z) ?_;rintro v w' ⟨Γ',(⟨d,rfl,rfl⟩|⟨d,c,hs,rfl,rfl⟩),u⟩
 ·have H3:=u.pick 8 [0,4,5,6,7,2,1,3] Z
  exact ⟨_,.inl ⟨d,Z,Z⟩,H3.toSto (X:=X) (ps:=ps) (pd:=pd) (D:=D) (G:=G) (own:=some (g,k)) 7 b Z⟩
 have H3:=(u.pick 8 [0,4,5,6,7,2,1,3] Z).mono 4 (B:=pgsA X.md (ov G.rs) c) Z (λh q=>pgsA.le hs h q);refine ⟨_,.inr ⟨d,Z,Z⟩,H3.toSto (X:=⟨X.pl,X.pt,X.md,X.mm,X.sL,X.nu,c⟩) (ps:=ps) (pd:=pd) (D:=D) (G:=G) (own:=some (pgSet g n p,k+(if (g n).isSome then 0 else 1))) 7 ⟨b.inv,b.l,b.ok,b.nu,λo e=>?_⟩ Z⟩;cases e;refine ⟨?_,λi hi=>?_⟩
 ·show k+(if (g n).isSome then 0 else 1)<=40
  split
  ·exact f
  rename_i m;have j:g n=none:=by simpa using m
  have:¬40<=k:=λe=>d ⟨j,e⟩;omega
 have a:(pgSet g n p i).isSome=true:=hi;unfold pgSet at a;split at a
 ·rename_i e;subst e;exact t
 exact s i a
theorem KX(ps pd:Nat)(D:Dsk)(G:StG)(own:Hb)(n:Nat)(g:(n:Int)<G.x.pages)(d:D.f1=0)(q:Pg)(hq:q=Ej G.M own n):
  Cn prog 98 [Y ps,I (n:Int)] [stoA ps pd D G own] (λv Γ=>(q=noPg/\v=.tuple #[.agg #[I 0,.slice none 0 0],I 0]/\Γ=[stoA ps pd D G own])\/(q.Ok/\∃c,v=.tuple #[.agg #[I q.kind,c],I 0]/\Γ=[grow 5 1 c 240 (q.body.map u8),stoA ps pd D G own])):=by
 intro z R w H;obtain ⟨X,b,H⟩:=H.sto
 cases own with
 | none=>
  refine Ret.mono (Cn.at (VB ps pd X.pt X.md G.x _ _ (ov G.rs) X.hq D n g d b.inv.ok q (G.B n) hq (λe=>b.inv.cur g e)) H 6 [0,2,3,4,5,1] Z Z) ?_;rintro v h ⟨Γ',(⟨a,rfl,rfl⟩|⟨a,c,rfl,rfl⟩),f⟩
  ·have H3:=f.pick 6 [0,5,1,2,3,4] Z
   exact ⟨_,.inl ⟨a,Z,Z⟩,H3.toSto (X:=X) (ps:=ps) (pd:=pd) (D:=D) (G:=G) (own:=none) 6 b Z⟩
  have H3:=f.pick 7 [1,6,2,3,4,5,0] Z;have H4:=H3.toSto (X:=X) (ps:=ps) (pd:=pd) (D:=D) (G:=G) (own:=none) 6 b Z;exact ⟨_,.inr ⟨a,c,Z,Z⟩,H4.pick 2 [1,0] Z⟩
 | some o=>
  refine Ret.mono (Cn.at (VC ps pd X.pt X.md X.mm G.x _ _ (ov G.rs) o.1 o.2 X.hq D n g d b.inv.ok q (G.B n) (by rw[hq];show (o.1 n).getD ((ov G.rs n).getD (G.B n))=_;cases o.1 n<;>rfl) (λe=>b.inv.cur g (by cases a:o.1 n with|none=>rw[a] at e;exact e|some y=>rw[a] at e;cases e))) H 7 [0,2,3,4,6,5,1] Z Z) ?_;rintro v h ⟨Γ',(⟨a,rfl,rfl⟩|⟨a,c,rfl,rfl⟩),f⟩
  ·have H3:=f.pick 7 [0,6,1,2,3,5,4] Z
   exact ⟨_,.inl ⟨a,Z,Z⟩,H3.toSto (X:=X) (ps:=ps) (pd:=pd) (D:=D) (G:=G) (own:=some o) 7 b Z⟩
  have H3:=f.pick 8 [1,7,2,3,4,6,5,0] Z;have H4:=H3.toSto (X:=X) (ps:=ps) (pd:=pd) (D:=D) (G:=G) (own:=some o) 7 b Z;exact ⟨_,.inr ⟨a,c,Z,Z⟩,H4.pick 2 [1,0] Z⟩
theorem Ox(ps pd:Nat)(D:Dsk)(G:StG)(g:BC)(k m:Nat)(h:Fine D G m)(hm:m<=1000000000):
  Cn prog 46 [Y ps] [stoA ps pd D G (some (g,k))] (λv Γ=>∃(s:Dsk) (r:StG),Fine s r (m+2)/\s.n=D.n/\(r.M=Ej G.M (some (g,k))/\∀n,(g n).isSome=true->(ov r.rs n).isSome=true)/\(r.x=G.x\/r.x=Ee G.x G.a G.q)/\v=I 0/\Γ=[stoA ps pd s r none]):=by
 intro z R w H;obtain ⟨X,d,H⟩:=H.sto;obtain ⟨a3,a6⟩:=d.own _ Z;have h1:=h.gen;have h2:=h.epoch;have h3:=h.q;have hL:=d.l;have hc:=Nf G.x G.a G.q;refine Ret.mono (Cn.at (VG ps pd X.pt X.pl X.md X.mm G.x X.sL X.nu X.hq g k D G.B G.rs G.ptl G.a G.q G.u G.b G.sure d.inv d.l d.ok d.nu U (λi=>by have:=h.ver i;omega) a6 a3) H 7 [0,1,2,3,4,6,5] Z Z) ?_;rintro v w' ⟨Γ',(⟨h4,rfl,rfl⟩|⟨h4,a1,s,x2,B2,j,a2,u2,f,hs,a5,⟨a4,a0⟩,t,y,p,rfl,rfl⟩|⟨_,c,a1,s,x2,B2,j,a7,a2,q2,u2,b2,f,a9,hw,_⟩),H'⟩
 ·subst h4
  have hg:∀n,g n=none:=H.sy 6 (λq=>by obtain ⟨es,clk,h1,h2,_⟩:=q;exact h1.nil_iff.1 h2);exact ⟨_,⟨D,G,h.le U,Z,⟨by funext n;show _=(g n).getD _;rw[hg];rfl,λn hn=>by rw[hg] at hn;cases hn⟩,.inl Z,Z,Z⟩,H'.toSto (X:=X) 6 ⟨d.inv,d.l,d.ok,d.nu,λo e=>(by cases e)⟩ Z⟩
 ·have a8:x2.start=G.x.start/\x2.len=G.x.len/\x2.epoch=G.x.epoch/\x2.gen<=G.x.gen+1/\G.x.gen<=x2.gen:=by
   rcases t with rfl|rfl
   ·exact ⟨Z,Z,Z,by omega,by omega⟩
   exact ⟨Z,Z,Z,by omega,by omega⟩
  refine ⟨_,⟨s,⟨x2,B2,j,[],a2,G.q+1,u2,false,f⟩,⟨y h.clean,Z,λi=>by have:=p.2 i;have:=h.ver i;omega,by show x2.gen<=_;omega,by show x2.epoch<=_;omega,by show G.q+1<=_;omega⟩,p.1,⟨?_,a0⟩,t,Z,Z⟩,H'.toSto (X:=⟨X.pl,X.pt,X.md,X.mm,X.sL,X.nu,a1⟩) 6 ⟨a5,by show X.sL.start=x2.start/\X.sL.len=x2.len/\X.sL.epoch=x2.epoch;omega,by rw[p.1];exact d.ok,d.nu,λo e=>(by cases e)⟩ Z⟩;show pgMap (ov j) B2=_;rw[a4,J8];rfl
 rcases hw with g|g
 ·exact absurd h.clean g
 omega
theorem sync_s(ps pd:Nat)(D:Dsk)(G:StG)(m:Nat)(a:Fine D G m):Cn prog 47 [Y ps] [stoA ps pd D G none] (λv Γ=>v=I 0/\Fine D.fl {G with sure:=G.rs.length} m/\Γ=[stoA ps pd D.fl {G with sure:=G.rs.length} none]):=by
 intro z R w H;obtain ⟨X,c,H⟩:=H.sto;refine Ret.mono (Cn.at (YX ps pd X.pt X.md G.x _ _ D) H 6 [0,3,1,2,4,5] Z Z) ?_;rintro v g ⟨Γ',(⟨d,_⟩|⟨_,rfl,rfl⟩),f⟩
 ·exact absurd d a.clean.flb
 have H3:=f.pick 6 [0,2,3,1,4,5] Z;exact ⟨_,⟨Z,⟨a.clean.fl,a.b,λi=>AeJ _,a.gen,a.epoch,a.q⟩,Z⟩,H3.toSto (X:=X) 6 ⟨c.inv.flush,c.l,c.ok,c.nu,λo e=>(by cases e)⟩ Z⟩
theorem Oy(ps pd:Nat)(D:Dsk)(G:StG)(m:Nat)(f:Fine D G m)(hm:m<=1000000000):
  Cn prog 33 [Y ps] [stoA ps pd D G none] (λv Γ=>∃(t:Dsk) (k:StG),Fine t k (m+1)/\t.n=D.n/\k.M=G.M/\k.home/\((G.home/\k.x=G.x)\/(¬G.home/\k.x=Ee G.x G.a G.q))/\v=I 0/\Γ=[stoA ps pd t k none]):=by
 intro z R w H;obtain ⟨X,d,H⟩:=H.sto;have h1:=f.gen;have h2:=f.epoch;have h3:=f.q;have hc:=Nf G.x G.a G.q;refine Ret.mono (Cn.at (RI ps pd X.pt X.pl X.md G.x X.sL _ X.nu X.hq D G.B G.rs G.ptl G.a G.q G.u G.b G.sure d.inv d.l U (λi=>by have:=f.ver i;omega)) H 6 [0,1,2,3,4,5] Z Z) ?_;rintro v w' ⟨Γ',(⟨hn,hb,hu,rfl,rfl⟩|⟨t,a1,a3,a0,y,a4,rfl,rfl⟩|⟨c,t,a2,a1,hw,_⟩),H'⟩
 ·exact ⟨_,⟨D,G,f.le U,Z,Z,hn,.inl ⟨hn,Z⟩,Z,Z⟩,H'.toSto (X:=X) 6 d Z⟩
 ·refine ⟨_,⟨t,⟨Ee G.x G.a G.q,pgMap (ov G.rs) G.B,[],[],G.a,G.q,0,false,0⟩,⟨a0 f.clean,Z,λi=>by rw[a4];simp,by show G.x.gen+1<=_;omega,by show G.x.epoch<=_;omega,by show G.q<=_;omega⟩,y,Z,λ_=>rfl,.inr ⟨λhh=>a1 ⟨hh,f.b,?_⟩,Z⟩,Z,Z⟩,H'.toSto (X:=X) 6 ⟨a3,d.l,by rw[y];exact d.ok,d.nu,λo e=>(by cases e)⟩ Z⟩
  have hr:=Qm hh (λj r h=>(d.inv.p.recs j r h).2.1.1);have hu:=d.inv.p.fu;have hl:=d.inv.s.head;rw[hr] at hu;have a5:G.u=0:=hu;omega
 rcases hw with g|g
 ·exact absurd f.clean g
 omega
end
abbrev plB(pp ps pc pa n:Nat)(un:Bool):Af:=blk pp [.pointer (some ⟨ps,0,none⟩),.pointer (some ⟨pc,0,none⟩),.pointer (some ⟨pa,0,none⟩),.int .i64 (n:Int),.bool un] 105
theorem VK(pp ps pd b c m a n:Nat)(D:Dsk)(G:StG):Cn prog 118 [Y pp] [plB pp ps b a n false,stoA ps pd D G none] (λv Γ=>v=I 0/\Γ=[plB pp ps b a n true,stoA ps pd D G (some (Do,0))]):=by
 intro z R w H;replace H:=H.l2;refine Ae func118 Z ntmps118 Z (Z2 12 [0,0,0,0] H Z (z_E_ Z (call39 _) (Qo _ _ _ _) H.f1 ?_));intro w H;refine Z4 26 [4,1,0,3,4,1] H Z ?_;intro w H;refine Zr Z ?_;exact ⟨_,⟨Z,Z⟩,H.perm 2 [1,0] Z Z⟩
theorem Y0(pp ps b c m a n:Nat)(C C0:Nat->Nat)(l:List IE)(clk:Nat)(F d S:Nat->Bool)(W:WasOk C C0 n l clk):Cn prog 164 [Y pp] [plB pp ps b a n true,coB b c n m,Cf c C n,AH m l clk,alB a n F d S] (λv Γ=>v=.tuple #[]/\Γ=[plB pp ps b a n false,coB b c n m,Cf c C0 n,AH m ([]) clk,alB a n S BV S]):=by
 intro z R w H;replace H:=H.l5;refine Ae func164 Z ntmps164 Z (Z4 14 [4,0,1,0,0] H Z ?_);intro w H;refine z_E_ Z (call203 _) (YK _ _ _ _ _ _ _ _ W) H.f3.f3.f3 ?_;intro w H;refine Z2 7 [2,3,0] H Z (z_E_ Z (call204 _) (X3 _ _ _ _ _) H.f4 ?_);intro w H;refine Zc 1 Z (Zf Z ?_);exact ⟨_,⟨Z,Z⟩,H.perm 5 [4,1,2,3,0] Z Z⟩
theorem VL(pp ps pd b c m a n:Nat)(D:Dsk)(G:StG)(g:BC)(k:Nat)(C C0:Nat->Nat)(l:List IE)(clk:Nat)(F d S:Nat->Bool)(W:WasOk C C0 n l clk):Cn prog 119 [Y pp] [stoA ps pd D G (some (g,k)),plB pp ps b a n true,coB b c n m,Cf c C n,AH m l clk,alB a n F d S] (λv Γ=>v=.tuple #[]/\Γ=[stoA ps pd D G none,plB pp ps b a n false,coB b c n m,Cf c C0 n,AH m ([]) clk,alB a n S BV S]):=by
 intro z R w H;replace H:=H.l6;refine Ae func119 Z ntmps119 Z (Z2 16 [4,1,0,0,0,1,0] H Z (z_E_ Z (call93 _) (YY _ _ _ _ _) H ?_));intro w H;refine Zc 4 Z (z_E_ Z (call164 _) (Y0 _ _ _ _ _ _ _ _ _ _ _ _ _ _ W) H.f5.f5.f5.f5.f5 ?_);intro w H;refine Zc 1 Z (Zf Z ?_);exact ⟨_,⟨Z,Z⟩,H.perm 6 [5,0,1,2,3,4] Z Z⟩
theorem VM(pp ps a b m c n:Nat)(d:Bool)(C:Nat->Nat)(p:Nat)(hp:p<n)(e:16<=n/\n<=1024):Cn prog 196 [Y pp,I (p:Int)] [plB pp ps a c n d,coB a b n m,Cf b C n] (λv Γ=>v=I (C p:Int)/\Γ=[plB pp ps a c n d,coB a b n m,Cf b C n]):=by
 intro z R w H;replace H:=H.l3;refine Ae func196 Z ntmps196 Z (Z2 12 [1,0,0] H Z (z_E_ Z (call100 _) (Fz _ _ _ _ _ _ U U) H.f2.f2 ?_));intro w H;refine Zc 4 Z (Zr Z ?_);exact ⟨_,⟨Z,Z⟩,H.perm 3 [2,0,1] Z Z⟩
theorem Y1(pp ps d a n:Nat)(b:Bool)(F c S:Nat->Bool):Cn prog 14 [Y pp] [plB pp ps d a n b,alB a n F c S] (λv Γ=>v=I (cnt F 0 1024:Int)/\Γ=[plB pp ps d a n b,alB a n F c S]):=by
 intro z R w H;replace H:=H.l2;refine Ae func14 Z ntmps14 Z (Z2 11 [2,0,0] H Z (z_E_ Z (call50 _) (X2 _ _ _ _ _) H.f1 ?_));intro w H;refine Zc 4 Z (Zr Z ?_);exact ⟨_,⟨Z,Z⟩,H.perm 2 [1,0] Z Z⟩
theorem VN(pp ps c b n:Nat)(a:Bool):Cn prog 156 [Y pp] [plB pp ps c b n a] (λv Γ=>v=.bool a/\Γ=[plB pp ps c b n a]):=by
 intro z R w H;replace H:=H.l1;refine Ae func156 Z ntmps156 Z (Z2 15 [4,0,0] H Z (Zr Z ?_));exact ⟨_,⟨Z,Z⟩,H⟩
theorem VO(pp ps pd c d m i n:Nat)(D:Dsk)(G:StG)(p:Nat)(x:Pg)(j:x.Ok)(l:Value)(B:Af)(e:∀h,B h->rdH 1 l 240 (x.body.map u8) h)(g:BC)(k:Nat)(f:¬(g p=none/\40<=k))(hG:G.x.pages=n)(C:Nat->Nat)(hn:16<=n/\n<=1024)(hp:(p=0\/manyN n<p)/\p<n)(y:C p≠0):Cn prog 165 [Y pp,I (p:Int),.agg #[I x.kind,l]] [stoA ps pd D G (some (g,k)),plB pp ps c i n true,coB c d n m,Cf d C n,B] (λv Γ=>v=I 0/\Γ=[stoA ps pd D G (some (pgSet g p x,k+(if (g p).isSome then 0 else 1))),plB pp ps c i n true,coB c d n m,Cf d C n,B]):=by
 intro z R w H;replace H:=H.l5;obtain ⟨u,t,rfl⟩:=H.sy 4 (λq=>(e _ q).slc);refine Ae func165 Z ntmps165 Z (Za 2 [] H Z ?_);intro b1 w H;refine Z2 23 [4,2,0,1,2,0] H Z (z_E_ Z (call100 _) (Fz _ _ _ _ _ _ U U) H.f4.f4 ?_);intro w H;refine Z0 2 [0] Z (Al 21 Z (λo=>U) (λo=>?_));refine Z0 3 [0] Z (Al 24 Z (λs=>?_) (λs=>?_))
 ·refine Z2 5 [3,4,0] H Z (z_E_ Z (call43 _) (Ga _ U) H ?_);intro w H;refine Z0 6 [0] Z (Ag Z (λr=>U) (λr=>?_))
  refine Zc 4 Z (BG 7 J J (A5 H λw b=>?_));have H:=b.l6;refine Mr 7 [0,0,4,0,2,2] [] H Z J (CD (gw (Aq Z (call41 _) (Gu _ _ _ _ _ _ p U _ j _ _ e) H.f5.f4 ?_)));rintro _ w _ (⟨a,rfl,rfl⟩|⟨_,rfl,rfl⟩) b
  ·exact absurd a f
  have H:=b.l6;refine Zc 4 Z (Zr Z ?_);exact ⟨_,⟨Z,Z⟩,H.perm 6 [0,5,2,3,1] Z Z⟩
 refine Zc 17 Z (BG 7 J J (A5 H λw b=>?_));have H:=b.l6;refine Mr 7 [0,0,4,0,2,2] [] H Z J (CD (gw (Aq Z (call41 _) (Gu _ _ _ _ _ _ p U _ j _ _ e) H.f5.f4 ?_)));rintro _ w _ (⟨a,rfl,rfl⟩|⟨_,rfl,rfl⟩) b
 ·exact absurd a f
 have H:=b.l6;refine Zc 4 Z (Zr Z ?_);exact ⟨_,⟨Z,Z⟩,H.perm 6 [0,5,2,3,1] Z Z⟩
theorem VP(pp ps pd d f m c n:Nat)(D:Dsk)(G:StG)(g:BC)(k:Nat)(C C0:Nat->Nat)(l:List IE)(clk:Nat)(F s S:Nat->Bool)(W:WasOk C C0 n l clk)(hn:16<=n/\n<=1024)(hG:G.x.pages=n)(p:Nat)(x:Pg)(y:x.Ok)(t:Value)(B:Af)(r:∀h,B h->rdH 1 t 240 (x.body.map u8) h)(u:¬(g p=none/\40<=k))(hp:p<n)(j:F p=true)(i:∀q,q<p->F q=false)(hC:C p=0)(A:Af)(hT:Hk A):Cn prog 157 [Y pp,.agg #[I x.kind,t]] [stoA ps pd D G (some (g,k)),plB pp ps d c n true,coB d f n m,Cf f C n,AH m l clk,alB c n F s S,A,B] (λv Γ=>∃(e:List IE) (a:Nat),WasOk (updN C p 1) C0 n e a/\v=.tuple #[I (p:Int),I 0]/\Γ=[stoA ps pd D G (some (pgSet g p x,k+(if (g p).isSome then 0 else 1))),plB pp ps d c n true,coB d f n m,Cf f (updN C p 1) n,AH m e a,alB c n (Dv F p) s S,A,B]):=by
 intro z R w H;replace H:=H.l8;obtain ⟨bo,bc,rfl⟩:=H.sy 7 (λq=>(r _ q).slc);refine Ae func157 Z ntmps157 Z (Za 2 [] H Z ?_);intro b1 w H;refine Z2 23 [4,2,0,2,2,0] H Z (z_E_ Z (call193 _) (Abc _ _ _ _ _ p U U j i _ hT) H.f7.f7 ?_);intro w H;refine Zc 19 Z (BG 7 J J (A5 H λw o=>?_));have H:=o.l9;refine Mr 7 [0,0,4,0,2,2] [] H Z J (CD (gw (Aq Z (call41 _) (Gu _ _ _ _ _ _ p U _ y _ _ r) H.f8.f4 ?_)));rintro _ w _ (⟨b,rfl,rfl⟩|⟨_,rfl,rfl⟩) o
 ·exact absurd b u
 have H:=o.l9;refine Z2 19 [4,1,5,0] H Z (Aq Z (call44 _) (IW _ _ _ _ _ C0 _ _ p 1 _ U U U U U W) H.f8.f8.f8 ?_);rintro _ w _ ⟨e,a,W2,rfl,rfl⟩ H;refine Zc 10 Z (Zr Z ?_);exact ⟨_,⟨e,a,W2,Z,Z⟩,H.perm 9 [3,8,0,1,2,5,6,4] Z Z⟩
theorem Tx(pp ps d a n:Nat)(x:Pg)(j:x.Ok)(e:Value)(B:Af)(f:∀h,B h->rdH 1 e 240 (x.body.map u8) h)(F c S:Nat->Bool)(b:∀q,q<1024->F q=false):Cn prog 157 [Y pp,.agg #[I x.kind,e]] [plB pp ps d a n true,alB a n F c S,B] (λv Γ=>v=.tuple #[I 0,I 20]/\Γ=[plB pp ps d a n true,alB a n F c S,B]):=by
 intro z R w H;replace H:=H.l3;obtain ⟨i,g,rfl⟩:=H.sy 2 (λq=>(f _ q).slc);refine Ae func157 Z ntmps157 Z (Za 2 [] H Z ?_);intro k w H;refine Z2 23 [4,1,0,2,1,0] H Z (z_E_ Z (call193 _) (X4 _ _ _ _ _ b) H.f2 ?_);intro w H;refine Zc 22 Z (Zr Z ?_);exact ⟨_,⟨Z,Z⟩,H.perm 4 [2,0,3] Z Z⟩
theorem AbF(pp ps b d m e n:Nat)(C C0:Nat->Nat)(l:List IE)(clk:Nat)(W:WasOk C C0 n l clk)(i:16<=n/\n<=1024)(p:Nat)(hp:manyN n<p/\p<n)(h:1<=C p/\C p<1000):Cn prog 154 [Y pp,I (p:Int)] [plB pp ps b e n true,coB b d n m,Cf d C n,AH m l clk] (λv Γ=>∃(c:List IE) (a:Nat),WasOk (updN C p (C p+1)) C0 n c a/\v=I 0/\Γ=[plB pp ps b e n true,coB b d n m,Cf d (updN C p (C p+1)) n,AH m c a]):=by
 intro z R w H;replace H:=H.l4;refine Ae func154 Z ntmps154 Z (Z2 25 [4,0,0,1,0,0] H Z (z_E_ Z (call100 _) (Fz _ _ _ _ _ _ U U) H.f2.f2 ?_));intro w H;replace H:=H.l4;refine Z0 2 [0] Z (Al 19 Z (λf=>U) (λf=>?_));refine Z2 5 [3,2,0] H Z (z_E_ Z (call43 _) (Ga _ U) H ?_);intro w H;replace H:=H.l4;refine Z0 5 [0] Z (Ag Z (λg=>U) (λg=>?_));refine Z2 10 [1,2,0] H Z (Aq Z (call44 _) (IW _ _ _ _ _ C0 _ _ p (C p+1) _ U U U U U W) H.f3.f2.f2 ?_);rintro _ w _ ⟨c,a,W2,rfl,rfl⟩ H;replace H:=H.l4;refine Zc 4 Z (Zr Z ?_);exact ⟨_,⟨c,a,W2,Z,Z⟩,H.perm 4 [3,0,1,2] Z Z⟩
theorem VQ(pp ps b d m e n:Nat)(C C0:Nat->Nat)(l:List IE)(clk:Nat)(W:WasOk C C0 n l clk)(j:16<=n/\n<=1024)(p:Nat)(hp:manyN n<p/\p<n)(i:2<=C p/\C p<=1000):Cn prog 202 [Y pp,I (p:Int)] [plB pp ps b e n true,coB b d n m,Cf d C n,AH m l clk] (λv Γ=>∃(c:List IE) (a:Nat),WasOk (updN C p (C p-1)) C0 n c a/\v=I 0/\Γ=[plB pp ps b e n true,coB b d n m,Cf d (updN C p (C p-1)) n,AH m c a]):=by
 intro z R w H;replace H:=H.l4;refine Ae func202 Z ntmps202 Z (Z2 25 [4,0,0,1,0,0] H Z (z_E_ Z (call100 _) (Fz _ _ _ _ _ _ U U) H.f2.f2 ?_));intro w H;replace H:=H.l4;refine Z0 2 [0] Z (Al 20 Z (λf=>U) (λf=>?_));refine Z2 5 [3,2,0] H Z (z_E_ Z (call43 _) (Ga _ U) H ?_);intro w H;replace H:=H.l4;refine Z0 5 [0] Z (Ag Z (λh=>U) (λh=>?_));refine Z2 11 [1,2,0] H Z (Aq Z (call44 _) (IW _ _ _ _ _ C0 _ _ p (C p-1) _ U U U U U W) H.f3.f2.f2 ?_);rintro _ w _ ⟨c,a,W2,rfl,rfl⟩ H;replace H:=H.l4;refine Z2 20 [4,1,3,0] H Z (z_E_ Z (call100 _) (Fz _ _ _ _ _ _ U U) H ?_);intro w H;replace H:=H.l4;refine AC 43 (v:=I ((C p-1:Nat):Int)) Z (congrArg I (by simp[updN])) (Z0 3 [0] Z (Ag Z (λg=>U) (λg=>?_)));refine Zc 8 Z (Zr Z ?_);exact ⟨_,⟨c,a,W2,Z,Z⟩,H.perm 4 [3,0,1,2] Z Z⟩
theorem Y2(pp ps c e m b n:Nat)(C C0:Nat->Nat)(l:List IE)(clk:Nat)(W:WasOk C C0 n l clk)(o:16<=n/\n<=1024)(p:Nat)(hp:manyN n<p/\p<n)(F f S:Nat->Bool)(k:C p=1)(h:F p=false)(i:f p=false):Cn prog 202 [Y pp,I (p:Int)] [plB pp ps c b n true,coB c e n m,Cf e C n,AH m l clk,alB b n F f S] (λv Γ=>∃(d:List IE) (a:Nat),WasOk (updN C p (0)) C0 n d a/\v=I 0/\Γ=[plB pp ps c b n true,coB c e n m,Cf e (updN C p (0)) n,AH m d a,alB b n F (Gg f p) S]):=by
 intro z R w H;replace H:=H.l5;refine Ae func202 Z ntmps202 Z (Z2 25 [4,0,0,1,0,0] H Z (z_E_ Z (call100 _) (Fz _ _ _ _ _ _ U U) H.f2.f2 ?_));intro w H;replace H:=H.l5;refine Z0 2 [0] Z (Al 20 Z (λg=>U) (λg=>?_));refine Z2 5 [3,2,0] H Z (z_E_ Z (call43 _) (Ga _ U) H ?_);intro w H;replace H:=H.l5;refine Z0 5 [0] Z (Ag Z (λj=>U) (λj=>?_));refine Z2 11 [1,2,0] H Z (Aq Z (call44 _) (IW _ _ _ _ _ C0 _ _ p 0 _ U U U U U W) H.f3.f2.f2 ?_);rintro _ w _ ⟨d,a,W2,rfl,rfl⟩ H;replace H:=H.l5;refine Z2 20 [4,1,3,0] H Z (z_E_ Z (call100 _) (Fz _ _ _ _ _ _ U U) H ?_);intro w H;replace H:=H.l5;refine AC 43 (v:=I 0) Z (congrArg I (by simp[updN])) (Z2 10 [3,2,3,0] H Z (z_E_ Z (call228 _) (X0 _ _ _ _ _ _ U U h i) H.f4 ?_));intro w H;replace H:=H.l5;refine Zc 8 Z (Zr Z ?_);exact ⟨_,⟨d,a,W2,Z,Z⟩,H.perm 5 [4,1,2,3,0] Z Z⟩
def DA(C:Nat->Nat)(n i:Nat):Pg:=⟨2,KU (Ev C n i)⟩
theorem Fb(C:Nat->Nat)(n i:Nat):(DA C n i).Ok:=⟨⟨by show (1:Int)<=2;omega,by show (2:Int)<=5;omega⟩,Yw (Js _ _ _)⟩
theorem Y3(F:Nat->Bool)(a:Nat){i n:Nat}(hi:i<n)(h:F (a+i)=true):1<=cnt F a n:=by
 have e:=Hz F a i (n-i);rw[show i+(n-i)=n by omega] at e;obtain ⟨m,b⟩:∃m,n-i=1+m:=⟨n-i-1,by omega⟩;rw[b,Hz] at e;have:cnt F (a+i) 1=1:=by simp[cnt,h]
 omega
theorem GR{F G:Nat->Bool}{a:Nat}:∀{n:Nat},(∀i,i<n->F (a+i)=G (a+i))->cnt F a n=cnt G a n
 | 0,_=>rfl
 | n+1,h=>by simp only[cnt];rw[GR (λi hi=>h i U),h n U]
theorem Oz{F G:Nat->Bool}{n i:Nat}(hi:i<n)(h:F i=true)(f:G i=false)(hs:∀j,j≠i->F j=G j):cnt G 0 n+1=cnt F 0 n:=by
 have e:=λF=>Hz F 0 i (1+(n-i-1));have e2:=λF=>Hz F (0+i) 1 (n-i-1);have c:=λF=>(e F).trans (by rw[e2 F]);rw[show i+(1+(n-i-1))=n by omega] at c;have g:cnt F 0 i=cnt G 0 i:=GR (λj d=>hs _ U);have l:cnt F (0+i+1) (n-i-1)=cnt G (0+i+1) (n-i-1):=GR (λj d=>hs _ U);have k:cnt F (0+i) 1=1:=by simp[cnt,h]
 have m:cnt G (0+i) 1=0:=by simp[cnt,f]
 have a:=c F;have b:=c G;omega
structure CmI(n:Nat)(C:Nat->Nat)(zs:List Int)(g0:BC)(k0 j:Nat)(g:BC)(k:Nat):Prop where
 jl:j<=zs.length
 old:∀p,(p=0\/manyN n<p)->g p=g0 p
 rm:k+cnt (λi=>(g (1+i)).isNone) 0 (manyN n)<=k0+manyN n
 set:∀i,i<manyN n->g (1+i)=none\/g (1+i)=some (DA C n i)
 dn:∀j',j'<j->∀i:Nat,zs[j']?=some (i:Int)->g (1+i)=some (DA C n i)
theorem Qq(F:Nat->Bool)(a:Nat):∀n,cnt F a n<=n
 | 0=>Aed _
 | n+1=>by
  have:=Qq F a n;have:(F (a+n)).toNat<=1:=by cases F (a+n)<;>simp
  simp only[cnt];omega
theorem CmI.start{n:Nat}{C:Nat->Nat}{zs:List Int}{a:BC}{b:Nat}(h:∀i,i<manyN n->a (1+i)=none):CmI n C zs a b 0 a b:=
 ⟨AeJ _,λ_ _=>rfl,by have:=Qq (λi=>(a (1+i)).isNone) 0 (manyN n);omega,λi hi=>.inl (h i hi),λd c=>by omega⟩
theorem CmI.room{n:Nat}{C:Nat->Nat}{zs:List Int}{b g:BC}{a j k i:Nat}(I_:CmI n C zs b a j g k)(hi:i<manyN n)(d:a+manyN n<=40):¬(g (1+i)=none/\40<=k):=λ⟨c,e⟩=>by
 have:=Y3 (λi=>(g (1+i)).isNone) 0 hi (by simp[c]);have:=I_.rm;omega
theorem CmI.put{n:Nat}{C:Nat->Nat}{zs:List Int}{c g:BC}{d j k i:Nat}(I_:CmI n C zs c d j g k)(hi:i<manyN n)(l:zs[j]?=some (i:Int)):CmI n C zs c d (j+1) (pgSet g (1+i) (DA C n i)) (k+(if (g (1+i)).isSome then 0 else 1)):=by
 have b:=(Ad6.1 l).1;refine ⟨b,λp hp=>?_,?_,λq hq=>?_,λa r q hq=>?_⟩
 ·unfold pgSet;rw[if_neg U];exact I_.old p hp
 ·have m:=I_.rm
  split
  ·rename_i f
   rw[<-GR (F:=λi=>(g (1+i)).isNone)]
   ·exact m
   intro q _;unfold pgSet;split
   ·rename_i e;rw[show 0+q=i by omega];cases e2:g (1+i)<;>simp_all
   rfl
  rename_i f;have o:g (1+i)=none:=by simpa using f
  have:=Oz (F:=λi=>(g (1+i)).isNone) (G:=λq=>(pgSet g (1+i) (DA C n i) (1+q)).isNone) hi (by simp[o]) (by simp[pgSet]) (λq hq=>by unfold pgSet;rw[if_neg U]);omega
 ·unfold pgSet;split
  ·rename_i e;obtain rfl:q=i:=by omega
   exact .inr Z
  exact I_.set q hq
 unfold pgSet;split
 ·rename_i e;obtain rfl:q=i:=by omega
  rfl
 rcases Ael a j with h|h
 ·exact I_.dn a h q hq
 obtain rfl:a=j:=by omega
 rw[l] at hq;simp at hq;omega
theorem CmI.done{n:Nat}{C C0:Nat->Nat}{zs:List Int}{f g:BC}{l k:Nat}(I_:CmI n C zs f l zs.length g k)(o:∀x:Int,x∈zs↔∃k:Nat,k<n/\C k≠C0 k/\x=((k/120:Nat):Int)){i:Nat}(hi:i<manyN n):g (1+i)=some (DA C n i)\/g (1+i)=none/\DA C0 n i=DA C n i:=by
 rcases I_.set i hi with h|h
 ·refine .inr ⟨h,?_⟩
  have b:(i:Int)∉zs:=λm=>by
   obtain ⟨j,d⟩:=AeV m;have:=I_.dn j (Ad6.1 d).1 i d;rw[h] at this;cases this
  have:Ev C0 n i=Ev C n i:=by
   unfold Ev;refine Afw λq hq=>?_;split
   ·rename_i c
    have:=AfL.1 hq;refine congrArg Int.ofNat (Ae8 λa=>b ((o _).2 ⟨120*i+q,c,λe=>a e.symm,by rw[show (120*i+q)/120=i by omega]⟩))
   rfl
  unfold DA;rw[this]
 exact .inl h
theorem Y4{n k:Nat}(h:k<n):k/120<manyN n:=by unfold manyN;omega
theorem OA{L:List UInt8}{x:Int}(h:L.length=240):0+240*1<=(A4 (AJ L) x).length:=by
 have hp:=AR (l:=L) U;unfold A4;rw[Ad9,Aea];omega
theorem Qr{L:List UInt8}{x:Int}(h:L.length=240):((A4 (AJ L) x).drop 0).take (240*1)=L.map u8:=by
 unfold A4;rw[Aep,AeK];have hp:=AR (l:=L) U;rw[Aeo (by rw[Aea];omega),<-Afj];have:=Vk h;rw[Aep] at this;rw[this]
theorem Ty(pp ps pd f o m c n:Nat)(D:Dsk)(G:StG)(mb:Nat)(g0:BC)(k0:Nat)(C C0:Nat->Nat)(l:List IE)(clk:Nat)(F Dd S:Nat->Bool)(W:WasOk C C0 n l clk)(hn:16<=n/\n<=1024)(hG:G.x.pages=n)(hg:∀i,i<manyN n->g0 (1+i)=none)(hk:k0+manyN n<=40)(a4:∀k,C k<=1000)(hF:Fine D G mb)(hm:mb<=1000000000):Cn prog 166 [Y pp] [stoA ps pd D G (some (g0,k0)),plB pp ps f c n true,coB f o n m,Cf o C n,AH m l clk,alB c n F Dd S] (λv Γ=>∃(s:Dsk) (b:StG) (g:BC) (k:Nat) (zs:List Int),CmI n C zs g0 k0 zs.length g k/\(∀x:Int,x∈zs↔∃k:Nat,k<n/\C k≠C0 k/\x=((k/120:Nat):Int))/\Fine s b (mb+2)/\s.n=D.n/\b.M=Ej G.M (some (g,k))/\(b.x=G.x\/b.x=Ee G.x G.a G.q)/\v=I 0/\Γ=[stoA ps pd s b none,plB pp ps f c n false,coB f o n m,Cf o C n,AH m ([]) clk,alB c n (Dg F Dd) BV (Dg F Dd)]):=by
 intro z R w H;replace H:=H.l6;refine Ae func166 Z ntmps166 Z (Z2 25 [4,1,0,1,1,0] H Z (Aq Z (call205 _) (To _ _ _ _ _ C0 _ _ U W) H.f4.f4.f4 ?_));rintro v1 w _ ⟨v2,zs,Z_,⟨b3,t,y⟩,rfl,rfl⟩ H;replace H:=H.l7;obtain ⟨za,zc,rfl⟩:=H.sy 0 (λq=>(y _ q).slc);refine Zc 5 Z ?_;refine AD (σ:=Nat×BC×Nat) (λ⟨j,g,k⟩=>[(18,I (j:Int)),(0,Y pp),(16,.slice za zs.length zc),(17,I (zs.length:Int))])
   (λ⟨j,g,k⟩ w=>Sep z (Z_::coB f o n m::Cf o C n::AH m l clk::stoA ps pd D G (some (g,k))::plB pp ps f c n true::alB c n F Dd S::R) w/\(CmI n C zs g0 k0 j g k)) (λ⟨j,g,k⟩=>zs.length-j) ⟨0,g0,k0⟩
   fr_z ⟨H,CmI.start hg⟩ ?_
 clear H;rintro ⟨j,g,k⟩ w ⟨p,hI⟩;dsimp only at hI p ⊢;have H:=p.l7;have hC:=hI;clear hI;have b2:=hC.jl;refine Z0 6 [0] Z (Ag Z (λh1=>?_) (λh1=>?_))
 ·obtain ⟨z_,e⟩:∃z_,zs[j]?=some z_:=⟨_,Ad7 U⟩;obtain ⟨q_,a8,b4,a0⟩:=(t z_).1 (Ad8 e);obtain ⟨i,a2⟩:∃i,i=q_/120:=⟨_,Z⟩;rw[<-a2] at a0;subst a0;have hi:i<manyN n:=a2▸Y4 a8
  have b1:manyN n<n:=by unfold manyN;omega
  refine Zc 6 Z ?_;have a3:=(H.rd 0 Z y).at (j:=j) (u:=I (i:Int)) (by simp[e]);refine Ab Z (Aj Z (z:=1) (j:=j) (r:=j) J Z Z Z U a3 U) (Ab Z (Ax Z Z J (Ay a3)) (Zc 4 Z ?_));replace H:=H.f5;refine AO (Sep z (plB pp ps f c n true::R)) 16 Z J (A5 H λw p=>?_);have H:=p.l7;refine HC [0,1,2,3,4,5,6,7,8,9,10,11] [0,0,0,0,1,0,0] [((1+i:Nat):Int)] (by exact H.pick 7 [0] Z) Z J U Z (AB [12] J O (An (Bo Z Z Z Z Z Z (λw=>call45 _ w) (Qj _ _ _ _ _ i hi U a4) H.f3.f3 Z ?_)));rintro _ w _ ⟨pw,rfl,rfl⟩ H;replace H:=H.l8;refine Av (H.pick 8 [3] Z) (AU [13] [] [] (by exact H.pick 8 [3] Z) Z J Z (AB [14] J O (An (Bo Z Z Z Z Z Z (λw=>call41 _ w) (Gu _ _ _ _ _ _ (1+i) U (DA C n i) (Fb _ _ _) _ _ (λh q=>q.rd U U (OA (Fb _ _ _).2) (Qr (Fb _ _ _).2))) H.f6 Z ?_))));rintro _ w _ (⟨a1,rfl,rfl⟩|⟨_,rfl,rfl⟩) p
  ·exact absurd a1 (hC.room hi hk)
  have H:=p.l8;refine Av (H.pick 8 [4] Z) (AU [15] [] [] (by exact H.pick 8 [4] Z) Z J Z (a_done J (gn (Z1 15 [4] [(j:Int)+1] Z U ?_))));replace H:=H.f1.d.f6.f4.f2.f6.f5.f5.f6;refine gf ?_;intro _ hF;refine ⟨⟨j+1,pgSet g (1+i) (DA C n i),k+(if (g (1+i)).isSome then 0 else 1)⟩,hF.cz,⟨H,?_⟩,?_⟩
  ·exact hC.put hi e
  (dsimp only;omega)
 obtain rfl:j=zs.length:=by omega
 refine Zc 2 Z (gx (Z2 10 [0,0,5,0] H Z (Aq Z (call46 _) (Ox _ _ _ _ _ _ mb hF hm) H.f4 ?_)));rintro _ w _ ⟨s,b,a9,a5,⟨a7,b0⟩,a6,rfl,rfl⟩ H;refine Z4 26 [4,4,5,1,5,0] H Z ?_;intro w H;refine z_E_ Z (call206 _) (Tn _ _ _ _ _ _) H.f4.f3 ?_;intro w H;refine Z2 8 [2,5,0] H Z (z_E_ Z (call102 _) (Mt _ _ _ _ _) H.f6 ?_);intro w H;refine Zc 8 Z (Zr Z ?_);exact ⟨_,⟨s,b,g,k,zs,hC,t,a9,a5,a7,a6,Z,Z⟩,H.perm 7 [3,6,1,5,2,0] Z Z⟩
section
section
variable{P:Program}{o:Oper}{w z:World}{Γ:List Af}{n:Nat}{ds:List Deferred}{L:List (Nat×Value)}{x y:Operand}
theorem Y5{t e:TypeId}{k sz:Nat}(H:Sep z Γ w)(ho:o.op=.makeSlice t x y)(j:P.underlying t=some (.slice e)){zv:Value}{by_:Nat}(s:Elt P e zv sz by_)(r:ev L x=some (I k))(p:ev L y=some (I k))(hk:by_*k<=140737488355328){out:List Value}(c:madeCells zv.cells (k*sz)=out.toArray):
  Cy P n ds L o w (λv w'=>∃b,v=.slice (some ⟨b,0,none⟩) k k/\Sep z (blk b out e::Γ) w'):=λa g=>by
 obtain ⟨i,hi,u,hs,q,m,l,f⟩:=s;have d:(i.bytes:Int)*(k:Int)<=281474976710656:=by
  rw[q,<-Int.natCast_mul];omega
 have h:=run_make (P:=P) (w:=w) t e i zv j hi u .i64 .i64 (k:Int) (k:Int) U (Afg _) d (by
  have:1*k<=by_*k:=AfB _ f;omega)
 have e1:madeCells zv.cells (((k:Int)).toNat*i.size)=out.toArray:=by
  rw[AeZ,hs];exact c
 rw[e1] at h;refine ⟨_,_,?_,w.heap.size,Z,H.new (Ds w (.cells out.toArray e)) (Aed _) (by show (w.heap.push _)[w.heap.size]?=_;simp)⟩;simp only[execOp,ho,g.ev r,g.ev p,Aeq,h,Aem,Aev,AeZ];rfl
end
theorem VR{bs:List UInt8}{a:Int}(h:bs.length=256):0+240*1<=(A4 bs a).length:=by unfold A4;rw[Ad9,Aea];omega
theorem Y6{bs:List UInt8}{a:Int}(h:bs.length=256):((A4 bs a).drop 0).take (240*1)=(bs.take 240).map u8:=by
 unfold A4;rw[Aep,AeK,Aeo (by rw[Aea];omega),Afj]
def C1(i:Nat):Nat->Nat:=λp=>if p<i then 1 else 0
theorem Qt(i:Nat):updN (C1 i) i 1=C1 (i+1):=by
 funext p;unfold updN C1;split
 ·rw[if_pos U]
 by_cases h:p<i
 ·rw[if_pos h,if_pos U]
 rw[if_neg h,if_neg U]
theorem Qu:C1 0=λ_=>0:=by funext p;simp[C1]
theorem RK(i k:Nat):C1 i k<=1000:=by unfold C1;split<;>omega
def gF(n:Nat)(cb:List UInt8)(i:Nat):BC:=λp=>if p=0 then some ⟨1,cb⟩ else if p<=i then some (DA (C1 (manyN n+1)) n (p-1)) else none
theorem Y7(n:Nat)(a:List UInt8)(i:Nat):(some (pgSet (gF n a i) (1+i) (DA (C1 (manyN n+1)) n i),1+i+(if (gF n a i (1+i)).isSome then 0 else 1)):Hb)=some (gF n a (i+1),1+(i+1)):=by
 have e:gF n a i (1+i)=none:=by unfold gF;rw[if_neg U,if_neg U]
 rw[e];have:pgSet (gF n a i) (1+i) (DA (C1 (manyN n+1)) n i)=gF n a (i+1):=by
  funext p;unfold pgSet gF;split
  ·rename_i h;subst h;rw[if_neg U,if_pos U,show 1+i-1=i by omega]
  by_cases h0:p=0
  ·rw[if_pos h0,if_pos h0]
  rw[if_neg h0,if_neg h0];by_cases h1:p<=i
  ·rw[if_pos h1,if_pos U]
  rw[if_neg h1,if_neg U]
 rw[this];simp;omega
theorem Y8(n:Nat)(a:List UInt8):(some (pgSet Do 0 ⟨1,a⟩,0+(if (Do 0).isSome then 0 else 1)):Hb)=some (gF n a 0,1+0):=by
 have:pgSet Do 0 ⟨1,a⟩=gF n a 0:=by
  funext p;unfold pgSet gF Do;split
  ·rfl
  rw[if_neg U]
 rw[this];rfl
theorem OB{n:Nat}(h:n<=1024):manyN n<=9:=by unfold manyN;omega
theorem OC{n:Nat}(h:16<=n):1<=manyN n/\manyN n+1<n:=by unfold manyN;omega
theorem Sep.flDisk{z w:World}{Γ:List Af}{ps pd:Nat}{D:Dsk}{G:StG}(H:Sep z (stoA ps pd D.fl {G with sure:=G.rs.length} none::Γ) w)(hq:G.q<=1099511627776):OInv D.fl G.x G.B (λd=>d=G.rs)/\Sep z (diskA pd D.fl::Γ) w:=by
 obtain ⟨X,g,H⟩:=H.sto;have h:=g.inv.crashed (D':=D.fl) hq ⟨Z,λ_=>rfl,λ_=>.inl Z⟩;have e:(λd:List Rc=>G.rs.length<=d.length/\d.length<=G.rs.length/\d=G.rs.take d.length)=λd=>d=G.rs:=funext λd=>propext ⟨λ⟨a,b,c⟩=>by rw[c];exact Aee U,λe=>by subst e;simp⟩;refine ⟨?_,H.pick 6 [3] Z⟩;have f:OInv D.fl G.x G.B (λd:List Rc=>G.rs.length<=d.length/\d.length<=G.rs.length/\d=G.rs.take d.length):=h;rw[e] at f;exact f
end
section
section
variable{P:Program}{C:World->Prop}{o:Oper}{n:Nat}{ds:List Deferred}{L:List (Nat×Value)}{x y:Operand}{xt yt:TypeId}
def MH(P:Program)(t:TypeId)(f:Nat)(cs:Array Value):Option Value:=match P.underlying t with
 | some (.struct fs)=>match fs[f]? with
  | some fd=>bif Gc P fd.type then cs[fd.offset]? else none
  | none=>none
 | _=>none
theorem OD{t:TypeId}{f:Nat}{cs:Array Value}{v:Value}(h:o.op=.field t x f)(c:ev L x=some (.agg cs))(b:MH P t f cs=some v):Ar P C n ds L o v:=λa g w _=>by
 unfold MH at b;split at b
 ·rename_i j e
  split at b
  ·rename_i d i
   cases hb:Gc P d.type with
   | false=>rw[hb] at b;cases b
   | true=>
    rw[hb] at b;simp only[cond_true] at b;simp only[execOp,h,g.ev c,Instr.field,Aeq,run_underlying e,Aem,i];simp[asAgg,part,FL hb,b,go_sem]
  cases b
 cases b
end
end
def AV(n:Nat)(C:Nat->Nat):Nat->Bool:=λp=>decide (p<n/\C p=0)
def LC(C:Nat->Nat)(i:Nat):Nat->Nat:=λp=>if p/120+1<i then C p else 0
theorem Y9(C:Nat->Nat):LC C 0=λ_=>0:=by funext p;simp[LC]
theorem AbG(C:Nat->Nat):LC C 1=LC C 0:=by funext p;simp[LC]
theorem Tz(C:Nat->Nat)(n i:Nat){k:Nat}(h:k<120):(Ev C n i).getD k 0=if 120*i+k<n then (C (120*i+k):Int) else 0:=by
 simp[Ev,List.getD,h]
theorem Zb(C:Nat->Nat)(n j:Nat):C3 (HJ (LC C (1+j)) j (Ev C n j) 120) n=C3 (LC C (1+j+1)) n:=by
 unfold C3;refine Afw λp hp=>?_;have hp:=AfL.1 hp;unfold HJ LC;by_cases h:p/120=j
 ·rw[if_pos ⟨h,by omega⟩,if_pos U,Tz _ _ _ U,if_pos U,show 120*j+p%120=p by omega];rfl
 rw[if_neg (λq=>h q.1)];by_cases h2:p/120+1<1+j
 ·rw[if_pos h2,if_pos U]
 rw[if_neg h2,if_neg U]
theorem AbH(C:Nat->Nat)(n:Nat):C3 (LC C (manyN n+1)) n=C3 C n:=by
 unfold C3;refine Afw λp hp=>?_;have hp:=AfL.1 hp;unfold LC;rw[if_pos (by unfold manyN;omega)]
theorem AbI{C:Nat->Nat}{n i:Nat}:∀(k:Nat) (x:Int),(Ev C n i)[k]?=some x->n<=120*i+k->x=0:=λk x h b=>by
 have a:=(Ad6.1 h).1;rw[Js] at a;have:=Tz C n i a;rw[List.getD,h,if_neg U] at this;simpa using this
def HO(C:Nat->Nat)(n i:Nat):Nat->Bool:=λp=>decide (p<n) && !(decide (p<i)&&decide (0<C p))
theorem VS(C:Nat->Nat)(n:Nat):HO C n 0=DR n:=by funext p;simp[HO,DR]
theorem Zd(C:Nat->Nat)(n:Nat):HO C n n=AV n C:=by
 funext p;unfold HO AV;rw[Aer];simp;omega
theorem VT{C:Nat->Nat}{n i:Nat}(h:0<C i):Dv (HO C n i) i=HO C n (i+1):=by
 funext p;unfold Dv HO;rw[Aer];simp;by_cases e:p=i
 ·subst e;simp;omega
 simp[e];omega
theorem VU{C:Nat->Nat}{n i:Nat}(h:¬0<C i):HO C n i=HO C n (i+1):=by
 funext p;unfold HO;by_cases e:p=i
 ·subst e;have:decide (0<C p)=false:=decide_eq_false h
  rw[this];simp
 have a:decide (p<i)=decide (p<i+1):=decide_eq_decide.2 U;rw[a]
theorem Qw(F:Nat->Bool):Dg F BV=F:=by funext p;simp[Dg,BV]
theorem AbJ{C:Nat->Nat}{n i:Nat}(h:i<n):HO C n i i=true:=by unfold HO;simp[h]
theorem Ze(ps pd:Nat)(D:Dsk)(G:StG)(mb n:Nat)(C:Nat->Nat)(g:Fine D G mb)(hn:16<=n/\n<=1024)(hG:G.x.pages=n)(cb:List UInt8)(f:G.M 0=⟨1,cb⟩)(o:∀i,i<manyN n->G.M (1+i)=DA C n i)(hC:∀k,C k<=1000)(u:∀p,p<=manyN n->C p=1):Cn prog 48 [Y ps] [stoA ps pd D G none] (λv Γ=>∃pp b c m a:Nat,v=.tuple #[Y pp,I 0]/\Γ=[stoA ps pd D G none,plB pp ps b a n false,coB b c n m,Cf c C n,AH m ([]) 0,alB a n (AV n C) BV (AV n C)]):=by
 intro z R w H;replace H:=H.l1;have a8:=OC hn.1;refine Ae func48 Z ntmps48 Z (Zc 21 Z (z_E_ Z (call96 _) (YZ _ _ _ _ _) H ?_));intro w H;replace H:=H.l1;refine Ab Z (OD (v:=I G.x.pages) Z Z J) (AC 18 (v:=I (n:Int)) Z (congrArg I hG) (Ab Z (Bc Z Z (out:=[Y ps,.pointer none,.pointer none,I (n:Int),.bool false]) J) (Za 0 [] H Z ?_)));intro l w H;refine Z2 10 [3,0,0] H Z (Aq Z (call42 _) (Tm _ U) H ?_);rintro _ w _ ⟨b,c,m,rfl,rfl⟩ H;refine Z4 15 [1,3,3,3,0] H Z ?_;intro w H;refine Aq Z (call97 _) (Abb _ U) H ?_;rintro _ w _ ⟨a,rfl,rfl⟩ H;refine Z4 11 [2,4,3,4,0] H Z ?_;intro w H;refine z_E_ Z (call43 _) (Ga _ U) H ?_;intro w H;refine Z1 17 [] [(manyN n:Int)+1] Z U ?_;refine AD (σ:=Nat) (λi=>[(47,I (i:Int)),(6,.bool false),(0,Y ps),(4,Y l),(5,I (manyN n:Int)),(46,I ((manyN n:Int)+1))])
   (λi w=>Sep z (alB a n (DR n) BV (DR n)::coB b c n m::Cf c (LC C i) n::AH m ([]) 0::plB l ps b a n false::stoA ps pd D G none::R) w/\(i<=manyN n+1)) (λi=>manyN n+1-i) 0
   fr_z ⟨(by rw[Y9];exact H),by omega⟩ ?_
 clear H;rintro i w ⟨e,r⟩;have H:=e.l6;have a4:=r;clear r;refine Z0 6 [0] Z (Ag Z (λt=>?_) (λt=>?_))
 ·have a1:G.M i≠noPg:=λq=>by
    rcases AgL i with h0|h0
    · subst h0;rw[f] at q;cases q
    · have t:=o (i-1) U;rw[show 1+(i-1)=i by omega,q] at t;cases t
  refine Zc 14 Z (Aq Z (call98 _) (KX ps pd D G none i U g.clean.f1 (G.M i) Z) H.f5 ?_);rintro _ w _ (⟨a5,rfl,rfl⟩|⟨a7,rv,rfl,rfl⟩) e
  ·exact absurd a5 a1
  have H:=e.l7;obtain ⟨gb,a6,rest,rfl,c1,c2,c3,H⟩:=H.ungrow 0 Z U;replace H:=H.l7;refine Za 3 [] H Z ?_;intro b2 w H;refine Z4 20 [0,4,0] H Z ?_;intro w H;refine Ag Z (λh2=>?_) (λh2=>?_)
  ·obtain rfl:i=0:=by omega
   refine Z2 5 [0,0,0] H Z (AC 84 (v:=I 1) Z (congrArg I (by rw[f])) (Z1 11 [4] [(0:Int)+1] Z U ?_));replace H:=H.f1.d.d.f5.f5.f5.f5.f5;refine gf ?_;intro _ g;refine ⟨(0+1),g.cz,⟨(by rw[AbG];exact H),?_⟩,?_⟩
   ·omega
   omega
  obtain ⟨j,rfl⟩:∃j,i=1+j:=⟨i-1,by omega⟩;have y:=o j U;have a2:(G.M (1+j)).body.length=240:=by rw[y];exact (Fb _ _ _).2
  have a3:(G.M (1+j)).body=KU (Ev C n j):=by rw[y];rfl
  refine BG 15 J J (A5 H λw e=>?_);have H:=e.l8;refine PN 4 [0,0] (AS (H.blk 0 Z) AN) Z J Z (AC 59 (v:=I 2) Z (congrArg I (by rw[o j U];rfl)) (EQ 11 [4,1,7,0,1,0,0] [(j:Int)] H Z J U (CD (gw (z_E_ Z (call99 _) (YI _ _ _ _ _ _ j U U _ _ _ _ _ (λh q=>q.rd U U (by rw[Ad9,Aea,a2];omega) (by rw[Aep,AeK,AeA (by rw[Aea,a2])])) (Ev C n j) (Js _ _ _) (Tl hC _ _) a3 AbI) H.f1.f6.f6.f6 ?_)))));intro w H;replace H:=H.l8;dsimp only[Cf] at H;rw[Zb] at H;have e:Sep z (coB b c n m::Cf c (LC C (1+j+1)) n::AH m ([]) 0::blk gb ((G.M (1+j)).body.map u8++rest) 5::blk b2 [I ((G.M (1+j)).kind),.slice (some ⟨gb,0,none⟩) 240 a6] 89::stoA ps pd D G none::alB a n (DR n) BV (DR n)::plB l ps b a n false::R) w:=H;clear H;have H:=e.l8;refine Z1 11 [4] [((1+j):Int)+1] Z U ?_;replace H:=H.f4.d.f3.d.f3.f5.f4.f4.f4.f5;refine gf ?_;intro _ g;refine ⟨(1+j+1),g.cz,⟨H,?_⟩,?_⟩
  ·omega
  omega
 obtain rfl:i=manyN n+1:=by omega
 refine Zc 2 Z (gx (Zc 4 Z ?_));dsimp only[Cf] at H;rw[AbH] at H;have e:Sep z (alB a n (DR n) BV (DR n)::coB b c n m::Cf c C n::AH m ([]) 0::plB l ps b a n false::stoA ps pd D G none::R) w:=H;clear H;have H:=e.l6;refine Z1 7 [] [(manyN n:Int)+1] Z U ?_;refine AD (σ:=Nat) (λi=>[(90,I (i:Int)),(6,.bool false),(4,Y l),(89,I ((manyN n:Int)+1))])
   (λi w=>Sep z (alB a n (DR n) BV (DR n)::coB b c n m::Cf c C n::AH m ([]) 0::plB l ps b a n false::stoA ps pd D G none::R) w/\(i<=manyN n+1)) (λi=>manyN n+1-i) 0
   fr_z ⟨H,by omega⟩ ?_
 clear H;rintro i w ⟨e,r⟩;have H:=e.l6;have a4:=r;clear r;refine Z0 6 [0] Z (Ag Z (λh3=>?_) (λh3=>?_))
 ·have a1:G.M i≠noPg:=λq=>by
    rcases AgL i with h0|h0
    · subst h0;rw[f] at q;cases q
    · have t:=o (i-1) U;rw[show 1+(i-1)=i by omega,q] at t;cases t
  refine Z2 18 [1,4,0] H Z (z_E_ Z (call100 _) (Fz _ _ _ _ _ _ U U) H.f2.f2 ?_);intro w H;replace H:=H.l6;refine AC 100 (v:=I 1) Z (congrArg I (by rw[u i U];rfl)) (Z1 10 [4] [(i:Int)+1] Z U ?_);replace H:=H.f5.f5.f5.f4.f4.f5;refine gf ?_;intro _ g;refine ⟨(i+1),g.cz,⟨H,?_⟩,?_⟩
  ·omega
  omega
 obtain rfl:i=manyN n+1:=by omega
 refine Zc 2 Z (gx (Z2 22 [3,4,0] H Z ?_));refine AD (σ:=Nat) (λi=>[(109,I (i:Int)),(4,Y l),(108,I (n:Int))])
   (λi w=>Sep z (alB a n (HO C n i) BV (DR n)::coB b c n m::Cf c C n::AH m ([]) 0::plB l ps b a n false::stoA ps pd D G none::R) w/\(i<=n)) (λi=>n-i) 0
   fr_z ⟨(by rw[VS];exact H),by omega⟩ ?_
 clear H;rintro i w ⟨e,r⟩;have H:=e.l6;have a9:=r;clear r;refine Z0 6 [0] Z (Ag Z (λh4=>?_) (λh4=>?_))
 ·refine Z2 17 [1,4,0] H Z (z_E_ Z (call100 _) (Fz _ _ _ _ _ _ U U) H.f2.f2 ?_);intro w H;refine Z0 3 [0] Z (Ag Z (λh5=>?_) (λh5=>?_))
  ·have a0:0<C i:=by omega
   refine Z2 6 [2,4,0] H Z (z_E_ Z (call101 _) (SQ _ _ _ _ _ i U U (AbJ U)) H.f2 ?_);intro w H;replace H:=H.l6;rw[VT a0] at H;refine Z1 7 [] [(i:Int)+1] Z U (gf ?_);intro _ g;refine ⟨(i+1),g.cz,⟨H,?_⟩,?_⟩
   ·omega
   omega
  have s:¬0<C i:=by omega
  refine Z1 7 [] [(i:Int)+1] Z U ?_;replace H:=H.f5.f5.f5.f4.f4.f5;refine gf ?_;intro _ g;refine ⟨(i+1),g.cz,⟨(by rw[<-VU s];exact H),?_⟩,?_⟩
  ·omega
  omega
 obtain rfl:n=i:=by omega
 refine Zc 2 Z (gx (Zc 3 Z ?_));rw[Zd] at H;refine Z2 5 [2,4,0] H Z (z_E_ Z (call102 _) (Mt _ _ _ _ _) H ?_);intro w H;replace H:=H.l6;rw[Qw] at H;refine Zc 10 Z (Zr Z ?_);exact ⟨_,⟨l,b,c,m,a,Z,Z⟩,H.perm 6 [5,4,1,2,3,0] Z Z⟩
section
variable{Tb:Af}
def fup{α:Type}(f:Nat->α)(a:Nat)(x:α):Nat->α:=λi=>if i=a then x else f i
theorem BI{α:Type}(f:Nat->α)(a:Nat)(x:α):fup f a x a=x:=by simp[fup]
theorem fup_ne{α:Type}(f:Nat->α){a b:Nat}(x:α)(h:b≠a):fup f a x b=f b:=by simp[fup,h]
structure PoX where
 ps:Nat
 pd:Nat
 pc:Nat
 bn:Nat
 mm:Nat
 pa:Nat
 D:Dsk
 G:StG
 g:BC
 l:List IE
 clk:Nat
 Dd:Nat->Bool
 A:Af
structure PoT where
 M:Nat->Pg
 C:Nat->Nat
 F:Nat->Bool
 k:Nat
def poC(C0:Nat->Nat):Option PoT->Nat->Nat
 | none=>C0
 | some T=>T.C
def Xs(n:Nat)(C0:Nat->Nat):Option PoT->Nat->Bool
 | none=>AV n C0
 | some T=>T.F
def poM(M0:Nat->Pg):Option PoT->Nat->Pg
 | none=>M0
 | some T=>T.M
def TA(g:BC):Option PoT->Hb
 | none=>none
 | some T=>some (g,T.k)
def Xt(pp n:Nat)(C0:Nat->Nat)(t:Option PoT)(X:PoX):List Af:=
 [plB pp X.ps X.pc X.pa n t.isSome,stoA X.ps X.pd X.D X.G (TA X.g t),coB X.pc X.bn n X.mm,Cf X.bn (poC C0 t) n,AH X.mm X.l X.clk,alB X.pa n (Xs n C0 t) X.Dd (AV n C0),X.A]
structure PoQ(n:Nat)(C0:Nat->Nat)(T:PoT)(X:PoX):Prop where
 m:∀p,(p=0\/manyN n<p)->T.M p=Ej X.G.M (some (X.g,T.k)) p
 gn:∀i,i<manyN n->X.g (1+i)=none
 W:WasOk T.C C0 n X.l X.clk
 c:∀k,T.C k<=1000
 df:Dg T.F X.Dd=AV n T.C
 dj:∀p,X.Dd p=true->T.F p=false
 one:∀p,p<=manyN n->T.C p=1
structure PoP(Tb:Af)(mb n:Nat)(M0:Nat->Pg)(C0:Nat->Nat)(t:Option PoT)(X:PoX):Prop where
 hn:16<=n/\n<=1024
 fine:Fine X.D X.G mb
 pg:X.G.x.pages=n
 tab:Hk X.A/\X.A=Tb
 m0:∀p,(p=0\/manyN n<p)->M0 p=X.G.M p
 cp:∀i,i<manyN n->X.G.M (1+i)=DA C0 n i
 c0:∀k,C0 k<=1000
 one:∀p,p<=manyN n->C0 p=1
 idle:t=none->X.l=[]/\X.Dd=BV
 tx:∀T,t=some T->PoQ n C0 T X
def poA(Tb:Af)(pp mb n:Nat)(M0:Nat->Pg)(C0:Nat->Nat)(t:Option PoT):Af:=λh=>∃X,PoP Tb mb n M0 C0 t X/\seps (Xt pp n C0 t X) h
variable{z w:World}{Γ:List Af}{pp mb n:Nat}{M0:Nat->Pg}{C0:Nat->Nat}{t:Option PoT}{T:PoT}
theorem Sep.po(H:Sep z (poA Tb pp mb n M0 C0 t::Γ) w):∃X,PoP Tb mb n M0 C0 t X/\Sep z (Xt pp n C0 t X++Γ) w:=
 H.into (p:=λX=>PoP Tb mb n M0 C0 t X) (As:=λX=>Xt pp n C0 t X) (λ_ q=>q)
theorem Sep.toPo{X:PoX}(H:Sep z Γ w)(a:PoP Tb mb n M0 C0 t X)(b:Γ.take 7=Xt pp n C0 t X):Sep z (poA Tb pp mb n M0 C0 t::Γ.drop 7) w:=
 H.made 7 (λh q=>⟨X,a,by rwa[b] at q⟩)
theorem poA.hn{h:Hp}(a:poA Tb pp mb n M0 C0 t h):16<=n/\n<=1024:=by
 obtain ⟨X,b,_⟩:=a;exact b.hn
structure PoK(n:Nat)(T:PoT):Prop where
 c:∀k,T.C k<=1000
 free:∀p,T.F p=true->p<n/\T.C p=0/\manyN n<p
 one:∀p,p<=manyN n->T.C p=1
theorem PoQ.k{X:PoX}(Q:PoQ n C0 T X)(b:16<=n):PoK n T:=by
 refine ⟨Q.c,λp hp=>?_,Q.one⟩;have a:AV n T.C p=true:=by rw[<-Q.df];simp[Dg,hp]
 simp[AV] at a;refine ⟨a.1,a.2,?_⟩;rcases Ael (manyN n) p with h|h
 ·exact h
 have:=Q.one p h;omega
theorem poA.k{h:Hp}(a:poA Tb pp mb n M0 C0 (some T) h):PoK n T:=by
 obtain ⟨X,b,_⟩:=a;exact (b.tx T Z).k b.hn.1
theorem poA.c0{h:Hp}(a:poA Tb pp mb n M0 C0 t h):(∀k,C0 k<=1000)/\∀p,p<=manyN n->C0 p=1:=by
 obtain ⟨X,b,_⟩:=a;exact ⟨b.c0,b.one⟩
def po0(n:Nat)(M0:Nat->Pg)(C0:Nat->Nat):PoT:=⟨M0,C0,AV n C0,0⟩
theorem Zg(pp mb n:Nat)(M0:Nat->Pg)(C0:Nat->Nat):Cn prog 118 [Y pp] [poA Tb pp mb n M0 C0 none] (λv Γ=>v=I 0/\Γ=[poA Tb pp mb n M0 C0 (some (po0 n M0 C0))]):=by
 intro z R w H;obtain ⟨X,a,H⟩:=H.po;obtain ⟨b,c⟩:=a.idle Z;refine Ret.mono (Cn.at (VK pp X.ps X.pd X.pc X.bn X.mm X.pa n X.D X.G) H 7 [0,1,2,3,4,5,6] Z Z) ?_;rintro v h ⟨Γ',⟨rfl,rfl⟩,d⟩;refine ⟨_,⟨Z,Z⟩,d.toPo (X:= {X with g:=Do}) ⟨a.hn,a.fine,a.pg,a.tab,a.m0,a.cp,a.c0,a.one,λe=>(by cases e),λT e=>?_⟩ Z⟩;cases e;refine ⟨λp hp=>a.m0 p hp,λ_ _=>rfl,?_,a.c0,?_,λp hp=>?_,a.one⟩
 ·show WasOk C0 C0 n X.l X.clk
  rw[b];exact WasOk.nil _ _ _
 ·show Dg (AV n C0) X.Dd=AV n C0
  rw[c];exact Qw _
 have:X.Dd p=true:=hp;rw[c] at this;cases this
theorem Zh(pp mb n:Nat)(M0:Nat->Pg)(C0:Nat->Nat)(T:PoT):Cn prog 119 [Y pp] [poA Tb pp mb n M0 C0 (some T)] (λv Γ=>v=.tuple #[]/\Γ=[poA Tb pp mb n M0 C0 none]):=by
 intro z R w H;obtain ⟨X,a,H⟩:=H.po;have Q:=a.tx T Z;refine Ret.mono (Cn.at (VL pp X.ps X.pd X.pc X.bn X.mm X.pa n X.D X.G X.g T.k T.C C0 X.l X.clk T.F X.Dd (AV n C0) Q.W) H 7 [1,0,2,3,4,5,6] Z Z) ?_;rintro v c ⟨Γ',⟨rfl,rfl⟩,b⟩;have H3:=b.pick 7 [1,0,2,3,4,5,6] Z;exact ⟨_,⟨Z,Z⟩,H3.toPo (X:= {X with l:=[],Dd:=BV}) ⟨a.hn,a.fine,a.pg,a.tab,a.m0,a.cp,a.c0,a.one,λ_=>⟨Z,Z⟩,λT e=>(by cases e)⟩ Z⟩
theorem VV(pp mb n:Nat)(M0:Nat->Pg)(C0:Nat->Nat)(T:PoT)(f:T.k+manyN n<=40)(r:mb<=1000000000):Cn prog 166 [Y pp] [poA Tb pp mb n M0 C0 (some T)] (λv Γ=>v=I 0/\Γ=[poA Tb pp (mb+2) n T.M T.C none]):=by
 intro z R w H;obtain ⟨X,a,H⟩:=H.po;have Q:=a.tx T Z;refine Ret.mono (Cn.at (Ty pp X.ps X.pd X.pc X.bn X.mm X.pa n X.D X.G mb X.g T.k T.C C0 X.l X.clk T.F X.Dd (AV n C0) Q.W a.hn a.pg Q.gn f Q.c a.fine r) H 7 [1,0,2,3,4,5,6] Z Z) ?_;rintro v t ⟨Γ',⟨D2,G2,g,k,zs,b,o,s,_,d,j,rfl,rfl⟩,q⟩;have H3:=q.pick 7 [1,0,2,3,4,5,6] Z;rw[Q.df] at H3;refine ⟨_,⟨Z,Z⟩,H3.toPo (X:= {X with l:=[],Dd:=BV,D:=D2,G:=G2}) ⟨a.hn,s,?_,a.tab,λp hp=>?_,λi hi=>?_,Q.c,Q.one,λ_=>⟨Z,Z⟩,λT e=>(by cases e)⟩ Z⟩
 ·have:=a.pg
  rcases j with e|e
  ·show G2.x.pages=_;rw[e];exact this
  show G2.x.pages=_;rw[e];exact this
 ·rw[Q.m p hp]
  show _=G2.M p;rw[d];simp only[Ej];rw[b.old p hp]
 show G2.M (1+i)=_;rw[d];simp only[Ej];rcases b.done o hi with h|⟨h,e⟩
 ·rw[h];rfl
 rw[h,<-e];exact a.cp i hi
theorem Zi(pp mb n:Nat)(M0:Nat->Pg)(C0:Nat->Nat)(t:Option PoT)(p:Nat)(hp:p<n):Cn prog 196 [Y pp,I (p:Int)] [poA Tb pp mb n M0 C0 t] (λv Γ=>v=I (poC C0 t p:Int)/\Γ=[poA Tb pp mb n M0 C0 t]):=by
 intro z R w H;obtain ⟨X,a,H⟩:=H.po;refine Ret.mono (Cn.at (VM pp X.ps X.pc X.bn X.mm X.pa n t.isSome (poC C0 t) p hp a.hn) H 7 [0,2,3,1,4,5,6] Z Z) ?_;rintro v c ⟨Γ',⟨rfl,rfl⟩,b⟩;exact ⟨_,⟨Z,Z⟩,(b.pick 7 [0,3,1,2,4,5,6] Z).toPo a Z⟩
theorem AbK(pp mb n:Nat)(M0:Nat->Pg)(C0:Nat->Nat)(t:Option PoT):Cn prog 14 [Y pp] [poA Tb pp mb n M0 C0 t] (λv Γ=>v=I (cnt (Xs n C0 t) 0 1024:Int)/\Γ=[poA Tb pp mb n M0 C0 t]):=by
 intro z R w H;obtain ⟨X,a,H⟩:=H.po;refine Ret.mono (Cn.at (Y1 pp X.ps X.pc X.pa n t.isSome (Xs n C0 t) X.Dd (AV n C0)) H 7 [0,5,1,2,3,4,6] Z Z) ?_;rintro v c ⟨Γ',⟨rfl,rfl⟩,b⟩;exact ⟨_,⟨Z,Z⟩,(b.pick 7 [0,2,3,4,5,1,6] Z).toPo a Z⟩
theorem Zj(pp mb n:Nat)(M0:Nat->Pg)(C0:Nat->Nat)(t:Option PoT):Cn prog 156 [Y pp] [poA Tb pp mb n M0 C0 t] (λv Γ=>v=.bool t.isSome/\Γ=[poA Tb pp mb n M0 C0 t]):=by
 intro z R w H;obtain ⟨X,a,H⟩:=H.po;refine Ret.mono (Cn.at (VN pp X.ps X.pc X.pa n t.isSome) H 7 [0,1,2,3,4,5,6] Z Z) ?_;rintro v c ⟨Γ',⟨rfl,rfl⟩,b⟩;exact ⟨_,⟨Z,Z⟩,b.toPo a Z⟩
theorem PoQ.put{X:PoX}{p:Nat}{x:Pg}(Q:PoQ n C0 T X)(hp:p=0\/manyN n<p)(a:Nat):PoQ n C0 {T with M:=fup T.M p x,k:=a} {X with g:=pgSet X.g p x} :=by
 refine ⟨λq hq=>?_,λi hi=>?_,Q.W,Q.c,Q.df,Q.dj,Q.one⟩
 ·simp only[fup,Ej,pgSet]
  split
  ·rfl
  exact Q.m q hq
 show pgSet X.g p x (1+i)=none;unfold pgSet;rw[if_neg U];exact Q.gn i hi
theorem write_p(pp mb n:Nat)(M0:Nat->Pg)(C0:Nat->Nat)(T:PoT)(p:Nat)(x:Pg)(i:x.Ok)(b:Value)(B:Af)(d:∀h,B h->rdH 1 b 240 (x.body.map u8) h)(l:T.k<40)(hp:(p=0\/manyN n<p)/\p<n)(j:T.C p≠0):
  Cn prog 165 [Y pp,I (p:Int),.agg #[I x.kind,b]] [poA Tb pp mb n M0 C0 (some T),B] (λv Γ=>∃c,c<=T.k+1/\v=I 0/\Γ=[poA Tb pp mb n M0 C0 (some {T with M:=fup T.M p x,k:=c}),B]):=by
 intro z R w H;obtain ⟨X,a,H⟩:=H.po;have Q:=a.tx T Z;refine Ret.mono (Cn.at (VO pp X.ps X.pd X.pc X.bn X.mm X.pa n X.D X.G p x i b B d X.g T.k (λq=>by omega) a.pg T.C a.hn hp j) H 8 [1,0,2,3,7,4,5,6] Z Z) ?_;rintro v m ⟨Γ',⟨rfl,rfl⟩,f⟩;refine ⟨_,⟨_,?_,Z,Z⟩,((f.pick 8 [1,0,2,3,5,6,7,4] Z).toPo (X:= {X with g:=pgSet X.g p x}) (t:=some {T with M:=fup T.M p x,k:=T.k+(if (X.g p).isSome then 0 else 1)}) ⟨a.hn,a.fine,a.pg,a.tab,a.m0,a.cp,a.c0,a.one,λe=>(by cases e),λT' e=>?_⟩ Z)⟩
 ·split<;>omega
 cases e;exact Q.put hp.1 _
theorem Ac7(pp mb n:Nat)(M0:Nat->Pg)(C0:Nat->Nat)(T:PoT)(p:Nat)(hp:manyN n<p/\p<n)(g:1<=T.C p/\T.C p<1000):
  Cn prog 154 [Y pp,I (p:Int)] [poA Tb pp mb n M0 C0 (some T)] (λv Γ=>v=I 0/\Γ=[poA Tb pp mb n M0 C0 (some {T with C:=fup T.C p (T.C p+1)})]):=by
 intro z R w H;obtain ⟨X,a,H⟩:=H.po;have Q:=a.tx T Z;refine Ret.mono (Cn.at (AbF pp X.ps X.pc X.bn X.mm X.pa n T.C C0 X.l X.clk Q.W a.hn p hp g) H 7 [0,2,3,4,1,5,6] Z Z) ?_;rintro v h ⟨Γ',⟨f,b,W2,rfl,rfl⟩,d⟩;refine ⟨_,⟨Z,Z⟩,((d.pick 7 [0,4,1,2,3,5,6] Z).toPo (X:= {X with l:=f,clk:=b}) (t:=some {T with C:=fup T.C p (T.C p+1)}) ⟨a.hn,a.fine,a.pg,a.tab,a.m0,a.cp,a.c0,a.one,λe=>(by cases e),λT' e=>?_⟩ Z)⟩;cases e;refine ⟨Q.m,Q.gn,W2,λk=>?_,?_,Q.dj,λq hq=>?_⟩
 ·show fup T.C p (T.C p+1) k<=1000
  unfold fup;split
  ·omega
  exact Q.c k
 ·show Dg T.F X.Dd=AV n (fup T.C p (T.C p+1))
  rw[Q.df];funext q;unfold AV fup;split
  ·rename_i e;subst e;simp;omega
  rfl
 show fup T.C p (T.C p+1) q=1;rw[fup_ne _ _ U];exact Q.one q hq
theorem Zk(pp mb n:Nat)(M0:Nat->Pg)(C0:Nat->Nat)(T:PoT)(p:Nat)(hp:manyN n<p/\p<n)(g:2<=T.C p):
  Cn prog 202 [Y pp,I (p:Int)] [poA Tb pp mb n M0 C0 (some T)] (λv Γ=>v=I 0/\Γ=[poA Tb pp mb n M0 C0 (some {T with C:=fup T.C p (T.C p-1)})]):=by
 intro z R w H;obtain ⟨X,a,H⟩:=H.po;have Q:=a.tx T Z;refine Ret.mono (Cn.at (VQ pp X.ps X.pc X.bn X.mm X.pa n T.C C0 X.l X.clk Q.W a.hn p hp ⟨g,Q.c p⟩) H 7 [0,2,3,4,1,5,6] Z Z) ?_;rintro v h ⟨Γ',⟨f,b,W2,rfl,rfl⟩,d⟩;refine ⟨_,⟨Z,Z⟩,((d.pick 7 [0,4,1,2,3,5,6] Z).toPo (X:= {X with l:=f,clk:=b}) (t:=some {T with C:=fup T.C p (T.C p-1)}) ⟨a.hn,a.fine,a.pg,a.tab,a.m0,a.cp,a.c0,a.one,λe=>(by cases e),λT' e=>?_⟩ Z)⟩;cases e;refine ⟨Q.m,Q.gn,W2,λk=>?_,?_,Q.dj,λq hq=>?_⟩
 ·show fup T.C p (T.C p-1) k<=1000
  have:=Q.c p;unfold fup;split
  ·omega
  exact Q.c k
 ·show Dg T.F X.Dd=AV n (fup T.C p (T.C p-1))
  rw[Q.df];funext q;unfold AV fup;split
  ·rename_i e;subst e;exact decide_eq_decide.2 U
  rfl
 show fup T.C p (T.C p-1) q=1;rw[fup_ne _ _ U];exact Q.one q hq
theorem AbL(pp mb n:Nat)(M0:Nat->Pg)(C0:Nat->Nat)(T:PoT)(p:Nat)(hp:manyN n<p/\p<n)(i:T.C p=1):
  Cn prog 202 [Y pp,I (p:Int)] [poA Tb pp mb n M0 C0 (some T)] (λv Γ=>v=I 0/\Γ=[poA Tb pp mb n M0 C0 (some {T with C:=fup T.C p 0})]):=by
 intro z R w H;obtain ⟨X,a,H⟩:=H.po;have Q:=a.tx T Z;have f:(T.F p||X.Dd p)=false:=by
  have:Dg T.F X.Dd p=AV n T.C p:=by rw[Q.df]
  unfold Dg AV at this;rw[this];simp;omega
 simp at f;refine Ret.mono (Cn.at (Y2 pp X.ps X.pc X.bn X.mm X.pa n T.C C0 X.l X.clk Q.W a.hn p hp T.F X.Dd (AV n C0) i f.1 f.2) H 7 [0,2,3,4,5,1,6] Z Z) ?_;rintro v j ⟨Γ',⟨h,d,W2,rfl,rfl⟩,g⟩;refine ⟨_,⟨Z,Z⟩,((g.pick 7 [0,5,1,2,3,4,6] Z).toPo (X:= {X with l:=h,clk:=d,Dd:=Gg X.Dd p}) (t:=some {T with C:=fup T.C p 0}) ⟨a.hn,a.fine,a.pg,a.tab,a.m0,a.cp,a.c0,a.one,λe=>(by cases e),λT' e=>?_⟩ Z)⟩;cases e;refine ⟨Q.m,Q.gn,W2,λk=>?_,?_,λq hq=>?_,λq hq=>?_⟩
 ·show fup T.C p 0 k<=1000
  unfold fup;split
  ·omega
  exact Q.c k
 ·show Dg T.F (Gg X.Dd p)=AV n (fup T.C p 0)
  funext q;have:Dg T.F X.Dd q=AV n T.C q:=by rw[Q.df]
  unfold Dg AV at this;unfold Dg Gg AV fup;rw[<-Bool.or_assoc,this];by_cases e:q=p
  ·subst e;simp[hp.2]
  simp[e]
 ·have b:Gg X.Dd p q=true:=hq
  unfold Gg at b;by_cases e:q=p
  ·subst e;exact f.1
  simp[e] at b;exact Q.dj q b
 show fup T.C p 0 q=1;rw[fup_ne _ _ U];exact Q.one q hq
theorem Zm(pp mb n:Nat)(M0:Nat->Pg)(C0:Nat->Nat)(T:PoT)(x:Pg)(hx:x.Ok)(o:Value)(B:Af)(hB:∀h,B h->rdH 1 o 240 (x.body.map u8) h)(hk:T.k<40):
  Cn prog 157 [Y pp,.agg #[I x.kind,o]] [poA Tb pp mb n M0 C0 (some T),B] (λv Γ=>(cnt T.F 0 1024=0/\v=.tuple #[I 0,I 20]/\Γ=[poA Tb pp mb n M0 C0 (some T),B])\/
   ∃p f:Nat,(T.F p=true/\f<=T.k+1/\cnt (Dv T.F p) 0 1024+1=cnt T.F 0 1024)/\v=.tuple #[I (p:Int),I 0]/\Γ=[poA Tb pp mb n M0 C0 (some ⟨fup T.M p x,fup T.C p 1,Dv T.F p,f⟩),B]):=by
 intro z R w H;obtain ⟨X,a,H⟩:=H.po;have Q:=a.tx T Z;have K:=Q.k a.hn.1;have hn:=a.hn;by_cases hno:∀q,q<1024->T.F q=false
 ·refine Ret.mono (Cn.at (Tx pp X.ps X.pc X.pa n x hx o B hB T.F X.Dd (AV n C0) hno) H 8 [0,5,7,1,2,3,4,6] Z Z) ?_
  rintro v w' ⟨Γ',⟨rfl,rfl⟩,s⟩;refine ⟨_,.inl ⟨?_,Z,Z⟩,(s.pick 8 [0,3,4,5,6,1,7,2] Z).toPo a Z⟩;rw[GR (F:=T.F) (G:=BV) (λi hi=>by rw[hno _ U];rfl)];have:∀m,cnt BV 0 m=0:=λm=>by
   induction m with
   | zero=>rfl
   | succ m ih=>simp only[cnt,ih,BV];rfl
  exact this _
 have y:∃p,T.F p=true/\∀q,q<p->T.F q=false:=by
  have b:∃q,T.F q=true:=Ae8 λh=>hno (λq _=>by
   cases e:T.F q with
   | false=>rfl
   | true=>exact absurd ⟨q,e⟩ h)
  obtain ⟨q,hq⟩:=b;have:∀m q,q<=m->T.F q=true->∃p,T.F p=true/\∀q,q<p->T.F q=false:=λm=>by
   induction m with
   | zero=>intro q b u;exact ⟨q,u,λr hr=>by omega⟩
   | succ m ih=>
    intro q b u;by_cases h3:∃r,r<q/\T.F r=true
    ·obtain ⟨r,h4,h5⟩:=h3
     exact ih r U h5
    refine ⟨q,u,λr hr=>?_⟩
    cases e:T.F r with
    | false=>rfl
    | true=>exact absurd ⟨r,hr,e⟩ h3
  exact this q q (Aed _) hq
 obtain ⟨p,b,h0⟩:=y;obtain ⟨k1,f,k3⟩:=K.free p b;have hd:X.Dd p=false:=by
  cases e:X.Dd p with
  | false=>rfl
  | true=>have:=Q.dj p e;rw[b] at this;cases this
 refine Ret.mono (Cn.at (VP pp X.ps X.pd X.pc X.bn X.mm X.pa n X.D X.G X.g T.k T.C C0 X.l X.clk T.F X.Dd (AV n C0) Q.W a.hn a.pg p x hx o B hB (λq=>by omega) k1 b h0 f X.A a.tab.1) H 8 [1,0,2,3,4,5,6,7] Z Z) ?_;rintro v w' ⟨Γ',⟨l2,d,W2,rfl,rfl⟩,s⟩;refine ⟨_,.inr ⟨p,_,⟨b,?_,?_⟩,Z,Z⟩,((s.pick 8 [1,0,2,3,4,5,6,7] Z).toPo (X:= {X with g:=pgSet X.g p x,l:=l2,clk:=d}) (t:=some ⟨fup T.M p x,fup T.C p 1,Dv T.F p,T.k+(if (X.g p).isSome then 0 else 1)⟩) ⟨a.hn,a.fine,a.pg,a.tab,a.m0,a.cp,a.c0,a.one,λe=>(by cases e),λT' e=>?_⟩ Z)⟩
 ·split<;>omega
 ·exact Oz (F:=T.F) (G:=Dv T.F p) (i:=p) U b (by simp[Dv]) (λj hj=>by simp[Dv,hj])
 cases e
 have Q2:=Q.put (x:=x) (.inr k3) 0;refine ⟨Q2.m,Q2.gn,W2,λk=>?_,?_,λq hq=>?_,λq hq=>?_⟩
 ·show fup T.C p 1 k<=1000
  unfold fup;split
  ·omega
  exact Q.c k
 ·show Dg (Dv T.F p) X.Dd=AV n (fup T.C p 1)
  funext q;have:Dg T.F X.Dd q=AV n T.C q:=by rw[Q.df]
  unfold Dg AV at this;unfold Dg Dv AV fup;by_cases e:q=p
  ·subst e;simp[hd]
  simp only[e,decide_false,Bool.not_false,Bool.and_true,if_false];exact this
 ·have:=Q.dj q hq
  show Dv T.F p q=false;unfold Dv;rw[this];rfl
 show fup T.C p 1 q=1;rw[fup_ne _ _ U];exact Q.one q hq
end
section
def cutA(ao:Option Addr)(c p:Nat):Option Addr:=if c=p then ao else ao.map (·.add (p*1))
theorem rdH.cutA{f:Option Addr}{n c p m:Nat}{xs:List Int}{h:Hp}(r:rdH 1 (.slice f n c) n (xs.map I) h)(s:p+m<=n)(w:n<=c):rdH 1 (.slice (cutA f c p) m (c-p)) m (((xs.drop p).take m).map I) h:=by
 obtain ⟨g,c',e,t,v,k,q⟩:=r;cases e;refine ⟨_,_,Z,by omega,by omega,by simp at k ⊢;omega,λj u a=>?_⟩;have d:j<m:=by
  have:=(Ad6.1 a).1;simp at this;omega
 obtain ⟨b,o,rfl,l⟩:=q (p+j) u (by
  rw[Aej] at a ⊢;rw[AeS,if_pos d,Aff] at a;exact a)
 refine ⟨b,o+p,?_,by rw[Af5];exact l⟩;unfold YtnifkcmmanmbbaaGreatDoor.cutA;rw[if_neg U];simp only[AeN,AeK];unfold Addr.add;split
 ·rename_i i;simp[i]
 rfl
theorem rdH.slcap{b:Option Addr}{n c:Nat}{xs:List Value}{h:Hp}(r:rdH 1 (.slice b n c) n xs h):n<=c/\c<=9223372036854775807/\xs.length=n:=by
 obtain ⟨a,c',e,d,f,i,g⟩:=r;cases e;exact ⟨d,f,by omega⟩
theorem GS(l:List Int):∀c∈l.map I,c.oneCell'=true:=λc a=>by
 obtain ⟨x,_,rfl⟩:=Aeh.1 a;rfl
section
variable{P:Program}{C:World->Prop}{o:Oper}{n:Nat}{ds:List Deferred}{L:List (Nat×Value)}{x y:Operand}
theorem OE{t:TypeId}{lo hi:Option Operand}{f:Option Addr}{l c p q l' c':Nat}(r:o.op=.slice t x lo hi none)(g:Dm P t=some 1)
  (j:ev L x=some (.slice f l c))(d:(lo=none/\p=0)\/∃y k i,lo=some y/\ev L y=some (.int k i)/\i=(p:Int))(b:(hi=none/\q=l)\/∃y k i,hi=some y/\ev L y=some (.int k i)/\i=(q:Int))(e:p<=q)(a:q<=c)
  (m:q-p=l')(h:c-p=c'):Ar P C n ds L o (.slice (cutA f c p) l' c'):=by
 subst m h;exact Jb r g j d b e a
end
structure CkN(lf:Bool)(ks vs:List Int):Prop where
 len:ks.length=vs.length
 l8:ks.length<=8
 ne:lf=true\/0<ks.length
 k:∀x∈ks,0<=x/\x<1048576
 v:∀y∈vs,1<=y/\y<1024
 s:∀(i:Nat) (x y:Int),ks[i]?=some x->ks[i+1]?=some y->x<y
structure FdI(ks:List Int)(key:Int)(at_:Nat):Prop where
 le:at_<=ks.length
 lt:∀(j:Nat) (x:Int),j<at_->ks[j]?=some x->x<key
 ge:∀x,ks[at_]?=some x->key<=x
structure FcI(ks:List Int)(key:Int)(at_:Nat):Prop where
 le:at_<=ks.length
 lt:∀(j:Nat) (x:Int),j<at_->ks[j]?=some x->x<=key
 ge:∀x,ks[at_]?=some x->key<x
theorem Eb{l:List Int}{k:Nat}{rest:List Value}{x:Int}(h:k<l.length):(l.map I++rest).take k++[I x]++(l.map I++rest).drop (k+1)=(l.set k x).map I++rest:=by
 have e:=Ae5 (l:=l) (i:=k) (a:=x);rw[if_pos h] at e;rw[e,Aeo (by simp;omega),AeO (by simp;omega)];simp[Afj,AfP]
theorem HP(k y:Int):Cn prog 233 [I k,I y] [] (λv Γ=>v=.bool (decide ((0<=k/\k<1048576)/\1<=y/\y<1024))/\Γ=[]):=by
 intro z R w H;replace H:=H.l0;refine Ae func233 Z ntmps233 Z (Z0 10 [0] Z (Al 7 Z (λa=>?_) (λa=>?_)))
 ·refine Z0 4 [0] Z (Al 11 Z (λc=>?_) (λc=>?_))
  ·refine Z0 4 [0] Z (Al 15 Z (λb=>?_) (λb=>?_))
   ·refine Z0 7 [0] Z (Zr Z ?_);exact ⟨_,⟨congrArg Value.bool (by first|(rw[Aer];simp<;>omega)|(simp<;>omega)),Z⟩,H⟩
   refine Zc 7 Z (Zr Z ?_);exact ⟨_,⟨congrArg Value.bool (by first|(rw[Aer];simp<;>omega)|(simp<;>omega)),Z⟩,H⟩
  refine Zc 11 Z (Zr Z ?_);exact ⟨_,⟨congrArg Value.bool (by first|(rw[Aer];simp<;>omega)|(simp<;>omega)),Z⟩,H⟩
 refine Zc 15 Z (Zr Z ?_);exact ⟨_,⟨congrArg Value.bool (by first|(rw[Aer];simp<;>omega)|(simp<;>omega)),Z⟩,H⟩
theorem CS(lf:Bool)(kv vv:Value)(d vs:List Int)(A B:Af)(l:∀h,A h->rdH 1 kv d.length (d.map I) h)(t:∀h,B h->rdH 1 vv vs.length (vs.map I) h)(c:CkN lf d vs):Cn prog 200 [.agg #[.bool lf,kv,vv]] [A,B] (λv Γ=>v=I 0/\Γ=[A,B]):=by
 intro z R w H;replace H:=H.l2;obtain ⟨ka,kc,rfl⟩:=H.sy 0 (λq=>(l _ q).slc);obtain ⟨va,vc,rfl⟩:=H.sy 1 (λq=>(t _ q).slc);have a8:=H.sy 0 (λq=>(l _ q).slcap);have a9:=H.sy 1 (λq=>(t _ q).slcap);have b0:=c.len;have b2:=c.l8;have a5:=c.ne;refine Ae func200 Z ntmps200 Z (Za 2 [] H Z ?_);intro b1 w H;refine Z2 14 [1,0,0,2,0,0,0] H Z (Al 11 Z (λh1=>U) (λh1=>?_));refine Z2 6 [1,0,0,0] H Z (Al 17 Z (λh2=>U) (λh2=>?_));refine Z2 4 [0,0,0] H Z (FN 21 Z (λh3=>?_) (λh3=>?_))
 ·refine Z2 8 [1,0,0,0] H Z (Ag Z (λh4=>?_) (λh4=>?_))
  ·(exfalso;rcases a5 with q|q<;>simp_all)
  refine Z2 12 [1,0,0] H Z ?_;refine AD (σ:=Nat) (λi=>[(31,I (i:Int)),(1,Y b1),(30,I (d.length:Int))])
    (λi w=>Sep z (blk b1 [.bool lf,.slice ka d.length kc,.slice va vs.length vc] 249::A::B::R) w/\(i<=d.length)) (λi=>d.length-i) 0
    fr_z ⟨H,AeJ _⟩ ?_
  clear H;rintro i w ⟨f,hI⟩;have H:=f.l3;clear hI;refine Z0 6 [0] Z (Ag Z (λh5=>?_) (λh5=>?_))
  ·obtain ⟨x,b⟩:∃x,d[i]?=some x:=⟨_,Ad7 U⟩;obtain ⟨y,n⟩:∃y,vs[i]?=some y:=⟨_,Ad7 U⟩;have a2:=c.k x (Ad8 b)
   have a3:=c.v y (Ad8 n);refine Zc 11 Z ?_;have e:=(H.rd 1 Z l).at (j:=i) (u:=I x) (by simp[b]);have o:=(H.rd 2 Z t).at (j:=i) (u:=I y) (by simp[n]);refine Bu (Sep z _) J J H.drew (DZ 3 [1,0] (λ_ b=>(AS (b.blk 0 Z) AN)) Z J Z (AL Z Z Z (Aj Z (z:=1) (j:=i) (r:=i) J Z Z Z U e U) (AL Z Z Z (Ax Z Z J (λ_ a=>(a.rd 1 Z l).at (j:=i) (u:=I x) (by simp[b]))) (DZ 3 [2,0] (λ_ b=>(AS (b.blk 0 Z) AN)) Z J Z (AL Z Z Z (Aj Z (z:=1) (j:=i) (r:=i) J Z Z Z U o U) (AL Z Z Z (Ax Z Z J (λ_ a=>(a.rd 2 Z t).at (j:=i) (u:=I y) (by simp[n]))) (Dl Z Z Z Z Z (λw=>call233 _ w) (v:=.bool (decide ((0<=x/\x<1048576)/\1<=y/\y<1024))) (cq (HP _ _) (by rintro _ _ ⟨rfl,rfl⟩;exact ⟨Z,Z⟩) 0 [] [] Z Z Z Z) (AL Z Z Z (AE Z Z) (BZ 1 [] Z J (Cd 46 Z (λh6=>U) (λh6=>?_)))))))))));refine BZ 3 [] Z J (Cd 49 Z (λh7=>?_) (λh7=>?_))
   ·obtain ⟨m,g⟩:∃m,d[i-1]?=some m:=⟨_,Ad7 U⟩;have a0:=c.s (i-1) m x g (by rw[show i-1+1=i by omega];exact b)
    refine G4 4 [1,0,0] [(i:Int)-1] Z J U (AL Z Z Z (Aj Z (z:=1) (j:=(i-1)) (r:=(i-1)) J Z Z U U e U) (AL Z Z Z (Ax Z Z J (λ_ a=>(a.rd 1 Z l).at (j:=i-1) (u:=I m) (by simp[g]))) (DZ 3 [1,0] (λ_ b=>(AS (b.blk 0 Z) AN)) Z J Z (AL Z Z Z (Aj Z (z:=1) (j:=i) (r:=i) J Z Z Z U e U) (AL Z Z Z (Ax Z Z J (λ_ a=>(a.rd 1 Z l).at (j:=i) (u:=I x) (by simp[b]))) (BZ 3 [] Z J (BH (λw f=>?_))))))));have H:=f.l3;refine gn (Zc 1 Z (Ag Z (λh8=>U) (λh8=>?_)));refine Z1 7 [] [(i:Int)+1] Z U (gf ?_);intro _ p;refine ⟨(i+1),p.cz,⟨H,?_⟩,?_⟩
    ·omega
    omega
   refine BZ 14 [] Z J (BH (λw f=>?_));have H:=f.l3;refine gn (Z1 9 [] [(i:Int)+1] Z U (gf ?_));intro _ p;refine ⟨(i+1),p.cz,⟨H,?_⟩,?_⟩
   ·omega
   omega
  refine Zc 2 Z (gx (Zc 8 Z (Zr Z ?_)));exact ⟨_,⟨Z,Z⟩,H.perm 3 [1,2] Z Z⟩
 refine Z2 21 [1,0,0] H Z ?_;refine AD (σ:=Nat) (λi=>[(31,I (i:Int)),(1,Y b1),(30,I (d.length:Int))])
   (λi w=>Sep z (blk b1 [.bool lf,.slice ka d.length kc,.slice va vs.length vc] 249::A::B::R) w/\(i<=d.length)) (λi=>d.length-i) 0
   fr_z ⟨H,AeJ _⟩ ?_
 clear H;rintro i w ⟨f,hI⟩;have H:=f.l3;clear hI;refine Z0 6 [0] Z (Ag Z (λh9=>?_) (λh9=>?_))
 ·obtain ⟨x,b⟩:∃x,d[i]?=some x:=⟨_,Ad7 U⟩;obtain ⟨y,n⟩:∃y,vs[i]?=some y:=⟨_,Ad7 U⟩;have a2:=c.k x (Ad8 b)
  have a3:=c.v y (Ad8 n);refine Zc 11 Z ?_;have e:=(H.rd 1 Z l).at (j:=i) (u:=I x) (by simp[b]);have o:=(H.rd 2 Z t).at (j:=i) (u:=I y) (by simp[n]);refine Bu (Sep z _) J J H.drew (DZ 3 [1,0] (λ_ b=>(AS (b.blk 0 Z) AN)) Z J Z (AL Z Z Z (Aj Z (z:=1) (j:=i) (r:=i) J Z Z Z U e U) (AL Z Z Z (Ax Z Z J (λ_ a=>(a.rd 1 Z l).at (j:=i) (u:=I x) (by simp[b]))) (DZ 3 [2,0] (λ_ b=>(AS (b.blk 0 Z) AN)) Z J Z (AL Z Z Z (Aj Z (z:=1) (j:=i) (r:=i) J Z Z Z U o U) (AL Z Z Z (Ax Z Z J (λ_ a=>(a.rd 2 Z t).at (j:=i) (u:=I y) (by simp[n]))) (Dl Z Z Z Z Z (λw=>call233 _ w) (v:=.bool (decide ((0<=x/\x<1048576)/\1<=y/\y<1024))) (cq (HP _ _) (by rintro _ _ ⟨rfl,rfl⟩;exact ⟨Z,Z⟩) 0 [] [] Z Z Z Z) (AL Z Z Z (AE Z Z) (BZ 1 [] Z J (Cd 46 Z (λa4=>U) (λa4=>?_)))))))))));refine BZ 3 [] Z J (Cd 49 Z (λa1=>?_) (λa1=>?_))
  ·obtain ⟨m,g⟩:∃m,d[i-1]?=some m:=⟨_,Ad7 U⟩;have a0:=c.s (i-1) m x g (by rw[show i-1+1=i by omega];exact b)
   refine G4 4 [1,0,0] [(i:Int)-1] Z J U (AL Z Z Z (Aj Z (z:=1) (j:=(i-1)) (r:=(i-1)) J Z Z U U e U) (AL Z Z Z (Ax Z Z J (λ_ a=>(a.rd 1 Z l).at (j:=i-1) (u:=I m) (by simp[g]))) (DZ 3 [1,0] (λ_ b=>(AS (b.blk 0 Z) AN)) Z J Z (AL Z Z Z (Aj Z (z:=1) (j:=i) (r:=i) J Z Z Z U e U) (AL Z Z Z (Ax Z Z J (λ_ a=>(a.rd 1 Z l).at (j:=i) (u:=I x) (by simp[b]))) (BZ 3 [] Z J (BH (λw f=>?_))))))));have H:=f.l3;refine gn (Zc 1 Z (Ag Z (λa7=>U) (λa7=>?_)));refine Z1 7 [] [(i:Int)+1] Z U (gf ?_);intro _ p;refine ⟨(i+1),p.cz,⟨H,?_⟩,?_⟩
   ·omega
   omega
  refine BZ 14 [] Z J (BH (λw f=>?_));have H:=f.l3;refine gn (Z1 9 [] [(i:Int)+1] Z U (gf ?_));intro _ p;refine ⟨(i+1),p.cz,⟨H,?_⟩,?_⟩
  ·omega
  omega
 refine Zc 2 Z (gx (Zc 8 Z (Zr Z ?_)));exact ⟨_,⟨Z,Z⟩,H.perm 3 [1,2] Z Z⟩
theorem Jv(lf:Bool)(kv vv:Value)(a vs:List Int)(A B:Af)(m:∀h,A h->rdH 1 kv a.length (a.map I) h)(s:∀h,B h->rdH 1 vv vs.length (vs.map I) h)(key:Int)(a0:a.length<=8):Cn prog 161 [.agg #[.bool lf,kv,vv],I key] [A,B] (λv Γ=>∃i:Nat,FdI a key i/\v=.tuple #[I (i:Int),.bool (decide (a[i]?=some key))]/\Γ=[A,B]):=by
 intro z R w H;replace H:=H.l2;obtain ⟨ka,kc,rfl⟩:=H.sy 0 (λq=>(m _ q).slc);obtain ⟨va,vc,rfl⟩:=H.sy 1 (λq=>(s _ q).slc);have p:=H.sy 0 (λq=>(m _ q).slcap);refine Ae func161 Z ntmps161 Z (Za 2 [] H Z ?_);intro b1 w H;refine Zc 11 Z ?_;refine AD (σ:=Nat) (λi=>[(6,I (i:Int)),(1,I key),(2,Y b1),(4,I 0),(5,.bool false)])
   (λi w=>Sep z (blk b1 [.bool lf,.slice ka a.length kc,.slice va vs.length vc] 249::A::B::R) w/\(i<=a.length/\∀(j:Nat) (x:Int),j<i->a[j]?=some x->x<key)) (λi=>a.length-i) 0
   fr_z ⟨H,⟨AeJ _,λj x h=>by omega⟩⟩ ?_
 clear H;rintro i w ⟨k,hI⟩;have H:=k.l3;obtain ⟨l,c⟩:=hI;refine Z2 9 [1,0,0,0] H Z (Al 12 Z (λo=>?_) (λo=>?_))
 ·obtain ⟨x,e⟩:∃x,a[i]?=some x:=⟨_,Ad7 U⟩;refine Z2 3 [1,0,0] H Z ?_;have f:=(H.rd 1 Z m).at (j:=i) (u:=I x) (by simp[e])
  refine Ab Z (Aj Z (z:=1) (j:=i) (r:=i) J Z Z Z U f U) (Ab Z (Ax Z Z J (Ay ((H.rd 1 Z m).at (j:=i) (u:=I x) (by simp[e])))) (Z0 5 [0] Z (Ag Z (λh2=>?_) (λh2=>?_))))
  ·refine Z1 9 [] [(i:Int)+1] Z U (gf ?_);intro _ g;refine ⟨(i+1),g.cz,⟨H,?_⟩,?_⟩
   ·refine ⟨by omega,λj y hj d=>?_⟩;rcases Ael j i with h|h
    ·exact c j y h d
    obtain rfl:j=i:=by omega
    rw[e] at d;cases d;omega
   omega
  refine Zc 2 Z (gx (Zc 3 Z (Bu (Sep z _) J J H.drew (GF 7 [1,0,0,0] [] Z J (Cd 29 Z (λh3=>?_) (λh3=>?_))))))
  ·refine DZ 3 [1,0] (λ_ e=>(AS (e.blk 0 Z) AN)) Z J Z (AL Z Z Z (Aj Z (z:=1) (j:=i) (r:=i) J Z Z Z U f U) (AL Z Z Z (Ax Z Z J (λ_ n=>(n.rd 1 Z m).at (j:=i) (u:=I x) (by simp[e]))) (BZ 5 [] Z J (BH (λw k=>?_)))));have H:=k.l3;refine gn (Zc 2 Z (Zr Z ?_));have g:FdI a key i:=⟨l,c,λy d=>by rw[e] at d;cases d;omega⟩
   exact ⟨_,⟨i,g,(congrArg (λb=>Value.tuple #[I (i:Int),.bool b]) (decide_eq_decide.2 (by rw[e];simp))),Z⟩,H.perm 3 [1,2] Z Z⟩
  exact absurd o h3
 refine Zc 13 Z (gx (Zc 3 Z (Bu (Sep z _) J J H.drew (GF 7 [1,0,0,0] [] Z J (Cd 29 Z (λh4=>?_) (λh4=>?_))))))
 ·exact absurd h4 o
 refine BZ 10 [] Z J (BH (λw k=>?_));have H:=k.l3;refine gn (Zc 2 Z (Zr Z ?_));have g:FdI a key i:=⟨l,c,λy d=>by rw[AeC U] at d;cases d⟩;exact ⟨_,⟨i,g,(congrArg (λb=>Value.tuple #[I (i:Int),.bool b]) (decide_eq_false (by rw[AeC U];simp)).symm),Z⟩,H.perm 3 [1,2] Z Z⟩
theorem VW(lf:Bool)(n o:Value)(b vs:List Int)(A B:Af)(f:∀h,A h->rdH 1 n b.length (b.map I) h)(l:∀h,B h->rdH 1 o vs.length (vs.map I) h)(key:Int)(a0:b.length<=8):Cn prog 162 [.agg #[.bool lf,n,o],I key] [A,B] (λv Γ=>∃i:Nat,FcI b key i/\v=I ((i-1:Nat):Int)/\Γ=[A,B]):=by
 intro z R w H;replace H:=H.l2;obtain ⟨ka,s,rfl⟩:=H.sy 0 (λq=>(f _ q).slc);obtain ⟨va,t,rfl⟩:=H.sy 1 (λq=>(l _ q).slc);have k:=H.sy 0 (λq=>(f _ q).slcap);refine Ae func162 Z ntmps162 Z (Za 2 [] H Z ?_);intro p w H;refine Zc 10 Z ?_;refine AD (σ:=Nat) (λi=>[(5,I (i:Int)),(1,I key),(2,Y p),(4,I 0)])
   (λi w=>Sep z (blk p [.bool lf,.slice ka b.length s,.slice va vs.length t] 249::A::B::R) w/\(i<=b.length/\∀(j:Nat) (x:Int),j<i->b[j]?=some x->x<=key)) (λi=>b.length-i) 0
   fr_z ⟨H,⟨AeJ _,λj x h=>by omega⟩⟩ ?_
 clear H;rintro i w ⟨H',hI⟩;have H:=H'.l3;obtain ⟨d,a⟩:=hI;refine Z2 9 [1,0,0,0] H Z (Al 11 Z (λh1=>?_) (λh1=>?_))
 ·obtain ⟨x,e⟩:∃x,b[i]?=some x:=⟨_,Ad7 U⟩;refine Z2 3 [1,0,0] H Z ?_;have g:=(H.rd 1 Z f).at (j:=i) (u:=I x) (by simp[e])
  refine Ab Z (Aj Z (z:=1) (j:=i) (r:=i) J Z Z Z U g U) (Ab Z (Ax Z Z J (Ay ((H.rd 1 Z f).at (j:=i) (u:=I x) (by simp[e])))) (Z0 5 [0] Z (Ag Z (λh2=>?_) (λh2=>?_))))
  ·refine Z1 9 [] [(i:Int)+1] Z U (gf ?_);intro _ hF;refine ⟨(i+1),hF.cz,⟨H,?_⟩,?_⟩
   ·refine ⟨by omega,λj y hj c=>?_⟩;rcases Ael j i with h|h
    ·exact a j y h c
    obtain rfl:j=i:=by omega
    rw[e] at c;cases c;omega
   omega
  refine Zc 2 Z (gx (Z1 6 [] [(i:Int)-1] Z U (Ab Z (M8 Z Z Z) (Zc 4 Z (Zr Z ?_)))));exact ⟨_,⟨i,⟨d,a,λy c=>by rw[e] at c;cases c;omega⟩,congrArg I U,Z⟩,H.perm 3 [1,2] Z Z⟩
 refine Zc 13 Z (gx (Z1 6 [] [(i:Int)-1] Z U (Ab Z (M8 Z Z Z) (Zc 4 Z (Zr Z ?_)))));exact ⟨_,⟨i,⟨d,a,λy c=>by rw[AeC U] at c;cases c⟩,congrArg I U,Z⟩,H.perm 3 [1,2] Z Z⟩
end
theorem DX(lf:Bool)(x y:Value)(d vs:List Int)(A B:Af)(s:∀h,A h->rdH 1 x d.length (d.map I) h)(l:∀h,B h->rdH 1 y vs.length (vs.map I) h)(p q:Nat)(a2:p<=q)(hq:q<=d.length)(a0:d.length=vs.length)(a b:List Int)(k:(d.drop p).take (q-p)=a)(j:(vs.drop p).take (q-p)=b)(a1:d.length<=16):Cn prog 258 [.agg #[.bool lf,x,y],I (p:Int),I (q:Int)] [A,B] (λv Γ=>∃v1 v2:Value,v=.agg #[.bool lf,v1,v2]/\Γ=[grow 3 1 v1 a.length (a.map I),grow 3 1 v2 b.length (b.map I),A,B]):=by
 intro z R w H;replace H:=H.l2;obtain ⟨ka,kc,rfl⟩:=H.sy 0 (λq=>(s _ q).slc);obtain ⟨va,vc,rfl⟩:=H.sy 1 (λq=>(l _ q).slc);have t:=H.sy 0 (λq=>(s _ q).slcap);have u:=H.sy 1 (λq=>(l _ q).slcap);refine Ae func258 Z ntmps258 Z (Za 2 [] H Z ?_);intro b1 w H;refine Za 0 [] H Z ?_;intro b2 w H;refine Zc 3 Z ?_;replace H:=H.f3.f3.f3;refine AO (Sep z (blk b1 [.bool lf,.slice ka d.length kc,.slice va vs.length vc] 249::A::B::R)) 16 Z J (A5 H λw c=>?_);have H:=c.l4;refine AU [0,1,2,3,4,5] [0,0,0,1,0,0] [] (by exact H.pick 4 [0,1,2] Z) Z J Z (BO 6 Z J J J Z Z Z (OE (p:=p) (q:=q) (l':=q-p) (c':=kc-p) Z J Z (.inr ⟨_,_,_,Z,Z,Z⟩) (.inr ⟨_,_,_,Z,Z,Z⟩) U U Z Z) (H.pick 4 [0,1,2] Z) (AU [8,9,10,11] [2,0,0] [] (by exact H.pick 4 [0,1,2] Z) Z J Z (BO 12 Z J J J Z Z Z (OE (p:=p) (q:=q) (l':=q-p) (c':=vc-p) Z J Z (.inr ⟨_,_,_,Z,Z,Z⟩) (.inr ⟨_,_,_,Z,Z,Z⟩) U U Z Z) (H.pick 4 [0,1,2] Z) (AB [7] J O (An ?_)))));replace H:=(H.nilg 3 1).l5;refine Ca Z Z Z Z (AY 0 H Z Z J Bz Z Z (H.rv 2 (λq=>(s _ q).cutA U U)) (GS _) U) ?_;rintro v3 w c;have n:([]++((d.drop p).take (q-p)).map I:List Value)=a.map I:=(by rw[AeL,k]);rw[n] at c;rw[show (0+(q-p):Nat)=a.length from (by rw[AfH,<-k];simp;omega)] at c;have H:=c.l5;have r:=H.sy 0 (·.slc);refine Av (H.pick 5 [1,2,3] Z) (AB [13] J O (An ?_));replace H:=(H.nilg 3 1).l6;refine Ca Z Z Z Z (AY 0 H Z Z J Bz Z Z (H.rv 4 (λq=>(l _ q).cutA U U)) (GS _) U) ?_;rintro v4 w c;have m:([]++((vs.drop p).take (q-p)).map I:List Value)=b.map I:=(by rw[AeL,j]);rw[m] at c;rw[show (0+(q-p):Nat)=b.length from (by rw[AfH,<-j];simp;omega)] at c;have H:=c.l6;have o:=H.sy 0 (·.slc);refine Av (H.pick 6 [2,3,4] Z) ?_;obtain ⟨f,e,rfl⟩:=r;obtain ⟨g,i,rfl⟩:=o;refine AU [14] [] [] (by exact H.pick 6 [2,3,4] Z) Z J Z (AB [15] J O (An (Bg Z Z Z (Ak 5 H Z Z Z Z (vs:=[.bool lf,.slice f a.length e,.slice g b.length i]) Z (by simp[u8,u32,Value.oneCell']) J O (out:=[.bool lf,.slice f a.length e,.slice g b.length i]) Z) ?_)));rintro w H;replace H:=H.l6;refine Av (H.pick 6 [2,3,4] Z) (a_done J (gn (Zc 2 Z (Zl [5,3] H Z ?_))));exact ⟨_,⟨.slice f a.length e,.slice g b.length i,Z,Z⟩,H.perm 6 [1,0,3,4] Z Z⟩
theorem Fk(e:Bool)(kv1 vv1:Value)(b a:List Int)(A1 B1:Af)(m:∀h,A1 h->rdH 1 kv1 b.length (b.map I) h)(t:∀h,B1 h->rdH 1 vv1 a.length (a.map I) h)(n:Bool)(kv2 vv2:Value)(c d:List Int)(A2 B2:Af)(o:∀h,A2 h->rdH 1 kv2 c.length (c.map I) h)(r:∀h,B2 h->rdH 1 vv2 d.length (d.map I) h)(b5:b.length=a.length)(c0:c.length=d.length)(c1:b.length<=16)(c2:c.length<=16)(l vs:List Int)(hk:b++c=l)(hv:a++d=vs):Cn prog 257 [.agg #[.bool e,kv1,vv1],.agg #[.bool n,kv2,vv2]] [A1,B1,A2,B2] (λv Γ=>∃v1 v2:Value,v=.agg #[.bool e,v1,v2]/\Γ=[grow 3 1 v1 l.length (l.map I),grow 3 1 v2 vs.length (vs.map I),A1,B1,A2,B2]):=by
 intro z R w H;replace H:=H.l4;obtain ⟨a2,a4,rfl⟩:=H.sy 0 (λq=>(m _ q).slc);obtain ⟨a0,a6,rfl⟩:=H.sy 1 (λq=>(t _ q).slc);have b0:=H.sy 0 (λq=>(m _ q).slcap);have b4:=H.sy 1 (λq=>(t _ q).slcap);obtain ⟨y,a3,rfl⟩:=H.sy 2 (λq=>(o _ q).slc);obtain ⟨x,a1,rfl⟩:=H.sy 3 (λq=>(r _ q).slc);have a9:=H.sy 2 (λq=>(o _ q).slcap);have a8:=H.sy 3 (λq=>(r _ q).slcap);refine Ae func257 Z ntmps257 Z (Za 2 [] H Z ?_);intro b1 w H;refine Za 0 [] H Z ?_;intro b2 w H;refine Za 0 [] H Z ?_;intro b3 w H;refine Z2 8 [2,3,1,2,0] H Z (Aq Z (call258 _) (DX _ _ _ b a _ _ m t 0 b.length U U U b a O (by rw[AgX,Aep,b5];simp) U) H.f4.f4 ?_);rintro _ w _ ⟨v4,v5,rfl,rfl⟩ H;replace H:=H.l9;have b7:=H.sy 0 (·.slc);obtain ⟨b9,b8,rfl⟩:=b7;have b6:=H.sy 1 (·.slc);obtain ⟨s,p,rfl⟩:=b6;refine Za 0 [] H Z ?_;intro u w H;refine Z4 9 [0,1,0,0,1,6,0] H Z ?_;intro w H;refine AQ Z (AY 1 H Z Z J Bz Z Z (H.rd 8 Z o) (GS _) U) ?_;rintro f w i;have i:Sep z (blk u [.bool e,.slice b9 b.length b8,.slice s a.length p] 249::grow 3 1 f (b.length+c.length) (b.map I++c.map I)::grow 3 1 (.slice s a.length p) a.length (a.map I)::A1::B1::blk b3 [.bool false,.slice none 0 0,.slice none 0 0] 249::blk b2 [.bool n,.slice y c.length a3,.slice x d.length a1] 249::blk b1 [.bool e,.slice a2 b.length a4,.slice a0 a.length a6] 249::A2::B2::R) w:=i;have a5:(b.map I++c.map I:List Value)=l.map I:=(by rw[<-AeD,hk]);rw[a5] at i;rw[show (b.length+c.length:Nat)=l.length from (by rw[<-hk,Ad9])] at i;have H:=i.l10;have j:=H.sy 1 (·.slc);refine Z0 1 [1] Z (Az Z Z (Ll 0 H Z Z Z Z j.cells j.one J) ?_);rintro w H;replace H:=H.l10;refine Z2 8 [2,0,0,2,6,0] H Z (AQ Z (AY 2 H Z Z J Bz Z Z (H.rd 9 Z r) (GS _) U) ?_);rintro k w i;have i:Sep z (blk u [.bool e,f,.slice s a.length p] 249::grow 3 1 f l.length (l.map I)::grow 3 1 k (a.length+d.length) (a.map I++d.map I)::A1::B1::blk b3 [.bool false,.slice none 0 0,.slice none 0 0] 249::blk b2 [.bool n,.slice y c.length a3,.slice x d.length a1] 249::blk b1 [.bool e,.slice a2 b.length a4,.slice a0 a.length a6] 249::A2::B2::R) w:=i;have a7:(a.map I++d.map I:List Value)=vs.map I:=(by rw[<-AeD,hv]);rw[a7] at i;rw[show (a.length+d.length:Nat)=vs.length from (by rw[<-hv,Ad9])] at i;have H:=i.l10;have g:=H.sy 2 (·.slc);refine Z0 1 [2] Z (Az Z Z (JP 0 H Z Z Z Z g.cells g.one J) ?_);rintro w H;replace H:=H.l10;refine Z2 5 [0,3] H Z (Az Z Z (Ak 5 H Z Z Z Z (vs:=[.bool e,f,k]) Z (Ad Z (Ad j.one (Ad g.one Aw))) J O (out:=[.bool e,f,k]) Z) ?_);rintro w H;replace H:=H.l10;refine Zc 3 Z (Zl [5,3] H Z ?_);exact ⟨_,⟨f,k,Z,Z⟩,H.perm 10 [1,2,3,4,8,9] Z Z⟩
end Go.Proofs.YtnifkcmmanmbbaaGreatDoor
