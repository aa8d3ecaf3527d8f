/-
  Steps to: The law ThinRefuses holds. No condition.
-/
import Derived.Test.YtjegbnfpodadcaaGreatDoorCards
import Derived.Test.YtjegbnfpodadcaaGreatDoorTie
import Derived.WalkKit
import Derived.WalkSpells
import Derived.Deep.Quiet
import Derived.KernelRfl
import Derived.IntWalk
import Derived.Maps.AppendAt
import Derived.Laws.AppendOwnNone
import Derived.Laws.CopyRow
import Derived.StillTail
import Derived.Deep.RegionHeld
import Derived.Laws.IdiomStrings
import Derived.Laws.BytesArg
import Derived.Laws.OwnMore
import Derived.Lib.Strings
import Derived.ArgAppend
import Derived.Test.YtjegbnfpodadcaaGreatDoorRows
import Derived.RangeFuncLeaves
import Derived.RangeFuncRecord
import Derived.RangeFuncCalls
import Derived.RangeFuncSeq
import Derived.OrdersIn
import Derived.TacticsIn
import Derived.Laws.IdiomRangeMap
import Derived.Defers
import Derived.Laws.LoneSync
import Derived.LoopN
import Derived.Lib.TrailingZeros
import Derived.Test.YtjegbnfpodadcaaGreatDoorProg
import Derived.Shelf.Sort.Plain
import Derived.Shelf.Slices.In.SortNone
import Derived.DataReads
import Derived.ProofKit
import Derived.OpenShut
import Derived.Lib.SmallJoins
import Derived.Deep.DeepHandedRow
import Derived.Lib.LaidTab
set_option maxRecDepth 100000
set_option linter.unusedSimpArgs false
set_option linter.unusedVariables false
open Go.Proofs.Tryz
namespace Go.Proofs.YtjegbnfpodadcaaGreatDoor
section
open Go.RowKit
/-! ## The frame:which slots are known -/
abbrev Iv_ (x:Int):Value:= .int .i64 x
abbrev Pt_ (b:Nat):Value:= .pointer (some ⟨b,0,none⟩)
def Cp:List (Nat×Value)→Nat→Option Value
 | [],_=>none
 | (t,v)::l,k=>bif Nat.beq t k then some v else Cp l k
theorem W6 {d t:Nat} (h:d≠t):Nat.beq d t=false:=by
 cases hb:Nat.beq d t with
 | false=>rfl
 | true=>exact absurd (Nat.eq_of_beq_eq_true hb) h
structure Fr (n:Nat) (ds:List Deferred) (L:List (Nat×Value)) (a:Act):Prop where
 size:a.tmps.size=n
 defers:a.defers=ds
 get:∀ t v,Cp L t=some v→a.tmps[t]? =some v
theorem Fr.put {n:Nat} {ds:List Deferred} {L:List (Nat×Value)} {a:Act} (h:Fr n ds L a) (d:Nat) (v:Value) (hd:Nat.blt d n=true):Fr n ds ((d,v)::L) (a.put (some d) v):=by
 have hd':d<n:=by simpa using hd
 refine ⟨by simp[Act.put,h.size],by simp[Act.put,h.defers],fun t u ht=> ?_⟩
 simp only[Cp] at ht
 by_cases e:d=t
 ·subst e
  have:Nat.beq d d=true:=by simp
  rw[this] at ht
  simp only[cond_true,Option.some.injEq] at ht
  subst ht
  simp[Act.put,h.size,hd']
 ·rw[W6 e] at ht
  simp only[cond_false] at ht
  simp[Act.put,Array.getElem?_setIfInBounds_ne e,h.get t u ht]
theorem Fr.nil {n:Nat} {ds:List Deferred} {L:List (Nat×Value)} {a:Act} (h:Fr n ds L a):Fr n ds [] a:=⟨h.size,h.defers,fun t v ht=>by simp[Cp] at ht⟩
theorem Fr.cons {n:Nat} {ds:List Deferred} {L L':List (Nat×Value)} {a:Act} (h:Fr n ds L a) (h':Fr n ds L' a) (t:Nat) (v u:Value) (ht:Cp L t=some u) (e:u=v):Fr n ds ((t,v)::L') a:=by
 refine ⟨h.size,h.defers,fun s x hs=> ?_⟩
 simp only[Cp] at hs
 cases hb:Nat.beq t s with
 | true=>rw[hb] at hs;simp at hb;subst hb;simp at hs;subst hs;subst e;exact h.get t u ht
 | false=>rw[hb] at hs;exact h'.get s x (by simpa using hs)
theorem Fr.co {n:Nat} {ds:List Deferred} {L L':List (Nat×Value)} {a:Act} {t:Nat} {v u:Value} (h:Fr n ds L a) (ht:Cp L t=some u) (e:u=v) (h':Fr n ds L' a):Fr n ds ((t,v)::L') a:=h.cons h' t v u ht e
theorem Fr.all {n:Nat} {ds:List Deferred} {L:List (Nat×Value)} {a:Act} (h:Fr n ds L a):∀ {L':List (Nat×Value)},L'.map (fun e=>Cp L e.1)=L'.map (fun e=>some e.2)→Fr n ds L' a
 | [],_=>h.nil
 | e::L',q=>by
  simp only[List.map_cons,List.cons.injEq] at q
  exact h.cons (h.all q.2) e.1 e.2 e.2 q.1 rfl
theorem Fr.upd {n:Nat} {ds:List Deferred} {L:List (Nat×Value)} {a:Act} (h:Fr n ds L a) (t:Nat) {v u:Value} (ht:Cp L t=some u) (e:u=v):Fr n ds ((t,v)::L) a:=h.cons h t v u ht e
def ev (L:List (Nat×Value)):Operand→Option Value
 | .tmp t=>Cp L t
 | .const v=>some v
 | .global g=>some (.pointer (some ⟨g,0,none⟩))
 | .func f=>some (.func (.func f) #[] #[])
theorem Fr.ev {n:Nat} {ds:List Deferred} {L:List (Nat×Value)} {a:Act} (h:Fr n ds L a) {x:Operand} {v:Value} (hx:ev L x=some v):a.eval x=v:=by
 cases x with
 | tmp t=>simp only[YtjegbnfpodadcaaGreatDoor.ev] at hx;simp[Act.eval,h.get t v hx]
 | const u=>simp only[YtjegbnfpodadcaaGreatDoor.ev,Option.some.injEq] at hx;simp[Act.eval,hx]
 | global g=>simp only[YtjegbnfpodadcaaGreatDoor.ev,Option.some.injEq] at hx;simp[Act.eval,hx]
 | func f=>simp only[YtjegbnfpodadcaaGreatDoor.ev,Option.some.injEq] at hx;simp[Act.eval,hx]
def evs (L:List (Nat×Value)):List Operand→Option (List Value)
 | []=>some []
 | x::xs=>match YtjegbnfpodadcaaGreatDoor.ev L x,evs L xs with
  | some v,some vs=>some (v::vs)
  | _,_=>none
theorem Fr.evs {n:Nat} {ds:List Deferred} {L:List (Nat×Value)} {a:Act} (h:Fr n ds L a):∀ {xs:List Operand} {vs:List Value},evs L xs=some vs→xs.map a.eval=vs
 | [],vs,e=>by simp only[YtjegbnfpodadcaaGreatDoor.evs,Option.some.injEq] at e;subst e;rfl
 | x::xs,vs,e=>by
  simp only[YtjegbnfpodadcaaGreatDoor.evs] at e
  cases h1:YtjegbnfpodadcaaGreatDoor.ev L x with
  | none=>rw[h1] at e;cases e
  | some v=>
   cases h2:YtjegbnfpodadcaaGreatDoor.evs L xs with
   | none=>rw[h1,h2] at e;cases e
   | some us=>
    rw[h1,h2] at e
    simp only[Option.some.injEq] at e
    subst e
    simp[h.ev h1,h.evs h2]
def first:Nat→List Value→List (Nat×Value)
 | _,[]=>[]
 | k,v::vs=>(k,v)::first (k+1) vs
theorem I4:∀ (vs:List Value) (k t:Nat) (v:Value),Cp (first k vs) t=some v→k≤t∧vs[t - k]? =some v
 | [],_,_,_,h=>by simp[first,Cp] at h
 | u::us,k,t,v,h=>by
  simp only[first,Cp] at h
  cases hb:Nat.beq k t with
  | true=>rw[hb] at h;simp at hb h;subst hb;subst h;simp
  | false=>
   rw[hb] at h
   have:=I4 us (k+1) t v (by simpa using h)
   have hb':=Nat.ne_of_beq_eq_false hb
   refine ⟨by omega,?_⟩
   rw[show t - k=(t - (k+1))+1 from by omega]
   simpa using this.2
theorem Fr.start (args:List Value) (n:Nat) (h:args.length≤n):Fr n [] (first 0 args) { tmps:=args.toArray++Array.replicate (n - args.toArray.size) undef,defers:=[] } :=by
 refine ⟨by simp;omega,rfl,fun t v ht=> ?_⟩
 have:=(I4 args 0 t v ht).2
 simp only[Nat.sub_zero] at this
 have hlt:t<args.length:=by
  rcases Nat.lt_or_ge t args.length with h|h
  ·exact h
  ·rw[List.getElem?_eq_none h] at this;cases this
 rw[Array.getElem?_append_left (by simpa using hlt)]
 simpa using this
/-! ## Control -/
def Qp (N:Act→World→Prop) (X:Nat→Act→World→Prop) (R:Act→World→Prop):Exit→Act→World→Prop
 | .normal,a,w=>N a w
 | .exit id,a,w=>X id a w
 | .ret,a,w=>R a w
 | _,_,_=>False
def Hj:Nat→Act→World→Prop:=fun _ _ _=>False
def upd (X:Nat→Act→World→Prop) (id:Nat) (N:Act→World→Prop):Nat→Act→World→Prop:=fun j a w=>if j=id then N a w else X j a w
section
variable {P:Program} {N R:Act→World→Prop} {X:Nat→Act→World→Prop} {a:Act} {w:World}
theorem W7 {c:Code} {N' R':Act→World→Prop} {X':Nat→Act→World→Prop} (h:c.wp P (Qp N X R) a w) (hN:∀ a w,N a w→N' a w) (hX:∀ i a w,X i a w→X' i a w) (hR:∀ a w,R a w→R' a w):c.wp P (Qp N' X' R') a w:=
 wp_mono h fun e a w q=>by cases e<;>first|exact hN _ _ q|exact hX _ _ _ q|exact hR _ _ q|exact q
theorem Ue {x y:Code} (h:x.wp P (Qp (fun a w=>y.wp P (Qp N X R) a w) X R) a w):(Code.seq x y).wp P (Qp N X R) a w:=
 wp_seq (wp_mono h fun e a w q=>by cases e<;>exact q)
theorem YN {x y:Code} (M:Act→World→Prop) (h:x.wp P (Qp M X R) a w) (h':∀ a w,M a w→y.wp P (Qp N X R) a w):(Code.seq x y).wp P (Qp N X R) a w:=
 Ue (W7 h h' (fun _ _ _ q=>q) (fun _ _ q=>q))
theorem W8 (h:N a w):Code.skip.wp P (Qp N X R) a w:=wp_skip h
theorem W9 {id:Nat} (h:X id a w):(Code.exit id).wp P (Qp N X R) a w:=wp_exit h
theorem YO (h:R a w):Code.ret.wp P (Qp N X R) a w:=wp_ret h
theorem UK {id:Nat} {c:Code} (h:c.wp P (Qp N (upd X id N) R) a w):(Code.block id c).wp P (Qp N X R) a w:=
 wp_block (wp_mono h fun e a w q=>by
  cases e<;>exact q)
theorem Xa {id:Nat} (h:N a w):upd X id N id a w:=by simp only[upd,if_true];exact h
theorem YP {id j:Nat} {M:Act→World→Prop} (hj:Nat.beq j id=false) (h:X j a w):upd X id M j a w:=by
 have:j≠id:=Nat.ne_of_beq_eq_false hj
 simp only[upd,if_neg this];exact h
theorem PI {n:Nat} {ds:List Deferred} {L:List (Nat×Value)} (hF:Fr n ds L a) {c:Operand} {x y:Code} (hc:ev L c=some (.bool true)) (h:x.wp P (Qp N X R) a w):(Code.cond c x y).wp P (Qp N X R) a w:=wp_cond_true (hF.ev hc) h
theorem NM {n:Nat} {ds:List Deferred} {L:List (Nat×Value)} (hF:Fr n ds L a) {c:Operand} {x y:Code} (hc:ev L c=some (.bool false)) (h:y.wp P (Qp N X R) a w):(Code.cond c x y).wp P (Qp N X R) a w:=wp_cond_false (hF.ev hc) h
theorem PJ {n:Nat} {ds:List Deferred} {L:List (Nat×Value)} (hF:Fr n ds L a) {c:Operand} {x y:Code} {b:Bool} (hc:ev L c=some (.bool b)) (ht:b=true→x.wp P (Qp N X R) a w) (hf:b=false→y.wp P (Qp N X R) a w):(Code.cond c x y).wp P (Qp N X R) a w:=by
 cases b with
 | true=>exact PI hF hc (ht rfl)
 | false=>exact NM hF hc (hf rfl)
theorem YQ {n:Nat} {ds:List Deferred} {L:List (Nat×Value)} (hF:Fr n ds L a) {c:Operand} {x y:Code} {p:Prop} [hp:Decidable p] (hc:ev L c=some (.bool (decide p))) (ht:p→x.wp P (Qp N X R) a w) (hf:¬ p→y.wp P (Qp N X R) a w):(Code.cond c x y).wp P (Qp N X R) a w:=
 PJ hF hc (fun h=>ht (of_decide_eq_true h)) (fun h=>hf (of_decide_eq_false h))
/-! The same from every frame that shows L. -/
section framed
variable {n:Nat} {ds:List Deferred} {L:List (Nat×Value)}
theorem AO {x y:Code} (h:∀ a,Fr n ds L a→x.wp P (Qp (fun a w=>y.wp P (Qp N X R) a w) X R) a w):∀ a,Fr n ds L a→(Code.seq x y).wp P (Qp N X R) a w:=fun a hF=>Ue (h a hF)
theorem YR {x y:Code} (M:Act→World→Prop) (h:∀ a,Fr n ds L a→x.wp P (Qp M X R) a w) (h':∀ a w,M a w→y.wp P (Qp N X R) a w):∀ a,Fr n ds L a→(Code.seq x y).wp P (Qp N X R) a w:=fun a hF=>YN M (h a hF) h'
theorem Dk (h:∀ a,Fr n ds L a→N a w):∀ a,Fr n ds L a→Code.skip.wp P (Qp N X R) a w:=fun a hF=>W8 (h a hF)
theorem PK {id:Nat} (h:∀ a,Fr n ds L a→X id a w):∀ a,Fr n ds L a→(Code.exit id).wp P (Qp N X R) a w:=fun a hF=>W9 (h a hF)
theorem Ek (h:∀ a,Fr n ds L a→R a w):∀ a,Fr n ds L a→Code.ret.wp P (Qp N X R) a w:=fun a hF=>YO (h a hF)
theorem E2 {id:Nat} {c:Code} (h:∀ a,Fr n ds L a→c.wp P (Qp N (upd X id N) R) a w):∀ a,Fr n ds L a→(Code.block id c).wp P (Qp N X R) a w:=fun a hF=>UK (h a hF)
theorem Ht {id:Nat} (h:∀ a,Fr n ds L a→N a w):∀ a,Fr n ds L a→upd X id N id a w:=fun a hF=>Xa (h a hF)
theorem YS {id j:Nat} {M:Act→World→Prop} (hj:Nat.beq j id=false) (h:∀ a,Fr n ds L a→X j a w):∀ a,Fr n ds L a→upd X id M j a w:=fun a hF=>YP hj (h a hF)
theorem PL {c:Operand} {x y:Code} (hc:ev L c=some (.bool true)) (h:∀ a,Fr n ds L a→x.wp P (Qp N X R) a w):∀ a,Fr n ds L a→(Code.cond c x y).wp P (Qp N X R) a w:=fun a hF=>PI hF hc (h a hF)
theorem EA {c:Operand} {x y:Code} (hc:ev L c=some (.bool false)) (h:∀ a,Fr n ds L a→y.wp P (Qp N X R) a w):∀ a,Fr n ds L a→(Code.cond c x y).wp P (Qp N X R) a w:=fun a hF=>NM hF hc (h a hF)
theorem PM {c:Operand} {x y:Code} {b:Bool} (hc:ev L c=some (.bool b)) (ht:b=true→∀ a,Fr n ds L a→x.wp P (Qp N X R) a w) (hf:b=false→∀ a,Fr n ds L a→y.wp P (Qp N X R) a w):∀ a,Fr n ds L a→(Code.cond c x y).wp P (Qp N X R) a w:=
 fun a hF=>PJ hF hc (fun h=>ht h a hF) (fun h=>hf h a hF)
theorem FC {c:Operand} {x y:Code} {p:Prop} [hp:Decidable p] (hc:ev L c=some (.bool (decide p))) (ht:p→∀ a,Fr n ds L a→x.wp P (Qp N X R) a w) (hf:¬ p→∀ a,Fr n ds L a→y.wp P (Qp N X R) a w):∀ a,Fr n ds L a→(Code.cond c x y).wp P (Qp N X R) a w:=
 fun a hF=>YQ hF hc (fun h=>ht h a hF) (fun h=>hf h a hF)
end framed
theorem PN {n:Nat} {ds:List Deferred} {L:List (Nat×Value)} {c:Code} {σ:Type} (Lv:σ→List (Nat×Value)) (G:σ→World→Prop) (m:σ→Nat) (s₀:σ)
  (h₀:∀ a,Fr n ds L a→Fr n ds (Lv s₀) a) (g₀:G s₀ w)
  (round:∀ s w,G s w→∀ a,Fr n ds (Lv s) a→c.wp P (Qp (fun a' w'=>∃ s',Fr n ds (Lv s') a'∧G s' w'∧m s'<m s) X R) a w):∀ a,Fr n ds L a→(Code.loop c).wp P (Qp N X R) a w:=by
 intro a hF b k cs
 have key:∀ n' s a w,m s=n'→Fr n ds (Lv s) a→G s w→
   ∃ e a' w',Qp N X R e a' w'∧Arrives P (lone (b.at a (.code c:: .inLoop c::k)) cs w) b k cs e a' w':=by
  intro n'
  induction n' using Nat.strongRecOn with
  | _ n' ih=>
   intro s a w hn hI hG
   obtain ⟨e,a₁,w₁,hq,harr⟩:=round s w hG a hI b (.inLoop c::k) cs
   cases e with
   | normal=>
    obtain ⟨s₁,hI₁,hG₁,hlt⟩:=hq
    obtain ⟨e₂,a₂,w₂,hq₂,harr₂⟩:=ih (m s₁) (hn▸hlt) s₁ a₁ w₁ rfl hI₁ hG₁
    exact ⟨e₂,a₂,w₂,hq₂,.of_steps (Steps.trans harr (.one step_inLoop)) harr₂⟩
   | exit id=>exact ⟨.exit id,a₁,w₁,hq,.pass (x:= .inLoop c) rfl (fun _ _=> .inl (by simp)) harr⟩
   | ret=>exact ⟨.ret,a₁,w₁,hq,.pass (x:= .inLoop c) rfl (fun _ _=> .inl (by simp)) harr⟩
   | goto l=>exact hq.elim
   | panic ch=>exact hq.elim
   | outgrown=>exact hq.elim
 obtain ⟨e,a',w',hq,harr⟩:=key _ s₀ a w rfl (h₀ a hF) g₀
 exact ⟨e,a',w',hq,.of_steps (.one step_loop) harr⟩
end
def Ret (R:Value→World→Prop):Ending→World→Prop
 | .returned v,w=>R v w
 | _,_=>False
theorem Ret.mono {P:Program} {f:FuncId} {args:Array Value} {w:World} {R R':Value→World→Prop} (h:Calls P f args w (Ret R)) (hr:∀ v w',R v w'→R' v w'):Calls P f args w (Ret R'):=
 Calls.mono h fun e w' q=>by cases e<;>first|exact hr _ _ q|exact q
def Fs (P:Program) (fn:Func) (R:Value→World→Prop) (a:Act) (w:World):Prop:=
 a.defers=[]∧∃ v,(results fn a.tmps).run P w= .ok v w∧R v w
theorem enter {P:Program} {f:FuncId} {fn:Func} {c:Code} {args:List Value} {w:World} {R:Value→World→Prop} (hf:P.funcs[f]? =some fn) (hb:fn.body=some c) (n:Nat) (hn:fn.ntmps=n) (hlen:Nat.ble args.length n=true)
  (h:∀ a,Fr n [] (first 0 args) a→c.wp P (Qp (Fs P fn R) Hj (Fs P fn R)) a w):Calls P f args.toArray w (Ret R):=by
 refine calls_of_wp hf hb (wp_mono (h _ (by rw[hn];exact Fr.start args n (by simpa using hlen))) fun e a w q=> ?_)
 cases e with
 | normal=>obtain ⟨hd,v,hr,hR⟩:=q;exact ⟨hd,v,hr,hR⟩
 | ret=>obtain ⟨hd,v,hr,hR⟩:=q;exact ⟨hd,v,hr,hR⟩
 | exit id=>exact q.elim
 | goto l=>exact q.elim
 | panic ch=>exact q.elim
 | outgrown=>exact q.elim
def Xb (P:Program) (L:List (Nat×Value)) (w:World):ResultVar→Value→Prop
 | .tmp t,v=>Cp L t=some v
 | .cell t ty,v=>∃ b p,Cp L t=some (.pointer (some ⟨b,p,none⟩))∧(loadVar ty ⟨b,p,none⟩).run P w= .ok v w
def Ed (P:Program) (L:List (Nat×Value)) (w:World):List ResultVar→List Value→Prop
 | [],[]=>True
 | r::rs,v::vs=>Xb P L w r v∧Ed P L w rs vs
 | _,_=>False
theorem I5 {P:Program} {n:Nat} {ds:List Deferred} {L:List (Nat×Value)} {a:Act} {w:World} (hF:Fr n ds L a):∀ (rs:List ResultVar) (vs:List Value),Ed P L w rs vs→
  (rs.mapM (fun x=>match x with
   | ResultVar.tmp t=>(Pure.pure (a.tmps.getD t undef):Sem Value)
   | ResultVar.cell p t=>do loadVar t (←asAddr (a.tmps.getD p undef)))).run P w= .ok vs w
 | [],[],_=>by simp[go_sem]
 | [],_::_,h=>h.elim
 | _::_,[],h=>h.elim
 | r::rs,v::vs,h=>by
  have ih:=I5 hF rs vs h.2
  have h1:=h.1
  cases r with
  | tmp t=>
   simp only[Xb] at h1
   simp only[List.mapM_cons,Sem.run_bind,Sem.run_pure,Result.andThen_ok,ih]
   simp[Array.getD,hF.get t v h1]
   have:=hF.get t v h1
   rw[Array.getElem?_eq_some_iff] at this
   obtain ⟨hlt,he⟩:=this
   simp[hlt,he]
  | cell t ty=>
   obtain ⟨b,p,hl,hr⟩:=h1
   have hg:=hF.get t _ hl
   have e:a.tmps.getD t undef= .pointer (some ⟨b,p,none⟩):=by simp[hg]
   have ha:(asAddr (a.tmps.getD t undef)).run P w= .ok ⟨b,p,none⟩ w:=by rw[e];rfl
   simp only[List.mapM_cons,Sem.run_bind,Sem.run_pure,Result.andThen_ok,ha,hr,ih]
def F8:List Value→Value
 | [v]=>v
 | vs=> .tuple vs.toArray
theorem Gn {P:Program} {fn:Func} {n:Nat} {ds:List Deferred} {L:List (Nat×Value)} {a:Act} {w:World} (hF:Fr n ds L a) {rs:List ResultVar} (hr:fn.results=rs.toArray) {vs:List Value} (hv:Ed P L w rs vs):(results fn a.tmps).run P w= .ok (F8 vs) w:=by
 have h1:=I5 hF rs vs hv
 have h2:(List.toArray<$> (rs.mapM (fun x=>match x with
   | ResultVar.tmp t=>(Pure.pure (a.tmps.getD t undef):Sem Value)
   | ResultVar.cell p t=>do loadVar t (←asAddr (a.tmps.getD p undef))))).run P w= .ok vs.toArray w:=by
  show (Sem.bind _ _).run P w=_
  have:=Sem.run_bind (P:=P) (w:=w) (rs.mapM (fun x=>match x with
   | ResultVar.tmp t=>(Pure.pure (a.tmps.getD t undef):Sem Value)
   | ResultVar.cell p t=>do loadVar t (←asAddr (a.tmps.getD p undef)))) (fun x=>(Pure.pure x.toArray:Sem (Array Value)))
  refine this.trans ?_
  rw[h1]
  rfl
 unfold results
 rw[hr,List.mapM_toArray,Sem.run_bind]
 erw [h2]
 simp only[Result.andThen_ok,Sem.run_pure]
 cases vs with
 | nil=>rfl
 | cons x xs=>cases xs with
  | nil=>rfl
  | cons y ys=>simp[F8]
theorem F9 {P:Program} {fn:Func} {R:Value→World→Prop} {n:Nat} {L:List (Nat×Value)} {w:World} {rs:List ResultVar} (hr:fn.results=rs.toArray) (vs:List Value) (hv:Ed P L w rs vs) {v:Value} (he:F8 vs=v) (h:R v w):∀ a,Fr n [] L a→Fs P fn R a w:=fun a hF=>
 ⟨hF.defers,v,by rw[←he];exact Gn hF hr hv,h⟩
theorem YT {P:Program} {fn:Func} {R:Value→World→Prop} {n:Nat} {L:List (Nat×Value)} {a:Act} {w:World} (hF:Fr n [] L a) (hr:fn.results= #[]) (h:R (.tuple #[]) w):Fs P fn R a w:=
 ⟨hF.defers,_,by simp[results,hr,go_sem],h⟩
theorem Xc {P:Program} {fn:Func} {R:Value→World→Prop} {n:Nat} {L:List (Nat×Value)} {w:World} (hr:fn.results= #[]) (h:R (.tuple #[]) w):∀ a,Fr n [] L a→Fs P fn R a w:=fun _ hF=>YT hF hr h
end
section
open Go.RowKit
/-! ## Worlds -/
structure Ext (F:Nat→Prop) (w w':World):Prop where
 os:w'.os=w.os
 tape:w'.tape=w.tape
 output:w'.output=w.output
 size:w.heap.size≤w'.heap.size
 block:∀ k,k<w.heap.size→¬ F k→w'.heap[k]? =w.heap[k]?
def No:Nat→Prop:=fun _=>False
theorem Ext.refl (F:Nat→Prop) (w:World):Ext F w w:=⟨rfl,rfl,rfl,Nat.le_refl _,fun _ _ _=>rfl⟩
theorem Ext.mono {F F':Nat→Prop} {w w':World} (h:Ext F w w') (hF:∀ k,k<w.heap.size→F k→F' k):Ext F' w w':=
 ⟨h.os,h.tape,h.output,h.size,fun k hk hf=>h.block k hk (fun q=>hf (hF k hk q))⟩
theorem Ext.below {w w':World} (h:Ext No w w'):Below w.heap.size w w':=⟨h.os,h.tape,h.output,h.size,fun k hk=>h.block k hk (fun q=>q)⟩
theorem Ext.of_grown {w w':World} {row:Option Nat} (h:w.grownBy w' row):Ext (fun k=>some k=row) w w':=⟨h.os,h.tape,h.output,h.size,fun k hk hf=>h.block k hk hf⟩
theorem Ext.drawn (F:Nat→Prop) (w:World):Ext F w { w with drawn:=w.drawn+1 } :=⟨rfl,rfl,rfl,Nat.le_refl _,fun _ _ _=>rfl⟩
def Blk (b:Nat) (cs:List Value) (ty:TypeId) (w:World):Prop:=w.heap[b]? =some (.cells cs.toArray ty (0,0))
def Ga (b o:Nat) (v:Value) (w:World):Prop:=w.cell? ⟨b,o,none⟩=some v
theorem PO {w:World} {b:Nat} {o:Obj} (h:w.heap[b]? =some o):b<w.heap.size:=by
 rcases Nat.lt_or_ge b w.heap.size with h'|h'
 ·exact h'
 ·rw[Array.getElem?_eq_none h'] at h;cases h
theorem Blk.lt {b:Nat} {cs:List Value} {ty:TypeId} {w:World} (h:Blk b cs ty w):b<w.heap.size:=PO h
theorem Blk.cel {b:Nat} {cs:List Value} {ty:TypeId} {w:World} (h:Blk b cs ty w) (o:Nat) {v:Value} (hv:cs[o]? =some v):Ga b o v w:=by
 unfold Ga World.cell?
 have h':w.heap[b]? =some (.cells cs.toArray ty (0,0)):=h
 simp[h',hv]
theorem Blk.free {b:Nat} {cs:List Value} {ty:TypeId} {w:World} (h:Blk b cs ty w) (o:Nat):w.frozen? ⟨b,o,none⟩=false:=by
 unfold World.frozen?
 have h':w.heap[b]? =some (.cells cs.toArray ty (0,0)):=h
 simp[h']
def ZA (P:Program) (C:World→Prop) (o:Oper) (a:Act) (v:Value):Prop:=∀ w,C w→(execOp a.eval o).run P w= .ok (.value v) w
def Ao (P:Program) (C:World→Prop) (n:Nat) (ds:List Deferred) (L:List (Nat×Value)) (o:Oper) (v:Value):Prop:=∀ a,Fr n ds L a→ZA P C o a v
def ZB (P:Program) (o:Oper) (a:Act) (w:World) (R:Value→World→Prop):Prop:=∃ v w',(execOp a.eval o).run P w= .ok (.value v) w'∧R v w'
def ZC (P:Program) (o:Oper) (a:Act) (w:World) (R:World→Prop):Prop:=∃ w',(execOp a.eval o).run P w= .ok .skip w'∧R w'
def B8 (P:Program) (n:Nat) (ds:List Deferred) (L:List (Nat×Value)) (o:Oper) (w:World) (R:Value→World→Prop):Prop:=∀ a,Fr n ds L a→ZB P o a w R
def Du (P:Program) (n:Nat) (ds:List Deferred) (L:List (Nat×Value)) (o:Oper) (w:World) (R:World→Prop):Prop:=∀ a,Fr n ds L a→ZC P o a w R
def BC (ops:List Oper) (L:List (Nat×Value)):Option (Nat×Bool)→Bool
 | none=>true
 | some (j,b)=>match (ops[j]?).bind (·.dst) with
  | some t=>match Cp L t with
   | some (.bool c)=>(match c,b with|true,true=>true|false,false=>true|_,_=>false)
   | _=>false
  | none=>false
def El (ops:List Oper) (L:List (Nat×Value)):Option (Nat×Bool)→Bool
 | none=>false
 | some (j,b)=>match (ops[j]?).bind (·.dst) with
  | some t=>match Cp L t with
   | some (.bool c)=>(match c,b with|true,false=>true|false,true=>true|_,_=>false)
   | some (.tuple _)=>true
   | _=>false
  | none=>false
theorem wantL_ok {ops:List Oper} {L:List (Nat×Value)} {n:Nat} {ds:List Deferred} {a:Act} {o:Oper} (hF:Fr n ds L a) (h:BC ops L o.guard=true):Region.wanted o (yielded ops.toArray a.tmps)=true:=by
 unfold Region.wanted
 cases hg:o.guard with
 | none=>rfl
 | some g=>
  obtain ⟨j,b⟩:=g
  rw[hg] at h
  simp only[BC] at h
  simp only[yielded,List.getElem?_toArray]
  cases ht:(ops[j]?).bind (·.dst) with
  | none=>rw[ht] at h;cases h
  | some t=>
   rw[ht] at h
   simp only at h
   cases hl:Cp L t with
   | none=>rw[hl] at h;cases h
   | some v=>
    rw[hl] at h
    have hv:=hF.get t v hl
    cases v<;>simp at h
    rename_i c
    simp only[Option.bind_some,hv]
    cases c<;>cases b<;>simp at h ⊢
theorem skipL_ok {ops:List Oper} {L:List (Nat×Value)} {n:Nat} {ds:List Deferred} {a:Act} {o:Oper} (hF:Fr n ds L a) (h:El ops L o.guard=true):Region.wanted o (yielded ops.toArray a.tmps)=false:=by
 unfold Region.wanted
 cases hg:o.guard with
 | none=>rw[hg] at h;cases h
 | some g=>
  obtain ⟨j,b⟩:=g
  rw[hg] at h
  simp only[El] at h
  simp only[yielded,List.getElem?_toArray]
  cases ht:(ops[j]?).bind (·.dst) with
  | none=>rw[ht] at h;cases h
  | some t=>
   rw[ht] at h
   simp only at h
   cases hl:Cp L t with
   | none=>rw[hl] at h;cases h
   | some v=>
    rw[hl] at h
    have hv:=hF.get t v hl
    simp only[Option.bind_some,hv]
    cases v<;>simp at h ⊢
    rename_i c
    cases c<;>cases b<;>simp at h ⊢
section steps
variable {P:Program} {ops:List Oper} {Q:Exit→Act→World→Prop} {a:Act} {w:World} {rest:List Oper} {o:Oper} {n d:Nat} {ds:List Deferred} {L:List (Nat×Value)} {v:Value}
theorem AB {p:World→Prop} {w:World} (h:p w):∀ w',w'=w→p w':=fun w' e=>by subst e;exact h
theorem s_do (hw:BC ops L o.guard=true) (hd:o.dst=some d) (hlt:Nat.blt d n=true) (hdo:Ao P (· =w) n ds L o v) (K:∀ a',Fr n ds ((d,v)::L) a'→wpList P ops.toArray Q rest a' w):∀ a,Fr n ds L a→wpList P ops.toArray Q (o::rest) a w:=by
 intro a hF
 unfold wpList
 rw[if_pos (wantL_ok hF hw)]
 left
 unfold Oper.wp
 rw[hdo a hF w rfl,Oper.upon_value,hd]
 exact K _ (hF.put d v hlt)
theorem PP (hw:El ops L o.guard=true) (hd:o.dst=some d) (hlt:Nat.blt d n=true) (K:∀ a',Fr n ds ((d,undef)::L) a'→wpList P ops.toArray Q rest a' w):∀ a,Fr n ds L a→wpList P ops.toArray Q (o::rest) a w:=by
 intro a hF
 unfold wpList
 rw[if_neg (by rw[skipL_ok hF hw];exact Bool.false_ne_true),hd]
 exact K _ (hF.put d undef hlt)
theorem UL (hw:El ops L o.guard=true) (hd:o.dst=none) (K:∀ a,Fr n ds L a→wpList P ops.toArray Q rest a w):∀ a,Fr n ds L a→wpList P ops.toArray Q (o::rest) a w:=by
 intro a hF
 unfold wpList
 rw[if_neg (by rw[skipL_ok hF hw];exact Bool.false_ne_true),hd]
 exact K a hF
theorem Eo {R:Value→World→Prop} (hw:BC ops L o.guard=true) (hd:o.dst=some d) (hlt:Nat.blt d n=true) (h:B8 P n ds L o w R) (K:∀ v w',R v w'→∀ a',Fr n ds ((d,v)::L) a'→wpList P ops.toArray Q rest a' w'):∀ a,Fr n ds L a→wpList P ops.toArray Q (o::rest) a w:=by
 intro a hF
 obtain ⟨v,w',hr,hR⟩:=h a hF
 unfold wpList
 rw[if_pos (wantL_ok hF hw)]
 left
 unfold Oper.wp
 rw[hr,Oper.upon_value,hd]
 exact K v w' hR _ (hF.put d v hlt)
theorem Fd {R:World→Prop} (hw:BC ops L o.guard=true) (hd:o.dst=none) (h:Du P n ds L o w R) (K:∀ w',R w'→∀ a,Fr n ds L a→wpList P ops.toArray Q rest a w'):∀ a,Fr n ds L a→wpList P ops.toArray Q (o::rest) a w:=by
 intro a hF
 obtain ⟨w',hr,hR⟩:=h a hF
 unfold wpList
 rw[if_pos (wantL_ok hF hw)]
 left
 unfold Oper.wp
 rw[hr,Oper.upon_skip,hd]
 exact K w' hR a hF
theorem PQ {p:Prop} [Decidable p] (t:Nat) (ht:Cp L t=some (.bool (decide p))) (hy:p→∀ a,Fr n ds ((t,.bool true)::L) a→wpList P ops.toArray Q (o::rest) a w) (hn:¬ p→∀ a,Fr n ds ((t,.bool false)::L) a→wpList P ops.toArray Q (o::rest) a w):∀ a,Fr n ds L a→wpList P ops.toArray Q (o::rest) a w:=by
 intro a hF
 by_cases h:p
 ·exact hy h a (hF.upd t ht (by simp[h]))
 ·exact hn h a (hF.upd t ht (by simp[h]))
theorem RH {b:Bool} (t:Nat) (ht:Cp L t=some (.bool b)) (hy:b=true→∀ a,Fr n ds ((t,.bool true)::L) a→wpList P ops.toArray Q (o::rest) a w) (hn:b=false→∀ a,Fr n ds ((t,.bool false)::L) a→wpList P ops.toArray Q (o::rest) a w):∀ a,Fr n ds L a→wpList P ops.toArray Q (o::rest) a w:=by
 intro a hF
 cases b with
 | true=>exact hy rfl a (hF.upd t ht rfl)
 | false=>exact hn rfl a (hF.upd t ht rfl)
theorem AH {N R:Act→World→Prop} {X:Nat→Act→World→Prop} (h:∀ a,Fr n ds L a→N a w):∀ a,Fr n ds L a→wpList P ops.toArray (Qp N X R) [] a w:=h
theorem AC {id:Nat} {N R:Act→World→Prop} {X:Nat→Act→World→Prop} (h:∀ a,Fr n ds L a→wpList P ops.toArray (Qp N X R) ops a w):∀ a,Fr n ds L a→(Code.region id ops.toArray false).wp P (Qp N X R) a w:=fun a hF=>wp_region_lit (h a hF)
theorem PR {R:Value→World→Prop} {f:FuncId} {args:List Operand} {vs:List Value} {tys:Array TypeId} (hw:BC ops L o.guard=true) (hd:o.dst=some d) (hlt:Nat.blt d n=true)
  (ho:o.op= .call { callee:= .value (.func f),args:=args.toArray,argTypes:=tys }) (hargs:evs L args=some vs) (hr:∀ w,(callFunc f vs.toArray).run P w= .ok (.enter f vs.toArray) w) (h:Calls P f vs.toArray w (Ret R))
  (K:∀ v w',R v w'→∀ a',Fr n ds ((d,v)::L) a'→wpList P ops.toArray Q rest a' w'):∀ a,Fr n ds L a→wpList P ops.toArray Q (o::rest) a w:=by
 intro a hF
 unfold wpList
 rw[if_pos (wantL_ok hF hw)]
 left
 have hrun:(execOp a.eval o).run P w= .ok (.enter f vs.toArray) w:=by
  unfold execOp
  have e:=hF.evs hargs
  simp only[ho,resolve,Act.eval,Deferred.ofValue,invoke]
  simp only[go_sem,List.map_toArray,e,List.nil_append,List.append_nil,hr]
  simpa using hr w
 unfold Oper.wp
 rw[hrun,Oper.upon_enter]
 exact Calls.mono h fun e w' q=>by
  cases e with
  | returned v=>simp only[hd];exact K v w' q _ (hF.put d v hlt)
  | panicked c=>exact q.elim
  | outgrown=>exact q.elim
end steps
/-! ## The same in a region that draws its order,where nothing but callees' new memory comes to be -/
section quiet
variable {P:Program} {ops:List Oper} {C:World→Prop} {Q:Act→Prop} {a:Act} {rest:List Oper} {o:Oper} {n d:Nat} {ds:List Deferred} {L:List (Nat×Value)} {v:Value}
theorem A6 (hw:BC ops L o.guard=true) (hd:o.dst=some d) (hlt:Nat.blt d n=true) (hdo:Ao P C n ds L o v) (K:∀ a',Fr n ds ((d,v)::L) a'→wpQuiet P ops.toArray C Q rest a'):∀ a,Fr n ds L a→wpQuiet P ops.toArray C Q (o::rest) a:=fun a hF=>
 wpQuiet_step fun K' hK=>by
  rw[if_pos (wantL_ok hF hw)]
  refine ⟨v,fun w hC=> ?_,hK _ ?_⟩
  ·unfold Oper.quietAt;rw[hdo a hF w hC];exact ⟨rfl,rfl⟩
  ·rw[hd];exact K _ (hF.put d v hlt)
theorem PS (hw:El ops L o.guard=true) (hd:o.dst=some d) (hlt:Nat.blt d n=true) (K:∀ a',Fr n ds ((d,undef)::L) a'→wpQuiet P ops.toArray C Q rest a'):∀ a,Fr n ds L a→wpQuiet P ops.toArray C Q (o::rest) a:=fun a hF=>
 wpQuiet_step fun K' hK=>by
  rw[if_neg (by rw[skipL_ok hF hw];exact Bool.false_ne_true)]
  exact hK _ (by rw[hd];exact K _ (hF.put d undef hlt))
theorem Bj {p:Prop} [Decidable p] (t:Nat) (ht:Cp L t=some (.bool (decide p))) (hy:p→∀ a,Fr n ds ((t,.bool true)::L) a→wpQuiet P ops.toArray C Q (o::rest) a) (hn:¬ p→∀ a,Fr n ds ((t,.bool false)::L) a→wpQuiet P ops.toArray C Q (o::rest) a):∀ a,Fr n ds L a→wpQuiet P ops.toArray C Q (o::rest) a:=by
 intro a hF
 by_cases h:p
 ·exact hy h a (hF.upd t ht (by simp[h]))
 ·exact hn h a (hF.upd t ht (by simp[h]))
theorem CJ {f:FuncId} {args:List Operand} {vs:List Value} {tys:Array TypeId} (hw:BC ops L o.guard=true) (hd:o.dst=some d) (hlt:Nat.blt d n=true)
  (ho:o.op= .call { callee:= .value (.func f),args:=args.toArray,argTypes:=tys }) (hargs:evs L args=some vs) (hr:∀ w,(callFunc f vs.toArray).run P w= .ok (.enter f vs.toArray) w) (h:∀ w,C w→Calls P f vs.toArray w (Ret fun u w'=>u=v∧C w'))
  (K:∀ a',Fr n ds ((d,v)::L) a'→wpQuiet P ops.toArray C Q rest a'):∀ a,Fr n ds L a→wpQuiet P ops.toArray C Q (o::rest) a:=fun a hF=>
 wpQuiet_step fun K' hK=>by
  rw[if_pos (wantL_ok hF hw)]
  refine ⟨v,fun w hC=> ?_,hK _ ?_⟩
  ·have hrun:(execOp a.eval o).run P w= .ok (.enter f vs.toArray) w:=by
    unfold execOp
    have e:=hF.evs hargs
    simp only[ho,resolve,Act.eval,Deferred.ofValue,invoke]
    simp only[go_sem,List.map_toArray,e,List.nil_append,List.append_nil,hr]
    simpa using hr w
   unfold Oper.quietAt
   rw[hrun]
   refine ⟨rfl,Calls.mono (h w hC) fun e w' q=> ?_⟩
   cases e with
   | returned u=>exact ⟨by rw[q.1],q.2⟩
   | panicked c=>exact q.elim
   | outgrown=>exact q.elim
  ·rw[hd];exact K _ (hF.put d v hlt)
theorem AU {N:Act→World→Prop} (h:∀ w',C w'→∀ a,Fr n ds L a→N a w'):∀ a,Fr n ds L a→wpQuiet P ops.toArray C (fun a'=>∀ w',C w'→N a' w') [] a:=fun a hF w' hw=>h w' hw a hF
theorem AG {id:Nat} {N R:Act→World→Prop} {X:Nat→Act→World→Prop} {w:World} (C:World→Prop) (hm:P.follows .mixedOrders=true) (hB:Region.lexB .any ops.toArray=true) (hC:C w.drew)
  (h:∀ a,Fr n ds L a→wpQuiet P ops.toArray C (fun a'=>∀ w',C w'→N a' w') ops a):∀ a,Fr n ds L a→(Code.region id ops.toArray true).wp P (Qp N X R) a w:=fun a hF=>
 wp_region_quiet (C:=C) hm hB hC (h a hF)
end quiet
end
section
open Go.RowKit
section
variable {P:Program} {C:World→Prop} {o:Oper} {a:Act} {n:Nat} {ds:List Deferred} {L:List (Nat×Value)} {v:Value}
theorem CA {x:Operand} (ho:o.op= .move x) (hx:ev L x=some v):Ao P C n ds L o v:=fun a hF w _=>by
 simp only[execOp,ho,hF.ev hx];rfl
theorem Ep {x:Operand} (ho:o.op= .assign x) (hx:ev L x=some v):Ao P C n ds L o v:=fun a hF w _=>by
 simp only[execOp,ho,hF.ev hx];rfl
theorem LB {c x y:Operand} (ho:o.op= .pick c x y) (hc:ev L c=some (.bool true)) (hx:ev L x=some v):Ao P C n ds L o v:=fun a hF w _=>by
 simp only[execOp,ho,hF.ev hc,hF.ev hx];simp[go_sem]
theorem LD {c x y:Operand} (ho:o.op= .pick c x y) (hc:ev L c=some (.bool false)) (hx:ev L y=some v):Ao P C n ds L o v:=fun a hF w _=>by
 simp only[execOp,ho,hF.ev hc,hF.ev hx];simp[go_sem]
/-! ### what the tables say,in closed form -/
def DD (P:Program) (s t:TypeId):Option IntKind:=match P.underlying s,P.underlying t with
 | some _,some (.int k)=>some k
 | _,_=>none
theorem E3 {s t:TypeId} {k:IntKind} (h:DD P s t=some k):∃ d,P.underlying s=some d∧P.underlying t=some (.int k):=by
 unfold DD at h
 split at h
 ·rename_i d k' h1 h2;simp only[Option.some.injEq] at h;subst h;exact ⟨d,h1,h2⟩
 ·cases h
def CK (P:Program) (t:TypeId):Option Nat:=match P.underlying t with
 | some (.slice e)=>(P.info? e).map (·.size)
 | _=>none
theorem EB {t:TypeId} {z:Nat} (h:CK P t=some z):∃ e i,P.underlying t=some (.slice e)∧P.info? e=some i∧i.size=z:=by
 unfold CK at h
 split at h
 ·rename_i e h1
  cases hi:P.info? e with
  | none=>rw[hi] at h;cases h
  | some i=>rw[hi] at h;exact ⟨e,i,h1,hi,by simpa using h⟩
 ·cases h
def GR (P:Program) (t:TypeId):Option (Nat×Nat):=match P.underlying t with
 | some (.array l e)=>(P.info? e).map fun i=>(l,i.size)
 | _=>none
theorem GS {t:TypeId} {l z:Nat} (h:GR P t=some (l,z)):∃ e i,P.underlying t=some (.array l e)∧P.info? e=some i∧i.size=z:=by
 unfold GR at h
 split at h
 ·rename_i l' e h1
  cases hi:P.info? e with
  | none=>rw[hi] at h;cases h
  | some i=>
   rw[hi] at h
   simp only[Option.map_some,Option.some.injEq,Prod.mk.injEq] at h
   obtain ⟨rfl,h2⟩:=h
   exact ⟨e,i,h1,hi,h2⟩
 ·cases h
def DH (P:Program) (s:TypeId) (f:Nat):Option Nat:=match P.underlying s with
 | some (.struct fs)=>match fs[f]? with
  | some fd=>match P.info? fd.type with
   | some i=>bif Nat.beq i.size 0 then none else some fd.offset
   | none=>none
  | none=>none
 | _=>none
theorem Nx {s:TypeId} {f k:Nat} (h:DH P s f=some k):∃ fs fd i,P.underlying s=some (.struct fs)∧fs[f]? =some fd∧P.info? fd.type=some i∧i.size≠0∧fd.offset=k:=by
 unfold DH at h
 split at h
 ·rename_i fs h1
  split at h
  ·rename_i fd h2
   split at h
   ·rename_i i h3
    cases hb:Nat.beq i.size 0 with
    | true=>rw[hb] at h;cases h
    | false=>
     rw[hb] at h
     exact ⟨fs,fd,i,h1,h2,h3,Nat.ne_of_beq_eq_false hb,by simpa using h⟩
   ·cases h
  ·cases h
 ·cases h
def GT (P:Program) (t:TypeId):Option Nat:=match P.underlying t with
 | some (.struct _)=>(P.info? t).map (·.size)
 | some (.array _ _)=>(P.info? t).map (·.size)
 | _=>none
theorem LE {t:TypeId} {z:Nat} (h:GT P t=some z) (w:World):(isAgg t).run P w= .ok true w∧(sizeOf t).run P w= .ok z w:=by
 have key:∀ d,P.underlying t=some d→((d matches .struct _)=true∨(d matches .array _ _)=true)→(P.info? t).map (·.size)=some z→(isAgg t).run P w= .ok true w∧(sizeOf t).run P w= .ok z w:=by
  intro d hd hk hs
  cases hi:P.info? t with
  | none=>rw[hi] at hs;cases hs
  | some i=>
   rw[hi] at hs
   simp only[Option.map_some,Option.some.injEq] at hs
   refine ⟨?_,by simp[sizeOf,typeInfo,hi,go_sem,hs]⟩
   unfold isAgg
   simp only[run_underlying hd,go_sem,Sem.run_bind,Result.andThen_ok]
   rcases hk with hk|hk<;>(cases d<;>simp at hk ⊢)
 unfold GT at h
 split at h
 ·rename_i h1;exact key _ h1 (.inl rfl) h
 ·rename_i h1;exact key _ h1 (.inr rfl) h
 ·cases h
/-! ### integers -/
section ints
variable {x y:Operand} {xt yt:TypeId} {k:IntKind} {p q:Int}
theorem Uf (ho:o.op= .binOp .add xt x y yt) (hx:ev L x=some (.int k p)) (hy:ev L y=some (.int k q)):Ao P C n ds L o (.int k (k.wrap (p+q))):=fun a hF w _=>by
 simp only[execOp,ho,hF.ev hx,hF.ev hy];simp[go_sem]
theorem YU (ho:o.op= .binOp .sub xt x y yt) (hx:ev L x=some (.int k p)) (hy:ev L y=some (.int k q)):Ao P C n ds L o (.int k (k.wrap (p - q))):=fun a hF w _=>by
 simp only[execOp,ho,hF.ev hx,hF.ev hy];simp[go_sem]
theorem YV (ho:o.op= .binOp .mul xt x y yt) (hx:ev L x=some (.int k p)) (hy:ev L y=some (.int k q)):Ao P C n ds L o (.int k (k.wrap (p * q))):=fun a hF w _=>by
 simp only[execOp,ho,hF.ev hx,hF.ev hy];simp[go_sem]
theorem YW (ho:o.op= .binOp .quo xt x y yt) (hx:ev L x=some (.int k p)) (hy:ev L y=some (.int k q)) (h0:q≠0):Ao P C n ds L o (.int k (k.wrap (p.tdiv q))):=fun a hF w _=>by
 simp only[execOp,ho,hF.ev hx,hF.ev hy];simp[go_sem,h0]
theorem Lp (ho:o.op= .binOp .rem xt x y yt) (hx:ev L x=some (.int k p)) (hy:ev L y=some (.int k q)) (h0:q≠0):Ao P C n ds L o (.int k (p.tmod q)):=fun a hF w _=>by
 simp only[execOp,ho,hF.ev hx,hF.ev hy];simp[go_sem,h0]
theorem OV (ho:o.op= .binOp .lss xt x y yt) (hx:ev L x=some (.int k p)) (hy:ev L y=some (.int k q)):Ao P C n ds L o (.bool (decide (p<q))):=fun a hF w _=>by
 simp only[execOp,ho,hF.ev hx,hF.ev hy];simp[go_sem]
theorem Ug (ho:o.op= .binOp .leq xt x y yt) (hx:ev L x=some (.int k p)) (hy:ev L y=some (.int k q)):Ao P C n ds L o (.bool (decide (p≤q))):=fun a hF w _=>by
 simp only[execOp,ho,hF.ev hx,hF.ev hy];simp[go_sem]
theorem Uh (ho:o.op= .binOp .gtr xt x y yt) (hx:ev L x=some (.int k p)) (hy:ev L y=some (.int k q)):Ao P C n ds L o (.bool (decide (q<p))):=fun a hF w _=>by
 simp only[execOp,ho,hF.ev hx,hF.ev hy];simp[go_sem]
theorem Ui (ho:o.op= .binOp .geq xt x y yt) (hx:ev L x=some (.int k p)) (hy:ev L y=some (.int k q)):Ao P C n ds L o (.bool (decide (q≤p))):=fun a hF w _=>by
 simp only[execOp,ho,hF.ev hx,hF.ev hy];simp[go_sem]
theorem Uj (ho:o.op= .binOp .eql xt x y yt) (hx:ev L x=some (.int k p)) (hy:ev L y=some (.int k q)):Ao P C n ds L o (.bool (decide (p=q))):=fun a hF w _=>by
 simp only[execOp,ho,hF.ev hx,hF.ev hy];simp[go_sem]
 rw[Bool.eq_iff_iff];simp
theorem Uk (ho:o.op= .binOp .neq xt x y yt) (hx:ev L x=some (.int k p)) (hy:ev L y=some (.int k q)):Ao P C n ds L o (.bool (decide (p≠q))):=fun a hF w _=>by
 simp only[execOp,ho,hF.ev hx,hF.ev hy];simp[go_sem]
 rw[Bool.eq_iff_iff];simp
theorem DB (ho:o.op= .binOp .add xt x y yt) (hx:ev L x=some (Iv_ p)) (hy:ev L y=some (Iv_ q)) {r:Int} (hr:p+q=r) (hb: -9223372036854775808≤r∧r≤9223372036854775807):Ao P C n ds L o (Iv_ r):=by
 have:=Uf (P:=P) (C:=C) (n:=n) (ds:=ds) (L:=L) ho hx hy
 rwa[hr,IntWalk.i64_in _ hb] at this
theorem JO (ho:o.op= .binOp .sub xt x y yt) (hx:ev L x=some (Iv_ p)) (hy:ev L y=some (Iv_ q)) {r:Int} (hr:p - q=r) (hb: -9223372036854775808≤r∧r≤9223372036854775807):Ao P C n ds L o (Iv_ r):=by
 have:=YU (P:=P) (C:=C) (n:=n) (ds:=ds) (L:=L) ho hx hy
 rwa[hr,IntWalk.i64_in _ hb] at this
theorem UM (ho:o.op= .binOp .mul xt x y yt) (hx:ev L x=some (Iv_ p)) (hy:ev L y=some (Iv_ q)) {r:Int} (hr:p * q=r) (hb: -9223372036854775808≤r∧r≤9223372036854775807):Ao P C n ds L o (Iv_ r):=by
 have:=YV (P:=P) (C:=C) (n:=n) (ds:=ds) (L:=L) ho hx hy
 rwa[hr,IntWalk.i64_in _ hb] at this
theorem NN (ho:o.op= .binOp .quo xt x y yt) (hx:ev L x=some (Iv_ p)) (hy:ev L y=some (Iv_ q)) {r:Int} (h0:0≤p) (h1:0<q) (hr:p / q=r) (hb:p≤9223372036854775807):Ao P C n ds L o (Iv_ r):=by
 have:=YW (P:=P) (C:=C) (n:=n) (ds:=ds) (L:=L) ho hx hy (by omega)
 rw[Int.tdiv_eq_ediv_of_nonneg h0] at this
 have h2:0≤p / q:=Int.ediv_nonneg h0 (by omega)
 have h3:p / q≤p:=Int.ediv_le_self q h0
 rwa[hr,IntWalk.i64_in _ (by omega)] at this
theorem NO (ho:o.op= .binOp .rem xt x y yt) (hx:ev L x=some (.int k p)) (hy:ev L y=some (.int k q)) {r:Int} (h0:0≤p) (h1:q≠0) (hr:p % q=r):Ao P C n ds L o (.int k r):=by
 have:=Lp (P:=P) (C:=C) (n:=n) (ds:=ds) (L:=L) ho hx hy h1
 rwa[Int.tmod_eq_emod_of_nonneg h0,hr] at this
theorem Ul (ho:o.op= .unOp .neg xt x) (hx:ev L x=some (.int k p)):Ao P C n ds L o (.int k (k.wrap (0 - p))):=fun a hF w _=>by
 simp only[execOp,ho,hF.ev hx];simp[go_sem]
theorem NP (ho:o.op= .unOp .neg xt x) (hx:ev L x=some (Iv_ p)) {r:Int} (hr: -p=r) (hb: -9223372036854775808≤r∧r≤9223372036854775807):Ao P C n ds L o (Iv_ r):=by
 have:=Ul (P:=P) (C:=C) (n:=n) (ds:=ds) (L:=L) ho hx
 rwa[show (0:Int) - p=r from by omega,IntWalk.i64_in _ hb] at this
theorem Hu {dt:TypeId} {k':IntKind} (ho:o.op= .convert xt dt x) (h1:DD P xt dt=some k') (hx:ev L x=some (.int k p)):Ao P C n ds L o (.int k' (k'.wrap p)):=fun a hF w _=>by
 obtain ⟨d0,h0,h1⟩:=E3 h1
 simp only[execOp,ho,hF.ev hx];simp[convert,run_underlying h0,run_underlying h1,go_sem]
end ints
/-! ### Bools -/
def LF (P:Program) (t:TypeId):Bool:=match P.underlying t with|some .bool=>true|_=>false
theorem PT {t:TypeId} (h:LF P t=true):P.underlying t=some .bool:=by
 unfold LF at h;split at h
 ·assumption
 ·cases h
theorem I6 {xt:TypeId} {x:Operand} (ho:o.op= .unOp .not xt x) {b:Bool} (hx:ev L x=some (.bool b)):Ao P C n ds L o (.bool !b):=fun a hF w _=>by
 simp only[execOp,ho,hF.ev hx];simp[go_sem]
theorem Ax {xt:TypeId} {x:Operand} (ho:o.op= .unOp .not xt x) {p:Prop} [Decidable p] (hx:ev L x=some (.bool (decide p))):Ao P C n ds L o (.bool (decide (¬ p))):=fun a hF w _=>by
 simp only[execOp,ho,hF.ev hx];simp[go_sem]
theorem LG {xt yt:TypeId} {x y:Operand} (ho:o.op= .binOp .neq xt x y yt) {b c:Bool} (ht:LF P xt=true) (hx:ev L x=some (.bool b)) (hy:ev L y=some (.bool c)):Ao P C n ds L o (.bool (decide (b≠c))):=fun a hF w _=>by
 have ht:=PT ht
 simp only[execOp,ho,hF.ev hx,hF.ev hy];simp[ht,go_sem]
 cases b<;>cases c<;>rfl
/-! ### memory -/
def Ft (P:Program) (t:TypeId):Bool:=match P.underlying t with
 | some (.struct _)=>false
 | some (.array _ _)=>false
 | some _=>true
 | none=>false
theorem E4 {t:TypeId} (h:Ft P t=true) (w:World):(isAgg t).run P w= .ok false w:=by
 unfold Ft at h
 unfold isAgg
 cases hu:P.underlying t with
 | none=>rw[hu] at h;cases h
 | some d=>rw[hu] at h;simp[run_underlying hu,go_sem];cases d<;>simp at h ⊢
theorem AZ {t:TypeId} {x:Operand} {b p:Nat} (ho:o.op= .load t x) (hx:ev L x=some (.pointer (some ⟨b,p,none⟩))) (ht:Ft P t=true) (hc:∀ w,C w→Ga b p v w):Ao P C n ds L o v:=fun a hF w hw=>by
 have:=hc w hw
 unfold Ga at this
 simp only[execOp,ho,hF.ev hx];simp[Instr.loadAt,Instr.sureAddr,loadVar,E4 ht,go_sem,this]
theorem BE {t:TypeId} {x:Operand} {b p:Nat} {vs:List Value} (ho:o.op= .load t x) (hx:ev L x=some (.pointer (some ⟨b,p,none⟩)))
  (ht:GT P t=some vs.length) (hc:∀ w,C w→∀ j u,vs[j]? =some u→Ga b (p+j) u w):Ao P C n ds L o (.agg vs.toArray):=fun a hF w hw=>by
 have hl:=run_loadCells_list (P:=P) w ⟨b,p,none⟩ vs (fun j u hj=>by
  have:=hc w hw j u hj
  have e:(Addr.add ⟨b,p,none⟩ j)=⟨b,p+j,none⟩:=by
   unfold Addr.add;split
   ·rename_i h0;simp[h0]
   ·rfl
  rw[e];exact this)
 obtain ⟨hagg,hsz⟩:=LE ht w
 simp only[execOp,ho,hF.ev hx,Instr.loadAt,Instr.sureAddr,loadVar,Sem.run_bind,Sem.run_pure,Result.andThen_ok,hagg,if_true,hsz,hl]
theorem Blk.part {b:Nat} {cs:List Value} {ty:TypeId} {w:World} (h:Blk b cs ty w) (p k:Nat) (vs:List Value) (hv:vs=(cs.drop p).take k):∀ j u,vs[j]? =some u→Ga b (p+j) u w:=fun j u hj=>by
 subst hv
 refine h.cel _ ?_
 rw[List.getElem?_take] at hj
 split at hj
 ·rw[List.getElem?_drop] at hj;exact hj
 ·cases hj
def Gb (P:Program) (t:TypeId):Bool:=match P.underlying t with|some .string=>true|_=>false
theorem FL {t:TypeId} (h:Gb P t=true):P.underlying t=some .string:=by
 unfold Gb at h;split at h
 ·assumption
 ·cases h
/-! ### slices -/
theorem Gc {x:Operand} {t z:TypeId} {ao:Option Addr} {l c:Nat} (ho:o.op= .call { callee:= .builtin .len,args:= #[x],argTypes:= #[t] }) (ht:CK P t=some z) (hx:ev L x=some (.slice ao l c)):Ao P C n ds L o (Iv_ l):=fun a hF w _=>by
 obtain ⟨e,i,ht,_,_⟩:=EB ht
 simp only[execOp,ho,hF.ev hx,resolve,List.map_toArray,List.map_cons,List.map_nil];simp[invoke,builtin,Builtin.len_,run_underlying ht,goInt,go_sem]
theorem Xd {x:Operand} {t:TypeId} {s:ByteArray} (ho:o.op= .call { callee:= .builtin .len,args:= #[x],argTypes:= #[t] }) (ht:Gb P t=true) (hx:ev L x=some (.string s)):Ao P C n ds L o (Iv_ s.size):=fun a hF w _=>by
 have ht:=FL ht
 simp only[execOp,ho,hF.ev hx,resolve,List.map_toArray,List.map_cons,List.map_nil];simp[invoke,builtin,Builtin.len_,run_underlying ht,goInt,go_sem]
theorem Lq {x y:Operand} {t u:TypeId} {k k':IntKind} {p q:Int} (ho:o.op= .call { callee:= .builtin .max,args:= #[x,y],argTypes:= #[t,u] }) (hx:ev L x=some (.int k p)) (hy:ev L y=some (.int k' q)):Ao P C n ds L o (.int k (max p q)):=fun a hF w _=>by
 simp only[execOp,ho,hF.ev hx,hF.ev hy,resolve,List.map_toArray,List.map_cons,List.map_nil];simp[invoke,builtin,Builtin.max_,Builtin.max2,go_sem]
 omega
theorem I7 {x y:Operand} {t u:TypeId} {k k':IntKind} {p q:Int} (ho:o.op= .call { callee:= .builtin .min,args:= #[x,y],argTypes:= #[t,u] }) (hx:ev L x=some (.int k p)) (hy:ev L y=some (.int k' q)):Ao P C n ds L o (.int k (min p q)):=fun a hF w _=>by
 simp only[execOp,ho,hF.ev hx,hF.ev hy,resolve,List.map_toArray,List.map_cons,List.map_nil];simp[invoke,builtin,Builtin.min_,Builtin.min2,go_sem]
 omega
theorem Dl {s:TypeId} {x:Operand} {f:Nat} {b p k r:Nat} (ho:o.op= .fieldAddr s x f) (hs:DH P s f=some k) (hx:ev L x=some (.pointer (some ⟨b,p,none⟩))) (hr:p+k=r):Ao P C n ds L o (.pointer (some ⟨b,r,none⟩)):=fun a hF w _=>by
 obtain ⟨fs,fd,i0,hs,hf,hi,hz,hk⟩:=Nx hs
 have e:(Addr.add ⟨b,p,none⟩ fd.offset)=⟨b,r,none⟩:=by
  unfold Addr.add;split
  ·rename_i h0;simp only[Addr.mk.injEq,true_and,and_true];omega
  ·simp only[Addr.mk.injEq,true_and,and_true];omega
 simp only[execOp,ho,hF.ev hx];simp[Instr.fieldAt,run_underlying hs,hf,Instr.sureAddr,fieldPlace,sizeOf,typeInfo,hi,hz,e,go_sem]
theorem Cc {t:TypeId} {x y:Operand} {b p l c j z:Nat} {i:Int} {k:IntKind} (ho:o.op= .indexAddr t x y) (ht:CK P t=some z)
  (hx:ev L x=some (.slice (some ⟨b,p,none⟩) l c)) (hy:ev L y=some (.int k i)) (hij:i=j) (hl:j<l) {r:Nat} (hr:p+j * z=r):Ao P C n ds L o (.pointer (some ⟨b,r,none⟩)):=fun a hF w _=>by
 obtain ⟨e,i0,ht,hi,hz⟩:=EB ht
 subst hij
 have h1:(0:Int)≤(j:Int)∧(j:Int)<(l:Int):=by omega
 simp only[execOp,ho,hF.ev hx,hF.ev hy];simp[Instr.indexAt,run_underlying ht,sizeOf,typeInfo,hi,hz,h1,hl,hr,go_sem,asIntOf]
def At (ao:Option Addr) (k:Nat) (v:Value) (w:World):Prop:=∃ b p,ao=some ⟨b,p,none⟩∧Ga b (p+k) v w
def Hv (ao:Option Addr) (k:Nat):Value:= .pointer (ao.map fun a=>⟨a.block,a.off+k,none⟩)
theorem AD {t:TypeId} {x y:Operand} {ao:Option Addr} {l c j z:Nat} {i:Int} {k:IntKind} {u:Value} {w0:World} {q:Nat} (ho:o.op= .indexAddr t x y) (ht:CK P t=some z)
  (hx:ev L x=some (.slice ao l c)) (hy:ev L y=some (.int k i)) (hij:i=j) (hl:j<l) (hat:At ao q u w0) {r:Nat} (hr:j * z=r):Ao P C n ds L o (Hv ao r):=fun a hF w _=>by
 obtain ⟨e,i0,ht,hi,hz⟩:=EB ht
 obtain ⟨b,p,rfl,_⟩:=hat
 subst hij
 have h1:(0:Int)≤(j:Int)∧(j:Int)<(l:Int):=by omega
 simp only[execOp,ho,hF.ev hx,hF.ev hy];simp[Instr.indexAt,run_underlying ht,sizeOf,typeInfo,hi,hz,h1,hl,hr,Hv,go_sem,asIntOf]
theorem FM {s:TypeId} {x:Operand} {f:Nat} {ao:Option Addr} {p k r q:Nat} {u:Value} {w0:World} (ho:o.op= .fieldAddr s x f) (hs:DH P s f=some k) (hx:ev L x=some (Hv ao p)) (hat:At ao q u w0) (hr:p+k=r):Ao P C n ds L o (Hv ao r):=fun a hF w hw=>by
 obtain ⟨b,p',rfl,_⟩:=hat
 have:=Dl (P:=P) (C:=C) (r:=p'+r) ho hs (show ev L x=some (.pointer (some ⟨b,p'+p,none⟩)) from hx) (by omega) a hF w hw
 simpa [Hv] using this
theorem AR {t:TypeId} {x:Operand} {ao:Option Addr} {k:Nat} (ho:o.op= .load t x) (hx:ev L x=some (Hv ao k)) (ht:Ft P t=true) (hc:∀ w,C w→At ao k v w):Ao P C n ds L o v:=fun a hF w hw=>by
 obtain ⟨b,p,rfl,h⟩:=hc w hw
 exact AZ (P:=P) (C:=(· =w)) ho hx ht (AB h) a hF w rfl
theorem DW {t:TypeId} {x:Operand} {ao:Option Addr} {k:Nat} {vs:List Value} (ho:o.op= .load t x) (hx:ev L x=some (Hv ao k))
  (ht:GT P t=some vs.length) (hne:vs≠[]) (hc:∀ w,C w→∀ j u,vs[j]? =some u→At ao (k+j) u w):Ao P C n ds L o (.agg vs.toArray):=fun a hF w hw=>by
 cases vs with
 | nil=>exact absurd rfl hne
 | cons u us=>
  obtain ⟨b,p,rfl,_⟩:=hc w hw 0 u rfl
  refine BE (P:=P) (C:=(· =w)) ho hx ht (AB fun j x hj=> ?_) a hF w rfl
  obtain ⟨b',p',e,h⟩:=hc w hw j x hj
  simp only[Option.some.injEq,Addr.mk.injEq,and_true] at e
  obtain ⟨rfl,rfl⟩:=e
  rw[Nat.add_assoc];exact h
theorem IC {t:TypeId} {x y:Operand} {b p l j z:Nat} {i:Int} {k:IntKind} (ho:o.op= .indexAddr t x y) (ht:GR P t=some (l,z))
  (hx:ev L x=some (.pointer (some ⟨b,p,none⟩))) (hy:ev L y=some (.int k i)) (hij:i=j) (hl:j<l) {r:Nat} (hr:p+j * z=r):Ao P C n ds L o (.pointer (some ⟨b,r,none⟩)):=fun a hF w _=>by
 obtain ⟨e,i0,ht,hi,hz⟩:=GS ht
 subst hij
 have h1:(0:Int)≤(j:Int)∧(j:Int)<(l:Int):=by omega
 simp only[execOp,ho,hF.ev hx,hF.ev hy];simp[Instr.indexAt,run_underlying ht,Instr.sureAddr,sizeOf,typeInfo,hi,hz,h1,hl,hr,go_sem,asIntOf]
theorem EC {x:Operand} {i:Nat} {vs:List Value} (ho:o.op= .extract x i) (hx:ev L x=some (.tuple vs.toArray)) (hi:vs[i]? =some v):Ao P C n ds L o v:=fun a hF w _=>by
 simp only[execOp,ho,hF.ev hx];simp[Instr.extract,hi,go_sem]
theorem I8 {x:Operand} {ad:Addr} (ho:o.op= .nilCheck x) (hx:ev L x=some (.pointer (some ad))):Ao P C n ds L o (.pointer (some ad)):=fun a hF w _=>by
 simp only[execOp,ho,hF.ev hx];simp[go_sem]
theorem HR {t:TypeId} {x:Operand} {lo hi:Option Operand} {ao:Option Addr} {l c p q z:Nat} (ho:o.op= .slice t x lo hi none) (ht:CK P t=some z)
  (hx:ev L x=some (.slice ao l c)) (hlo:(lo=none∧p=0)∨∃ y k i,lo=some y∧ev L y=some (.int k i)∧i=(p:Int)) (hhi:(hi=none∧q=l)∨∃ y k i,hi=some y∧ev L y=some (.int k i)∧i=(q:Int)) (hpq:p≤q) (hqc:q≤c):
  Ao P C n ds L o (.slice (if c=p then ao else ao.map (·.add (p * z))) (q - p) (c - p)):=fun a hF w _=>by
 obtain ⟨e,i0,ht,hi0,hz⟩:=EB ht
 have h1:(0:Int)≤(p:Int)∧(p:Int)≤(q:Int):=by omega
 have h2:(0:Int)≤(q:Int)∧(q:Int)≤(c:Int):=by omega
 rcases hlo with ⟨rfl,rfl⟩|⟨y,k,i,rfl,hy,rfl⟩<;>rcases hhi with ⟨rfl,rfl⟩|⟨y',k',i',rfl,hy',rfl⟩
 ·simp only[execOp,ho,Option.map_some,Option.map_none,hF.ev hx];simp[Instr.sliceAt,Instr.slice,run_underlying ht,Instr.sliceBounds,sizeOf,typeInfo,hi0,hz,hpq,hqc,go_sem]<;>(try (intro;omega))
 ·simp only[execOp,ho,Option.map_some,Option.map_none,hF.ev hx,hF.ev hy'];simp[Instr.sliceAt,Instr.slice,run_underlying ht,Instr.sliceBounds,Instr.sliceBound,asIntOf,h2,sizeOf,typeInfo,hi0,hz,hpq,hqc,go_sem]<;>(try (intro;omega))
 ·simp only[execOp,ho,Option.map_some,Option.map_none,hF.ev hx,hF.ev hy];simp[Instr.sliceAt,Instr.slice,run_underlying ht,Instr.sliceBounds,Instr.sliceBound,asIntOf,h1,sizeOf,typeInfo,hi0,hz,hpq,hqc,go_sem]<;>(try (intro;omega))
 ·simp only[execOp,ho,Option.map_some,Option.map_none,hF.ev hx,hF.ev hy,hF.ev hy'];simp[Instr.sliceAt,Instr.slice,run_underlying ht,Instr.sliceBounds,Instr.sliceBound,asIntOf,h1,h2,sizeOf,typeInfo,hi0,hz,hpq,hqc,go_sem]<;>(try (intro;omega))
end
end
section
open Go.RowKit
def Elt (P:Program) (e:TypeId) (z:Value) (sz by_:Nat):Prop:=∃ i,P.info? e=some i∧i.zero=some z∧i.size=sz∧i.bytes=by_∧z.cells.size=sz∧0<sz∧0<by_
theorem Elt.mk {P:Program} {e:TypeId} {z:Value} {sz by_:Nat} (h:(P.info? e).map (fun i=>(i.zero,i.size,i.bytes))=some (some z,sz,by_)) (h1:z.cells.size=sz) (h2:0<sz) (h3:0<by_):Elt P e z sz by_:=by
 cases hi:P.info? e with
 | none=>rw[hi] at h;cases h
 | some i=>
  rw[hi] at h
  simp only[Option.map_some,Option.some.injEq,Prod.mk.injEq] at h
  exact ⟨i,hi,h.1,h.2.1,h.2.2,h1,h2,h3⟩
def Rd (sz:Nat) (v:Value) (n:Nat) (xs:List Value) (w:World):Prop:=
 ∃ ao c,v= .slice ao n c∧n≤c∧c≤9223372036854775807∧xs.length=n * sz∧∀ j u,xs[j]? =some u→At ao j u w
def Um (B:Nat) (e:TypeId) (sz:Nat) (v:Value) (n:Nat) (xs:List Value) (w:World):Prop:=w.ownsRow B e sz v n xs
section
variable {P:Program} {o:Oper} {a:Act} {w:World} {n:Nat} {ds:List Deferred} {L:List (Nat×Value)}
def LH (cs:List Value) (ty:TypeId) (w:World) (v:Value) (w':World):Prop:=∃ b,v= .pointer (some ⟨b,0,none⟩)∧w.heap.size=b∧w'.heap.size=b+1∧Blk b cs ty w'∧Ext No w w'
def PU (cs:List Value) (ty:TypeId) (len:Nat) (w:World) (v:Value) (w':World):Prop:=∃ b,v= .slice (some ⟨b,0,none⟩) len len∧w.heap.size=b∧w'.heap.size=b+1∧Blk b cs ty w'∧Ext No w w'
theorem CQ (w:World) (o:Obj):Ext No w { w with heap:=w.heap.push o } :=⟨rfl,rfl,rfl,by simp,fun k hk _=>by
 show (w.heap.push o)[k]? =_
 rw[Array.getElem?_push,if_neg (by omega)]⟩
theorem NQ (w:World) (cs:List Value) (ty:TypeId):LH cs ty w (.pointer (some ⟨w.heap.size,0,none⟩)) { w with heap:=w.heap.push (.cells cs.toArray ty) } :=
 ⟨_,rfl,rfl,by simp,by show (w.heap.push _)[w.heap.size]? =_;simp,CQ w _⟩
theorem UN (w:World) (cs:List Value) (ty:TypeId) (len:Nat):PU cs ty len w (.slice (some ⟨w.heap.size,0,none⟩) len len) { w with heap:=w.heap.push (.cells cs.toArray ty) } :=
 ⟨_,rfl,rfl,by simp,by show (w.heap.push _)[w.heap.size]? =_;simp,CQ w _⟩
def zeroCells (P:Program) (e:TypeId):Option (Array Value):=((P.info? e).bind (·.zero)).map Value.cells
theorem UO {e:TypeId} {zs:List Value} (ho:o.op= .alloc e) (hz:zeroCells P e=some zs.toArray):B8 P n ds L o w (LH zs e w):=by
 intro a hF
 refine ⟨_,_,?_,NQ w zs e⟩
 unfold zeroCells at hz
 cases hi:P.info? e with
 | none=>rw[hi] at hz;cases hz
 | some i0=>
  rw[hi] at hz
  simp only[Option.bind_some] at hz
  cases hq:i0.zero with
  | none=>rw[hq] at hz;cases hz
  | some z=>
   rw[hq] at hz
   simp only[Option.map_some,Option.some.injEq] at hz
   simp only[execOp,ho]
   simp[Instr.alloc,zeroValue,typeInfo,hi,hq,newVar,newRow,newObj,go_sem,Sem.run]
   rw[←hz];rfl
theorem Ny {ty:TypeId} {b p:Nat} {cs vs:List Value} {t:TypeId} (ht:GT P ty=some vs.length) (hB:Blk b cs t w) (hv:vs=(cs.drop p).take vs.length):(loadVar ty ⟨b,p,none⟩).run P w= .ok (.agg vs.toArray) w:=by
 have hl:=run_loadCells_list (P:=P) w ⟨b,p,none⟩ vs (fun j u hj=>by
  have:=hB.part p vs.length vs hv j u hj
  have e:(Addr.add ⟨b,p,none⟩ j)=⟨b,p+j,none⟩:=by
   unfold Addr.add;split
   ·rename_i h0;simp[h0]
   ·rfl
  rw[e];exact this)
 obtain ⟨hagg,hsz⟩:=LE ht w
 simp only[loadVar,Sem.run_bind,Sem.run_pure,Result.andThen_ok,hagg,if_true,hsz,hl]
theorem YX {e:TypeId} {x:Operand} {v:Value} {cs:List Value} (ho:o.op= .box e x) (hx:ev L x=some v) (hc:v.cells=cs.toArray):B8 P n ds L o w (LH cs e w):=by
 intro a hF
 refine ⟨_,_,?_,NQ w cs e⟩
 simp only[execOp,ho,hF.ev hx]
 simp[Instr.box,newVar,newRow,newObj,go_sem,Sem.run]
 rw[←hc];rfl
theorem AF {C:World→Prop} {t:TypeId} {parts:List (Nat×Operand)} {vs:List (Nat×Value)} {out:List Value} (ho:o.op= .build t parts.toArray)
  (hv:(evs L (parts.map (·.2))).map (List.zip (parts.map (·.1)))=some vs) (hf:P.built t vs=some out.toArray):Ao P C n ds L o (.agg out.toArray):=fun a hF w _=>by
 cases he:evs L (parts.map (·.2)) with
 | none=>rw[he] at hv;cases hv
 | some us=>
  rw[he] at hv
  simp only[Option.map_some,Option.some.injEq] at hv
  have e:=hF.evs he
  have:(parts.map fun x=>(x.1,a.eval x.2))=vs:=by
   rw[←hv,←e,List.map_map]
   clear hv he e hf ho
   induction parts with
   | nil=>rfl
   | cons x xs ih=>simp[ih]
  have hr:=run_build (P:=P) w t vs.toArray out.toArray (by simpa using hf)
  simp only[execOp,ho,List.map_toArray]
  rw[show (List.map (fun x=>match x with|(i,x)=>(i,a.eval x)) parts)=vs from this]
  simp only[Sem.run_bind,hr,Result.andThen_ok,Sem.run_pure]
theorem RJ {x y:Operand} {t e:TypeId} {z:Value} {sz by_ B k m:Nat} {v u:Value} {xs news:List Value} (ho:o.op= .call { callee:= .builtin .append,args:= #[x,y],argTypes:= #[t,t] })
  (ht:P.underlying t=some (.slice e)) (hE:Elt P e z sz by_) (hx:ev L x=some v) (hy:ev L y=some u) (hown:Um B e sz v k xs w) (hsrc:Rd sz u m news w) (h1:∀ c∈news,c.oneCell'=true) (hB:B≤w.heap.size) (hby:(k+m) * by_≤140737488355328):
  B8 P n ds L o w fun v' w'=>Um B e sz v' (k+m) (xs++news) w'∧Ext (fun i=>v.ownBlock=some i) w w'∧(v'.ownBlock=v.ownBlock∨v'.ownBlock=some w.heap.size):=by
 intro a hF
 obtain ⟨i,hi,hz,hs,hb,hzs,hsz,hb0⟩:=hE
 obtain ⟨ao,c,rfl,hmc,_,hl,hrd⟩:=hsrc
 have hexec:∀ r w',(Builtin.append_ #[t,t] o.type #[v,.slice ao m c]).run P w= .ok r w'→(execOp a.eval o).run P w= .ok (.value r) w':=fun r w' h=>by
  simp only[execOp,ho,resolve,invoke,builtin,Sem.run_bind,Sem.run_pure,Result.andThen_ok,List.map_toArray,List.map_cons,List.map_nil,hF.ev hx,hF.ev hy,h]
 have h63:k+m≤maxLen:=by
  have:(k+m) * 1≤(k+m) * by_:=Nat.mul_le_mul_left _ hb0
  unfold maxLen;omega
 have nonews:news=[]→∀ v',v'=v→Um B e sz v' (k+m) (xs++news) w∧Ext (fun i=>v.ownBlock=some i) w w∧(v'.ownBlock=v.ownBlock∨v'.ownBlock=some w.heap.size):=by
  intro hn v' hv'
  subst hv'
  have hm:m=0:=by
   rw[hn] at hl
   simp only[List.length_nil] at hl
   rcases Nat.mul_eq_zero.1 hl.symm with h|h<;>omega
  subst hm
  rw[hn,List.append_nil]
  exact ⟨hown,Ext.refl _ _,.inl rfl⟩
 cases ao with
 | none=>
  have hn:news=[]:=by
   cases news with
   | nil=>rfl
   | cons q qs=>obtain ⟨b,p,hh,_⟩:=hrd 0 q rfl;cases hh
  have hm:m=0:=by
   rw[hn] at hl
   simp only[List.length_nil] at hl
   rcases Nat.mul_eq_zero.1 hl.symm with h|h<;>omega
  subst hm
  refine ⟨v,w,hexec _ _ ?_,nonews hn v rfl⟩
  rcases hown.2 with ⟨rfl,rfl⟩|⟨g,cap,cur,rfl,_,_,hnc,_⟩
  ·simp[Builtin.append_,run_underlying ht,sizeOf,typeInfo,hi,Builtin.lenOf,Builtin.firstCells]
  ·simp[Builtin.append_,run_underlying ht,sizeOf,typeInfo,hi,Builtin.lenOf,Builtin.firstCells,hnc,storeCells]
 | some ad=>
  have hnews:∀ j q,news[j]? =some q→w.cell? (ad.add j)=some q:=fun j q hj=>by
   obtain ⟨b,p,hh,hc⟩:=hrd j q hj
   simp only[Option.some.injEq] at hh
   subst hh
   have e:(Addr.add ⟨b,p,none⟩ j)=⟨b,p+j,none⟩:=by
    unfold Addr.add;split
    ·rename_i h0;simp[h0]
    ·rfl
   rw[e];exact hc
  obtain ⟨v',w',hr,h2,h3,_,h5⟩:=run_append_own_at (P:=P) w B t o.type e i z sz by_ ht hi hz hs hb hzs hsz v k xs hown ad m c news hl hnews h1 h63 hby hB
  exact ⟨v',w',hexec _ _ hr,h2,(Ext.of_grown h3).mono (fun _ _ q=>q.symm),h5⟩
theorem NR {x y:Operand} {t ty:TypeId} {b p:Nat} {cs vs:List Value} {v:Value} (ho:o.op= .store t x y) (hx:ev L x=some (.pointer (some ⟨b,p,none⟩))) (hy:ev L y=some v) (hv:v.cells=vs.toArray) (h1:∀ u∈vs,u.oneCell'=true)
  (hs:(P.info? t).map (·.size)=some vs.length) (hb:Blk b cs ty w) (hp:p+vs.length≤cs.length) {out:List Value} (hout:cs.take p++vs++cs.drop (p+vs.length)=out):
  Du P n ds L o w fun w'=>Blk b out ty w'∧Ext (· =b) w w'∧w'.heap.size=w.heap.size:=by
 intro a hF
 have hst:=run_storeCells_at P b p ty vs 0 cs.toArray w hb (by simpa using hp) h1
 simp only[Nat.add_zero,List.toList_toArray] at hst
 rw[hout] at hst
 refine ⟨_,?_,setRow_heap w b _ _ ty (0,0) hb,⟨rfl,rfl,rfl,by simp,fun k _ hk=>setRow_other w b k _ hk⟩,by simp⟩
 cases hq:P.info? t with
 | none=>rw[hq] at hs;cases hs
 | some i=>
  rw[hq] at hs
  simp only[Option.map_some,Option.some.injEq] at hs
  simp only[execOp,ho,hF.ev hx,hF.ev hy,Instr.storeAt,Instr.sureAddr,storeVar,sizeOf,typeInfo,Sem.run_bind,Sem.run_pure,Result.andThen_ok,hv]
  simp[hq,hs,go_sem,hst]
end
end
section
open Go.RowKit
abbrev Hp:=Nat→Option Obj
abbrev Ae:=Hp→Prop
def Hp.part (h:Hp) (own:Nat→Nat) (i:Nat):Hp:=fun k=>if own k=i then h k else none
def seps (Γ:List Ae):Ae:=fun h=>∃ own:Nat→Nat,∀ (i:Nat) (A:Ae),Γ[i]? =some A→A (h.part own i)
def hp (w:World):Hp:=fun k=>w.heap[k]?
structure Sep (z:World) (Γ:List Ae) (w:World):Prop where
 os:w.os=z.os
 tape:w.tape=z.tape
 output:w.output=z.output
 own:seps Γ (hp w)
def bk (b:Nat) (o:Obj):Ae:=fun h=>h b=some o
def blk (b:Nat) (cs:List Value) (ty:TypeId):Ae:=bk b (.cells cs.toArray ty (0,0))
def base (z:World):Ae:=fun h=>∀ k,k<z.heap.size→h k=z.heap[k]?
def emp:Ae:=fun _=>True
theorem CD {h h':Hp} {own own':Nat→Nat} {i j:Nat} (e:∀ k,own k=i↔own' k=j) (e':∀ k,own k=i→h k=h' k):h.part own i=h'.part own' j:=by
 funext k
 unfold Hp.part
 by_cases q:own k=i
 ·rw[if_pos q,if_pos ((e k).1 q),e' k q]
 ·rw[if_neg q,if_neg (fun q'=>q ((e k).2 q'))]
theorem DI {h:Hp} {own:Nat→Nat} {i k:Nat} {o:Obj} (e:h.part own i k=some o):own k=i∧h k=some o:=by
 unfold Hp.part at e
 split at e
 ·exact ⟨by assumption,e⟩
 ·cases e
/-! ### Which parts,in which order -/
def pos:List Nat→Nat→Option Nat
 | [],_=>none
 | x::xs,y=>if y=x then some 0 else (pos xs y).map (· +1)
theorem ID:∀ (is:List Nat) (y j:Nat),pos is y=some j→is[j]? =some y
 | [],_,_,h=>by simp[pos] at h
 | x::xs,y,j,h=>by
  unfold pos at h
  split at h
  ·rename_i e;simp at h;subst h;simp[e]
  ·cases hp:pos xs y with
   | none=>rw[hp] at h;cases h
   | some q=>rw[hp] at h;simp at h;subst h;simpa using ID xs y q hp
theorem Xe (is:List Nat) (y j:Nat) (h:pos is y=some j):j<is.length:=(List.getElem?_eq_some_iff.1 (ID is y j h)).1
def Fu (n:Nat) (is:List Nat):Bool:=(List.range is.length).all fun j=>match is[j]? with
 | some y=>Nat.blt y n && (match pos is y with|some q=>Nat.beq q j|none=>false)
 | none=>false
theorem PV {n:Nat} {is:List Nat} (h:Fu n is=true) (j y:Nat) (e:is[j]? =some y):y<n∧pos is y=some j:=by
 unfold Fu at h
 rw[List.all_eq_true] at h
 have:=h j (by have:=(List.getElem?_eq_some_iff.1 e).1;simpa using this)
 rw[e] at this
 simp only[Bool.and_eq_true] at this
 obtain ⟨h1,h2⟩:=this
 refine ⟨by simpa using h1,?_⟩
 cases hq:pos is y with
 | none=>rw[hq] at h2;cases h2
 | some q=>rw[hq] at h2;simp at h2;rw[h2]
def C6 (Γ:List Ae):List Nat→List Ae
 | []=>[]
 | i::is=>(match Γ[i]? with|some A=>A|none=>emp)::C6 Γ is
theorem Ky (Γ:List Ae):∀ (is:List Nat) (j:Nat) (A:Ae),(C6 Γ is)[j]? =some A→∃ i,is[j]? =some i∧(Γ[i]? =some A∨A=emp)
 | [],_,_,h=>by simp[C6] at h
 | i::is,0,A,h=>by
  simp only[C6,List.getElem?_cons_zero,Option.some.injEq] at h
  refine ⟨i,rfl,?_⟩
  cases hi:Γ[i]? with
  | none=>rw[hi] at h;exact .inr h.symm
  | some B=>rw[hi] at h;exact .inl (congrArg some h)
 | i::is,j+1,A,h=>by
  simp only[C6,List.getElem?_cons_succ] at h
  obtain ⟨q,hq,hA⟩:=Ky Γ is j A h
  exact ⟨q,by simpa using hq,hA⟩
theorem picks_len (Γ:List Ae):∀ is:List Nat,(C6 Γ is).length=is.length
 | []=>rfl
 | _::is=>by simp[C6,picks_len Γ is]
theorem Kz {Γ:List Ae} {h:Hp} (hs:seps Γ h) (n:Nat) (is:List Nat) (hok:Fu n is=true):seps (C6 Γ is++Γ.drop n) h:=by
 obtain ⟨own,hown⟩:=hs
 refine ⟨fun k=>if own k<n then (match pos is (own k) with|some j=>j|none=>is.length+Γ.length) else is.length+(own k - n),fun j A hA=> ?_⟩
 rcases Nat.lt_or_ge j is.length with hj|hj
 ·rw[List.getElem?_append_left (by rw[picks_len];exact hj)] at hA
  obtain ⟨i,hi,hA⟩:=Ky Γ is j A hA
  obtain ⟨hin,hpi⟩:=PV hok j i hi
  rcases hA with hA|rfl
  ·have:=hown i A hA
   rw[CD (h':=h) (own':=fun k=>if own k<n then (match pos is (own k) with|some j=>j|none=>is.length+Γ.length) else is.length+(own k - n)) (j:=j) (fun k=> ?_) (fun _ _=>rfl)] at this
   ·exact this
   ·constructor
    ·intro e;subst e;simp[hin,hpi]
    ·intro e
     split at e
     ·cases hp:pos is (own k) with
      | none=>rw[hp] at e;simp at e;omega
      | some q=>rw[hp] at e;simp at e;subst e;have:=ID _ _ _ hp;rw[hi] at this;simpa using this.symm
     ·omega
  ·trivial
 ·rw[List.getElem?_append_right (by rw[picks_len];exact hj),picks_len,List.getElem?_drop] at hA
  have:=hown _ A hA
  have hlen:=(List.getElem?_eq_some_iff.1 hA).1
  rw[CD (h':=h) (own':=fun k=>if own k<n then (match pos is (own k) with|some j=>j|none=>is.length+Γ.length) else is.length+(own k - n)) (j:=j) (fun k=> ?_) (fun _ _=>rfl)] at this
  ·exact this
  ·constructor
   ·intro e;rw[if_neg (by omega)];omega
   ·intro e
    split at e
    ·cases hp:pos is (own k) with
     | none=>rw[hp] at e;simp at e;omega
     | some q=>rw[hp] at e;simp at e;have:=Xe _ _ _ hp;omega
    ·omega
theorem Hw {As Γ:List Ae} {h:Hp} (hs:seps (seps As::Γ) h):seps (As++Γ) h:=by
 obtain ⟨own,hown⟩:=hs
 obtain ⟨ownA,hA⟩:=hown 0 _ rfl
 refine ⟨fun k=>if own k=0 then (if ownA k<As.length then ownA k else As.length+Γ.length) else As.length+(own k - 1),fun j A hj=> ?_⟩
 rcases Nat.lt_or_ge j As.length with hl|hl
 ·rw[List.getElem?_append_left hl] at hj
  have:=hA j A hj
  have e:(h.part own 0).part ownA j=h.part (fun k=>if own k=0 then (if ownA k<As.length then ownA k else As.length+Γ.length) else As.length+(own k - 1)) j:=by
   funext k
   unfold Hp.part
   dsimp only
   by_cases q:own k=0
   ·by_cases q':ownA k=j
    ·simp[q,q',hl]
    ·have:¬ (if ownA k<As.length then ownA k else As.length+Γ.length)=j:=by split<;>omega
     simp[q,q',this]
   ·have:¬ As.length+(own k - 1)=j:=by omega
    simp[q,this]
  rwa[e] at this
 ·rw[List.getElem?_append_right hl] at hj
  have hjl:=(List.getElem?_eq_some_iff.1 hj).1
  have:=hown (j - As.length+1) A (by simpa using hj)
  rw[CD (h':=h) (own':=fun k=>if own k=0 then (if ownA k<As.length then ownA k else As.length+Γ.length) else As.length+(own k - 1)) (j:=j) (fun k=> ?_) (fun _ _=>rfl)] at this
  ·exact this
  ·constructor
   ·intro e;rw[if_neg (by omega)];omega
   ·intro e
    split at e
    ·split at e<;>omega
    ·omega
theorem KA {As Γ:List Ae} {h:Hp} (hs:seps (As++Γ) h):seps (seps As::Γ) h:=by
 obtain ⟨own,hown⟩:=hs
 refine ⟨fun k=>if own k<As.length then 0 else own k - As.length+1,fun j A hj=> ?_⟩
 cases j with
 | zero=>
  simp only[List.getElem?_cons_zero,Option.some.injEq] at hj
  subst hj
  refine ⟨own,fun i A hi=> ?_⟩
  have hil:=(List.getElem?_eq_some_iff.1 hi).1
  have:=hown i A (by rw[List.getElem?_append_left hil];exact hi)
  have e:h.part own i=(h.part (fun k=>if own k<As.length then 0 else own k - As.length+1) 0).part own i:=by
   funext k
   unfold Hp.part
   dsimp only
   by_cases q:own k=i
   ·simp[q,hil]
   ·simp[q]
  rwa[e] at this
 | succ j=>
  simp only[List.getElem?_cons_succ] at hj
  have:=hown (As.length+j) A (by rw[List.getElem?_append_right (by omega)];simpa using hj)
  rw[CD (h':=h) (own':=fun k=>if own k<As.length then 0 else own k - As.length+1) (j:=j+1) (fun k=> ?_) (fun _ _=>rfl)] at this
  ·exact this
  ·constructor
   ·intro e;rw[if_neg (by omega)];omega
   ·intro e;split at e<;>omega
theorem Dq {As Bs:List Ae} {h:Hp} (hs:seps (As++Bs) h):seps (Bs++As) h:=by
 obtain ⟨own,hown⟩:=hs
 refine ⟨fun k=>if own k<As.length then own k+Bs.length else if own k<As.length+Bs.length then own k - As.length else own k,fun j A hj=> ?_⟩
 rcases Nat.lt_or_ge j Bs.length with hl|hl
 ·rw[List.getElem?_append_left hl] at hj
  have:=hown (As.length+j) A (by rw[List.getElem?_append_right (by omega)];simpa using hj)
  rw[CD (h':=h) (own':=fun k=>if own k<As.length then own k+Bs.length else if own k<As.length+Bs.length then own k - As.length else own k) (j:=j) (fun k=> ?_) (fun _ _=>rfl)] at this
  ·exact this
  ·constructor
   ·intro e;rw[if_neg (by omega),if_pos (by omega)];omega
   ·intro e;split at e
    ·omega
    ·split at e<;>omega
 ·rw[List.getElem?_append_right hl] at hj
  have hjl:=(List.getElem?_eq_some_iff.1 hj).1
  have:=hown (j - Bs.length) A (by rw[List.getElem?_append_left hjl];exact hj)
  rw[CD (h':=h) (own':=fun k=>if own k<As.length then own k+Bs.length else if own k<As.length+Bs.length then own k - As.length else own k) (j:=j) (fun k=> ?_) (fun _ _=>rfl)] at this
  ·exact this
  ·constructor
   ·intro e;rw[if_pos (by omega)];omega
   ·intro e;split at e
    ·omega
    ·split at e<;>omega
theorem UP {Γ:List Ae} {h:Hp} (hs:seps Γ h) (i:Nat) {A:Ae} (hA:Γ[i]? =some A) {σ:Type} {B:σ→Ae} (hB:∀ h',(∀ k o,h' k=some o→h k=some o)→A h'→∃ x,B x h'):∃ x,seps (Γ.set i (B x)) h:=by
 obtain ⟨own,hown⟩:=hs
 obtain ⟨x,hx⟩:=hB _ (fun k o e=>(DI e).2) (hown i A hA)
 refine ⟨x,own,fun j C hj=> ?_⟩
 rw[List.getElem?_set] at hj
 split at hj
 ·rename_i e;subst e
  split at hj
  ·cases hj;exact hx
  ·cases hj
 ·exact hown j C hj
/-! ### The same of a world -/
section
variable {z w:World} {Γ:List Ae}
theorem Sep.same {w':World} (H:Sep z Γ w) (h1:w'.os=w.os) (h2:w'.tape=w.tape) (h3:w'.output=w.output) (h4:∀ k:Nat,w'.heap[k]? =w.heap[k]?):Sep z Γ w':=
 ⟨h1.trans H.os,h2.trans H.tape,h3.trans H.output,(show hp w'=hp w from funext h4)▸H.own⟩
theorem Sep.drew (H:Sep z Γ w):Sep z Γ w.drew:=H.same rfl rfl rfl fun _=>rfl
theorem Sep.pick (n:Nat) (is:List Nat) (H:Sep z Γ w) (hok:Fu n is=true):Sep z (C6 Γ is++Γ.drop n) w:=⟨H.os,H.tape,H.output,Kz H.own n is hok⟩
theorem Sep.perm (n:Nat) (is:List Nat) {Γ':List Ae} (H:Sep z Γ w) (hok:Fu n is=true) (e:C6 Γ is++Γ.drop n=Γ'):Sep z Γ' w:=e▸H.pick n is hok
theorem Sep.opened {As:List Ae} (H:Sep z (seps As::Γ) w):Sep z (As++Γ) w:=⟨H.os,H.tape,H.output,Hw H.own⟩
theorem Sep.shut {As:List Ae} (H:Sep z (As++Γ) w):Sep z (seps As::Γ) w:=⟨H.os,H.tape,H.output,KA H.own⟩
theorem Sep.swap {As Bs:List Ae} (H:Sep z (As++Bs) w):Sep z (Bs++As) w:=⟨H.os,H.tape,H.output,Dq H.own⟩
theorem Sep.front {As Bs:List Ae} (H:Sep z (As++Bs) w):Sep z As w:=by
 have h1:=H.swap
 have:seps As (hp w):=by
  obtain ⟨own,ho⟩:=h1.own
  refine ⟨fun k=>if own k<Bs.length then As.length else own k - Bs.length,fun j A hj=> ?_⟩
  have hjl:=(List.getElem?_eq_some_iff.1 hj).1
  have:=ho (Bs.length+j) A (by rw[List.getElem?_append_right (by omega)];simpa using hj)
  rwa[CD (h':=hp w) (own':=fun k=>if own k<Bs.length then As.length else own k - Bs.length) (j:=j) (fun k=>⟨fun e=>by rw[if_neg (by omega)];omega,fun e=>by split at e<;>omega⟩) (fun _ _=>rfl)] at this
 exact ⟨H.os,H.tape,H.output,this⟩
theorem Sep.ex (i:Nat) {A:Ae} {σ:Type} {B:σ→Ae} (H:Sep z Γ w) (hA:Γ[i]? =some A) (hB:∀ h,A h→∃ x,B x h):∃ x,Sep z (Γ.set i (B x)) w:=by
 obtain ⟨x,hx⟩:=UP H.own i hA (fun h _ q=>hB h q)
 exact ⟨x,H.os,H.tape,H.output,hx⟩
theorem Sep.mono (i:Nat) {A B:Ae} (H:Sep z Γ w) (hA:Γ[i]? =some A) (hB:∀ h,A h→B h):Sep z (Γ.set i B) w:=by
 obtain ⟨_,hx⟩:=H.ex i (σ:=Unit) (B:=fun _=>B) hA (fun h q=>⟨(),hB h q⟩)
 exact hx
theorem Sep.exAt (i:Nat) {A:Ae} {σ:Type} {p:σ→Prop} {B:σ→Ae} (H:Sep z Γ w) (hA:Γ[i]? =some A) (hB:∀ h,A h→∃ x,p x∧B x h):∃ x,p x∧Sep z (Γ.set i (B x)) w:=by
 obtain ⟨⟨x,hp⟩,hx⟩:=H.ex i (σ:= { x:σ // p x }) (B:=fun x=>B x.1) hA (fun h q=>by obtain ⟨x,h1,h2⟩:=hB h q;exact ⟨⟨x,h1⟩,h2⟩)
 exact ⟨x,hp,hx⟩
theorem Sep.into {σ:Type} {A:Ae} {p:σ→Prop} {As:σ→List Ae} (H:Sep z (A::Γ) w) (hA:∀ h,A h→∃ x,p x∧seps (As x) h):∃ x,p x∧Sep z (As x++Γ) w:=by
 obtain ⟨⟨x,hp⟩,hx⟩:=H.ex 0 (σ:= { x:σ // p x }) (B:=fun x=>seps (As x.1)) rfl (fun h q=>by obtain ⟨x,h1,h2⟩:=hA h q;exact ⟨⟨x,h1⟩,h2⟩)
 exact ⟨x,hp,hx.opened⟩
theorem Sep.made (n:Nat) {A:Ae} (H:Sep z Γ w) (hA:∀ h,seps (Γ.take n) h→A h):Sep z (A::Γ.drop n) w:=by
 have:Sep z (Γ.take n++Γ.drop n) w:=by rw[List.take_append_drop];exact H
 exact this.shut.mono 0 rfl hA
theorem Sep.get (i:Nat) {A:Ae} (H:Sep z Γ w) (hA:Γ[i]? =some A):∃ h,A h∧∀ k o,h k=some o→w.heap[k]? =some o:=by
 obtain ⟨own,hown⟩:=H.own
 exact ⟨_,hown i A hA,fun k o e=>(DI e).2⟩
theorem Sep.bk (i:Nat) {b:Nat} {o:Obj} (H:Sep z Γ w) (hA:Γ[i]? =some (bk b o)):w.heap[b]? =some o:=by
 obtain ⟨h,h1,h2⟩:=H.get i hA
 exact h2 _ _ h1
theorem Sep.blk (i:Nat) {b:Nat} {cs:List Value} {ty:TypeId} (H:Sep z Γ w) (hA:Γ[i]? =some (blk b cs ty)):Blk b cs ty w:=H.bk i hA
theorem Sep.cel (i:Nat) {b:Nat} {cs:List Value} {ty:TypeId} (H:Sep z Γ w) (hA:Γ[i]? =some (YtjegbnfpodadcaaGreatDoor.blk b cs ty)) (o:Nat) {v:Value} (hv:cs[o]? =some v):Ga b o v w:=(H.blk i hA).cel o hv
theorem Sep.write (i:Nat) {b:Nat} {o o':Obj} {w':World} (H:Sep z Γ w) (hA:Γ[i]? =some (YtjegbnfpodadcaaGreatDoor.bk b o)) (h1:w'.os=w.os) (h2:w'.tape=w.tape) (h3:w'.output=w.output)
  (hb:w'.heap[b]? =some o') (hk:∀ k,k≠b→w'.heap[k]? =w.heap[k]?):Sep z (Γ.set i (YtjegbnfpodadcaaGreatDoor.bk b o')) w':=by
 refine ⟨h1.trans H.os,h2.trans H.tape,h3.trans H.output,?_⟩
 obtain ⟨own,hown⟩:=H.own
 have hbi:=(DI (hown i _ hA)).1
 refine ⟨own,fun j C hj=> ?_⟩
 rw[List.getElem?_set] at hj
 split at hj
 ·rename_i e;subst e
  split at hj
  ·cases hj
   unfold YtjegbnfpodadcaaGreatDoor.bk Hp.part hp
   rw[if_pos hbi,hb]
  ·cases hj
 ·rename_i e
  have:=hown j C hj
  have e':(hp w).part own j=(hp w').part own j:=CD (fun _=>Iff.rfl) (fun k hkj=>(hk k (fun q=>e (by rw[←hkj,q,hbi]))).symm)
  rwa[e'] at this
theorem Sep.grow {A:Ae} {w':World} (H:Sep z Γ w) (x:Ext No w w') (hA:A (fun k=>if k<w.heap.size then none else w'.heap[k]?)):Sep z (A::Γ) w':=by
 refine ⟨x.os.trans H.os,x.tape.trans H.tape,x.output.trans H.output,?_⟩
 obtain ⟨own,hown⟩:=H.own
 refine ⟨fun k=>if k<w.heap.size then own k+1 else 0,fun j C hj=> ?_⟩
 cases j with
 | zero=>
  simp only[List.getElem?_cons_zero,Option.some.injEq] at hj
  subst hj
  have e:(hp w').part (fun k=>if k<w.heap.size then own k+1 else 0) 0=fun k=>if k<w.heap.size then none else w'.heap[k]? :=by
   funext k
   unfold Hp.part hp
   dsimp only
   by_cases q:k<w.heap.size
   ·simp[q]
   ·simp[q]
  rw[e];exact hA
 | succ j=>
  simp only[List.getElem?_cons_succ] at hj
  have:=hown j C hj
  have e:(hp w').part (fun k=>if k<w.heap.size then own k+1 else 0) (j+1)=(hp w).part own j:=by
   funext k
   unfold Hp.part hp
   dsimp only
   by_cases q:k<w.heap.size
   ·simp only[q,if_true,Nat.add_right_cancel_iff]
    by_cases q':own k=j
    ·simp only[q',if_true];exact x.block k q (fun r=>r)
    ·simp[q']
   ·have:w.heap[k]? =none:=Array.getElem?_eq_none (by omega)
    simp[q,this]
  rwa[e]
theorem Sep.ext0 {w':World} (H:Sep z Γ w) (x:Ext No w w'):Sep z Γ w':=by
 have:=H.grow (A:=emp) x trivial
 have:=this.perm 1 [] (Γ':=Γ) rfl rfl
 exact this
theorem Bc {K:World→Prop} (H:Sep z Γ w) (h:∀ w,Sep z Γ w→K w):∀ w',Ext No w w'→w'.heap.size=w.heap.size→K w':=fun w' x _=>h w' (H.ext0 x)
theorem Sep.new {b:Nat} {o:Obj} {w':World} (H:Sep z Γ w) (x:Ext No w w') (hb:w.heap.size≤b) (ho:w'.heap[b]? =some o):Sep z (YtjegbnfpodadcaaGreatDoor.bk b o::Γ) w':=
 H.grow x (show (if b<w.heap.size then none else w'.heap[b]?)=some o by rw[if_neg (by omega)];exact ho)
theorem Sep.done (i:Nat) (H:Sep z Γ w) (hA:Γ[i]? =some (base z)):Ext No z w:=by
 obtain ⟨h,h1,h2⟩:=H.get i hA
 have key:∀ k,k<z.heap.size→w.heap[k]? =z.heap[k]? :=fun k hk=>by
  have e:z.heap[k]? =some z.heap[k]:=Array.getElem?_eq_getElem hk
  rw[e];exact h2 k _ ((h1 k hk).trans e)
 refine ⟨H.os,H.tape,H.output,?_,fun k hk _=>key k hk⟩
 rcases Nat.lt_or_ge w.heap.size z.heap.size with q|q
 ·have:=key w.heap.size q
  rw[Array.getElem?_eq_none (Nat.le_refl _),Array.getElem?_eq_getElem q] at this
  cases this
 ·exact q
end
/-! ### parts,in their order -/
section
variable {z w:World} {Γ:List Ae} {a0 a1 a2 a3 a4 a5 a6 a7 a8 a9 a10 a11 a12 a13 a14 a15 a16 a17 a18 a19 a20 a21 a22 a23 a24 a25 a26:Ae}
theorem Sep.l1 (H:Sep z (a0::Γ) w):Sep z (a0::Γ) w:=H
theorem Sep.l2 (H:Sep z (a0::a1::Γ) w):Sep z (a0::a1::Γ) w:=H
theorem Sep.l3 (H:Sep z (a0::a1::a2::Γ) w):Sep z (a0::a1::a2::Γ) w:=H
theorem Sep.l4 (H:Sep z (a0::a1::a2::a3::Γ) w):Sep z (a0::a1::a2::a3::Γ) w:=H
theorem Sep.l5 (H:Sep z (a0::a1::a2::a3::a4::Γ) w):Sep z (a0::a1::a2::a3::a4::Γ) w:=H
theorem Sep.l6 (H:Sep z (a0::a1::a2::a3::a4::a5::Γ) w):Sep z (a0::a1::a2::a3::a4::a5::Γ) w:=H
theorem Sep.l7 (H:Sep z (a0::a1::a2::a3::a4::a5::a6::Γ) w):Sep z (a0::a1::a2::a3::a4::a5::a6::Γ) w:=H
theorem Sep.l8 (H:Sep z (a0::a1::a2::a3::a4::a5::a6::a7::Γ) w):Sep z (a0::a1::a2::a3::a4::a5::a6::a7::Γ) w:=H
theorem Sep.l9 (H:Sep z (a0::a1::a2::a3::a4::a5::a6::a7::a8::Γ) w):Sep z (a0::a1::a2::a3::a4::a5::a6::a7::a8::Γ) w:=H
theorem Sep.l10 (H:Sep z (a0::a1::a2::a3::a4::a5::a6::a7::a8::a9::Γ) w):Sep z (a0::a1::a2::a3::a4::a5::a6::a7::a8::a9::Γ) w:=H
theorem Sep.l11 (H:Sep z (a0::a1::a2::a3::a4::a5::a6::a7::a8::a9::a10::Γ) w):Sep z (a0::a1::a2::a3::a4::a5::a6::a7::a8::a9::a10::Γ) w:=H
theorem Sep.l12 (H:Sep z (a0::a1::a2::a3::a4::a5::a6::a7::a8::a9::a10::a11::Γ) w):Sep z (a0::a1::a2::a3::a4::a5::a6::a7::a8::a9::a10::a11::Γ) w:=H
theorem Sep.l13 (H:Sep z (a0::a1::a2::a3::a4::a5::a6::a7::a8::a9::a10::a11::a12::Γ) w):Sep z (a0::a1::a2::a3::a4::a5::a6::a7::a8::a9::a10::a11::a12::Γ) w:=H
theorem Sep.l14 (H:Sep z (a0::a1::a2::a3::a4::a5::a6::a7::a8::a9::a10::a11::a12::a13::Γ) w):Sep z (a0::a1::a2::a3::a4::a5::a6::a7::a8::a9::a10::a11::a12::a13::Γ) w:=H
theorem Sep.l15 (H:Sep z (a0::a1::a2::a3::a4::a5::a6::a7::a8::a9::a10::a11::a12::a13::a14::Γ) w):Sep z (a0::a1::a2::a3::a4::a5::a6::a7::a8::a9::a10::a11::a12::a13::a14::Γ) w:=H
theorem Sep.l16 (H:Sep z (a0::a1::a2::a3::a4::a5::a6::a7::a8::a9::a10::a11::a12::a13::a14::a15::Γ) w):Sep z (a0::a1::a2::a3::a4::a5::a6::a7::a8::a9::a10::a11::a12::a13::a14::a15::Γ) w:=H
theorem Sep.l17 (H:Sep z (a0::a1::a2::a3::a4::a5::a6::a7::a8::a9::a10::a11::a12::a13::a14::a15::a16::Γ) w):Sep z (a0::a1::a2::a3::a4::a5::a6::a7::a8::a9::a10::a11::a12::a13::a14::a15::a16::Γ) w:=H
theorem Sep.l19 (H:Sep z (a0::a1::a2::a3::a4::a5::a6::a7::a8::a9::a10::a11::a12::a13::a14::a15::a16::a17::a18::Γ) w):Sep z (a0::a1::a2::a3::a4::a5::a6::a7::a8::a9::a10::a11::a12::a13::a14::a15::a16::a17::a18::Γ) w:=H
theorem Sep.f1 (H:Sep z (a0::a1::Γ) w):Sep z (a1::a0::Γ) w:=H.pick 2 [1,0] rfl
theorem Sep.f2 (H:Sep z (a0::a1::a2::Γ) w):Sep z (a2::a0::a1::Γ) w:=H.pick 3 [2,0,1] rfl
theorem Sep.f3 (H:Sep z (a0::a1::a2::a3::Γ) w):Sep z (a3::a0::a1::a2::Γ) w:=H.pick 4 [3,0,1,2] rfl
theorem Sep.f4 (H:Sep z (a0::a1::a2::a3::a4::Γ) w):Sep z (a4::a0::a1::a2::a3::Γ) w:=H.pick 5 [4,0,1,2,3] rfl
theorem Sep.f5 (H:Sep z (a0::a1::a2::a3::a4::a5::Γ) w):Sep z (a5::a0::a1::a2::a3::a4::Γ) w:=H.pick 6 [5,0,1,2,3,4] rfl
theorem Sep.f6 (H:Sep z (a0::a1::a2::a3::a4::a5::a6::Γ) w):Sep z (a6::a0::a1::a2::a3::a4::a5::Γ) w:=H.pick 7 [6,0,1,2,3,4,5] rfl
theorem Sep.f7 (H:Sep z (a0::a1::a2::a3::a4::a5::a6::a7::Γ) w):Sep z (a7::a0::a1::a2::a3::a4::a5::a6::Γ) w:=H.pick 8 [7,0,1,2,3,4,5,6] rfl
theorem Sep.f8 (H:Sep z (a0::a1::a2::a3::a4::a5::a6::a7::a8::Γ) w):Sep z (a8::a0::a1::a2::a3::a4::a5::a6::a7::Γ) w:=H.pick 9 [8,0,1,2,3,4,5,6,7] rfl
theorem Sep.f9 (H:Sep z (a0::a1::a2::a3::a4::a5::a6::a7::a8::a9::Γ) w):Sep z (a9::a0::a1::a2::a3::a4::a5::a6::a7::a8::Γ) w:=H.pick 10 [9,0,1,2,3,4,5,6,7,8] rfl
theorem Sep.f10 (H:Sep z (a0::a1::a2::a3::a4::a5::a6::a7::a8::a9::a10::Γ) w):Sep z (a10::a0::a1::a2::a3::a4::a5::a6::a7::a8::a9::Γ) w:=H.pick 11 [10,0,1,2,3,4,5,6,7,8,9] rfl
theorem Sep.f13 (H:Sep z (a0::a1::a2::a3::a4::a5::a6::a7::a8::a9::a10::a11::a12::a13::Γ) w):Sep z (a13::a0::a1::a2::a3::a4::a5::a6::a7::a8::a9::a10::a11::a12::Γ) w:=H.pick 14 [13,0,1,2,3,4,5,6,7,8,9,10,11,12] rfl
theorem Sep.f14 (H:Sep z (a0::a1::a2::a3::a4::a5::a6::a7::a8::a9::a10::a11::a12::a13::a14::Γ) w):Sep z (a14::a0::a1::a2::a3::a4::a5::a6::a7::a8::a9::a10::a11::a12::a13::Γ) w:=H.pick 15 [14,0,1,2,3,4,5,6,7,8,9,10,11,12,13] rfl
theorem Sep.l0 (H:Sep z Γ w):Sep z Γ w:=H
theorem Sep.d (H:Sep z (a0::Γ) w):Sep z Γ w:=H.pick 1 [] rfl
end
/-! ### What a function does -/
def Cn (P:Program) (f:FuncId) (args:List Value) (pre:List Ae) (post:Value→List Ae→Prop):Prop:=
 ∀ z R w,Sep z (pre++R) w→Calls P f args.toArray w (Ret fun v w'=>∃ Γ',post v Γ'∧Sep z (Γ'++R) w')
theorem Cn.mono {P:Program} {f:FuncId} {args:List Value} {pre:List Ae} {post post':Value→List Ae→Prop} (h:Cn P f args pre post) (hp:∀ v Γ,post v Γ→post' v Γ):Cn P f args pre post':=
 fun z R w H=>Ret.mono (h z R w H) fun _ _ ⟨Γ',q,H'⟩=>⟨Γ',hp _ _ q,H'⟩
theorem Al {n:Nat} {ds:List Deferred} {L:List (Nat×Value)} {K:Act→Prop} (t:Nat) {v u:Value} (ht:Cp L t=some u) (e:u=v) (h:∀ a,Fr n ds ((t,v)::L) a→K a):∀ a,Fr n ds L a→K a:=fun a hF=>h a (hF.upd t ht e)
theorem ZD {n:Nat} {ds:List Deferred} {L:List (Nat×Value)} {K:Act→Prop} (t:Nat) {p:Prop} {ip:Decidable p} (ht:Cp L t=some (.bool (@decide p ip))) (e: @decide p ip=false) (h:∀ a,Fr n ds ((t,.bool false)::L) a→K a):∀ a,Fr n ds L a→K a:=Al t ht (congrArg _ e) h
end
section
open Go.RowKit
section more
variable {P:Program} {o:Oper} {a:Act} {w:World} {n:Nat} {ds:List Deferred} {L:List (Nat×Value)}
theorem LI {t:TypeId} {e:TypeId} {z:Value} {len sz by_:Nat} {parts:List (Nat×Operand)} {vs:List (Nat×Value)} {out:List Value} (ho:o.op= .buildSlice t len parts.toArray) (ht:P.underlying t=some (.slice e)) (hE:Elt P e z sz by_)
  (hv:(evs L (parts.map (·.2))).map (List.zip (parts.map (·.1)))=some vs) (hsm:len * sz≤16777216) (hl:0<len) (hf:Instr.fill (fun i=>some (i * sz,sz)) ((Array.range (len * sz)).map (z.cells[· % z.cells.size]!)) vs=some out.toArray):B8 P n ds L o w (PU out e len w):=by
 intro a hF
 obtain ⟨i,hi,hz,hs,hb,hzs,hsz,hb0⟩:=hE
 refine ⟨_,_,?_,UN w out e len⟩
 cases he:evs L (parts.map (·.2)) with
 | none=>rw[he] at hv;cases hv
 | some us=>
  rw[he] at hv
  simp only[Option.map_some,Option.some.injEq] at hv
  have e2:=hF.evs he
  have:(parts.map fun x=>(x.1,a.eval x.2))=vs:=by
   rw[←hv,←e2,List.map_map]
   clear hv he e2 hf ho
   induction parts with
   | nil=>rfl
   | cons x xs ih=>simp[ih]
  simp only[execOp,ho,List.map_toArray]
  rw[show (List.map (fun x=>match x with|(i,x)=>(i,a.eval x)) parts)=vs from this]
  have hne:len * sz≠0:=by
   intro h0
   rcases Nat.mul_eq_zero.1 h0 with h|h<;>omega
  have hcap:¬ len * sz > 2 ^ 24:=by omega
  have hzv:∀ w,(zeroValue e).run P w= .ok z w:=fun w=>by simp[zeroValue,typeInfo,hi,hz,go_sem]
  have hso:∀ w,(sizeOf e).run P w= .ok sz w:=fun w=>by simp[sizeOf,typeInfo,hi,hs,go_sem]
  simp only[Instr.buildSlice,Sem.run_bind,run_underlying ht,Result.andThen_ok,hso,if_neg hcap,Sem.run_pure,if_neg hne,hzv,hf,newRow,newObj,Sem.run]
end more
section tail
variable {P:Program} {ops:List Oper} {Q:Act→Prop} {a:Act} {w:World} {rest:List Oper} {o:Oper} {n d:Nat} {ds:List Deferred} {L:List (Nat×Value)} {v:Value}
theorem Cd (hw:BC ops L o.guard=true) (hd:o.dst=some d) (hlt:Nat.blt d n=true) (hdo:Ao P (· =w) n ds L o v) (K:∀ a',Fr n ds ((d,v)::L) a'→wpStill P ops.toArray w Q rest a'):∀ a,Fr n ds L a→wpStill P ops.toArray w Q (o::rest) a:=fun a hF=>
 wpStill_step fun K' hK=>by
  rw[if_pos (wantL_ok hF hw)]
  unfold Oper.still
  rw[hdo a hF w rfl,Oper.stillUpon_value,hd]
  exact hK _ (K _ (hF.put d v hlt))
theorem PW (hw:El ops L o.guard=true) (hd:o.dst=some d) (hlt:Nat.blt d n=true) (K:∀ a',Fr n ds ((d,undef)::L) a'→wpStill P ops.toArray w Q rest a'):∀ a,Fr n ds L a→wpStill P ops.toArray w Q (o::rest) a:=fun a hF=>
 wpStill_step fun K' hK=>by
  rw[if_neg (by rw[skipL_ok hF hw];exact Bool.false_ne_true),hd]
  exact hK _ (K _ (hF.put d undef hlt))
theorem Cy (h:∀ a,Fr n ds L a→Q a):∀ a,Fr n ds L a→wpStill P ops.toArray w Q [] a:=h
theorem BI {id:Nat} {N R:Act→World→Prop} {X:Nat→Act→World→Prop} (k:Nat) (hm:P.follows .mixedOrders=true) (hB:Region.lexTailB .any ops.toArray k=true)
  (h:∀ w',Ext No w w'→w'.heap.size=w.heap.size→∀ a,Fr n ds L a→wpStill P ops.toArray w' (fun a'=>wpList P ops.toArray (Qp N X R) (ops.drop k) a' w') (ops.take k) a):∀ a,Fr n ds L a→(Code.region id ops.toArray true).wp P (Qp N X R) a w:=fun a hF=>
 wp_region_still_tail k hm hB (h _ (Ext.drawn No w) rfl a hF)
end tail
section held
variable {P:Program} {ops:List Oper} {N R:Act→World→Prop} {X:Nat→Act→World→Prop} {S:World→Prop} {a:Act} {w:World} {fuel:Nat} {listed:Array Bool} {n d i:Nat} {ds:List Deferred} {L:List (Nat×Value)} {v:Value} {o:Oper}
theorem AI {id:Nat} (S:World→Prop) (k:Nat) (hk:ops.length=k) (hm:P.follows .mixedOrders=true)
  (h:∀ w',Ext No w w'→w'.heap.size=w.heap.size→∀ a,Fr n ds L a→wpAnyH P .any ops.toArray (Qp N X R) S k (Array.replicate k false) a w'):∀ a,Fr n ds L a→(Code.region id ops.toArray true).wp P (Qp N X R) a w:=fun a hF=>
 wp_region_held (S:=S) hm (by have:=h _ (Ext.drawn No w) rfl a hF;simpa [hk] using this)
theorem B4 (i:Nat) (hi:ops[i]? =some o) (hs:Region.noSelect ops.toArray=true) (hf:Region.free .any ops.toArray listed i=true) (hr:(Region.ready .any ops.toArray listed).contains i=true)
  (hw:BC ops L o.guard=true) (hd:o.dst=some d) (hlt:Nat.blt d n=true) (hdo:Ao P S n ds L o v) (hS:S w)
  (K:∀ a',Fr n ds ((d,v)::L) a'→wpAnyH P .any ops.toArray (Qp N X R) S fuel (listed.setIfInBounds i true) a' w):∀ a,Fr n ds L a→wpAnyH P .any ops.toArray (Qp N X R) S (fuel+1) listed a w:=fun a hF=>
 wpAnyH_take (i:=i) (oi:=o) (v:=v) (by simpa using hi) hs hf hr (fun _ _ _ h=>h.elim) (.inl ⟨wantL_ok hF hw,fun w' h=>hdo a hF w' h⟩) hS (by rw[hd];exact K _ (hF.put d v hlt))
theorem PX (i:Nat) (hi:ops[i]? =some o) (hs:Region.noSelect ops.toArray=true) (hf:Region.free .any ops.toArray listed i=true) (hr:(Region.ready .any ops.toArray listed).contains i=true)
  (hw:El ops L o.guard=true) (hd:o.dst=some d) (hlt:Nat.blt d n=true) (hS:S w)
  (K:∀ a',Fr n ds ((d,undef)::L) a'→wpAnyH P .any ops.toArray (Qp N X R) S fuel (listed.setIfInBounds i true) a' w):∀ a,Fr n ds L a→wpAnyH P .any ops.toArray (Qp N X R) S (fuel+1) listed a w:=fun a hF=>
 wpAnyH_take (i:=i) (oi:=o) (v:=undef) (by simpa using hi) hs hf hr (fun _ _ _ h=>h.elim) (.inr ⟨skipL_ok hF hw,rfl⟩) hS (by rw[hd];exact K _ (hF.put d undef hlt))
theorem Av (rs:List Nat) (hr:Region.ready .any ops.toArray listed=rs) (hne:rs≠[])
  (h:∀ i∈rs,∀ a,Fr n ds L a→wpOp P ops.toArray (Qp N X R) i (fun a' w'=>S w'∧wpAnyH P .any ops.toArray (Qp N X R) S fuel (listed.setIfInBounds i true) a' w') a w):∀ a,Fr n ds L a→wpAnyH P .any ops.toArray (Qp N X R) S (fuel+1) listed a w:=fun a hF=>
 wpAnyH_all hr hne (fun i hi=>h i hi a hF)
theorem Au {p:Nat→Prop} {i:Nat} (h:p i):∀ j∈[i],p j:=fun j hj=>by simp at hj;subst hj;exact h
theorem Hx {p:Nat→Prop} {i k:Nat} (h:p i) (h':p k):∀ j∈[i,k],p j:=fun j hj=>by
 simp at hj
 rcases hj with rfl|rfl
 ·exact h
 ·exact h'
theorem a_done {fuel:Nat} (hr:Region.ready .any ops.toArray listed=[]) (h:∀ a,Fr n ds L a→N a w):∀ a,Fr n ds L a→wpAnyH P .any ops.toArray (Qp N X R) S fuel listed a w:=fun a hF=>wpAnyH_done hr (h a hF) _
theorem Ap {Z:Act→World→Prop} (hS:S w) (h:∀ a,Fr n ds L a→Z a w):∀ a,Fr n ds L a→S w∧Z a w:=fun a hF=>⟨hS,h a hF⟩
theorem Ce {K:Act→World→Prop} {Rr:Value→World→Prop} (hi:ops[i]? =some o) (hw:BC ops L o.guard=true) (hd:o.dst=some d) (hlt:Nat.blt d n=true) (h:B8 P n ds L o w Rr) (hK:∀ v w',Rr v w'→∀ a',Fr n ds ((d,v)::L) a'→K a' w'):∀ a,Fr n ds L a→wpOp P ops.toArray (Qp N X R) i K a w:=by
 intro a hF
 obtain ⟨v,w',hr,hR⟩:=h a hF
 unfold wpOp
 rw[List.getElem?_toArray,hi]
 simp only
 rw[if_pos (wantL_ok hF hw)]
 left
 unfold Oper.wp
 rw[hr,Oper.upon_value,hd]
 exact hK v w' hR _ (hF.put d v hlt)
theorem A8 {K:Act→World→Prop} {Rr:World→Prop} (hi:ops[i]? =some o) (hw:BC ops L o.guard=true) (hd:o.dst=none) (h:Du P n ds L o w Rr) (hK:∀ w',Rr w'→∀ a,Fr n ds L a→K a w'):∀ a,Fr n ds L a→wpOp P ops.toArray (Qp N X R) i K a w:=by
 intro a hF
 obtain ⟨w',hr,hR⟩:=h a hF
 unfold wpOp
 rw[List.getElem?_toArray,hi]
 simp only
 rw[if_pos (wantL_ok hF hw)]
 left
 unfold Oper.wp
 rw[hr,Oper.upon_skip,hd]
 exact hK w' hR a hF
theorem PY {K:Act→World→Prop} {Rr:Value→World→Prop} {f:FuncId} {args:List Operand} {vs:List Value} {tys:Array TypeId} (hi:ops[i]? =some o) (hw:BC ops L o.guard=true) (hd:o.dst=some d) (hlt:Nat.blt d n=true)
  (ho:o.op= .call { callee:= .value (.func f),args:=args.toArray,argTypes:=tys }) (hargs:evs L args=some vs) (hr:∀ w,(callFunc f vs.toArray).run P w= .ok (.enter f vs.toArray) w) (h:Calls P f vs.toArray w (Ret Rr))
  (hK:∀ v w',Rr v w'→∀ a',Fr n ds ((d,v)::L) a'→K a' w'):∀ a,Fr n ds L a→wpOp P ops.toArray (Qp N X R) i K a w:=by
 intro a hF
 have hrun:(execOp a.eval o).run P w= .ok (.enter f vs.toArray) w:=by
  unfold execOp
  have e:=hF.evs hargs
  simp only[ho,resolve,Act.eval,Deferred.ofValue,invoke]
  simp only[go_sem,List.map_toArray,e,List.nil_append,List.append_nil,hr]
  simpa using hr w
 unfold wpOp
 rw[List.getElem?_toArray,hi]
 simp only
 rw[if_pos (wantL_ok hF hw)]
 left
 unfold Oper.wp
 rw[hrun,Oper.upon_enter]
 exact Calls.mono h fun e w' q=>by
  cases e with
  | returned v=>simp only[hd];exact hK v w' q _ (hF.put d v hlt)
  | panicked c=>exact q.elim
  | outgrown=>exact q.elim
end held
/-! ## Held,but for the last operation:it waits for all others,and may write what the others read. -/
section last
variable {P:Program} {ops:Array Oper} {Q:Exit→Act→World→Prop} {S:World→Prop}
def Dc (ops:Array Oper) (listed:Array Bool):Prop:=∀ k o,ops[k]? =some o→listed.getD k true=true→k<listed.size→∀ e∈o.after,Region.binds .any e=true→listed.getD e.on false=true
theorem Dc.start (ops:Array Oper) (k:Nat):Dc ops (Array.replicate k false):=fun j o _ h hl=>by
 simp at hl
 simp[Array.getD,hl] at h
theorem Dc.next {listed:Array Bool} {i:Nat} (h:Dc ops listed) (hi:i∈Region.ready .any ops listed):Dc ops (listed.setIfInBounds i true):=fun k o ho hk hl e he hb=>by
 have hsz:k<listed.size:=by simpa using hl
 by_cases hki:k=i
 ·subst hki
  obtain ⟨_,o',ho',hall⟩:=mem_ready.1 hi
  rw[ho] at ho';cases ho'
  have:=hall e he hb
  by_cases hei:e.on=k
  ·rw[hei];simp[hsz]
  ·rw[getD_set_ne false (Ne.symm hei)];exact this
 ·rw[getD_set_ne true (Ne.symm hki)] at hk
  have:=h k o ho hk hsz e he hb
  by_cases hei:e.on=i
  ·rw[hei]
   rcases Nat.lt_or_ge i listed.size with h'|h'
   ·simp[h']
   ·rw[hei] at this;simp[Array.getElem?_eq_none h'] at this
  ·rw[getD_set_ne false (Ne.symm hei)];exact this
def GU (ops:Array Oper):Bool:=(List.range (ops.size - 1)).all fun k=>(List.range ops.size).any fun j=>k<j && (match ops[j]? with|some o=>o.after.any fun e=>Region.binds .any e && e.on == k|none=>false)
theorem OW (h:GU ops=true) (k:Nat) (hk:k+1<ops.size):∃ j o,k<j∧ops[j]? =some o∧∃ e∈o.after,Region.binds .any e=true∧e.on=k:=by
 simp only[GU,List.all_eq_true,List.mem_range] at h
 have:=h k (by omega)
 simp only[List.any_eq_true,List.mem_range,Bool.and_eq_true,decide_eq_true_eq] at this
 obtain ⟨j,_,hkj,hm⟩:=this
 cases ho:ops[j]? with
 | none=>rw[ho] at hm;cases hm
 | some o=>
  rw[ho] at hm
  simp only[Array.any_eq_true] at hm
  obtain ⟨q,hq,he⟩:=hm
  simp only[Bool.and_eq_true,beq_iff_eq] at he
  exact ⟨j,o,hkj,ho,_,Array.getElem_mem hq,he.1,he.2⟩
theorem OX (h:GU ops=true) {listed:Array Bool} (hd:Dc ops listed) (hs:listed.size=ops.size) (hl:ops.size - 1∈Region.ready .any ops listed):∀ n k,ops.size - k≤n→k+1<ops.size→listed.getD k false=true:=by
 intro n
 induction n with
 | zero=>intro k hk hk';omega
 | succ n ih=>
  intro k hk hk'
  obtain ⟨j,o,hkj,ho,e,he,hb,hon⟩:=OW h k hk'
  have hj:j<ops.size:=(Array.getElem?_eq_some_iff.1 ho).1
  by_cases hjl:j=ops.size - 1
  ·subst hjl
   obtain ⟨_,o',ho',hall⟩:=mem_ready.1 hl
   rw[ho] at ho';cases ho'
   rw[←hon];exact hall e he hb
  ·have:=ih j (by omega) (by omega)
   rw[←hon]
   exact hd j o ho (by
    have hh:j<listed.size:=by omega
    simp[hh] at this ⊢;exact this) (by omega) e he hb
def Gt (P:Program) (ops:Array Oper) (Q:Exit→Act→World→Prop) (S:World→Prop):Nat→Array Bool→Act→World→Prop
 | 0,listed,a,w=>Region.ready .any ops listed=[]∧Q .normal a w
 | fuel+1,listed,a,w=>
  (Region.ready .any ops listed=[]→Q .normal a w)∧
  ∀ i∈Region.ready .any ops listed,wpOp P ops Q i (fun a' w'=>(i≠ops.size - 1→S w')∧Gt P ops Q S fuel (listed.setIfInBounds i true) a' w') a w
theorem GV:∀ (fuel:Nat) (listed:Array Bool) (a:Act) (w:World),Gt P ops Q S fuel listed a w→wpAny P .any ops Q fuel listed a w
 | 0,_,_,_,h=>h
 | fuel+1,_,_,_,h=>⟨h.1,fun i hi=>wpOp_mono (fun a' w' h'=>GV fuel _ a' w' h'.2) (h.2 i hi)⟩
theorem LJ (hlast:GU ops=true) {i:Nat} {oi:Oper} {v:Value} (hi:ops[i]? =some oi) (hil:i≠ops.size - 1) (hsel:∀ (j:Nat) (o:Oper) cs b,ops[j]? =some o→o.op≠ .select cs b)
  (hQ:∀ c a w,Q (.panic c) (a.put oi.dst v) w→Q (.panic c) a w):
  ∀ (fuel:Nat) (listed:Array Bool) (a:Act) (w:World),Dc ops listed→listed.size=ops.size→
   (∀ j oj,ops[j]? =some oj→j≠i→listed.getD j true=false→(∀ e∈oj.after,Region.binds .any e=true→e.on≠i)→oi.apart ops oj=true)→
   i∈Region.ready .any ops listed→YieldsIf P ops S oi v a→S w→
   Gt P ops Q S fuel (listed.setIfInBounds i true) (a.put oi.dst v) w→Gt P ops Q S (fuel+1) listed a w:=by
 have hib:i<ops.size:=(Array.getElem?_eq_some_iff.1 hi).1
 intro fuel
 induction fuel with
 | zero=>
  intro listed a w hd hsz _ hr hy hS H
  refine ⟨fun h=>(by rw[h] at hr;cases hr),fun j hj=> ?_⟩
  by_cases hji:j=i
  ·subst hji;exact hy.wpOp hi hS ⟨fun _=>hS,H⟩
  ·have:=ready_mono hj hji
   rw[H.1] at this
   cases this
 | succ fuel ih=>
  intro listed a w hd hsz hfree hr hy hS H
  refine ⟨fun h=>(by rw[h] at hr;cases hr),fun j hj=> ?_⟩
  by_cases hji:j=i
  ·subst hji;exact hy.wpOp hi hS ⟨fun _=>hS,H⟩
  ·have h1:=H.2 j (ready_mono hj hji)
   have hjl:j≠ops.size - 1:=fun e=>by
    subst e
    have:=OX hlast hd hsz hj (ops.size - i) i (Nat.le_refl _) (by omega)
    have h0:=(mem_ready.1 hr).1
    have hh:i<listed.size:=by omega
    simp[hh] at this h0
    rw[this] at h0;cases h0
   obtain ⟨hjun,oj,hoj,hall⟩:=mem_ready.1 hj
   have hnot:∀ e∈oj.after,Region.binds .any e=true→e.on≠i:=fun e he hb heq=>by
    have h1:=hall e he hb
    have h0:=(mem_ready.1 hr).1
    rw[heq] at h1
    rcases Nat.lt_or_ge i listed.size with h'|h'
    ·simp[h'] at h0 h1;rw[h0] at h1;cases h1
    ·simp[Array.getElem?_eq_none h'] at h1
   have h2:=wpOp_putIf hoj (hfree j oj hoj hji hjun hnot) (fun cs b=>hsel i oi cs b hi) (fun cs b=>hsel j oj cs b hoj) hQ hy h1
   have hfree':∀ k ok,ops[k]? =some ok→k≠i→(listed.setIfInBounds j true).getD k true=false→
     (∀ e∈ok.after,Region.binds .any e=true→e.on≠i)→oi.apart ops ok=true:=fun k ok hk hki hun hno=>by
    refine hfree k ok hk hki ?_ hno
    by_cases hjk:j=k
    ·subst hjk;exact hjun
    ·rw[getD_set_ne true hjk] at hun;exact hun
   refine wpOp_mono (fun a' w' h3=>⟨fun _=>h3.2.1 hjl,ih (listed.setIfInBounds j true) a' w' (hd.next hj) (by simpa using hsz) hfree' (ready_mono hr (Ne.symm hji)) h3.1 (h3.2.1 hjl) ?_⟩) h2
   rw[Array.setIfInBounds_comm _ _ hji]
   exact h3.2.2
theorem Nz {listed:Array Bool} {a:Act} {w:World} (hr:Region.ready .any ops listed=[]) (h:Q .normal a w):∀ fuel,Gt P ops Q S fuel listed a w
 | 0=>⟨hr,h⟩
 | _+1=>⟨fun _=>h,by rw[hr];simp⟩
end last
section last2
variable {P:Program} {ops:List Oper} {N R:Act→World→Prop} {X:Nat→Act→World→Prop} {S:World→Prop} {a:Act} {w:World} {fuel:Nat} {listed:Array Bool} {n d i:Nat} {ds:List Deferred} {L:List (Nat×Value)} {v:Value} {o:Oper}
def FN (P:Program) (ops:List Oper) (Q:Exit→Act→World→Prop) (S:World→Prop) (fuel:Nat) (listed:Array Bool) (a:Act) (w:World):Prop:=Dc ops.toArray listed→listed.size=ops.length→Gt P ops.toArray Q S fuel listed a w
theorem DJ {id:Nat} (S:World→Prop) (k:Nat) (hk:ops.length=k) (hm:P.follows .mixedOrders=true)
  (h:∀ w',Ext No w w'→w'.heap.size=w.heap.size→∀ a,Fr n ds L a→FN P ops (Qp N X R) S k (Array.replicate k false) a w'):∀ a,Fr n ds L a→(Code.region id ops.toArray true).wp P (Qp N X R) a w:=fun a hF=>
 wp_region_any hm (GV (S:=S) _ _ _ _ (by have:=h _ (Ext.drawn No w) rfl a hF (Dc.start _ _) (by simp[hk]);simpa [hk] using this))
theorem Dv (i:Nat) (hlast:GU ops.toArray=true) (hi:ops[i]? =some o) (hil:Nat.beq i (ops.length - 1)=false) (hs:Region.noSelect ops.toArray=true) (hf:Region.free .any ops.toArray listed i=true) (hr:(Region.ready .any ops.toArray listed).contains i=true)
  (hw:BC ops L o.guard=true) (hd:o.dst=some d) (hlt:Nat.blt d n=true) (hdo:Ao P S n ds L o v) (hS:S w)
  (K:∀ a',Fr n ds ((d,v)::L) a'→FN P ops (Qp N X R) S fuel (listed.setIfInBounds i true) a' w):∀ a,Fr n ds L a→FN P ops (Qp N X R) S (fuel+1) listed a w:=fun a hF hdc hsz=>
 have hi':ops.toArray[i]? =some o:=by simpa using hi
 have hr':i∈Region.ready .any ops.toArray listed:=by simpa using hr
 LJ hlast (i:=i) (oi:=o) (v:=v) hi' (by simpa using Nat.ne_of_beq_eq_false hil) (Region.noSelect_spec hs) (fun _ _ _ h=>h.elim) fuel listed a w hdc (by simpa using hsz) (Region.free_spec hi' hf) hr' (.inl ⟨wantL_ok hF hw,fun w' h=>hdo a hF w' h⟩) hS
  (by rw[hd];exact K _ (hF.put d v hlt) (hdc.next hr') (by simpa using hsz))
theorem Cz (rs:List Nat) (hr:Region.ready .any ops.toArray listed=rs) (hne:rs≠[])
  (h:∀ i∈rs,∀ a,Fr n ds L a→wpOp P ops.toArray (Qp N X R) i (fun a' w'=>(i≠ops.length - 1→S w')∧FN P ops (Qp N X R) S fuel (listed.setIfInBounds i true) a' w') a w):∀ a,Fr n ds L a→FN P ops (Qp N X R) S (fuel+1) listed a w:=fun a hF hdc hsz=>
 ⟨fun e=>absurd (hr▸e) hne,fun i hi=>wpOp_mono (fun a' w' q=>⟨by simpa using q.1,q.2 (hdc.next hi) (by simpa using hsz)⟩) (h i (hr▸hi) a hF)⟩
theorem DK {fuel:Nat} (hr:Region.ready .any ops.toArray listed=[]) (h:∀ a,Fr n ds L a→N a w):∀ a,Fr n ds L a→FN P ops (Qp N X R) S fuel listed a w:=fun a hF _ _=>Nz hr (h a hF) _
theorem Bn {q:Prop} {Z:Act→World→Prop} (hS:q→S w) (h:∀ a,Fr n ds L a→Z a w):∀ a,Fr n ds L a→(q→S w)∧Z a w:=fun a hF=>⟨hS,h a hF⟩
end last2
end
section
open Go.RowKit
/-! ### Bytes and words -/
def u8 (b:UInt8):Value:= .int .u8 b.toNat
def u32 (b:UInt32):Value:= .int .u32 b.toNat
def FO (x:Int):UInt8:=UInt8.ofNat (x % 256).toNat
def EO (x:Int):UInt32:=UInt32.ofNat (x % 4294967296).toNat
theorem YY (x:Int):IntKind.u8.wrap x=(FO x).toNat:=by
 simp[FO,IntKind.wrap,IntKind.bits,IntKind.signed];omega
theorem UQ (x:Int):IntKind.u32.wrap x=(EO x).toNat:=by
 simp[EO,IntKind.wrap,IntKind.bits,IntKind.signed];omega
theorem Xf (b:UInt32):EO b.toNat=b:=by
 apply UInt32.toNat_inj.1;have:=b.toNat_lt;simp[EO];omega
theorem UR (x:Int):Value.int .u8 (IntKind.u8.wrap x)=u8 (FO x):=congrArg _ (YY x)
theorem RK (x:Int):Value.int .u32 (IntKind.u32.wrap x)=u32 (EO x):=congrArg _ (UQ x)
theorem ZU {a b:UInt8} (h:u8 a=u8 b):a=b:=by
 simp only[u8,Value.int.injEq,true_and] at h
 exact UInt8.toNat_inj.1 (by omega)
section
variable {P:Program} {C:World→Prop} {o:Oper} {a:Act} {w z:World} {Γ:List Ae} {n:Nat} {ds:List Deferred} {L:List (Nat×Value)} {v:Value} {x y:Operand} {xt yt:TypeId}
theorem Xg {p q:UInt8} (ho:o.op= .binOp .xor xt x y yt) (hx:ev L x=some (u8 p)) (hy:ev L y=some (u8 q)):Ao P C n ds L o (u8 (p ^^^ q)):=fun a hF w _=>by
 simp only[execOp,ho,hF.ev hx,hF.ev hy,u8]
 simp[go_sem,Op.intBits,IntKind.wrap,IntKind.bits,IntKind.signed]
 have:=(p ^^^ q).toNat_lt
 rw[←UInt8.toNat_xor]
 show (((p ^^^ q).toNat:Int)) % 256=((p ^^^ q).toNat:Int)
 omega
theorem PZ {p q:UInt8} (ho:o.op= .binOp .eql xt x y yt) {k:IntKind} (ht:DD P xt xt=some k) (hx:ev L x=some (u8 p)) (hy:ev L y=some (u8 q)):Ao P C n ds L o (.bool (decide (p=q))):=fun a hF w _=>by
 obtain ⟨d,h0,h1⟩:=E3 ht
 simp only[execOp,ho,hF.ev hx,hF.ev hy,u8]
 simp[h1,go_sem]
 rw[Bool.eq_iff_iff];simp
 exact ⟨fun h=>UInt8.toNat_inj.1 (by omega),fun h=>by rw[h]⟩
theorem ZS {p q:UInt32} (ho:o.op= .binOp .eql xt x y yt) {k:IntKind} (ht:DD P xt xt=some k) (hx:ev L x=some (u32 p)) (hy:ev L y=some (u32 q)):Ao P C n ds L o (.bool (decide (p=q))):=fun a hF w _=>by
 obtain ⟨d,h0,h1⟩:=E3 ht
 simp only[execOp,ho,hF.ev hx,hF.ev hy,u32]
 simp[h1,go_sem]
 rw[Bool.eq_iff_iff];simp
 exact ⟨fun h=>UInt32.toNat_inj.1 (by omega),fun h=>by rw[h]⟩
theorem US {p q:UInt32} (ho:o.op= .binOp .neq xt x y yt) {k:IntKind} (ht:DD P xt xt=some k) (hx:ev L x=some (u32 p)) (hy:ev L y=some (u32 q)):Ao P C n ds L o (.bool (decide (p≠q))):=fun a hF w _=>by
 obtain ⟨d,h0,h1⟩:=E3 ht
 simp only[execOp,ho,hF.ev hx,hF.ev hy,u32]
 simp[h1,go_sem]
 rw[Bool.eq_iff_iff];simp
 exact ⟨fun h e=>h (by rw[e]),fun h e=>h (UInt32.toNat_inj.1 (by omega))⟩
theorem NS {p q:UInt32} (ho:o.op= .binOp .xor xt x y yt) (hx:ev L x=some (u32 p)) (hy:ev L y=some (u32 q)):Ao P C n ds L o (u32 (p ^^^ q)):=fun a hF w _=>by
 simp only[execOp,ho,hF.ev hx,hF.ev hy,u32]
 simp[go_sem,Op.intBits,IntKind.wrap,IntKind.bits,IntKind.signed]
 have:=(p ^^^ q).toNat_lt
 rw[←UInt32.toNat_xor]
 show (((p ^^^ q).toNat:Int)) % 4294967296=((p ^^^ q).toNat:Int)
 omega
theorem UT {p q:UInt32} (ho:o.op= .binOp .and xt x y yt) (hx:ev L x=some (u32 p)) (hy:ev L y=some (u32 q)):Ao P C n ds L o (u32 (p&&&q)):=fun a hF w _=>by
 simp only[execOp,ho,hF.ev hx,hF.ev hy,u32]
 simp[go_sem,Op.intBits,IntKind.wrap,IntKind.bits,IntKind.signed]
 have:=(p&&&q).toNat_lt
 rw[←UInt32.toNat_and]
 show (((p&&&q).toNat:Int)) % 4294967296=((p&&&q).toNat:Int)
 omega
theorem UU {p q:UInt32} (ho:o.op= .binOp .mul xt x y yt) (hx:ev L x=some (u32 p)) (hy:ev L y=some (u32 q)):Ao P C n ds L o (u32 (p * q)):=fun a hF w _=>by
 simp only[execOp,ho,hF.ev hx,hF.ev hy,u32]
 simp[go_sem,IntKind.wrap,IntKind.bits,IntKind.signed,UInt32.toNat_mul]
theorem Gu {p:UInt32} {k:IntKind} {m:Int} {n':UInt32} (ho:o.op= .binOp .shr xt x y yt) (hx:ev L x=some (u32 p)) (hy:ev L y=some (.int k m)) (hm:0≤m∧m<32∧n'=UInt32.ofNat m.toNat):Ao P C n ds L o (u32 (p>>>n')):=fun a hF w _=>by
 obtain ⟨h0,h1,rfl⟩:=hm
 obtain ⟨j,rfl⟩:=Int.eq_ofNat_of_zero_le h0
 simp only[execOp,ho,hF.ev hx,hF.ev hy,u32]
 have hj:¬ ((j:Int)<0):=by omega
 have hj2:min j 32=j:=by omega
 simp[go_sem,Op.shift,IntKind.bits,hj,hj2,UInt32.toNat_shiftRight]
 rw[Int.shiftRight_eq_div_pow];simp
 rw[Nat.mod_eq_of_lt (by omega)]
theorem NT {p:UInt32} (ho:o.op= .unOp .xor xt x) (hx:ev L x=some (u32 p)):Ao P C n ds L o (u32 (4294967295 ^^^ p)):=fun a hF w _=>by
 simp only[execOp,ho,hF.ev hx,u32]
 simp[go_sem,Op.intBits,IntKind.max,IntKind.wrap,IntKind.bits,IntKind.signed]
 have:=(4294967295 ^^^ p).toNat_lt
 have e:(4294967295 ^^^ p).toNat=4294967295 ^^^ p.toNat:=UInt32.toNat_xor _ _
 rw[←e]
 show (((4294967295 ^^^ p).toNat:Int)) % 4294967296=((4294967295 ^^^ p).toNat:Int)
 omega
/-! conversions -/
theorem OY {dt:TypeId} {k:IntKind} {p:Int} (ho:o.op= .convert xt dt x) (h1:DD P xt dt=some .u8) (hx:ev L x=some (.int k p)):Ao P C n ds L o (u8 (FO p)):=by
 have:=Hu (P:=P) (C:=C) (n:=n) (ds:=ds) (L:=L) ho h1 hx
 rwa[UR] at this
theorem P0 {dt:TypeId} {k:IntKind} {p:Int} (ho:o.op= .convert xt dt x) (h1:DD P xt dt=some .u32) (hx:ev L x=some (.int k p)):Ao P C n ds L o (u32 (EO p)):=by
 have:=Hu (P:=P) (C:=C) (n:=n) (ds:=ds) (L:=L) ho h1 hx
 rwa[RK] at this
theorem OZ {dt:TypeId} {p:UInt8} (ho:o.op= .convert xt dt x) (h1:DD P xt dt=some .i64) (hx:ev L x=some (u8 p)):Ao P C n ds L o (Iv_ p.toNat):=by
 have:=Hu (P:=P) (C:=C) (n:=n) (ds:=ds) (L:=L) ho h1 hx
 have hp:=p.toNat_lt
 rwa[IntWalk.i64_in _ (by omega)] at this
theorem Xh {dt:TypeId} {p:UInt32} (ho:o.op= .convert xt dt x) (h1:DD P xt dt=some .i64) (hx:ev L x=some (u32 p)):Ao P C n ds L o (Iv_ p.toNat):=by
 have:=Hu (P:=P) (C:=C) (n:=n) (ds:=ds) (L:=L) ho h1 hx
 have hp:=p.toNat_lt
 rwa[IntWalk.i64_in _ (by omega)] at this
theorem Gv {dt:TypeId} {p:UInt32} (ho:o.op= .convert xt dt x) (h1:DD P xt dt=some .u8) (hx:ev L x=some (u32 p)):Ao P C n ds L o (u8 p.toUInt8):=by
 have:=OY (P:=P) (C:=C) (n:=n) (ds:=ds) (L:=L) ho h1 hx
 have e:FO p.toNat=p.toUInt8:=by
  apply UInt8.toNat_inj.1;simp[FO];omega
 rwa[e] at this
def Fe (P:Program) (t:TypeId):Bool:=match P.underlying t with|some (.pointer _)=>true|_=>false
theorem GW {t:TypeId} (h:Fe P t=true):∃ e,P.underlying t=some (.pointer e):=by
 unfold Fe at h;split at h
 ·exact ⟨_,by assumption⟩
 ·cases h
def RL (P:Program) (t:TypeId):Bool:=match P.underlying t with|some (.slice _)=>true|_=>false
theorem UV {t:TypeId} (h:RL P t=true):∃ e,P.underlying t=some (.slice e):=by
 unfold RL at h;split at h
 ·exact ⟨_,by assumption⟩
 ·cases h
theorem LK {ad:Addr} (ho:o.op= .binOp .eql xt x y yt) (ht:Fe P xt=true) (hx:ev L x=some (.pointer (some ad))) (hy:ev L y=some (.pointer none)):Ao P C n ds L o (.bool false):=fun a hF w _=>by
 obtain ⟨e,ht⟩:=GW ht
 simp only[execOp,ho,hF.ev hx,hF.ev hy];simp[ht,go_sem]
theorem RM {ad:Addr} (ho:o.op= .binOp .neq xt x y yt) (ht:Fe P xt=true) (hx:ev L x=some (.pointer (some ad))) (hy:ev L y=some (.pointer none)):Ao P C n ds L o (.bool true):=fun a hF w _=>by
 obtain ⟨e,ht⟩:=GW ht
 simp only[execOp,ho,hF.ev hx,hF.ev hy];simp[ht,go_sem]
theorem RN (ho:o.op= .binOp .eql xt x y yt) (ht:Fe P xt=true) (hx:ev L x=some (.pointer none)) (hy:ev L y=some (.pointer none)):Ao P C n ds L o (.bool true):=fun a hF w _=>by
 obtain ⟨e,ht⟩:=GW ht
 simp only[execOp,ho,hF.ev hx,hF.ev hy];simp[ht,go_sem]
theorem RO (ho:o.op= .binOp .neq xt x y yt) (ht:Fe P xt=true) (hx:ev L x=some (.pointer none)) (hy:ev L y=some (.pointer none)):Ao P C n ds L o (.bool false):=fun a hF w _=>by
 obtain ⟨e,ht⟩:=GW ht
 simp only[execOp,ho,hF.ev hx,hF.ev hy];simp[ht,go_sem]
theorem LL {ad:Addr} {l c:Nat} (ho:o.op= .binOp .eql xt x y yt) (ht:RL P xt=true) (hx:ev L x=some (.slice (some ad) l c)) (hy:ev L y=some (.slice none 0 0)):Ao P C n ds L o (.bool false):=fun a hF w _=>by
 obtain ⟨e,ht⟩:=UV ht
 simp only[execOp,ho,hF.ev hx,hF.ev hy];simp[Lib.run_eql_slice_nil _ _ e _ _ _ _ _ ht,go_sem]
theorem FD {f:Fn} {bs cs:List Operand} {us vs:List Value} (ho:o.op= .makeFunc f bs.toArray cs.toArray) (hb:evs L bs=some us) (hc:evs L cs=some vs):Ao P C n ds L o (.func f us.toArray vs.toArray):=fun a hF w _=>by
 have e1:=hF.evs hb
 have e2:=hF.evs hc
 simp only[execOp,ho,List.map_toArray,e1,e2];rfl
/-! cuts of what is known -/
def LM (P:Program) (t:TypeId):Option (Nat×Nat):=match P.underlying t with
 | some (.pointer a)=>GR P a
 | _=>none
theorem P1 {t:TypeId} {l z:Nat} (h:LM P t=some (l,z)):∃ a e i,P.underlying t=some (.pointer a)∧P.underlying a=some (.array l e)∧P.info? e=some i∧i.size=z:=by
 unfold LM at h
 split at h
 ·rename_i a h1
  obtain ⟨e,i,h2,h3,h4⟩:=GS h
  exact ⟨a,e,i,h1,h2,h3,h4⟩
 ·cases h
theorem BD {t:TypeId} {lo hi:Option Operand} {b off l c p q z o' l' c':Nat} (ho:o.op= .slice t x lo hi none) (ht:CK P t=some z)
  (hx:ev L x=some (.slice (some ⟨b,off,none⟩) l c)) (hlo:(lo=none∧p=0)∨∃ y k i,lo=some y∧ev L y=some (.int k i)∧i=(p:Int)) (hhi:(hi=none∧q=l)∨∃ y k i,hi=some y∧ev L y=some (.int k i)∧i=(q:Int)) (hpq:p≤q) (hqc:q≤c)
  (h1:off+p * z=o') (h2:q - p=l') (h3:c - p=c') (h4:p<c∨p * z=0):Ao P C n ds L o (.slice (some ⟨b,o',none⟩) l' c'):=by
 have:=HR (P:=P) (C:=C) (n:=n) (ds:=ds) (L:=L) ho ht hx hlo hhi hpq hqc
 rw[h2,h3] at this
 have e:(if c=p then (some ⟨b,off,none⟩:Option Addr) else (some ⟨b,off,none⟩:Option Addr).map (·.add (p * z)))=some ⟨b,o',none⟩:=by
  subst h1
  split
  ·rename_i h;rcases h4 with h4|h4
   ·omega
   ·simp[h4]
  ·simp only[Option.map_some,Option.some.injEq]
   unfold Addr.add;split
   ·rename_i h0;simp[h0]
   ·rfl
 rwa[e] at this
theorem ZE {t:TypeId} {lo hi:Option Operand} {b off n' p q z o' l' c':Nat} (ho:o.op= .slice t x lo hi none) (ht:LM P t=some (n',z))
  (hx:ev L x=some (.pointer (some ⟨b,off,none⟩))) (hlo:(lo=none∧p=0)∨∃ y k i,lo=some y∧ev L y=some (.int k i)∧i=(p:Int)) (hhi:(hi=none∧q=n')∨∃ y k i,hi=some y∧ev L y=some (.int k i)∧i=(q:Int)) (hpq:p≤q) (hqc:q≤n')
  (h1:off+p * z=o') (h2:q - p=l') (h3:n' - p=c') (h4:p<n'∨p * z=0):Ao P C n ds L o (.slice (some ⟨b,o',none⟩) l' c'):=fun a hF w _=>by
 obtain ⟨ar,e,i0,ht0,ht1,hi0,hz⟩:=P1 ht
 have g1:(0:Int)≤(p:Int)∧(p:Int)≤(q:Int):=by omega
 have g2:(0:Int)≤(q:Int)∧(q:Int)≤(n':Int):=by omega
 have key:((if n'=p then (⟨b,off,none⟩:Addr) else (⟨b,off,none⟩:Addr).add (p * z)))=⟨b,o',none⟩:=by
  subst h1
  split
  ·rename_i h;rcases h4 with h4|h4
   ·omega
   ·simp[h4]
  ·unfold Addr.add;split
   ·rename_i h0;simp[h0]
   ·rfl
 rcases hlo with ⟨rfl,rfl⟩|⟨y,k,i,rfl,hy,rfl⟩<;>rcases hhi with ⟨rfl,rfl⟩|⟨y',k',i',rfl,hy',rfl⟩
 ·simp only[execOp,ho,Option.map_some,Option.map_none,hF.ev hx];simp[Instr.sliceAt,Instr.slice,run_underlying ht0,run_underlying ht1,Instr.sureAddr,Instr.sliceBounds,sizeOf,typeInfo,hi0,hz,hpq,hqc,go_sem,key,h2,h3]<;>(try simp_all)<;>(try omega)
 ·simp only[execOp,ho,Option.map_some,Option.map_none,hF.ev hx,hF.ev hy'];simp[Instr.sliceAt,Instr.slice,run_underlying ht0,run_underlying ht1,Instr.sureAddr,Instr.sliceBounds,Instr.sliceBound,asIntOf,g2,sizeOf,typeInfo,hi0,hz,hpq,hqc,go_sem,key,h2,h3]<;>(try simp_all)<;>(try omega)
 ·simp only[execOp,ho,Option.map_some,Option.map_none,hF.ev hx,hF.ev hy];simp[Instr.sliceAt,Instr.slice,run_underlying ht0,run_underlying ht1,Instr.sureAddr,Instr.sliceBounds,Instr.sliceBound,asIntOf,g1,sizeOf,typeInfo,hi0,hz,hpq,hqc,go_sem,key,h2,h3]<;>(try simp_all)<;>(try omega)
 ·simp only[execOp,ho,Option.map_some,Option.map_none,hF.ev hx,hF.ev hy,hF.ev hy'];simp[Instr.sliceAt,Instr.slice,run_underlying ht0,run_underlying ht1,Instr.sureAddr,Instr.sliceBounds,Instr.sliceBound,asIntOf,g1,g2,sizeOf,typeInfo,hi0,hz,hpq,hqc,go_sem,key,h2,h3]<;>(try simp_all)<;>(try omega)
theorem FP {t:TypeId} {lo hi:Option Operand} {b off n' p q z o' l' c':Nat} (ho:o.op= .slice t x lo hi none) (ht:GR P t=some (n',z))
  (hx:ev L x=some (.pointer (some ⟨b,off,none⟩))) (hlo:(lo=none∧p=0)∨∃ y k i,lo=some y∧ev L y=some (.int k i)∧i=(p:Int)) (hhi:(hi=none∧q=n')∨∃ y k i,hi=some y∧ev L y=some (.int k i)∧i=(q:Int)) (hpq:p≤q) (hqc:q≤n')
  (h1:off+p * z=o') (h2:q - p=l') (h3:n' - p=c') (h4:p<n'∨p * z=0):Ao P C n ds L o (.slice (some ⟨b,o',none⟩) l' c'):=fun a hF w _=>by
 obtain ⟨e,i0,ht1,hi0,hz⟩:=GS ht
 have g1:(0:Int)≤(p:Int)∧(p:Int)≤(q:Int):=by omega
 have g2:(0:Int)≤(q:Int)∧(q:Int)≤(n':Int):=by omega
 have key:((if n'=p then (⟨b,off,none⟩:Addr) else (⟨b,off,none⟩:Addr).add (p * z)))=⟨b,o',none⟩:=by
  subst h1
  split
  ·rename_i h;rcases h4 with h4|h4
   ·omega
   ·simp[h4]
  ·unfold Addr.add;split
   ·rename_i h0;simp[h0]
   ·rfl
 rcases hlo with ⟨rfl,rfl⟩|⟨y,k,i,rfl,hy,rfl⟩<;>rcases hhi with ⟨rfl,rfl⟩|⟨y',k',i',rfl,hy',rfl⟩
 ·simp only[execOp,ho,Option.map_some,Option.map_none,hF.ev hx];simp[Instr.sliceAt,Instr.slice,run_underlying ht1,Instr.sureAddr,Instr.sliceBounds,sizeOf,typeInfo,hi0,hz,hpq,hqc,go_sem,key,h2,h3]<;>(try simp_all)<;>(try omega)
 ·simp only[execOp,ho,Option.map_some,Option.map_none,hF.ev hx,hF.ev hy'];simp[Instr.sliceAt,Instr.slice,run_underlying ht1,Instr.sureAddr,Instr.sliceBounds,Instr.sliceBound,asIntOf,g2,sizeOf,typeInfo,hi0,hz,hpq,hqc,go_sem,key,h2,h3]<;>(try simp_all)<;>(try omega)
 ·simp only[execOp,ho,Option.map_some,Option.map_none,hF.ev hx,hF.ev hy];simp[Instr.sliceAt,Instr.slice,run_underlying ht1,Instr.sureAddr,Instr.sliceBounds,Instr.sliceBound,asIntOf,g1,sizeOf,typeInfo,hi0,hz,hpq,hqc,go_sem,key,h2,h3]<;>(try simp_all)<;>(try omega)
 ·simp only[execOp,ho,Option.map_some,Option.map_none,hF.ev hx,hF.ev hy,hF.ev hy'];simp[Instr.sliceAt,Instr.slice,run_underlying ht1,Instr.sureAddr,Instr.sliceBounds,Instr.sliceBound,asIntOf,g1,g2,sizeOf,typeInfo,hi0,hz,hpq,hqc,go_sem,key,h2,h3]<;>(try simp_all)<;>(try omega)
/-! ### memory in parts -/
theorem BO (H:Sep z Γ w) {e:TypeId} {zs:List Value} (ho:o.op= .alloc e) (hz:zeroCells P e=some zs.toArray):B8 P n ds L o w (fun v w'=>∃ b,v=Pt_ b∧Sep z (blk b zs e::Γ) w'):=fun a hF=>by
 obtain ⟨v,w',hr,b,rfl,hs,_,hB,hx⟩:=UO (w:=w) ho hz a hF
 exact ⟨_,w',hr,b,rfl,H.new hx (by omega) hB⟩
theorem Ge (H:Sep z Γ w) {e:TypeId} {cs:List Value} (ho:o.op= .box e x) (hx:ev L x=some v) (hc:v.cells=cs.toArray):B8 P n ds L o w (fun v w'=>∃ b,v=Pt_ b∧Sep z (blk b cs e::Γ) w'):=fun a hF=>by
 obtain ⟨v,w',hr,b,rfl,hs,_,hB,hx⟩:=YX (P:=P) (w:=w) ho hx hc a hF
 exact ⟨_,w',hr,b,rfl,H.new hx (by omega) hB⟩
theorem Ag (i:Nat) (H:Sep z Γ w) {t ty:TypeId} {b p:Nat} {cs vs:List Value} (hi:Γ[i]? =some (blk b cs ty)) (ho:o.op= .store t x y) (hx:ev L x=some (.pointer (some ⟨b,p,none⟩))) (hy:ev L y=some v) (hv:v.cells=vs.toArray) (h1:∀ u∈vs,u.oneCell'=true)
  (hs:(P.info? t).map (·.size)=some vs.length) (hp:p+vs.length≤cs.length) {out:List Value} (hout:cs.take p++vs++cs.drop (p+vs.length)=out):
  Du P n ds L o w (fun w'=>Sep z (Γ.set i (blk b out ty)) w'):=fun a hF=>by
 obtain ⟨w',hr,hB,hx,_⟩:=NR ho hx hy hv h1 hs (H.blk i hi) hp hout a hF
 refine ⟨w',hr,H.write i hi hx.os hx.tape hx.output hB (fun k hk=> ?_)⟩
 rcases Nat.lt_or_ge k w.heap.size with q|q
 ·exact hx.block k q hk
 ·rw[Array.getElem?_eq_none q,Array.getElem?_eq_none (by omega)]
theorem RP (i:Nat) (H:Sep z Γ w) {t ty:TypeId} {b:Nat} {x0:Value} {xs:List Value} (hi:Γ[i]? =some (blk b (x0::xs) ty)) (ho:o.op= .store t x y) (hx:ev L x=some (Pt_ b)) (hy:ev L y=some v) (hv:v.cells= #[v]) (h1:v.oneCell'=true) (hs:(P.info? t).map (·.size)=some 1):Du P n ds L o w (fun w'=>Sep z (Γ.set i (blk b (v::xs) ty)) w'):=
 Ag i H hi ho hx hy (vs:=[v]) hv (by simp[h1]) hs (by simp) rfl
theorem LN (i:Nat) (H:Sep z Γ w) {t ty:TypeId} {b:Nat} {x0 x1:Value} {xs:List Value} (hi:Γ[i]? =some (blk b (x0::x1::xs) ty)) (ho:o.op= .store t x y) (hx:ev L x=some (.pointer (some ⟨b,1,none⟩))) (hy:ev L y=some v) (hv:v.cells= #[v]) (h1:v.oneCell'=true) (hs:(P.info? t).map (·.size)=some 1):Du P n ds L o w (fun w'=>Sep z (Γ.set i (blk b (x0::v::xs) ty)) w'):=
 Ag i H hi ho hx hy (vs:=[v]) hv (by simp[h1]) hs (by simp) rfl
theorem JP (i:Nat) (H:Sep z Γ w) {t ty:TypeId} {b:Nat} {x0 x1 x2:Value} {xs:List Value} (hi:Γ[i]? =some (blk b (x0::x1::x2::xs) ty)) (ho:o.op= .store t x y) (hx:ev L x=some (.pointer (some ⟨b,2,none⟩))) (hy:ev L y=some v) (hv:v.cells= #[v]) (h1:v.oneCell'=true) (hs:(P.info? t).map (·.size)=some 1):Du P n ds L o w (fun w'=>Sep z (Γ.set i (blk b (x0::x1::v::xs) ty)) w'):=
 Ag i H hi ho hx hy (vs:=[v]) hv (by simp[h1]) hs (by simp) rfl
theorem RQ (i:Nat) (H:Sep z Γ w) {t ty:TypeId} {b:Nat} {x0 x1 x2 x3:Value} {xs:List Value} (hi:Γ[i]? =some (blk b (x0::x1::x2::x3::xs) ty)) (ho:o.op= .store t x y) (hx:ev L x=some (.pointer (some ⟨b,3,none⟩))) (hy:ev L y=some v) (hv:v.cells= #[v]) (h1:v.oneCell'=true) (hs:(P.info? t).map (·.size)=some 1):Du P n ds L o w (fun w'=>Sep z (Γ.set i (blk b (x0::x1::x2::v::xs) ty)) w'):=
 Ag i H hi ho hx hy (vs:=[v]) hv (by simp[h1]) hs (by simp) rfl
theorem ZF (i:Nat) (H:Sep z Γ w) {t ty:TypeId} {b:Nat} {x0 x1 x2 x3 x4 x5 x6 x7:Value} {xs:List Value} (hi:Γ[i]? =some (blk b (x0::x1::x2::x3::x4::x5::x6::x7::xs) ty)) (ho:o.op= .store t x y) (hx:ev L x=some (.pointer (some ⟨b,7,none⟩))) (hy:ev L y=some v) (hv:v.cells= #[v]) (h1:v.oneCell'=true) (hs:(P.info? t).map (·.size)=some 1):Du P n ds L o w (fun w'=>Sep z (Γ.set i (blk b (x0::x1::x2::x3::x4::x5::x6::v::xs) ty)) w'):=
 Ag i H hi ho hx hy (vs:=[v]) hv (by simp[h1]) hs (by simp) rfl
theorem ZG (i:Nat) (H:Sep z Γ w) {t ty:TypeId} {b:Nat} {x0 x1 x2 x3 x4 x5 x6 x7 x8 x9:Value} {xs:List Value} (hi:Γ[i]? =some (blk b (x0::x1::x2::x3::x4::x5::x6::x7::x8::x9::xs) ty)) (ho:o.op= .store t x y) (hx:ev L x=some (.pointer (some ⟨b,9,none⟩))) (hy:ev L y=some v) (hv:v.cells= #[v]) (h1:v.oneCell'=true) (hs:(P.info? t).map (·.size)=some 1):Du P n ds L o w (fun w'=>Sep z (Γ.set i (blk b (x0::x1::x2::x3::x4::x5::x6::x7::x8::v::xs) ty)) w'):=
 Ag i H hi ho hx hy (vs:=[v]) hv (by simp[h1]) hs (by simp) rfl
theorem YZ (i:Nat) (H:Sep z Γ w) {t ty:TypeId} {b:Nat} {x0 x1 x2 x3 x4 x5 x6 x7 x8 x9 x10 x11:Value} {xs:List Value} (hi:Γ[i]? =some (blk b (x0::x1::x2::x3::x4::x5::x6::x7::x8::x9::x10::x11::xs) ty)) (ho:o.op= .store t x y) (hx:ev L x=some (.pointer (some ⟨b,11,none⟩))) (hy:ev L y=some v) (hv:v.cells= #[v]) (h1:v.oneCell'=true) (hs:(P.info? t).map (·.size)=some 1):Du P n ds L o w (fun w'=>Sep z (Γ.set i (blk b (x0::x1::x2::x3::x4::x5::x6::x7::x8::x9::x10::v::xs) ty)) w'):=
 Ag i H hi ho hx hy (vs:=[v]) hv (by simp[h1]) hs (by simp) rfl
theorem Y0 (i:Nat) (H:Sep z Γ w) {t ty:TypeId} {b:Nat} {x0 x1 x2 x3 x4 x5 x6 x7 x8 x9 x10 x11 x12:Value} {xs:List Value} (hi:Γ[i]? =some (blk b (x0::x1::x2::x3::x4::x5::x6::x7::x8::x9::x10::x11::x12::xs) ty)) (ho:o.op= .store t x y) (hx:ev L x=some (.pointer (some ⟨b,12,none⟩))) (hy:ev L y=some v) (hv:v.cells= #[v]) (h1:v.oneCell'=true) (hs:(P.info? t).map (·.size)=some 1):Du P n ds L o w (fun w'=>Sep z (Γ.set i (blk b (x0::x1::x2::x3::x4::x5::x6::x7::x8::x9::x10::x11::v::xs) ty)) w'):=
 Ag i H hi ho hx hy (vs:=[v]) hv (by simp[h1]) hs (by simp) rfl
end
/-! ### Calls by their contracts -/
section calls
variable {P:Program} {ops:List Oper} {Q:Exit→Act→World→Prop} {a:Act} {w z:World} {rest:List Oper} {o:Oper} {n d:Nat} {ds:List Deferred} {L:List (Nat×Value)} {v:Value} {Γ pre R':List Ae} {post:Value→List Ae→Prop} {f:FuncId} {args:List Operand} {vs:List Value} {tys:Array TypeId}
theorem Cn.or {A B:Ae} (h1:Cn P f vs (A::pre) post) (h2:Cn P f vs (B::pre) post):Cn P f vs ((fun h=>A h∨B h)::pre) post:=fun z R w H=>by
 obtain ⟨b,H⟩:=H.ex 0 (σ:=Bool) (B:=fun b=>bif b then A else B) rfl (fun h q=>by rcases q with q|q;exact ⟨true,q⟩;exact ⟨false,q⟩)
 cases b with
 | true=>exact h1 z R w H
 | false=>exact h2 z R w H
theorem Cn.at (hc:Cn P f vs pre post) (H:Sep z Γ w) (k:Nat) (is:List Nat) (hok:Fu k is=true) (e:C6 Γ is++Γ.drop k=pre++R'):Calls P f vs.toArray w (Ret fun v w'=>∃ Γ',post v Γ'∧Sep z (Γ'++R') w'):=
 hc z R' w (H.perm k is hok e)
theorem ZT (hw:BC ops L o.guard=true) (hd:o.dst=some d) (hlt:Nat.blt d n=true) (ho:o.op= .call { callee:= .value (.func f),args:=args.toArray,argTypes:=tys }) (hargs:evs L args=some vs) (hr:∀ w,(callFunc f vs.toArray).run P w= .ok (.enter f vs.toArray) w)
  (hc:Cn P f vs pre post) (H:Sep z Γ w) (k:Nat) (is:List Nat) (hok:Fu k is=true) (e:C6 Γ is++Γ.drop k=pre++R')
  (K:∀ v w' Γ',post v Γ'→Sep z (Γ'++R') w'→∀ a',Fr n ds ((d,v)::L) a'→wpList P ops.toArray Q rest a' w'):∀ a,Fr n ds L a→wpList P ops.toArray Q (o::rest) a w:=
 PR hw hd hlt ho hargs hr (hc.at H k is hok e) fun v w' ⟨Γ',q,H'⟩=>K v w' Γ' q H'
theorem Cn.use (hc:Cn P f vs pre post) (H:Sep z (pre++R') w):Calls P f vs.toArray w (Ret fun v w'=>∃ Γ',post v Γ'∧Sep z (Γ'++R') w'):=hc z R' w H
theorem EZ (hw:BC ops L o.guard=true) (hd:o.dst=some d) (hlt:Nat.blt d n=true) (ho:o.op= .call { callee:= .value (.func f),args:=args.toArray,argTypes:=tys }) (hargs:evs L args=some vs) (hr:∀ w,(callFunc f vs.toArray).run P w= .ok (.enter f vs.toArray) w)
  (hc:Cn P f vs pre post) (H:Sep z Γ w) (e:Γ=pre++R')
  (K:∀ v w' Γ',post v Γ'→Sep z (Γ'++R') w'→∀ a',Fr n ds ((d,v)::L) a'→wpList P ops.toArray Q rest a' w'):∀ a,Fr n ds L a→wpList P ops.toArray Q (o::rest) a w:=
 PR hw hd hlt ho hargs hr (hc.use (e▸H)) fun v w' ⟨Γ',q,H'⟩=>K v w' Γ' q H'
theorem cq (hc:Cn P f vs pre post) (hq:∀ u Γ',post u Γ'→u=v∧Γ'=pre) (k:Nat) (is is':List Nat) (hok:Fu k is=true) (e:C6 Γ is++Γ.drop k=pre++R') (hok':Fu k is'=true) (e':C6 (pre++R') is'++(pre++R').drop k=Γ):
  ∀ w,Sep z Γ w→Calls P f vs.toArray w (Ret fun u w'=>u=v∧Sep z Γ w'):=fun w H=>
 Ret.mono (hc.at H k is hok e) fun u w' ⟨Γ',q,H'⟩=>by
  obtain ⟨rfl,rfl⟩:=hq u Γ' q
  exact ⟨rfl,H'.perm k is' hok' e'⟩
theorem Un {Rr:Value→World→Prop} (hw:BC ops L o.guard=true) (hd:o.dst=none) (h:B8 P n ds L o w Rr) (K:∀ v w',Rr v w'→∀ a,Fr n ds L a→wpList P ops.toArray Q rest a w'):∀ a,Fr n ds L a→wpList P ops.toArray Q (o::rest) a w:=by
 intro a hF
 obtain ⟨v,w',hr,hR⟩:=h a hF
 unfold wpList
 rw[if_pos (wantL_ok hF hw)]
 left
 unfold Oper.wp
 rw[hr,Oper.upon_value,hd]
 exact K v w' hR a hF
end calls
section callsH
variable {P:Program} {ops:List Oper} {N R:Act→World→Prop} {X:Nat→Act→World→Prop} {a:Act} {w z:World} {n d i:Nat} {ds:List Deferred} {L:List (Nat×Value)} {v:Value} {o:Oper} {Γ pre R':List Ae} {post:Value→List Ae→Prop} {f:FuncId} {args:List Operand} {vs:List Value} {tys:Array TypeId} {K:Act→World→Prop}
theorem NU (hi:ops[i]? =some o) (hw:BC ops L o.guard=true) (hd:o.dst=some d) (hlt:Nat.blt d n=true) (ho:o.op= .call { callee:= .value (.func f),args:=args.toArray,argTypes:=tys }) (hargs:evs L args=some vs) (hr:∀ w,(callFunc f vs.toArray).run P w= .ok (.enter f vs.toArray) w)
  (hc:Cn P f vs pre post) (H:Sep z Γ w) (k:Nat) (is:List Nat) (hok:Fu k is=true) (e:C6 Γ is++Γ.drop k=pre++R')
  (hK:∀ v w' Γ',post v Γ'→Sep z (Γ'++R') w'→∀ a',Fr n ds ((d,v)::L) a'→K a' w'):∀ a,Fr n ds L a→wpOp P ops.toArray (Qp N X R) i K a w:=
 PY hi hw hd hlt ho hargs hr (hc.at H k is hok e) fun v w' ⟨Γ',q,H'⟩=>hK v w' Γ' q H'
theorem BL (hi:ops[i]? =some o) (hw:BC ops L o.guard=true) (hd:o.dst=some d) (hlt:Nat.blt d n=true) (ho:o.op= .call { callee:= .value (.func f),args:=args.toArray,argTypes:=tys }) (hargs:evs L args=some vs) (hr:∀ w,(callFunc f vs.toArray).run P w= .ok (.enter f vs.toArray) w)
  (hc:Cn P f vs pre post) (H:Sep z Γ w) (e:Γ=pre++R')
  (hK:∀ v w' Γ',post v Γ'→Sep z (Γ'++R') w'→∀ a',Fr n ds ((d,v)::L) a'→K a' w'):∀ a,Fr n ds L a→wpOp P ops.toArray (Qp N X R) i K a w:=
 PY hi hw hd hlt ho hargs hr (hc.use (e▸H)) fun v w' ⟨Γ',q,H'⟩=>hK v w' Γ' q H'
theorem RR (hi:ops[i]? =some o) (hw:BC ops L o.guard=true) (hd:o.dst=some d) (hlt:Nat.blt d n=true) (hdo:Ao P (· =w) n ds L o v) (hK:∀ a',Fr n ds ((d,v)::L) a'→K a' w):∀ a,Fr n ds L a→wpOp P ops.toArray (Qp N X R) i K a w:=
 Ce hi hw hd hlt (Rr:=fun u w'=>u=v∧w'=w) (fun a hF=>⟨v,w,hdo a hF w rfl,rfl,rfl⟩) fun _ _ ⟨e1,e2⟩=>by subst e1;subst e2;exact hK
theorem Y1 {Rr:Value→World→Prop} (hi:ops[i]? =some o) (hw:BC ops L o.guard=true) (hd:o.dst=none) (h:B8 P n ds L o w Rr) (hK:∀ v w',Rr v w'→∀ a,Fr n ds L a→K a w'):∀ a,Fr n ds L a→wpOp P ops.toArray (Qp N X R) i K a w:=by
 intro a hF
 obtain ⟨v,w',hr,hR⟩:=h a hF
 unfold wpOp
 rw[List.getElem?_toArray,hi]
 simp only
 rw[if_pos (wantL_ok hF hw)]
 left
 unfold Oper.wp
 rw[hr,Oper.upon_value,hd]
 exact hK v w' hR a hF
end callsH
end
section
open Go.RowKit
def KB:IntKind→IntKind→Bool
 | .i64,.i64=>true
 | .u8,.u8=>true
 | .u32,.u32=>true
 | .u64,.u64=>true
 | .i32,.i32=>true
 | .u16,.u16=>true
 | _,_=>false
theorem Gw {k k':IntKind} (h:KB k k'=true):k=k':=by unfold KB at h;split at h<;>first|rfl|cases h
def icmp (b:BinOp) (p q:Int):Option Value:=match b with
 | .lss=>some (.bool (decide (p<q)))
 | .leq=>some (.bool (decide (p≤q)))
 | .gtr=>some (.bool (decide (q<p)))
 | .geq=>some (.bool (decide (q≤p)))
 | .eql=>some (.bool (decide (p=q)))
 | .neq=>some (.bool (decide (p≠q)))
 | _=>none
def Zt (n:Option Nat) (p r:Nat):Bool:=match n with
 | some k=>Nat.beq (p+k) r
 | none=>false
abbrev Mm:=List (Nat×List Value×TypeId)
def MemL (w:World):Mm→Prop
 | []=>True
 | e::M=>Blk e.1 e.2.1 e.2.2 w∧MemL w M
theorem AW {w:World} :MemL w []:=trivial
theorem AK {w:World} {b:Nat} {cs:List Value} {t:TypeId} {M:Mm} (h:Blk b cs t w) (g:MemL w M):MemL w ((b,cs,t)::M):=⟨h,g⟩
theorem MemL.get {w:World} :∀ {M:Mm} {j:Nat} {e:Nat×List Value×TypeId},MemL w M→M[j]? =some e→Blk e.1 e.2.1 e.2.2 w
 | [],_,_,_,h=>by simp at h
 | _::_,0,_,g,h=>by simp at h;subst h;exact g.1
 | _::_,j+1,_,g,h=>MemL.get (j:=j) g.2 (by simpa using h)
structure Qv where
 v:Value
 hs:List Nat
 ok:Bool
 a:List (Nat×Nat)
def O0 (P:Program) (M:Mm) (L:List (Nat×Value)) (hs:List Nat):Op→Option Qv
 | .move x=>match ev L x with|some v=>some ⟨v,hs,true,[]⟩|none=>none
 | .assign x=>match ev L x with|some v=>some ⟨v,hs,true,[]⟩|none=>none
 | .pick c x y=>match ev L c with
  | some (.bool true)=>(match ev L x with|some v=>some ⟨v,hs,true,[]⟩|none=>none)
  | some (.bool false)=>(match ev L y with|some v=>some ⟨v,hs,true,[]⟩|none=>none)
  | _=>none
 | .extract x i=>match ev L x with
  | some (.tuple vs)=>(match vs.toList[i]? with|some v=>some ⟨v,hs,true,[]⟩|none=>none)
  | _=>none
 | .nilCheck x=>match ev L x with
  | some (.pointer (some ad))=>some ⟨.pointer (some ad),hs,true,[]⟩
  | _=>none
 | .unOp b _ x=>match b with
  | .not=>(match ev L x with|some (.bool c)=>some ⟨.bool !c,hs,true,[]⟩|_=>none)
  | _=>none
 | .binOp b _ x y _=>match ev L x with
  | some (.int k p)=>(match ev L y with
   | some (.int k' q)=>(match icmp b p q with|some v=>some ⟨v,hs,KB k k',[]⟩|none=>none)
   | _=>none)
  | _=>none
 | .fieldAddr s x f=>match hs with
  | r::hs=>(match ev L x with
   | some (.pointer (some ⟨b,p,none⟩))=>some ⟨.pointer (some ⟨b,r,none⟩),hs,Zt (DH P s f) p r,[]⟩
   | _=>none)
  | []=>none
 | .load t x=>match hs with
  | j::hs=>(match ev L x with
   | some (.pointer (some ⟨b,p,none⟩))=>(match M[j]? with
    | some e=>(match e.2.1[p]? with
     | some v=>some ⟨v,hs,Ft P t,[(b,e.1)]⟩
     | none=>none)
    | none=>none)
   | _=>none)
  | []=>none
 | _=>none
def BJ:List (Nat×Nat)→Prop
 | []=>True
 | e::l=>e.1=e.2∧BJ l
theorem BW:∀ {l m:List (Nat×Nat)},BJ (l++m)→BJ l∧BJ m
 | [],_,h=>⟨trivial,h⟩
 | _::_,_,h=>⟨⟨h.1,(BW h.2).1⟩,(BW h.2).2⟩
section
variable {P:Program} {M:Mm} {L:List (Nat×Value)} {n:Nat} {ds:List Deferred} {w:World}
theorem Gx {C:World→Prop} {o:Oper} {hs:List Nat} {q:Qv} (hM:∀ w,C w→MemL w M) (h:O0 P M L hs o.op=some q) (hb:q.ok=true) (ha:BJ q.a):Ao P C n ds L o q.v:=by
 unfold O0 at h
 split at h
 ·rename_i ho
  split at h
  ·rename_i hx;cases h;exact CA ho hx
  ·cases h
 ·rename_i ho
  split at h
  ·rename_i hx;cases h;exact Ep ho hx
  ·cases h
 ·rename_i ho
  split at h
  ·rename_i hc
   split at h
   ·rename_i hx;cases h;exact LB ho hc hx
   ·cases h
  ·rename_i hc
   split at h
   ·rename_i hx;cases h;exact LD ho hc hx
   ·cases h
  ·cases h
 ·rename_i ho
  split at h
  ·rename_i vs hx
   split at h
   ·rename_i hv;cases h
    exact EC (vs:=vs.toList) ho (by simpa using hx) hv
   ·cases h
  ·cases h
 ·rename_i ho
  split at h
  ·rename_i hx;cases h;exact I8 ho hx
  ·cases h
 ·rename_i ho
  split at h
  ·split at h
   ·rename_i hx;cases h;exact I6 ho hx
   ·cases h
  ·cases h
 ·rename_i b _ x y _ ho
  split at h
  ·rename_i k p hx
   split at h
   ·rename_i k' r hy
    split at h
    ·rename_i v hv
     cases h
     obtain rfl:=Gw hb
     unfold icmp at hv
     split at hv<;>first|(cases hv;first|exact OV ho hx hy|exact Ug ho hx hy|exact Uh ho hx hy|exact Ui ho hx hy|exact Uj ho hx hy|exact Uk ho hx hy)|cases hv
    ·cases h
   ·cases h
  ·cases h
 ·rename_i s x f ho
  split at h
  ·split at h
   ·rename_i b p hx
    cases h
    dsimp only at hb
    cases hf:DH P s f with
    | none=>rw[hf] at hb;cases hb
    | some k=>
     rw[hf] at hb
     exact Dl ho hf hx (Nat.eq_of_beq_eq_true hb)
   ·cases h
  ·cases h
 ·rename_i t x ho
  split at h
  ·split at h
   ·rename_i b p hx
    split at h
    ·rename_i e he
     split at h
     ·rename_i v hv
      cases h
      have e1:b=e.1:=ha.1
      exact AZ ho hx hb (fun w hw=>by rw[e1];exact ((hM w hw).get he).cel p hv)
     ·cases h
    ·cases h
   ·cases h
  ·cases h
 ·cases h
structure Qs where
 L:List (Nat×Value)
 os:List Oper
 ok:Bool
 a:List (Nat×Nat)
def quiet (P:Program) (M:Mm) (ops:List Oper) (n:Nat):Nat→List Nat→Bool→List (Nat×Nat)→List (Nat×Value)→List Oper→Option Qs
 | 0,_,ok,a,L,os=>some ⟨L,os,ok,a⟩
 | _+1,_,_,_,_,[]=>none
 | k+1,hs,ok,a,L,o::os=>match o.dst with
  | none=>none
  | some d=>match Nat.blt d n with
   | false=>none
   | true=>match BC ops L o.guard with
    | true=>(match O0 P M L hs o.op with
     | some q=>quiet P M ops n k q.hs (q.ok && ok) (q.a++a) ((d,q.v)::L) os
     | none=>none)
    | false=>(match El ops L o.guard with
     | true=>quiet P M ops n k hs ok a ((d,undef)::L) os
     | false=>none)
theorem GX {ops:List Oper} :∀ {k:Nat} {hs:List Nat} {ok:Bool} {a:List (Nat×Nat)} {L:List (Nat×Value)} {os:List Oper} {q:Qs},quiet P M ops n k hs ok a L os=some q→q.ok=true→BJ q.a→ok=true∧BJ a:=by
 intro k
 induction k with
 | zero=>intro hs ok a L os q h hb ha;simp only[quiet,Option.some.injEq] at h;subst h;exact ⟨hb,ha⟩
 | succ k ih=>
  intro hs ok a L os q h hb ha
  cases os with
  | nil=>simp[quiet] at h
  | cons o os=>
   simp only[quiet] at h
   split at h
   ·cases h
   ·split at h
    ·cases h
    ·split at h
     ·split at h
      ·obtain ⟨h1,h2⟩:=ih h hb ha
       exact ⟨by simp at h1;exact h1.2,(BW h2).2⟩
      ·cases h
     ·split at h
      ·exact ih h hb ha
      ·cases h
theorem Xi {ops:List Oper} {Q:Exit→Act→World→Prop} (hM:MemL w M):∀ (k:Nat) (hs:List Nat) {ok:Bool} {a:List (Nat×Nat)} {L L':List (Nat×Value)} {os os':List Oper} {ok':Bool} {a':List (Nat×Nat)},quiet P M ops n k hs ok a L os=some ⟨L',os',ok',a'⟩→ok'=true→BJ a'→
  (∀ x,Fr n ds L' x→wpList P ops.toArray Q os' x w)→∀ x,Fr n ds L x→wpList P ops.toArray Q os x w:=by
 intro k
 induction k with
 | zero=>
  intro hs ok a L L' os os' ok' a' h _ _ K
  simp only[quiet,Option.some.injEq,Qs.mk.injEq] at h
  obtain ⟨rfl,rfl,_,_⟩:=h
  exact K
 | succ k ih=>
  intro hs ok a L L' os os' ok' a' h hb ha K
  cases os with
  | nil=>simp[quiet] at h
  | cons o os=>
   simp only[quiet] at h
   split at h
   ·cases h
   ·rename_i d hd
    split at h
    ·cases h
    ·rename_i hlt
     split at h
     ·rename_i hw
      split at h
      ·rename_i q hq
       obtain ⟨h1,h2⟩:=GX h hb ha
       simp at h1
       exact s_do hw hd hlt (Gx (fun _ e=>e▸hM) hq h1.1 (BW h2).1) (ih _ h hb ha K)
      ·cases h
     ·split at h
      ·rename_i hk
       exact PP hk hd hlt (ih _ h hb ha K)
      ·cases h
theorem CR:∀ {l:List (Nat×Nat)},l.map Prod.fst=l.map Prod.snd→BJ l
 | [],_=>trivial
 | _::_,h=>by
  simp only[List.map_cons,List.cons.injEq] at h
  exact ⟨h.1,CR h.2⟩
theorem FQ {ops:List Oper} {Q:Exit→Act→World→Prop} (k:Nat) (hs:List Nat) (hM:MemL w M) {L L':List (Nat×Value)} {os os':List Oper} {ok':Bool} {a':List (Nat×Nat)} (h:quiet P M ops n k hs true [] L os=some ⟨L',os',ok',a'⟩) (hb:ok'=true) (ha:a'.map Prod.fst=a'.map Prod.snd) (K:∀ x,Fr n ds L' x→wpList P ops.toArray Q os' x w):∀ x,Fr n ds L x→wpList P ops.toArray Q os x w:=Xi hM k hs h hb (CR ha) K
theorem KC {ops:List Oper} {Q:Exit→Act→World→Prop} (k:Nat) (hs:List Nat) {L L':List (Nat×Value)} {os os':List Oper} {ok':Bool} (h:quiet P [] ops n k hs true [] L os=some ⟨L',os',ok',[]⟩) (hb:ok'=true) (K:∀ x,Fr n ds L' x→wpList P ops.toArray Q os' x w):∀ x,Fr n ds L x→wpList P ops.toArray Q os x w:=Xi AW k hs h hb trivial K
theorem BP {ops:List Oper} {Q:Exit→Act→World→Prop} (k:Nat) {L L':List (Nat×Value)} {os os':List Oper} {ok':Bool} (h:quiet P [] ops n k [] true [] L os=some ⟨L',os',ok',[]⟩) (hb:ok'=true) (K:∀ x,Fr n ds L' x→wpList P ops.toArray Q os' x w):∀ x,Fr n ds L x→wpList P ops.toArray Q os x w:=Xi AW k [] h hb trivial K
/-! the same in regions that draw their order -/
theorem Zu {ops:List Oper} {C:World→Prop} {Q:Act→Prop} (hM:∀ w,C w→MemL w M):∀ (k:Nat) (hs:List Nat) {ok:Bool} {a:List (Nat×Nat)} {L L':List (Nat×Value)} {os os':List Oper} {ok':Bool} {a':List (Nat×Nat)},quiet P M ops n k hs ok a L os=some ⟨L',os',ok',a'⟩→ok'=true→BJ a'→
  (∀ x,Fr n ds L' x→wpQuiet P ops.toArray C Q os' x)→∀ x,Fr n ds L x→wpQuiet P ops.toArray C Q os x:=by
 intro k
 induction k with
 | zero=>
  intro hs ok a L L' os os' ok' a' h _ _ K
  simp only[quiet,Option.some.injEq,Qs.mk.injEq] at h
  obtain ⟨rfl,rfl,_,_⟩:=h
  exact K
 | succ k ih=>
  intro hs ok a L L' os os' ok' a' h hb ha K
  cases os with
  | nil=>simp[quiet] at h
  | cons o os=>
   simp only[quiet] at h
   split at h
   ·cases h
   ·rename_i d hd
    split at h
    ·cases h
    ·rename_i hlt
     split at h
     ·rename_i hw
      split at h
      ·rename_i q hq
       obtain ⟨h1,h2⟩:=GX h hb ha
       simp at h1
       exact A6 hw hd hlt (Gx hM hq h1.1 (BW h2).1) (ih _ h hb ha K)
      ·cases h
     ·split at h
      ·rename_i hk
       exact PS hk hd hlt (ih _ h hb ha K)
      ·cases h
theorem BF {ops:List Oper} {C:World→Prop} {Q:Act→Prop} (k:Nat) (hs:List Nat) (hM:∀ w,C w→MemL w M) {L L':List (Nat×Value)} {os os':List Oper} {ok':Bool} {a':List (Nat×Nat)} (h:quiet P M ops n k hs true [] L os=some ⟨L',os',ok',a'⟩) (hb:ok'=true) (ha:a'.map Prod.fst=a'.map Prod.snd) (K:∀ x,Fr n ds L' x→wpQuiet P ops.toArray C Q os' x):∀ x,Fr n ds L x→wpQuiet P ops.toArray C Q os x:=Zu hM k hs h hb (CR ha) K
theorem Br {ops:List Oper} {C:World→Prop} {Q:Act→Prop} (k:Nat) (hs:List Nat) {L L':List (Nat×Value)} {os os':List Oper} {ok':Bool} (h:quiet P [] ops n k hs true [] L os=some ⟨L',os',ok',[]⟩) (hb:ok'=true) (K:∀ x,Fr n ds L' x→wpQuiet P ops.toArray C Q os' x):∀ x,Fr n ds L x→wpQuiet P ops.toArray C Q os x:=Zu (fun _ _=>AW) k hs h hb trivial K
theorem Zv {ops:List Oper} {Q:Act→Prop} (hM:MemL w M):∀ (k:Nat) (hs:List Nat) {ok:Bool} {a:List (Nat×Nat)} {L L':List (Nat×Value)} {os os':List Oper} {ok':Bool} {a':List (Nat×Nat)},quiet P M ops n k hs ok a L os=some ⟨L',os',ok',a'⟩→ok'=true→BJ a'→
  (∀ x,Fr n ds L' x→wpStill P ops.toArray w Q os' x)→∀ x,Fr n ds L x→wpStill P ops.toArray w Q os x:=by
 intro k
 induction k with
 | zero=>
  intro hs ok a L L' os os' ok' a' h _ _ K
  simp only[quiet,Option.some.injEq,Qs.mk.injEq] at h
  obtain ⟨rfl,rfl,_,_⟩:=h
  exact K
 | succ k ih=>
  intro hs ok a L L' os os' ok' a' h hb ha K
  cases os with
  | nil=>simp[quiet] at h
  | cons o os=>
   simp only[quiet] at h
   split at h
   ·cases h
   ·rename_i d hd
    split at h
    ·cases h
    ·rename_i hlt
     split at h
     ·rename_i hw
      split at h
      ·rename_i q hq
       obtain ⟨h1,h2⟩:=GX h hb ha
       simp at h1
       exact Cd hw hd hlt (Gx (fun _ e=>e▸hM) hq h1.1 (BW h2).1) (ih _ h hb ha K)
      ·cases h
     ·split at h
      ·rename_i hk
       exact PW hk hd hlt (ih _ h hb ha K)
      ·cases h
theorem Uo {ops:List Oper} {Q:Act→Prop} (k:Nat) (hs:List Nat) (hM:MemL w M) {L L':List (Nat×Value)} {os os':List Oper} {ok':Bool} {a':List (Nat×Nat)} (h:quiet P M ops n k hs true [] L os=some ⟨L',os',ok',a'⟩) (hb:ok'=true) (ha:a'.map Prod.fst=a'.map Prod.snd) (K:∀ x,Fr n ds L' x→wpStill P ops.toArray w Q os' x):∀ x,Fr n ds L x→wpStill P ops.toArray w Q os x:=Zv hM k hs h hb (CR ha) K
theorem NV {ops:List Oper} {Q:Act→Prop} (k:Nat) (hs:List Nat) {L L':List (Nat×Value)} {os os':List Oper} {ok':Bool} (h:quiet P [] ops n k hs true [] L os=some ⟨L',os',ok',[]⟩) (hb:ok'=true) (K:∀ x,Fr n ds L' x→wpStill P ops.toArray w Q os' x):∀ x,Fr n ds L x→wpStill P ops.toArray w Q os x:=Zv AW k hs h hb trivial K
structure Qa where
 L:List (Nat×Value)
 listed:Array Bool
 ok:Bool
 a:List (Nat×Nat)
def quietA (P:Program) (M:Mm) (ops:List Oper) (n:Nat) (g:Nat→Bool):List Nat→List Nat→Bool→List (Nat×Nat)→List (Nat×Value)→Array Bool→Option Qa
 | [],_,ok,a,L,li=>some ⟨L,li,ok,a⟩
 | i::is,hs,ok,a,L,li=>match ops[i]? with
  | none=>none
  | some o=>match o.dst with
   | none=>none
   | some d=>match Nat.blt d n with
    | false=>none
    | true=>match BC ops L o.guard with
     | true=>(match O0 P M L hs o.op with
      | some q=>quietA P M ops n g is q.hs (((q.ok && g i) && (Region.noSelect ops.toArray && (Region.free .any ops.toArray li i && (Region.ready .any ops.toArray li).contains i))) && ok) (q.a++a) ((d,q.v)::L) (li.setIfInBounds i true)
      | none=>none)
     | false=>(match El ops L o.guard with
      | true=>quietA P M ops n g is hs ((g i && (Region.noSelect ops.toArray && (Region.free .any ops.toArray li i && (Region.ready .any ops.toArray li).contains i))) && ok) a ((d,undef)::L) (li.setIfInBounds i true)
      | false=>none)
theorem Ff {ops:List Oper} {g:Nat→Bool} :∀ {is hs:List Nat} {ok:Bool} {a:List (Nat×Nat)} {L:List (Nat×Value)} {li:Array Bool} {q:Qa},quietA P M ops n g is hs ok a L li=some q→q.ok=true→BJ q.a→ok=true∧BJ a:=by
 intro is
 induction is with
 | nil=>intro hs ok a L li q h hb ha;simp only[quietA,Option.some.injEq] at h;subst h;exact ⟨hb,ha⟩
 | cons i is ih=>
  intro hs ok a L li q h hb ha
  simp only[quietA] at h
  split at h
  ·cases h
  ·split at h
   ·cases h
   ·split at h
    ·cases h
    ·split at h
     ·split at h
      ·obtain ⟨h1,h2⟩:=ih h hb ha
       exact ⟨(Bool.and_eq_true _ _▸h1).2,(BW h2).2⟩
      ·cases h
     ·split at h
      ·obtain ⟨h1,h2⟩:=ih h hb ha
       exact ⟨(Bool.and_eq_true _ _▸h1).2,h2⟩
      ·cases h
section
variable {ops:List Oper} {N R:Act→World→Prop} {X:Nat→Act→World→Prop} {S:World→Prop}
theorem ZV (hM:∀ w,S w→MemL w M) (hS:S w):∀ (is hs:List Nat) {ok:Bool} {a:List (Nat×Nat)} {L L':List (Nat×Value)} {li li':Array Bool} {ok':Bool} {a':List (Nat×Nat)} {fuel:Nat},quietA P M ops n (fun _=>true) is hs ok a L li=some ⟨L',li',ok',a'⟩→ok'=true→BJ a'→
  (∀ x,Fr n ds L' x→wpAnyH P .any ops.toArray (Qp N X R) S fuel li' x w)→∀ x,Fr n ds L x→wpAnyH P .any ops.toArray (Qp N X R) S (fuel+is.length) li x w:=by
 intro is
 induction is with
 | nil=>
  intro hs ok a L L' li li' ok' a' fuel h _ _ K
  simp only[quietA,Option.some.injEq,Qa.mk.injEq] at h
  obtain ⟨rfl,rfl,_,_⟩:=h
  exact K
 | cons i is ih=>
  intro hs ok a L L' li li' ok' a' fuel h hb ha K
  simp only[quietA] at h
  split at h
  ·cases h
  ·rename_i o ho
   split at h
   ·cases h
   ·rename_i d hd
    split at h
    ·cases h
    ·rename_i hlt
     split at h
     ·rename_i hw
      split at h
      ·rename_i q hq
       obtain ⟨h1,h2⟩:=Ff h hb ha
       simp only[Bool.and_eq_true] at h1
       exact B4 (fuel:=fuel+is.length) i ho h1.1.2.1 h1.1.2.2.1 h1.1.2.2.2 hw hd hlt (Gx hM hq h1.1.1.1 (BW h2).1) hS (ih _ h hb ha K)
      ·cases h
     ·split at h
      ·rename_i hk
       obtain ⟨h1,h2⟩:=Ff h hb ha
       simp only[Bool.and_eq_true] at h1
       exact PX (fuel:=fuel+is.length) i ho h1.1.2.1 h1.1.2.2.1 h1.1.2.2.2 hk hd hlt hS (ih _ h hb ha K)
      ·cases h
theorem ZW (is hs:List Nat) (hM:∀ w,S w→MemL w M) (hS:S w) {L L':List (Nat×Value)} {li li':Array Bool} {ok':Bool} {a':List (Nat×Nat)} {fuel f2:Nat} (h:quietA P M ops n (fun _=>true) is hs true [] L li=some ⟨L',li',ok',a'⟩) (hb:ok'=true) (ha:a'.map Prod.fst=a'.map Prod.snd) (hf:fuel+is.length=f2) (K:∀ x,Fr n ds L' x→wpAnyH P .any ops.toArray (Qp N X R) S fuel li' x w):∀ x,Fr n ds L x→wpAnyH P .any ops.toArray (Qp N X R) S f2 li x w:=hf▸ZV hM hS is hs h hb (CR ha) K
def Lr (ops:List Oper) (i:Nat):Bool:= !(Nat.beq i (ops.length - 1)) && (match ops[i]? with|some o=>o.guard.isNone|none=>false)
theorem ZX (hlast:GU ops.toArray=true) (hM:∀ w,S w→MemL w M) (hS:S w):∀ (is hs:List Nat) {ok:Bool} {a:List (Nat×Nat)} {L L':List (Nat×Value)} {li li':Array Bool} {ok':Bool} {a':List (Nat×Nat)} {fuel:Nat},quietA P M ops n (Lr ops) is hs ok a L li=some ⟨L',li',ok',a'⟩→ok'=true→BJ a'→
  (∀ x,Fr n ds L' x→FN P ops (Qp N X R) S fuel li' x w)→∀ x,Fr n ds L x→FN P ops (Qp N X R) S (fuel+is.length) li x w:=by
 intro is
 induction is with
 | nil=>
  intro hs ok a L L' li li' ok' a' fuel h _ _ K
  simp only[quietA,Option.some.injEq,Qa.mk.injEq] at h
  obtain ⟨rfl,rfl,_,_⟩:=h
  exact K
 | cons i is ih=>
  intro hs ok a L L' li li' ok' a' fuel h hb ha K
  simp only[quietA] at h
  split at h
  ·cases h
  ·rename_i o ho
   split at h
   ·cases h
   ·rename_i d hd
    split at h
    ·cases h
    ·rename_i hlt
     split at h
     ·rename_i hw
      split at h
      ·rename_i q hq
       obtain ⟨h1,h2⟩:=Ff h hb ha
       simp only[Bool.and_eq_true] at h1
       exact Dv (fuel:=fuel+is.length) i hlast ho (by have:=h1.1.1.2;unfold Lr at this;simp only[Bool.and_eq_true] at this;simpa using this.1) h1.1.2.1 h1.1.2.2.1 h1.1.2.2.2 hw hd hlt (Gx hM hq h1.1.1.1 (BW h2).1) hS (ih _ h hb ha K)
      ·cases h
     ·rename_i hw
      split at h
      ·obtain ⟨h1,h2⟩:=Ff h hb ha
       simp only[Bool.and_eq_true] at h1
       exfalso
       have hg':=h1.1.1
       unfold Lr at hg'
       rw[ho] at hg'
       simp only[Bool.and_eq_true] at hg'
       cases hgd:o.guard with
       | none=>rw[hgd] at hw;simp[BC] at hw
       | some g=>have:=hg'.2;rw[hgd] at this;cases this
      ·cases h
theorem DE (is hs:List Nat) (hlast:GU ops.toArray=true) (hM:∀ w,S w→MemL w M) (hS:S w) {L L':List (Nat×Value)} {li li':Array Bool} {ok':Bool} {a':List (Nat×Nat)} {fuel f2:Nat} (h:quietA P M ops n (Lr ops) is hs true [] L li=some ⟨L',li',ok',a'⟩) (hb:ok'=true) (ha:a'.map Prod.fst=a'.map Prod.snd) (hf:fuel+is.length=f2) (K:∀ x,Fr n ds L' x→FN P ops (Qp N X R) S fuel li' x w):∀ x,Fr n ds L x→FN P ops (Qp N X R) S f2 li x w:=hf▸ZX hlast hM hS is hs h hb (CR ha) K
end
end
end
section
open Go.RowKit
/-! ### Reading a part -/
def celH (h:Hp) (b o:Nat) (v:Value):Prop:=∃ cs ty fr,h b=some (.cells cs ty fr)∧cs[o]? =some v
def Ck (h h':Hp):Prop:=∀ k o,h k=some o→h' k=some o
theorem celH.le {h h':Hp} {b o:Nat} {v:Value} (c:celH h b o v) (s:Ck h h'):celH h' b o v:=by
 obtain ⟨cs,ty,fr,h1,h2⟩:=c
 exact ⟨cs,ty,fr,s _ _ h1,h2⟩
theorem celH.cel {h:Hp} {b o:Nat} {v:Value} {w:World} (c:celH h b o v) (s:Ck h (hp w)):Ga b o v w:=by
 obtain ⟨cs,ty,fr,h1,h2⟩:=c.le s
 have h1':w.heap[b]? =some (.cells cs ty fr):=h1
 unfold Ga World.cell?
 simp[h1',h2]
def rdH (sz:Nat) (v:Value) (n:Nat) (xs:List Value) (h:Hp):Prop:=
 ∃ ao c,v= .slice ao n c∧n≤c∧c≤9223372036854775807∧xs.length=n * sz∧∀ (j:Nat) (u:Value),xs[j]? =some u→∃ b p,ao=some ⟨b,p,none⟩∧celH h b (p+j) u
theorem rdH.le {sz:Nat} {v:Value} {n:Nat} {xs:List Value} {h h':Hp} (r:rdH sz v n xs h) (s:Ck h h'):rdH sz v n xs h':=by
 obtain ⟨ao,c,e,h1,h2,h3,h4⟩:=r
 exact ⟨ao,c,e,h1,h2,h3,fun j u hj=>by obtain ⟨b,p,e,hc⟩:=h4 j u hj;exact ⟨b,p,e,hc.le s⟩⟩
theorem rdH.rd {sz:Nat} {v:Value} {n:Nat} {xs:List Value} {h:Hp} {w:World} (r:rdH sz v n xs h) (s:Ck h (hp w)):Rd sz v n xs w:=by
 obtain ⟨ao,c,e,h1,h2,h3,h4⟩:=r
 exact ⟨ao,c,e,h1,h2,h3,fun j u hj=>by obtain ⟨b,p,e,hc⟩:=h4 j u hj;exact ⟨b,p,e,hc.cel s⟩⟩
theorem rdH.small {sz:Nat} {v:Value} {n:Nat} {xs:List Value} {h:Hp} (r:rdH sz v n xs h):n≤9223372036854775807:=by
 obtain ⟨ao,c,e,h1,h2,_⟩:=r;omega
theorem rdH.nil (sz:Nat) (h:Hp):rdH sz (.slice none 0 0) 0 [] h:=⟨none,0,rfl,Nat.le_refl _,by omega,by simp,fun j u hj=>by simp at hj⟩
theorem blk.celH {b:Nat} {cs:List Value} {ty:TypeId} {h:Hp} (hb:blk b cs ty h) (o:Nat) {v:Value} (hv:cs[o]? =some v):celH h b o v:=⟨_,_,_,hb,by simpa using hv⟩
theorem blk.rd {b off l c sz:Nat} {cs xs:List Value} {ty:TypeId} {h:Hp} (hb:blk b cs ty h) (hlc:l≤c) (hc:c≤9223372036854775807) (hl:off+l * sz≤cs.length) (hx:(cs.drop off).take (l * sz)=xs):rdH sz (.slice (some ⟨b,off,none⟩) l c) l xs h:=by
 subst hx
 refine ⟨_,_,rfl,hlc,hc,by simp;omega,fun j u hj=>⟨b,off,rfl,hb.celH _ ?_⟩⟩
 rw[List.getElem?_take] at hj
 split at hj
 ·rw[List.getElem?_drop] at hj;exact hj
 ·cases hj
section
variable {P:Program} {C:World→Prop} {o:Oper} {a:Act} {w z:World} {Γ:List Ae} {n:Nat} {ds:List Deferred} {L:List (Nat×Value)} {v:Value} {x y:Operand} {xt yt:TypeId} {A:Ae}
theorem Sep.get' (i:Nat) (H:Sep z Γ w) (hA:Γ[i]? =some A):∃ h,A h∧Ck h (hp w):=H.get i hA
theorem Sep.rd (i:Nat) (H:Sep z Γ w) (hA:Γ[i]? =some A) {sz m:Nat} {u:Value} {xs:List Value} (hr:∀ h,A h→rdH sz u m xs h):Rd sz u m xs w:=by
 obtain ⟨h,h1,h2⟩:=H.get' i hA
 exact (hr h h1).rd h2
theorem Sep.cell (i:Nat) (H:Sep z Γ w) (hA:Γ[i]? =some A) {b p:Nat} {u:Value} (hr:∀ h,A h→celH h b p u):Ga b p u w:=by
 obtain ⟨h,h1,h2⟩:=H.get' i hA
 exact (hr h h1).cel h2
theorem Sep.says (i:Nat) (H:Sep z Γ w) (hA:Γ[i]? =some A) {p:Prop} (hr:∀ h,A h→p):p:=by
 obtain ⟨h,h1,_⟩:=H.get' i hA
 exact hr h h1
/-! ### A slice of the call's own that may grow -/
def grow (e:TypeId) (sz:Nat) (v:Value) (n:Nat) (xs:List Value):Ae:=fun h=>xs.length=n * sz∧
 ((v= .slice none 0 0∧n=0)∨∃ g cap cur,v= .slice (some ⟨g,0,none⟩) n cap∧h g=some (.cells cur e (0,0))∧n≤cap∧cap≤maxLen∧cur.size=cap * sz∧cur.toList.take (n * sz)=xs)
theorem grow.form {e:TypeId} {sz m:Nat} {u:Value} {xs:List Value} {h:Hp} (g:grow e sz u m xs h):(u= .slice none 0 0∧m=0)∨∃ b c,u= .slice (some ⟨b,0,none⟩) m c∧m≤c:=by
 rcases g.2 with g|⟨b,c,cur,hv,_,hc,_⟩
 ·exact .inl g
 ·exact .inr ⟨b,c,hv,hc⟩
theorem grow.nil (e:TypeId) (sz:Nat) (h:Hp):grow e sz (.slice none 0 0) 0 [] h:=⟨by simp,.inl ⟨rfl,rfl⟩⟩
theorem grow.rd {e:TypeId} {sz m:Nat} {u:Value} {xs:List Value} {h:Hp} (g:grow e sz u m xs h):rdH sz u m xs h:=by
 have hl:=g.1
 rcases g.2 with ⟨rfl,rfl⟩|⟨b,cap,cur,rfl,hg,hc,hm,hs,ht⟩
 ·have:xs=[]:=by simpa using hl
  subst this;exact rdH.nil sz h
 ·refine ⟨_,cap,rfl,hc,(by unfold maxLen at hm;omega),hl,fun j u hj=>⟨b,0,rfl,_,_,_,hg,?_⟩⟩
  rw[←ht] at hj
  rw[List.getElem?_take] at hj
  split at hj
  ·simpa using hj
  ·cases hj
theorem grow.own {e:TypeId} {sz m:Nat} {u:Value} {xs:List Value} {h:Hp} (g:grow e sz u m xs h) (s:Ck h (hp w)):Um 0 e sz u m xs w:=by
 refine ⟨g.1,?_⟩
 rcases g.2 with g|⟨b,cap,cur,hv,hg,r⟩
 ·exact .inl g
 ·exact .inr ⟨b,cap,cur,hv,Nat.zero_le _,s _ _ hg,r⟩
theorem Sep.void {B:Ae} (H:Sep z Γ w) (hB:∀ h,B h):Sep z (B::Γ) w:=H.grow (Ext.refl No w) (hB _)
theorem Sep.nilg (H:Sep z Γ w) (e:TypeId) (sz:Nat):Sep z (YtjegbnfpodadcaaGreatDoor.grow e sz (.slice none 0 0) 0 []::Γ) w:=H.void fun h=>grow.nil e sz h
theorem blk.grow {b k c sz:Nat} {cs xs:List Value} {ty:TypeId} {h:Hp} (hb:blk b cs ty h) (hkc:k≤c) (hc:c≤9223372036854775807) (hl:cs.length=c * sz) (hx:cs.take (k * sz)=xs):grow ty sz (.slice (some ⟨b,0,none⟩) k c) k xs h:=by
 refine ⟨?_,.inr ⟨b,c,cs.toArray,rfl,hb,hkc,(by unfold maxLen;omega),by simpa using hl,by simpa using hx⟩⟩
 rw[←hx,List.length_take,hl]
 exact Nat.min_eq_left (Nat.mul_le_mul_right _ hkc)
theorem Bb (i:Nat) {t e:TypeId} {zv:Value} {sz by_ k m:Nat} {u:Value} {xs news:List Value} (H:Sep z Γ w) (hi:Γ[i]? =some (grow e sz v k xs)) (ho:o.op= .call { callee:= .builtin .append,args:= #[x,y],argTypes:= #[t,t] })
  (ht:P.underlying t=some (.slice e)) (hE:Elt P e zv sz by_) (hx:ev L x=some v) (hy:ev L y=some u) (hsrc:Rd sz u m news w) (h1:∀ c∈news,c.oneCell'=true) (hby:(k+m) * by_≤140737488355328):
  B8 P n ds L o w (fun v' w'=>Sep z (Γ.set i (grow e sz v' (k+m) (xs++news))) w'):=fun a hF=>by
 obtain ⟨own,hown⟩:=H.own
 have hg:=hown i _ hi
 have hsub:Ck ((hp w).part own i) (hp w):=fun q o' e=>(DI e).2
 have hO:=hg.own hsub
 obtain ⟨v',w',hr,hO',hx',hb'⟩:=RJ (B:=0) ho ht hE hx hy hO hsrc h1 (Nat.zero_le _) hby a hF
 refine ⟨v',w',hr,hx'.os.trans H.os,hx'.tape.trans H.tape,hx'.output.trans H.output,fun q=>if q<w.heap.size then own q else i,fun j B hj=> ?_⟩
 have hvb:∀ q,v.ownBlock=some q→own q=i:=fun q hq=>by
  rcases hg.2 with ⟨rfl,_⟩|⟨b,cap,cur,rfl,hgb,_⟩
  ·simp[Value.ownBlock] at hq
  ·simp[Value.ownBlock] at hq;subst hq;exact (DI hgb).1
 rw[List.getElem?_set] at hj
 split at hj
 ·rename_i e;subst e
  split at hj
  ·cases hj
   refine ⟨hO'.1,?_⟩
   rcases hO'.2 with q|⟨g,cap,cur,hv',_,hgw,r⟩
   ·exact .inl q
   ·refine .inr ⟨g,cap,cur,hv',?_,r⟩
    unfold Hp.part hp
    have hgi:(if g<w.heap.size then own g else i)=i:=by
     split
     ·rename_i hlt
      rcases hb' with q|q
      ·exact hvb g (by rw[←q,hv'];rfl)
      ·rw[hv'] at q;simp[Value.ownBlock] at q;omega
     ·rfl
    rw[if_pos hgi];exact hgw
  ·cases hj
 ·rename_i hne
  have:=hown j B hj
  have e:(hp w').part (fun q=>if q<w.heap.size then own q else i) j=(hp w).part own j:=by
   funext q
   unfold Hp.part hp
   dsimp only
   by_cases hq:q<w.heap.size
   ·simp only[hq,if_true]
    by_cases hqj:own q=j
    ·simp only[hqj,if_true]
     exact hx'.block q hq (fun hvq=>hne ((hvb q hvq).symm.trans hqj))
    ·simp[hqj]
   ·have:w.heap[q]? =none:=Array.getElem?_eq_none (by omega)
    simp[hq,this,hne]
  rwa[e]
theorem AV (H:Sep z Γ w) {t e:TypeId} {zv:Value} {len sz by_:Nat} {parts:List (Nat×Operand)} {vs:List (Nat×Value)} {out:List Value} (ho:o.op= .buildSlice t len parts.toArray) (ht:P.underlying t=some (.slice e)) (hE:Elt P e zv sz by_)
  (hv:(evs L (parts.map (·.2))).map (List.zip (parts.map (·.1)))=some vs) (hsm:len * sz≤16777216) (hl:0<len) (hf:Instr.fill (fun i=>some (i * sz,sz)) ((Array.range (len * sz)).map (zv.cells[· % zv.cells.size]!)) vs=some out.toArray):
  B8 P n ds L o w (fun v w'=>∃ b,v= .slice (some ⟨b,0,none⟩) len len∧Sep z (blk b out e::Γ) w'):=fun a hF=>by
 obtain ⟨v,w',hr,b,rfl,hs,_,hB,hx⟩:=LI (w:=w) ho ht hE hv hsm hl hf a hF
 exact ⟨_,w',hr,b,rfl,H.new hx (by omega) hB⟩
theorem Hk (H:Sep z Γ w) {t e:TypeId} {zv:Value} {sz by_:Nat} (ho:o.op= .buildSlice t 0 #[]) (ht:P.underlying t=some (.slice e)) (hE:Elt P e zv sz by_):
  B8 P n ds L o w (fun v w'=>∃ b,v= .slice (some ⟨b,0,none⟩) 0 0∧Sep z (blk b [] e::Γ) w'):=fun a hF=>by
 obtain ⟨i,hi,hz,hs,hb,hzs,hsz,hb0⟩:=hE
 refine ⟨_,_,?_,w.heap.size,rfl,H.new (CQ w (.cells #[] e)) (Nat.le_refl _) (by show (w.heap.push _)[w.heap.size]? =_;simp)⟩
 simp only[execOp,ho,List.map_toArray]
 have hso:∀ w,(sizeOf e).run P w= .ok sz w:=fun w=>by simp[sizeOf,typeInfo,hi,hs,go_sem]
 simp[Instr.buildSlice,run_underlying ht,hso,newRow,newObj,go_sem,Sem.run,Instr.fill]
end
end
section
open Go.RowKit
def Ci (l:List UInt8):Value:= .string ⟨l.toArray⟩
def O3 (P:Program) (t:TypeId):Bool:=match P.underlying t with
 | some (.slice e)=>(match P.underlying e with|some (.int .u8)=>(match P.info? e with|some i=>Nat.beq i.size 1|none=>false)|_=>false)
 | _=>false
theorem NW {P:Program} {t:TypeId} (h:O3 P t=true):∃ e i,P.underlying t=some (.slice e)∧P.underlying e=some (.int .u8)∧P.info? e=some i∧i.size=1:=by
 unfold O3 at h
 split at h
 ·rename_i e h1
  split at h
  ·rename_i h2
   split at h
   ·rename_i i h3;exact ⟨e,i,h1,h2,h3,by simpa using h⟩
   ·cases h
  ·cases h
 ·cases h
section
variable {P:Program} {C:World→Prop} {o:Oper} {a:Act} {w z:World} {Γ:List Ae} {n:Nat} {ds:List Deferred} {L:List (Nat×Value)} {v:Value} {x y:Operand} {xt yt:TypeId} {A:Ae}
/-! ### bytes as a string -/
theorem CN {dt:TypeId} {l:List UInt8} {u:Value} (ho:o.op= .convert xt dt x) (h1:O3 P xt=true) (h2:Gb P dt=true) (hx:ev L x=some u) (hr:∀ w,C w→Rd 1 u l.length (l.map u8) w):Ao P C n ds L o (Ci l):=fun a hF w hw=>by
 obtain ⟨e,i,ht,he,_,_⟩:=NW h1
 have hd:=FL h2
 obtain ⟨ao,c,rfl,hlc,_,_,hc⟩:=hr w hw
 have key:(convert xt dt (.slice ao l.length c)).run P w= .ok (Ci l) w:=by
  cases ao with
  | none=>
   have:l=[]:=by
    cases l with
    | nil=>rfl
    | cons p q=>obtain ⟨b,p',e,_⟩:=hc 0 (u8 p) (by simp);cases e
   subst this
   exact run_convert_bytes_nil _ xt e ht he _ _ dt hd
  | some ad=>
   refine run_convert_bytes_back w xt dt e ad c l ht he hd fun j hj=> ?_
   obtain ⟨b,p,e2,hcel⟩:=hc j (u8 l[j]) (by simp[hj])
   simp only[Option.some.injEq] at e2;subst e2
   have e3:(Addr.add ⟨b,p,none⟩ j)=⟨b,p+j,none⟩:=by
    unfold Addr.add;split
    ·rename_i h0;simp[h0]
    ·rfl
   rw[e3];exact hcel
 simp only[execOp,ho,hF.ev hx,Sem.run_bind,key,Result.andThen_ok,Sem.run_pure]
theorem P2 {l m:List UInt8} (ho:o.op= .binOp .eql xt x y yt) (ht:Gb P xt=true) (hx:ev L x=some (Ci l)) (hy:ev L y=some (Ci m)):Ao P C n ds L o (.bool (decide (l=m))):=fun a hF w _=>by
 have ht:=FL ht
 simp only[execOp,ho,hF.ev hx,hF.ev hy,Ci];simp[ht,go_sem]
 first |(rw[Bool.eq_iff_iff];simp;done)|skip
theorem P3 {l m:List UInt8} (ho:o.op= .binOp .neq xt x y yt) (ht:Gb P xt=true) (hx:ev L x=some (Ci l)) (hy:ev L y=some (Ci m)):Ao P C n ds L o (.bool (decide (l≠m))):=fun a hF w _=>by
 have ht:=FL ht
 simp only[execOp,ho,hF.ev hx,hF.ev hy,Ci];simp[ht,go_sem]
 first |(rw[Bool.eq_iff_iff];simp;done)|skip
theorem RT {t:TypeId} {l:List UInt8} (ho:o.op= .call { callee:= .builtin .len,args:= #[x],argTypes:= #[t] }) (ht:Gb P t=true) (hx:ev L x=some (Ci l)):Ao P C n ds L o (Iv_ l.length):=Xd ho ht hx
/-! ### copy -/
theorem Iw {dT sT ty:TypeId} {b off dl dc m:Nat} {ct:TypeId} {cs news:List Value} {u:Value} (hd:∃ e i,P.underlying dT=some (.slice e)∧P.info? e=some i∧i.size=1) (hsrc:(Rd 1 u m news w)∨(∃ l,u=Ci l∧news=l.map u8∧m=l.length)) (h1:∀ c∈news,c.oneCell'=true) (hb:Blk b cs ct w) (hl:off+min m dl≤cs.length):
  ∃ w',(Builtin.copy_ #[dT,sT] ty #[.slice (some ⟨b,off,none⟩) dl dc,u]).run P w= .ok (Iv_ (min m dl:Nat)) w'∧Blk b (cs.take off++news.take (min m dl)++cs.drop (off+min m dl)) ct w'∧Ext (· =b) w w'∧w'.heap.size=w.heap.size:=by
 obtain ⟨e,i,ht,hi,hs⟩:=hd
 have hso:∀ w,(sizeOf e).run P w= .ok 1 w:=fun w=>by simp[sizeOf,typeInfo,hi,hs,go_sem]
 have hnl:(news.take (min m dl)).length=min m dl:=by
  have:news.length=m:=by
   rcases hsrc with ⟨_,_,_,_,_,hl,_⟩|⟨l,_,rfl,rfl⟩
   ·simpa using hl
   ·simp
  rw[List.length_take,this];omega
 have hst:=run_storeCells_at P b off ct (news.take (min m dl)) 0 cs.toArray w hb (by rw[hnl];simpa using hl) (fun c hc=>h1 c (List.mem_of_mem_take hc))
 rw[hnl] at hst
 simp only[Nat.add_zero,List.toList_toArray] at hst
 refine ⟨_,?_,setRow_heap w b _ _ ct (0,0) hb,⟨rfl,rfl,rfl,by simp,fun k _ hk=>setRow_other w b k _ hk⟩,by simp⟩
 have hlen:(Builtin.lenOf u).run P w= .ok m w:=by
  rcases hsrc with ⟨ao,c,rfl,_⟩|⟨l,rfl,rfl,rfl⟩
  ·rfl
  ·rfl
 have hmin:m.min dl=min m dl:=rfl
 have hfc:(Builtin.firstCells 1 (min m dl) u).run P w= .ok (news.take (min m dl)).toArray w:=by
  rcases hsrc with ⟨ao,c,rfl,hmc,_,hl',hrd⟩|⟨l,rfl,rfl,rfl⟩
  ·cases ao with
   | none=>
    have hn:news=[]:=by
     cases news with
     | nil=>rfl
     | cons q qs=>obtain ⟨b',p',e',_⟩:=hrd 0 q rfl;cases e'
    subst hn
    simp[Builtin.firstCells,Sem.run_pure]
   | some ad=>
    have:=run_loadCells_list (P:=P) w ad (news.take (min m dl)) (fun j q hj=>by
     have hj':news[j]? =some q:=by
      rw[List.getElem?_take] at hj;split at hj
      ·exact hj
      ·cases hj
     obtain ⟨b',p,e',hcel⟩:=hrd j q hj'
     simp only[Option.some.injEq] at e';subst e'
     have e3:(Addr.add ⟨b',p,none⟩ j)=⟨b',p+j,none⟩:=by
      unfold Addr.add;split
      ·rename_i h0;simp[h0]
      ·rfl
     rw[e3];exact hcel)
    rw[hnl] at this
    simp only[Builtin.firstCells,Nat.mul_one]
    exact this
  ·have e:((({ data:=l.toArray } :ByteArray).extract 0 (min l.length dl)).data.map fun b=>Value.int .u8 b.toNat)=((l.map u8).take (min l.length dl)).toArray:=by
    apply Array.ext'
    rw[Array.toList_map,Lib.extract_data]
    simp[u8,List.map_take];rfl
   simp only[Ci,Builtin.firstCells,Sem.run_pure,e]
 simp only[Builtin.copy_,List.getElem?_toArray,List.getElem?_cons_zero,List.getElem?_cons_succ,Sem.run_bind,run_underlying ht,Result.andThen_ok,hlen,hso,hmin,hfc,hst,Sem.run_pure,goInt]
theorem Fi (i:Nat) {t st:TypeId} {b off dl dc m:Nat} {ct:TypeId} {cs news:List Value} {u:Value} (H:Sep z Γ w) (hi:Γ[i]? =some (blk b cs ct)) (ho:o.op= .call { callee:= .builtin .copy,args:= #[x,y],argTypes:= #[t,st] }) (hd:O3 P t=true) (hx:ev L x=some (.slice (some ⟨b,off,none⟩) dl dc)) (hy:ev L y=some u)
  (hsrc:(Rd 1 u m news w)∨(∃ l,u=Ci l∧news=l.map u8∧m=l.length)) (h1:∀ c∈news,c.oneCell'=true) (hl:off+min m dl≤cs.length) {k:Nat} (hk:min m dl=k) {out:List Value} (hout:cs.take off++news.take k++cs.drop (off+k)=out):
  B8 P n ds L o w (fun v w'=>v=Iv_ k∧Sep z (Γ.set i (blk b out ct)) w'):=fun a hF=>by
 obtain ⟨w',hr,hB,hx',_⟩:=Iw (P:=P) (sT:=st) (ty:=o.type) (dc:=dc) (by obtain ⟨e,i,ht,_,hi,hs⟩:=NW hd;exact ⟨e,i,ht,hi,hs⟩) hsrc h1 (H.blk i hi) hl
 rw[hk,hout] at hB
 rw[hk] at hr
 refine ⟨_,w',?_,rfl,H.write i hi hx'.os hx'.tape hx'.output hB (fun q hq=> ?_)⟩
 ·simp only[execOp,ho,resolve,invoke,builtin,Sem.run_bind,Sem.run_pure,Result.andThen_ok,List.map_toArray,List.map_cons,List.map_nil,hF.ev hx,hF.ev hy,hr]
 ·rcases Nat.lt_or_ge q w.heap.size with hq'|hq'
  ·exact hx'.block q hq' hq
  ·rw[Array.getElem?_eq_none hq',Array.getElem?_eq_none (by omega)]
theorem UW (i:Nat) {t st:TypeId} {b off dl dc m:Nat} {ct:TypeId} {cs news:List Value} {u:Value} (H:Sep z Γ w) (hi:Γ[i]? =some (blk b cs ct)) (ho:o.op= .call { callee:= .builtin .copy,args:= #[x,y],argTypes:= #[t,st] }) (hd:CK P t=some 1) (hx:ev L x=some (.slice (some ⟨b,off,none⟩) dl dc)) (hy:ev L y=some u)
  (hsrc:(Rd 1 u m news w)∨(∃ l,u=Ci l∧news=l.map u8∧m=l.length)) (h1:∀ c∈news,c.oneCell'=true) (hl:off+min m dl≤cs.length) {k:Nat} (hk:min m dl=k) {out:List Value} (hout:cs.take off++news.take k++cs.drop (off+k)=out):
  B8 P n ds L o w (fun v w'=>v=Iv_ k∧Sep z (Γ.set i (blk b out ct)) w'):=fun a hF=>by
 obtain ⟨w',hr,hB,hx',_⟩:=Iw (P:=P) (sT:=st) (ty:=o.type) (dc:=dc) (by obtain ⟨e,i0,h1,h2,h3⟩:=EB hd;exact ⟨e,i0,h1,h2,h3⟩) hsrc h1 (H.blk i hi) hl
 rw[hk,hout] at hB
 rw[hk] at hr
 refine ⟨_,w',?_,rfl,H.write i hi hx'.os hx'.tape hx'.output hB (fun q hq=> ?_)⟩
 ·simp only[execOp,ho,resolve,invoke,builtin,Sem.run_bind,Sem.run_pure,Result.andThen_ok,List.map_toArray,List.map_cons,List.map_nil,hF.ev hx,hF.ev hy,hr]
 ·rcases Nat.lt_or_ge q w.heap.size with hq'|hq'
  ·exact hx'.block q hq' hq
  ·rw[Array.getElem?_eq_none hq',Array.getElem?_eq_none (by omega)]
theorem DA {t e:TypeId} {k:Nat} (H:Sep z Γ w) (ho:o.op= .makeSlice t x y) (ht:P.underlying t=some (.slice e)) {zv:Value} {by_:Nat} (hE:Elt P e zv 1 by_) (h0:zv.cells= #[zv]) (hx:ev L x=some (Iv_ k)) (hy:ev L y=some (Iv_ k)) (hk:by_ * k≤140737488355328):
  B8 P n ds L o w (fun v w'=>∃ b,v= .slice (some ⟨b,0,none⟩) k k∧Sep z (blk b (List.replicate k zv) e::Γ) w'):=fun a hF=>by
 obtain ⟨i,hi,hz,hs,hb,hzs,hsz,hb0⟩:=hE
 have hbk:(i.bytes:Int) * (k:Int)≤281474976710656:=by
  rw[hb,←Int.natCast_mul];omega
 have hr:=run_make (P:=P) (w:=w) t e i zv ht hi hz .i64 .i64 (k:Int) (k:Int) (by omega) (Int.le_refl _) hbk (by
  have:1 * k≤by_ * k:=Nat.mul_le_mul_right _ hb0
  omega)
 have e1:madeCells zv.cells (((k:Int)).toNat * i.size)=(List.replicate k zv).toArray:=by
  apply Array.ext'
  simp only[madeCells,hs,h0,Int.toNat_natCast,Nat.mul_one]
  rw[List.toList_toArray]
  apply List.ext_getElem
  ·simp
  ·intro j h1 h2;simp[Nat.mod_one]
 rw[e1] at hr
 refine ⟨_,_,?_,w.heap.size,rfl,H.new (CQ w (.cells (List.replicate k zv).toArray e)) (Nat.le_refl _) (by show (w.heap.push _)[w.heap.size]? =_;simp)⟩
 simp only[execOp,ho,hF.ev hx,hF.ev hy,Sem.run_bind,hr,Result.andThen_ok,Sem.run_pure,Int.toNat_natCast]
 rfl
/-! ### maps -/
abbrev IE:=Int×Value×Nat
def B5 (p:IE):MapEntry:=⟨.int .i64 p.1,p.2.1,p.2.2⟩
def Ay (m:Nat) (l:List IE) (clk:Nat):Ae:=bk m (.map (l.map B5).toArray clk)
def fnd:List IE→Int→Nat→Option (Nat×Value)
 | [],_,_=>none
 | p::l,k,i=>if k=p.1 then some (i,p.2.1) else fnd l k (i+1)
def Cl:List IE→Int→Option Value
 | [],_=>none
 | p::l,k=>if k=p.1 then some p.2.1 else Cl l k
def Cm (l:List IE) (k:Int):Bool:=(Cl l k).isSome
def updM:List IE→Int→Value→List IE
 | [],_,_=>[]
 | p::l,k,v=>if k=p.1 then (k,v,p.2.2)::l else p::updM l k v
def delM:List IE→Int→List IE
 | [],_=>[]
 | p::l,k=>if k=p.1 then l else p::delM l k
def Eq (l:List IE) (k:Int) (v:Value) (clk:Nat):List IE:=if Cm l k then updM l k v else l++[(k,v,clk)]
def putC (l:List IE) (k:Int) (clk:Nat):Nat:=if Cm l k then clk else clk+1
theorem HS (l:List IE) (k:Int):∀ i,(fnd l k i).map (·.2)=Cl l k:=by
 induction l with
 | nil=>intro i;rfl
 | cons p l ih=>intro i;simp only[fnd,Cl];split<;>simp[ih]
theorem P4 (l:List IE) (k:Int):∀ i j u,fnd l k i=some (j,u)→i≤j:=by
 induction l with
 | nil=>intro i j u h;simp[fnd] at h
 | cons p l ih=>
  intro i j u h
  simp only[fnd] at h
  split at h
  ·simp at h;omega
  ·have:=ih _ _ _ h;omega
theorem UX (l:List IE) (k:Int) (v:Value):∀ i j u,fnd l k i=some (j,u)→(l.map B5).modify (j - i) (fun e=> { e with key:=Iv_ k,val:=v })=(updM l k v).map B5∧((l.map B5)[j - i]?).map (·.key)=some (Iv_ k):=by
 induction l with
 | nil=>intro i j u h;simp[fnd] at h
 | cons p l ih=>
  intro i j u h
  simp only[fnd] at h
  simp only[updM]
  split at h
  ·rename_i e
   simp at h
   obtain ⟨rfl,_⟩:=h
   simp[e,B5]
  ·rename_i e
   have h1:=P4 _ _ _ _ _ h
   obtain ⟨h2,h3⟩:=ih _ _ _ h
   obtain ⟨q,rfl⟩:∃ q,j=i+1+q:=⟨j - (i+1),by omega⟩
   rw[show i+1+q - (i+1)=q from by omega] at h2 h3
   rw[show i+1+q - i=q+1 from by omega]
   refine ⟨by simp[e,h2],?_⟩
   rw[List.map_cons,List.getElem?_cons_succ];exact h3
theorem UY (l:List IE) (k:Int):∀ i j u,fnd l k i=some (j,u)→(l.map B5).eraseIdx (j - i)=(delM l k).map B5∧j - i<l.length:=by
 induction l with
 | nil=>intro i j u h;simp[fnd] at h
 | cons p l ih=>
  intro i j u h
  simp only[fnd] at h
  simp only[delM]
  split at h
  ·rename_i e
   simp at h
   obtain ⟨rfl,_⟩:=h
   simp[e]
  ·rename_i e
   have h1:=P4 _ _ _ _ _ h
   obtain ⟨h2,h3⟩:=ih _ _ _ h
   obtain ⟨q,rfl⟩:∃ q,j=i+1+q:=⟨j - (i+1),by omega⟩
   rw[show i+1+q - (i+1)=q from by omega] at h2 h3
   rw[show i+1+q - i=q+1 from by omega]
   simp[e,h2];omega
theorem LO (l:List IE) (k:Int) (h:Cl l k=none):delM l k=l:=by
 induction l with
 | nil=>rfl
 | cons p l ih=>
  simp only[Cl] at h
  simp only[delM]
  split at h
  ·cases h
  ·rename_i e;rw[if_neg e,ih h]
def Ee (P:Program) (t:TypeId):Option TypeId:=match P.underlying t with
 | some (.map k e)=>(match P.underlying k with|some (.int _)=>some e|_=>none)
 | _=>none
theorem Dr {t e:TypeId} (h:Ee P t=some e):∃ k ik,P.underlying t=some (.map k e)∧P.underlying k=some (.int ik):=by
 unfold Ee at h
 split at h
 ·rename_i k e' h1
  split at h
  ·rename_i ik h2;simp only[Option.some.injEq] at h;subst h;exact ⟨k,ik,h1,h2⟩
  ·cases h
 ·cases h
theorem Ef {kt:TypeId} {ik:IntKind} (hk:P.underlying kt=some (.int ik)) (l:List IE) (k:Int) (w:World):(Instr.findKey kt (Iv_ k) (l.map B5)).run P w= .ok (fnd l k 0) w:=by
 have key:∀ (l:List IE) (i:Nat),Instr.findNow (.int ik) (Iv_ k) (l.map B5) i=some (fnd l k i):=by
  intro l
  induction l with
  | nil=>intro i;rfl
  | cons p l ih=>
   intro i
   simp only[List.map_cons,Instr.findNow,B5,Instr.sameNow,if_true,fnd]
   by_cases e:k=p.1
   ·simp[e]
   ·have:(k == p.1)=false:=by simpa using e
    rw[this,if_neg e];exact ih _
 simp only[Instr.findKey,Sem.run_bind,run_underlying hk,Result.andThen_ok,key,Sem.run_pure]
theorem DL {kt:TypeId} {ik:IntKind} (hk:P.underlying kt=some (.int ik)) (b:Bool) (k:Int) (w:World):(Instr.checkKey b 10000 kt (Iv_ k)).run P w= .ok () w:=by
 unfold Instr.checkKey
 simp only[Sem.run_bind,run_underlying hk,Result.andThen_ok,Sem.run_pure]
theorem E5 {t e:TypeId} {m clk:Nat} {l:List IE} {k:Int} {zv:Value} (ho:o.op= .lookup t x y false) (ht:Ee P t=some e) (hz:(P.info? e).bind (·.zero)=some zv) (hx:ev L x=some (.map (some m))) (hy:ev L y=some (Iv_ k))
  (hm:∀ w,C w→w.heap[m]? =some (.map (l.map B5).toArray clk)):Ao P C n ds L o ((Cl l k).getD zv):=fun a hF w hw=>by
 obtain ⟨kt,ik,h1,h2⟩:=Dr ht
 have hz':(zeroValue e).run P w= .ok zv w:=by
  cases hi:P.info? e with
  | none=>rw[hi] at hz;cases hz
  | some i=>rw[hi] at hz;simp[zeroValue,typeInfo,hi,show i.zero=some zv from hz,go_sem]
 have hg:(getObj m).run P w= .ok (.map (l.map B5).toArray clk) w:=by simp[getObj,Sem.run,hm w hw]
 have hfg:=HS l k 0
 simp only[execOp,ho,hF.ev hx,hF.ev hy,Instr.lookup,Sem.run_bind,run_underlying h1,Result.andThen_ok,hg,Sem.run_pure,DL h2,List.toList_toArray,Ef h2]
 cases hf:fnd l k 0 with
 | none=>rw[hf] at hfg;rw[←hfg];simp[hz',Sem.run_bind,Sem.run_pure]
 | some q=>rw[hf] at hfg;rw[←hfg];simp[Sem.run_pure]
theorem Dg (i:Nat) {t e:TypeId} {m clk:Nat} {l:List IE} {k:Int} {xo ko vo:Operand} (H:Sep z Γ w) (hi:Γ[i]? =some (Ay m l clk)) (ho:o.op= .mapUpdate t xo ko vo) (ht:Ee P t=some e) (hx:ev L xo=some (.map (some m))) (hk:ev L ko=some (Iv_ k)) (hv:ev L vo=some v):
  Du P n ds L o w (fun w'=>Sep z (Γ.set i (Ay m (Eq l k v clk) (putC l k clk))) w'):=fun a hF=>by
 obtain ⟨kt,ik,h1,h2⟩:=Dr ht
 have hmb:w.heap[m]? =some (.map (l.map B5).toArray clk):=H.bk i hi
 have hg:(getObj m).run P w= .ok (.map (l.map B5).toArray clk) w:=by simp[getObj,Sem.run,hmb]
 have hset:∀ ob,(setObj m ob).run P w= .ok () { w with heap:=w.heap.setIfInBounds m ob } :=fun ob=>by simp[setObj,Sem.run,hmb]
 have hlt:m<w.heap.size:=(Array.getElem?_eq_some_iff.1 hmb).1
 have fin:∀ ob,Sep z (Γ.set i (bk m ob)) { w with heap:=w.heap.setIfInBounds m ob } :=fun ob=>
  H.write i hi rfl rfl rfl (by show (w.heap.setIfInBounds m ob)[m]? =_;simp[hlt]) (fun q hq=>by show (w.heap.setIfInBounds m ob)[q]? =_;rw[Array.getElem?_setIfInBounds_ne (Ne.symm hq)])
 have hfg:=HS l k 0
 have main:(Instr.mapUpdate t (.map (some m)) (Iv_ k) v).run P w= .ok () { w with heap:=w.heap.setIfInBounds m (.map ((Eq l k v clk).map B5).toArray (putC l k clk)) } :=by
  simp only[Instr.mapUpdate,Sem.run_bind,run_underlying h1,Result.andThen_ok,hg,Sem.run_pure,DL h2,List.toList_toArray,Ef h2]
  cases hf:fnd l k 0 with
  | none=>
   rw[hf] at hfg
   have hh:Cm l k=false:=by simp[Cm,←hfg]
   simp only[Eq,putC,hh,if_false,Bool.false_eq_true,hset]
   simp[B5]
  | some q=>
   obtain ⟨j,u⟩:=q
   rw[hf] at hfg
   have hh:Cm l k=true:=by simp[Cm,←hfg]
   obtain ⟨f1,f2⟩:=UX l k v 0 j u hf
   simp only[Nat.sub_zero] at f1 f2
   have hkey:((((l.map B5).toArray)[j]?).map (·.key)).getD (Iv_ k)=Iv_ k:=by
    rw[List.getElem?_toArray,f2];rfl
   simp only[Eq,putC,hh,if_true,hkey]
   have hks:(Instr.keyThatStays (Iv_ k) (Iv_ k)).run P w= .ok (Iv_ k) w:=by
    simp[Instr.keyThatStays,Instr.sameBits,Sem.run_pure]
   simp only[hks,Sem.run_bind,Result.andThen_ok]
   rw[←f1]
   have:((l.map B5).toArray.modify j fun e=> { e with key:=Iv_ k,val:=v })=((l.map B5).modify j fun e=> { e with key:=Iv_ k,val:=v }).toArray:=by simp
   rw[this]
   exact hset _
 refine ⟨_,?_,fin _⟩
 simp only[execOp,ho,hF.ev hx,hF.ev hk,hF.ev hv,Sem.run_bind,main,Result.andThen_ok,Sem.run_pure]
theorem LP (i:Nat) {t e kt':TypeId} {m clk:Nat} {l:List IE} {k:Int} (H:Sep z Γ w) (hi:Γ[i]? =some (Ay m l clk)) (ho:o.op= .call { callee:= .builtin .delete,args:= #[x,y],argTypes:= #[t,kt'] }) (ht:Ee P t=some e) (hx:ev L x=some (.map (some m))) (hk:ev L y=some (Iv_ k)):
  B8 P n ds L o w (fun v w'=>v= .tuple #[]∧Sep z (Γ.set i (Ay m (delM l k) clk)) w'):=fun a hF=>by
 obtain ⟨kt,ik,h1,h2⟩:=Dr ht
 have hmb:w.heap[m]? =some (.map (l.map B5).toArray clk):=H.bk i hi
 have hg:(getObj m).run P w= .ok (.map (l.map B5).toArray clk) w:=by simp[getObj,Sem.run,hmb]
 have hset:∀ ob,(setObj m ob).run P w= .ok () { w with heap:=w.heap.setIfInBounds m ob } :=fun ob=>by simp[setObj,Sem.run,hmb]
 have hlt:m<w.heap.size:=(Array.getElem?_eq_some_iff.1 hmb).1
 have fin:∀ ob,Sep z (Γ.set i (bk m ob)) { w with heap:=w.heap.setIfInBounds m ob } :=fun ob=>
  H.write i hi rfl rfl rfl (by show (w.heap.setIfInBounds m ob)[m]? =_;simp[hlt]) (fun q hq=>by show (w.heap.setIfInBounds m ob)[q]? =_;rw[Array.getElem?_setIfInBounds_ne (Ne.symm hq)])
 have hfg:=HS l k 0
 have main:(Builtin.delete_ #[t,kt'] o.type #[.map (some m),Iv_ k]).run P w= .ok (.tuple #[]) { w with heap:=w.heap.setIfInBounds m (.map ((delM l k).map B5).toArray clk) } :=by
  simp only[Builtin.delete_,List.getElem?_toArray,List.getElem?_cons_zero,List.getElem?_cons_succ,Sem.run_bind,run_underlying h1,Result.andThen_ok,hg,Sem.run_pure,DL h2,Ef h2]
  cases hf:fnd l k 0 with
  | none=>
   rw[hf] at hfg
   simp only[Sem.run_bind,hset,Result.andThen_ok,LO l k hfg.symm,Sem.run_pure]
  | some q=>
   obtain ⟨j,u⟩:=q
   obtain ⟨f1,f2⟩:=UY l k 0 j u hf
   simp only[Nat.sub_zero] at f1 f2
   have:((l.map B5).toArray.eraseIdxIfInBounds j)=((delM l k).map B5).toArray:=by
    rw[←f1];simp
   simp only[this,Sem.run_bind,hset,Result.andThen_ok,Sem.run_pure]
 refine ⟨_,_,?_,rfl,fin _⟩
 simp only[execOp,ho,resolve,invoke,builtin,Sem.run_bind,Sem.run_pure,Result.andThen_ok,List.map_toArray,List.map_cons,List.map_nil,hF.ev hx,hF.ev hk,main]
theorem Fj {t:TypeId} (H:Sep z Γ w) (ho:o.op= .makeMap t none):B8 P n ds L o w (fun v w'=>∃ m,v= .map (some m)∧Sep z (Ay m [] 0::Γ) w'):=fun a hF=>by
 refine ⟨_,_,?_,w.heap.size,rfl,H.new (CQ w (.map #[] 0)) (Nat.le_refl _) (by show (w.heap.push _)[w.heap.size]? =_;simp)⟩
 simp[execOp,ho,Instr.makeMap,newObj,go_sem,Sem.run]
def HT (P:Program) (t:TypeId):Option Nat:=match P.underlying t with
 | some (.array l e)=>(match P.info? e with|some i=>if Nat.beq i.size 1 && Ft P e then some l else none|none=>none)
 | _=>none
theorem I9 {t:TypeId} {l:Nat} (h:HT P t=some l):∃ e i,P.underlying t=some (.array l e)∧P.info? e=some i∧i.size=1∧Ft P e=true:=by
 unfold HT at h
 split at h
 ·rename_i l' e h1
  split at h
  ·rename_i i h2
   split at h
   ·rename_i h3
    simp only[Bool.and_eq_true] at h3
    simp only[Option.some.injEq] at h
    subst h
    exact ⟨e,i,h1,h2,by simpa using h3.1,h3.2⟩
   ·cases h
  ·cases h
 ·cases h
theorem LQ {t:TypeId} {vs:List Value} {l:List Int} {i:Int} {k:IntKind} {j m:Nat} {u:Int} (ho:o.op= .index t x y) (ht:HT P t=some m) (hx:ev L x=some (.agg vs.toArray)) (hl:vs=l.map Iv_) (hm:l.length=m) (hy:ev L y=some (.int k i)) (hij:i=j) (hu:l[j]? =some u):Ao P C n ds L o (Iv_ u):=fun a hF w _=>by
 obtain ⟨e,i0,ht,hi,hz,hf⟩:=I9 ht
 subst hij
 have hj:j<l.length:=(List.getElem?_eq_some_iff.1 hu).1
 have h1:(0:Int)≤(j:Int)∧(j:Int)<(m:Int):=by omega
 have hv:vs[j]? =some (Iv_ u):=by rw[hl,List.getElem?_map,hu];rfl
 have hpart:(part e vs.toArray (j * 1)).run P w= .ok (Iv_ u) w:=by
  simp only[part,Sem.run_bind,E4 hf,Result.andThen_ok,if_false,Bool.false_eq_true,Nat.mul_one,List.getElem?_toArray,hv,Sem.run_pure]
 have hso:(sizeOf e).run P w= .ok 1 w:=by simp[sizeOf,typeInfo,hi,hz,go_sem]
 simp only[execOp,ho,hF.ev hx,hF.ev hy,Instr.index,asIntOf,Sem.run_bind,Sem.run_pure,Result.andThen_ok,run_underlying ht,if_pos h1,Int.toNat_natCast,hso,hpart]
/-! ### slices whose block is not named -/
def Slc (v:Value) (l:Nat):Prop:=∃ ao c,v= .slice ao l c
theorem grow.slc {e:TypeId} {sz m:Nat} {u:Value} {xs:List Value} {h:Hp} (g:grow e sz u m xs h):Slc u m:=by
 rcases g.form with ⟨rfl,rfl⟩|⟨b,c,rfl,_⟩
 ·exact ⟨_,_,rfl⟩
 ·exact ⟨_,_,rfl⟩
theorem rdH.slc {sz m:Nat} {u:Value} {xs:List Value} {h:Hp} (g:rdH sz u m xs h):Slc u m:=by
 obtain ⟨ao,c,rfl,_⟩:=g;exact ⟨_,_,rfl⟩
theorem CL {t:TypeId} {sz l:Nat} {u:Value} (ho:o.op= .call { callee:= .builtin .len,args:= #[x],argTypes:= #[t] }) (ht:CK P t=some sz) (hx:ev L x=some u) (hu:Slc u l):Ao P C n ds L o (Iv_ l):=by
 obtain ⟨ao,c,rfl⟩:=hu
 exact Gc ho ht hx
theorem Sep.ungrow (i:Nat) {e:TypeId} {sz m:Nat} {u:Value} {xs:List Value} (H:Sep z Γ w) (hi:Γ[i]? =some (YtjegbnfpodadcaaGreatDoor.grow e sz u m xs)) (hm:0<m):
  ∃ g cap rest,u= .slice (some ⟨g,0,none⟩) m cap∧m≤cap∧cap≤9223372036854775807∧rest.length=(cap - m) * sz∧Sep z (Γ.set i (YtjegbnfpodadcaaGreatDoor.blk g (xs++rest) e)) w:=by
 obtain ⟨⟨g,cap,rest⟩,⟨a1,a2,a3,a4⟩,hx⟩:=H.exAt i (σ:=Nat×Nat×List Value) (p:=fun q=>u= .slice (some ⟨q.1,0,none⟩) m q.2.1∧m≤q.2.1∧q.2.1≤9223372036854775807∧q.2.2.length=(q.2.1 - m) * sz) (B:=fun q=>YtjegbnfpodadcaaGreatDoor.blk q.1 (xs++q.2.2) e) hi (fun h g=>by
  rcases g.2 with ⟨_,rfl⟩|⟨b,cap,cur,hv,hg,hc,hm',hs,ht⟩
  ·omega
  ·refine ⟨⟨b,cap,cur.toList.drop (m * sz)⟩,⟨hv,hc,by unfold maxLen at hm';omega,?_⟩,?_⟩
   ·simp[hs,Nat.sub_mul]
   ·rw[←ht,List.take_append_drop];simpa [YtjegbnfpodadcaaGreatDoor.blk,YtjegbnfpodadcaaGreatDoor.bk] using hg)
 exact ⟨g,cap,rest,a1,a2,a3,a4,hx⟩
theorem RU {t:TypeId} {lo hi mx:Operand} {b off l c p q sz o' l':Nat} {k1 k2 k3:IntKind} {i1 i2 i3:Int} (ho:o.op= .slice t x (some lo) (some hi) (some mx)) (ht:CK P t=some sz) (hx:ev L x=some (.slice (some ⟨b,off,none⟩) l c))
  (hlo:ev L lo=some (.int k1 i1)) (hhi:ev L hi=some (.int k2 i2)) (hmx:ev L mx=some (.int k3 i3)) (e1:i1=(p:Int)) (e2:i2=(q:Int)) (e3:i3=(q:Int)) (hpq:p<q) (hqc:q≤c) (h1:off+p * sz=o') (h2:q - p=l'):Ao P C n ds L o (.slice (some ⟨b,o',none⟩) l' l'):=fun a hF w _=>by
 obtain ⟨e,i0,ht,hi0,hz⟩:=EB ht
 subst e1;subst e2;subst e3
 have g1:(0:Int)≤(p:Int)∧(p:Int)≤(q:Int):=by omega
 have g2:(0:Int)≤(q:Int)∧(q:Int)≤(c:Int):=by omega
 have g3:(0:Int)≤(q:Int)∧(q:Int)≤(q:Int):=by omega
 have key:((⟨b,off,none⟩:Addr).add (p * sz))=⟨b,o',none⟩:=by
  subst h1
  unfold Addr.add;split
  ·rename_i h0;simp[h0]
  ·rfl
 have hne:¬ q=p:=by omega
 have hp2:p≤q:=by omega
 simp only[execOp,ho,Option.map_some,hF.ev hx,hF.ev hlo,hF.ev hhi,hF.ev hmx]
 simp[Instr.sliceAt,Instr.slice,run_underlying ht,Instr.sliceBounds,Instr.sliceBound,asIntOf,g1,g2,g3,sizeOf,typeInfo,hi0,hz,hp2,hqc,hne,go_sem,key,h2]
end
end
section
open Go.RowKit
section
variable {P:Program} {C:World→Prop} {o:Oper} {a:Act} {w z:World} {Γ:List Ae} {n:Nat} {ds:List Deferred} {L:List (Nat×Value)} {v:Value} {x y:Operand} {xt yt:TypeId}
theorem Xj {p:Int} {k:IntKind} {q:Int} {m:Nat} (ho:o.op= .binOp .shr xt x y yt) (hx:ev L x=some (Iv_ p)) (hy:ev L y=some (.int k q)) (hq:q=m) (hm:m<64):Ao P C n ds L o (Iv_ (p / 2 ^ m)):=fun a hF w _=>by
 subst hq
 simp only[execOp,ho,hF.ev hx,hF.ev hy]
 have hj:¬ ((m:Int)<0):=by omega
 have hj2:min m 64=m:=by omega
 simp[go_sem,Op.shift,IntKind.bits,hj,hj2]
theorem P5 {p:Int} {k:IntKind} {q:Int} {m:Nat} (ho:o.op= .binOp .shl xt x y yt) (hx:ev L x=some (Iv_ p)) (hy:ev L y=some (.int k q)) (hq:q=m) (hm:m<64):Ao P C n ds L o (Iv_ (IntKind.i64.wrap (p * 2 ^ m))):=fun a hF w _=>by
 subst hq
 simp only[execOp,ho,hF.ev hx,hF.ev hy]
 have hj:¬ ((m:Int)<0):=by omega
 have hj2:min m 64=m:=by omega
 simp[go_sem,Op.shift,IntKind.bits,hj,hj2]
theorem Xk {p q:Int} (ho:o.op= .binOp .add xt x y yt) (hx:ev L x=some (Iv_ p)) (hy:ev L y=some (Iv_ q)):Ao P C n ds L o (Iv_ (IntKind.i64.wrap (p+q))):=Uf (P:=P) (C:=C) (n:=n) (ds:=ds) (L:=L) ho hx hy
theorem Xl {p:Int} {q:Nat} (hp:p % 256=0) (hq:q<256):((BitVec.ofInt 64 p|||BitVec.ofInt 64 (q:Int)).toNat:Int) % 18446744073709551616=(p+q) % 18446744073709551616:=by
 have e1:(BitVec.ofInt 64 p).toNat=(p % 18446744073709551616).toNat:=by simp[BitVec.toNat_ofInt]
 have e2:(BitVec.ofInt 64 (q:Int)).toNat=q:=by simp[BitVec.toNat_ofInt];omega
 have h3:∃ r,(p % 18446744073709551616).toNat=r <<< 8:=⟨(p % 18446744073709551616).toNat / 256,by rw[Nat.shiftLeft_eq];omega⟩
 obtain ⟨r,hr⟩:=h3
 rw[BitVec.toNat_or,e1,e2,hr,←Nat.shiftLeft_add_eq_or_of_lt (by omega:q<2 ^ 8),←hr]
 omega
theorem Up {p q:Int} (ho:o.op= .binOp .or xt x y yt) (hx:ev L x=some (Iv_ p)) (hy:ev L y=some (Iv_ q)) (hp:p % 256=0) (hq:0≤q∧q<256):Ao P C n ds L o (Iv_ (IntKind.i64.wrap (p+q))):=fun a hF w _=>by
 obtain ⟨q,rfl⟩:=Int.eq_ofNat_of_zero_le hq.1
 have h:=Xl (p:=p) (q:=q) hp (by omega)
 have key:IntKind.i64.wrap ((BitVec.ofInt IntKind.i64.bits p|||BitVec.ofInt IntKind.i64.bits (q:Int)).toNat:Int)=IntKind.i64.wrap (p+q):=by
  show (if (true && decide (((BitVec.ofInt 64 p|||BitVec.ofInt 64 (q:Int)).toNat:Int) % (2 ^ 64:Int)≥(2 ^ (64 - 1):Int)))=true then ((BitVec.ofInt 64 p|||BitVec.ofInt 64 (q:Int)).toNat:Int) % (2 ^ 64:Int) - (2 ^ 64:Int) else ((BitVec.ofInt 64 p|||BitVec.ofInt 64 (q:Int)).toNat:Int) % (2 ^ 64:Int))=(if (true && decide ((p+q) % (2 ^ 64:Int)≥(2 ^ (64 - 1):Int)))=true then (p+q) % (2 ^ 64:Int) - (2 ^ 64:Int) else (p+q) % (2 ^ 64:Int))
  simp only[show (2:Int) ^ 64=18446744073709551616 from rfl,h]
 have key':IntKind.i64.wrap ((BitVec.ofInt 64 p|||BitVec.ofInt 64 (q:Int)).toNat:Int)=IntKind.i64.wrap (p+q):=key
 rw[BitVec.ofInt_natCast] at key'
 simp only[execOp,ho,hF.ev hx,hF.ev hy]
 simp only[binOp,Op.intBits,go_sem,key]
 first |(simp[go_sem,key'];done)|(simp only[go_sem];exact congrArg (fun v=>Result.ok (Iv_ v) _) key')|(simp[go_sem];exact key')
theorem IF {t:TypeId} {l:List UInt8} {i:Int} {k:IntKind} {j:Nat} {b:UInt8} (ho:o.op= .index t x y) (ht:Gb P t=true) (hx:ev L x=some (Ci l)) (hy:ev L y=some (.int k i)) (hij:i=j) (hb:l[j]? =some b):Ao P C n ds L o (u8 b):=fun a hF w _=>by
 have ht:=FL ht
 subst hij
 have hj:j<l.length:=(List.getElem?_eq_some_iff.1 hb).1
 have hg:(⟨l.toArray⟩:ByteArray)[j]? =some b:=by
  have hs:(⟨l.toArray⟩:ByteArray).size=l.length:=by show l.toArray.size=_;simp
  rw[getElem?_pos (⟨l.toArray⟩:ByteArray) j (by rw[hs];exact hj)]
  show some (l.toArray[j]'_)=_
  simp[(List.getElem?_eq_some_iff.1 hb).2]
 simp only[execOp,ho,hF.ev hx,hF.ev hy,Ci,Instr.index,asIntOf,Sem.run_bind,Sem.run_pure,Result.andThen_ok,run_underlying ht,if_pos (Int.natCast_nonneg j),Int.toNat_natCast,hg]
 rfl
theorem P6 {t e:TypeId} {zv:Value} {sz by_ k cap m b off:Nat} {u:Value} {xs news:List Value} (H:Sep z Γ w) (ho:o.op= .call { callee:= .builtin .append,args:= #[x,y],argTypes:= #[t,t] })
  (ht:P.underlying t=some (.slice e)) (hE:Elt P e zv sz by_) (hx:ev L x=some (.slice (some ⟨b,off,none⟩) k cap)) (hy:ev L y=some u) (hold:Rd sz (.slice (some ⟨b,off,none⟩) k cap) k xs w) (hsrc:Rd sz u m news w) (hg:cap<k+m) (h1:∀ c∈news,c.oneCell'=true) (hby:(k+m) * by_≤140737488355328):
  B8 P n ds L o w (fun v' w'=>Sep z (grow e sz v' (k+m) (xs++news)::Γ) w'):=fun a hF=>by
 obtain ⟨i,hi,hz,hs,hb,hzs,hsz,hb0⟩:=hE
 obtain ⟨ao1,c1,e1,hkc,_,hl1,hrd1⟩:=hold
 cases e1
 obtain ⟨ao,c,rfl,hmc,_,hl,hrd⟩:=hsrc
 have h63:k+m≤maxLen:=by
  have:(k+m) * 1≤(k+m) * by_:=Nat.mul_le_mul_left _ hb0
  unfold maxLen;omega
 have hne:0<news.length:=by
  have:1 * 1≤m * sz:=Nat.mul_le_mul (by omega) (by omega)
  omega
 obtain ⟨b',p',e2,_⟩:=hrd 0 news[0] (List.getElem?_eq_getElem hne)
 subst e2
 have hadd:∀ (b p j:Nat),(Addr.add ⟨b,p,none⟩ j)=⟨b,p+j,none⟩:=fun b p j=>by
  unfold Addr.add;split
  ·rename_i h0;simp[h0]
  ·rfl
 obtain ⟨v',w',hr,h2,h3⟩:=run_append_arg_grows (P:=P) w t o.type e i zv sz by_ ht hi hz hs hb hzs hsz ⟨b,off,none⟩ k cap xs hl1 (fun j q hj=>by
  obtain ⟨b2,p2,e3,hc⟩:=hrd1 j q hj
  cases e3;rw[hadd];exact hc) ⟨b',p',none⟩ m c news hl (fun j q hj=>by
  obtain ⟨b2,p2,e3,hc⟩:=hrd j q hj
  cases e3;rw[hadd];exact hc) hg h63 hby
 have hx':Ext No w w':=(Ext.of_grown h3).mono (fun _ _ q=>by cases q)
 refine ⟨v',w',?_,H.grow hx' ?_⟩
 ·simp only[execOp,ho,resolve,invoke,builtin,Sem.run_bind,Sem.run_pure,Result.andThen_ok,List.map_toArray,List.map_cons,List.map_nil,hF.ev hx,hF.ev hy,hr]
 ·refine ⟨h2.1,?_⟩
  rcases h2.2 with q|⟨g,cap,cur,hv,hge,hgw,r⟩
  ·exact .inl q
  ·refine .inr ⟨g,cap,cur,hv,?_,r⟩
   show (if g<w.heap.size then none else w'.heap[g]?)=_
   rw[if_neg (by omega)];exact hgw
theorem KD {t:TypeId} {b off l c m:Nat} (ho:o.op= .sliceToArrayPointer t x) (ht:(match P.underlying t with|some (.array k _)=>Nat.beq k m|_=>false)=true) (hx:ev L x=some (.slice (some ⟨b,off,none⟩) l c)) (hl:m≤l):Ao P C n ds L o (.pointer (some ⟨b,off,none⟩)):=fun a hF w _=>by
 split at ht
 ·rename_i k e h
  have hk:k=m:=by simpa using ht
  subst hk
  simp only[execOp,ho,hF.ev hx]
  simp[Instr.arrayAt,run_underlying h,go_sem,hl]
 ·cases ht
theorem NX {b0 b1 b2 b3 c0 c1 c2 c3:UInt8} (ho:o.op= .binOp .neq xt x y yt) (ht:(match P.underlying xt with|some (.array 4 e)=>(match P.underlying e,P.info? e with|some (.int .u8),some i=>Nat.beq i.size 1|_,_=>false)|_=>false)=true) (hg:P.eqGuardType P.depth xt=false) (hx:ev L x=some (.agg #[u8 b0,u8 b1,u8 b2,u8 b3])) (hy:ev L y=some (.agg #[u8 c0,u8 c1,u8 c2,u8 c3])):Ao P C n ds L o (.bool (decide ([b0,b1,b2,b3]≠[c0,c1,c2,c3]))):=fun a hF w _=>by
 split at ht
 ·rename_i e h
  split at ht
  ·rename_i i h1 h2
   have hz:i.size=1:=by simpa using ht
   have hso:∀ w,(sizeOf e).run P w= .ok 1 w:=fun w=>by simp[sizeOf,typeInfo,h2,hz,go_sem]
   have hfl:∀ w,(isAgg e).run P w= .ok false w:=E4 (by simp[Ft,h1])
   have hp:∀ (cs:Array Value) (j:Nat) (u:Value) w,cs[j]? =some u→(part e cs j).run P w= .ok u w:=fun cs j u w hc=>by
    simp only[part,Sem.run_bind,hfl,Result.andThen_ok,if_false,Bool.false_eq_true,hc,Sem.run_pure]
   have heq:∀ (d:Nat) (p q:UInt8) w,(Op.equalIn (d+1) e (u8 p) (u8 q)).run P w= .ok (decide (p=q)) w:=fun d p q w=>by
    simp only[Op.equalIn,Sem.run_bind,run_underlying h1,Result.andThen_ok,u8]
    simp[go_sem]
    rw[Bool.eq_iff_iff];simp
    exact ⟨fun h=>UInt8.toNat_inj.1 (by omega),fun h=>by rw[h]⟩
   have hgen:∀ d,(Op.equalIn (d+1+1) xt (.agg #[u8 b0,u8 b1,u8 b2,u8 b3]) (.agg #[u8 c0,u8 c1,u8 c2,u8 c3])).run P w= .ok (decide ([b0,b1,b2,b3]=[c0,c1,c2,c3])) w:=fun d=>by
    have q0:=hp #[u8 b0,u8 b1,u8 b2,u8 b3] 0 (u8 b0) w rfl
    have q1:=hp #[u8 b0,u8 b1,u8 b2,u8 b3] 1 (u8 b1) w rfl
    have q2:=hp #[u8 b0,u8 b1,u8 b2,u8 b3] 2 (u8 b2) w rfl
    have q3:=hp #[u8 b0,u8 b1,u8 b2,u8 b3] 3 (u8 b3) w rfl
    have r0:=hp #[u8 c0,u8 c1,u8 c2,u8 c3] 0 (u8 c0) w rfl
    have r1:=hp #[u8 c0,u8 c1,u8 c2,u8 c3] 1 (u8 c1) w rfl
    have r2:=hp #[u8 c0,u8 c1,u8 c2,u8 c3] 2 (u8 c2) w rfl
    have r3:=hp #[u8 c0,u8 c1,u8 c2,u8 c3] 3 (u8 c3) w rfl
    rw[Op.equalIn]
    simp only[Sem.run_bind,run_underlying h,Result.andThen_ok,hso,Std.Legacy.Range.forIn_eq_forIn_range',Std.Legacy.Range.size]
    simp[List.range',Sem.run_bind,q0,q1,q2,q3,r0,r1,r2,r3,heq]
    by_cases g0:b0=c0<;>by_cases g1:b1=c1<;>by_cases g2:b2=c2<;>by_cases g3:b3=c3<;>simp[g0,g1,g2,g3,q0,q1,q2,q3,r0,r1,r2,r3,heq,Sem.run_bind]
   have main:(Op.equal xt (.agg #[u8 b0,u8 b1,u8 b2,u8 b3]) (.agg #[u8 c0,u8 c1,u8 c2,u8 c3])).run P w= .ok (decide ([b0,b1,b2,b3]=[c0,c1,c2,c3])) w:=hgen 9998
   have hguard:(eqGuard .neq xt x y (.agg #[u8 b0,u8 b1,u8 b2,u8 b3]) (.agg #[u8 c0,u8 c1,u8 c2,u8 c3])).run P w= .ok () w:=by
    simp[eqGuard,Sem.run_bind,program,Sem.run,hg]
   simp only[execOp,ho,hF.ev hx,hF.ev hy]
   simp only[binOp,Sem.run_bind,hguard,main,Result.andThen_ok,Sem.run_pure]
   simp
  ·cases ht
 ·cases ht
end
theorem Slc.cells {v:Value} {n:Nat} (h:Slc v n):v.cells= #[v]:=by obtain ⟨_,_,rfl⟩:=h;rfl
theorem Slc.one {v:Value} {n:Nat} (h:Slc v n):v.oneCell'=true:=by obtain ⟨_,_,rfl⟩:=h;rfl
theorem Ar:∀ u∈([]:List Value),u.oneCell'=true:=fun _ h=>by cases h
theorem Ab {u:Value} {us:List Value} (h:u.oneCell'=true) (hs:∀ u∈us,u.oneCell'=true):∀ x∈u::us,x.oneCell'=true:=fun x hx=>by
 rcases List.mem_cons.1 hx with rfl|q
 ·exact h
 ·exact hs x q
theorem rdH.cut {b off n c lo m c':Nat} {xs:List UInt8} {h:Hp} (r:rdH 1 (.slice (some ⟨b,off,none⟩) n c) n (xs.map u8) h) (h1:lo+m≤n) (h2:m≤c') (h3:c'≤c):rdH 1 (.slice (some ⟨b,off+lo,none⟩) m c') m (((xs.drop lo).take m).map u8) h:=by
 obtain ⟨ao,c0,e,q1,q2,q3,q4⟩:=r
 cases e
 refine ⟨_,_,rfl,h2,by omega,by simp at q3 ⊢;omega,fun j u hj=> ?_⟩
 have hj':(xs.map u8)[lo+j]? =some u:=by
  rw[List.getElem?_map,List.getElem?_take] at hj
  split at hj
  ·rw[List.getElem?_drop] at hj;rw[List.getElem?_map];exact hj
  ·cases hj
 obtain ⟨b',p',e,hc⟩:=q4 _ _ hj'
 cases e
 exact ⟨_,_,rfl,by rw[Nat.add_assoc];exact hc⟩
theorem rdH.pre {b off n c m c':Nat} {xs:List UInt8} {h:Hp} (r:rdH 1 (.slice (some ⟨b,off,none⟩) n c) n (xs.map u8) h) (h1:m≤n) (h2:m≤c'∧c'≤c):rdH 1 (.slice (some ⟨b,off,none⟩) m c') m ((xs.take m).map u8) h:=by
 have:=r.cut (lo:=0) (m:=m) (c':=c') (by omega) h2.1 h2.2
 simpa using this
theorem rdH.at {b off n c j:Nat} {xs:List UInt8} {x:UInt8} {h:Hp} (r:rdH 1 (.slice (some ⟨b,off,none⟩) n c) n (xs.map u8) h) (hx:xs[j]? =some x):celH h b (off+j) (u8 x):=by
 obtain ⟨ao,c0,e,q1,q2,q3,q4⟩:=r
 obtain ⟨b',p',e',hc⟩:=q4 j (u8 x) (by rw[List.getElem?_map,hx];rfl)
 cases e;cases e';exact hc
theorem Sep.cell4 {z w:World} {Γ:List Ae} (i:Nat) {A:Ae} (H:Sep z Γ w) (hi:Γ[i]? =some A) {b off c:Nat} {xs:List UInt8} (hA:∀ h,A h→rdH 1 (.slice (some ⟨b,off,none⟩) 256 c) 256 (xs.map u8) h) {ys:List UInt8} (hd:xs.drop 252=ys):∀ j u,(ys.map u8)[j]? =some u→Ga b (off+252+j) u w:=fun j u hj=>by
 rw[List.getElem?_map,Option.map_eq_some_iff] at hj
 obtain ⟨y,hy,rfl⟩:=hj
 have hx:xs[252+j]? =some y:=by rw[←List.getElem?_drop,hd];exact hy
 have:=H.cell i hi (fun h q=>(hA h q).at hx)
 rwa[←Nat.add_assoc] at this
theorem rdH.cap {b off n c:Nat} {xs:List UInt8} {h:Hp} (r:rdH 1 (.slice (some ⟨b,off,none⟩) n c) n (xs.map u8) h):n≤c∧c≤9223372036854775807:=by
 obtain ⟨_,_,e,q1,q2,_⟩:=r;cases e;exact ⟨q1,q2⟩
theorem rdH.len {v:Value} {n:Nat} {xs:List UInt8} {h:Hp} (r:rdH 1 v n (xs.map u8) h):xs.length=n:=by
 obtain ⟨_,_,_,_,_,q,_⟩:=r;simpa using q
end
set_option linter.unusedSimpArgs false
def bw (F:Nat→Bool) (k:Nat):BitVec 64:=(BitVec.ofBoolListLE ((List.range 64).map fun j=>F (64 * k+j))).cast (by simp)
theorem Dm (F:Nat→Bool) (k j:Nat) (h:j<64):(bw F k).getLsbD j=F (64 * k+j):=by
 unfold bw
 rw[BitVec.getLsbD_cast,BitVec.getLsbD_ofBoolListLE]
 simp[List.getD,h]
theorem Ja {F:Nat→Bool} {k:Nat} {x:BitVec 64} (h:∀ j,j<64→x.getLsbD j=F (64 * k+j)):x=bw F k:=
 BitVec.eq_of_getLsbD_eq fun j hj=>by rw[h j hj,Dm _ _ _ hj]
theorem Y2 (F G:Nat→Bool) (k:Nat):bw F k|||bw G k=bw (fun p=>F p || G p) k:=Ja fun j hj=>by
 rw[BitVec.getLsbD_or,Dm _ _ _ hj,Dm _ _ _ hj]
def DF (m:Nat):BitVec 64:=BitVec.twoPow 64 m
theorem Xm (F:Nat→Bool) (p k:Nat):(if p / 64=k then bw F k|||DF (p % 64) else bw F k)=bw (fun q=>F q || decide (q=p)) k:=by
 refine Ja fun j hj=> ?_
 split
 ·rename_i e
  rw[BitVec.getLsbD_or,Dm _ _ _ hj,DF,BitVec.getLsbD_twoPow]
  congr 1
  rw[Bool.eq_iff_iff];simp;omega
 ·rename_i e
  rw[Dm _ _ _ hj]
  have:¬ (64 * k+j=p):=by omega
  simp[this]
theorem Xn (F:Nat→Bool) (p k:Nat):(if p / 64=k then bw F k&&& ~~~(DF (p % 64)) else bw F k)=bw (fun q=>F q && !decide (q=p)) k:=by
 refine Ja fun j hj=> ?_
 split
 ·rename_i e
  rw[BitVec.getLsbD_and,Dm _ _ _ hj,BitVec.getLsbD_not,DF,BitVec.getLsbD_twoPow]
  congr 1
  rw[Bool.eq_iff_iff];simp;omega
 ·rename_i e
  rw[Dm _ _ _ hj]
  have:¬ (64 * k+j=p):=by omega
  simp[this]
theorem Xo (F:Nat→Bool) (p:Nat):(bw F (p / 64))>>>(p % 64)&&&1#64=if F p then 1#64 else 0#64:=by
 refine BitVec.eq_of_getLsbD_eq fun j hj=> ?_
 rw[BitVec.getLsbD_and,BitVec.getLsbD_ushiftRight]
 have e1:∀ j,(1#64).getLsbD j=decide (j=0):=fun j=>by
  rw[show (1#64)=BitVec.twoPow 64 0 from rfl,BitVec.getLsbD_twoPow,Bool.eq_iff_iff];simp;omega
 by_cases h:j=0
 ·subst h
  rw[Dm _ _ _ (by omega),e1,show 64 * (p / 64)+(p % 64+0)=p by omega]
  cases F p<;>simp
 ·rw[e1]
  have:(if F p then 1#64 else 0#64).getLsbD j=false:=by
   split
   ·rw[e1];simp[h]
   ·simp
  rw[this];simp[h]
theorem bw_zero {F:Nat→Bool} {k:Nat} :bw F k=0#64↔∀ j,j<64→F (64 * k+j)=false:=by
 constructor
 ·intro h j hj;rw[←Dm F k j hj,h];simp
 ·intro h;exact (Ja fun j hj=>by rw[h j hj];simp).symm
/-! how many bits are set -/
def cnt (F:Nat→Bool) (a:Nat):Nat→Nat
 | 0=>0
 | n+1=>cnt F a n+(F (a+n)).toNat
theorem Gy (F:Nat→Bool) (a m n:Nat):cnt F a (m+n)=cnt F a m+cnt F (a+m) n:=by
 induction n with
 | zero=>rfl
 | succ n ih=>rw[←Nat.add_assoc];simp only[cnt];rw[ih,show a+(m+n)=a+m+n by omega];omega
def B6 (w:Nat):List Nat→Nat
 | []=>0
 | d::l=>d+2 ^ w * B6 w l
def evN:List Nat→List Nat
 | a::_::l=>a::evN l
 | _=>[]
def FR:List Nat→List Nat
 | _::b::l=>b::FR l
 | _=>[]
theorem P7 (k x y a b:Nat) (ha:a<2 ^ k) (hb:b<2 ^ k):(a+2 ^ k * x)&&&(b+2 ^ k * y)=(a&&&b)+2 ^ k * (x&&&y):=by
 have e1:((a+2 ^ k * x)&&&(b+2 ^ k * y)) % 2 ^ k=a&&&b:=by
  rw[Nat.and_mod_two_pow,Nat.add_mul_mod_self_left,Nat.add_mul_mod_self_left,Nat.mod_eq_of_lt ha,Nat.mod_eq_of_lt hb]
 have hp:0<2 ^ k:=Nat.two_pow_pos k
 have e2:((a+2 ^ k * x)&&&(b+2 ^ k * y)) / 2 ^ k=x&&&y:=by
  rw[Nat.and_div_two_pow,Nat.add_mul_div_left _ _ hp,Nat.add_mul_div_left _ _ hp,Nat.div_eq_of_lt ha,Nat.div_eq_of_lt hb,Nat.zero_add,Nat.zero_add]
 have:=Nat.mod_add_div ((a+2 ^ k * x)&&&(b+2 ^ k * y)) (2 ^ k)
 rw[e1,e2] at this;exact this.symm
theorem Jb (w:Nat):∀ l:List Nat,l.length % 2=0→(∀ d∈l,d<2 ^ w)→B6 w l&&&B6 (2 * w) (List.replicate (l.length / 2) (2 ^ w - 1))=B6 (2 * w) (evN l)
 | [],_,_=>by simp[B6,evN]
 | [_],h,_=>by simp at h
 | a::b::l,h,hd=>by
  have ih:=Jb w l (by simp at h;omega) (fun d hm=>hd d (by simp[hm]))
  have ha:=hd a (by simp);have hb:=hd b (by simp)
  have e2:(2:Nat) ^ (2 * w)=2 ^ w * 2 ^ w:=by rw[←Nat.pow_add];congr 1;omega
  have hp:0<2 ^ w:=Nat.two_pow_pos w
  simp only[B6,evN]
  rw[show (a::b::l).length / 2=l.length / 2+1 by simp;omega,List.replicate_succ]
  simp only[B6]
  have hlt:a+2 ^ w * b<2 ^ (2 * w):=by
   rw[e2]
   have:2 ^ w * (b+1)≤2 ^ w * 2 ^ w:=Nat.mul_le_mul_left _ hb
   rw[Nat.mul_add] at this;omega
  have h1:(2 ^ w - 1)<2 ^ (2 * w):=by
   rw[e2]
   have:2 ^ w * 1≤2 ^ w * 2 ^ w:=Nat.mul_le_mul_left _ hp
   omega
  have e3:a+2 ^ w * (b+2 ^ w * B6 w l)=(a+2 ^ w * b)+2 ^ (2 * w) * B6 w l:=by
   rw[e2,Nat.mul_add,Nat.mul_assoc];omega
  rw[e3,P7 _ _ _ _ _ hlt h1,ih,Nat.and_two_pow_sub_one_eq_mod,Nat.add_mul_mod_self_left,Nat.mod_eq_of_lt ha]
theorem LR (w:Nat):∀ (l:List Nat) (d:Nat),B6 w (l++[d])=B6 w l+2 ^ (w * l.length) * d
 | [],d=>by simp[B6]
 | a::l,d=>by
  simp only[List.cons_append,B6,LR w l d,List.length_cons]
  rw[Nat.mul_add,←Nat.mul_assoc,←Nat.pow_add,show w+w * l.length=w * (l.length+1) by rw[Nat.mul_add];omega];omega
theorem NY (w a:Nat) (l:List Nat) (h:a<2 ^ w):B6 w (a::l) / 2 ^ w=B6 w l:=by
 simp only[B6];rw[Nat.add_mul_div_left _ _ (Nat.two_pow_pos w),Nat.div_eq_of_lt h,Nat.zero_add]
theorem LS (w:Nat) (l:List Nat):B6 w (l++[0])=B6 w l:=by rw[LR];simp
theorem JQ (w:Nat):∀ (l m:List Nat),l.length=m.length→B6 w l+B6 w m=B6 w (List.zipWith (· + ·) l m)
 | [],[],_=>rfl
 | a::l,b::m,h=>by
  simp only[List.zipWith,B6]
  rw[←JQ w l m (by simpa using h),Nat.mul_add];omega
 | [],_::_,h=>by simp at h
 | _::_,[],h=>by simp at h
theorem JR:∀ l:List Nat,(evN l).length=l.length / 2
 | []=>rfl
 | [_]=>by simp[evN]
 | a::b::l=>by simp only[evN,List.length_cons,JR l];omega
theorem JS:∀ l:List Nat,(FR l).length=l.length / 2
 | []=>rfl
 | [_]=>by simp[FR]
 | a::b::l=>by simp only[FR,List.length_cons,JS l];omega
theorem IG:∀ (a:Nat) (l:List Nat),(a::l).length % 2=0→evN (l++[0])=FR (a::l)
 | a,[],h=>by simp at h
 | a,[b],_=>by simp[evN,FR]
 | a,b::c::l,h=>by
  simp only[List.cons_append,evN,FR]
  rw[IG c l (by simp at h ⊢;omega)]
theorem evN_mem:∀ (l:List Nat),∀ d∈evN l,d∈l
 | [],d,h=>by simp[evN] at h
 | [_],d,h=>by simp[evN] at h
 | a::b::l,d,h=>by
  simp only[evN,List.mem_cons] at h
  rcases h with rfl|h
  ·simp
  ·simp[evN_mem l d h]
theorem odN_mem:∀ (l:List Nat),∀ d∈FR l,d∈l
 | [],d,h=>by simp[FR] at h
 | [_],d,h=>by simp[FR] at h
 | a::b::l,d,h=>by
  simp only[FR,List.mem_cons] at h
  rcases h with rfl|h
  ·simp
  ·simp[odN_mem l d h]
def psm (l:List Nat):List Nat:=List.zipWith (· + ·) (evN l) (FR l)
theorem JT (l:List Nat):(psm l).length=l.length / 2:=by simp[psm,JR,JS]
theorem HU:∀ l:List Nat,l.length % 2=0→(psm l).sum=l.sum
 | [],_=>rfl
 | [_],h=>by simp at h
 | a::b::l,h=>by
  have:=HU l (by simp at h;omega)
  simp only[psm,evN,FR,List.zipWith,List.sum_cons] at this ⊢;omega
theorem LT {c d:Nat} :∀ (l m:List Nat),(∀ x∈l,x≤c)→(∀ x∈m,x≤d)→∀ x∈List.zipWith (· + ·) l m,x≤c+d
 | [],_,_,_,x,h=>by simp at h
 | _::_,[],_,_,x,h=>by simp at h
 | a::l,b::m,h1,h2,x,h=>by
  simp only[List.zipWith,List.mem_cons] at h
  rcases h with rfl|h
  ·have:=h1 a (by simp);have:=h2 b (by simp);omega
  ·exact LT l m (fun x hx=>h1 x (by simp[hx])) (fun x hx=>h2 x (by simp[hx])) x h
theorem LU (l:List Nat) (c:Nat) (h:∀ d∈l,d≤c):∀ d∈psm l,d≤c+c:=
 LT _ _ (fun x hx=>h x (evN_mem l x hx)) (fun x hx=>h x (odN_mem l x hx))
def NZ (w n:Nat):Nat:=B6 (2 * w) (List.replicate n (2 ^ w - 1))
theorem Xp (w:Nat) (l:List Nat) (h:l.length % 2=0) (hd:∀ d∈l,d<2 ^ w):B6 w l / 2 ^ w&&&NZ w (l.length / 2)=B6 (2 * w) (FR l):=by
 cases l with
 | nil=>simp[B6,FR]
 | cons a l=>
  rw[NY _ _ _ (hd a (by simp)),←LS,←IG a l h]
  have:=Jb w (l++[0]) (by simp at h ⊢;omega) (fun d hm=>by
   simp only[List.mem_append,List.mem_singleton] at hm
   rcases hm with hm|rfl
   ·exact hd d (by simp[hm])
   ·exact Nat.two_pow_pos w)
  have e:(l++[0]).length=(a::l).length:=by simp
  rw[e] at this
  exact this
theorem LV (w:Nat) (l:List Nat) (h:l.length % 2=0) (hd:∀ d∈l,d<2 ^ w):(B6 w l / 2 ^ w&&&NZ w (l.length / 2))+(B6 w l&&&NZ w (l.length / 2))=B6 (2 * w) (psm l):=by
 rw[Xp w l h hd,show B6 w l&&&NZ w (l.length / 2)=B6 (2 * w) (evN l) from Jb w l h hd,Nat.add_comm,JQ _ _ _ (by rw[JR,JS])];rfl
theorem Jc (w:Nat):∀ (l:List Nat),(∀ d∈l,d<2 ^ w)→B6 w l<2 ^ (w * l.length)
 | [],_=>by simp[B6]
 | a::l,h=>by
  have:=Jc w l (fun d hd=>h d (by simp[hd]))
  have ha:=h a (by simp)
  simp only[B6,List.length_cons]
  rw[show w * (l.length+1)=w+w * l.length by rw[Nat.mul_add];omega,Nat.pow_add]
  have:2 ^ w * (B6 w l+1)≤2 ^ w * 2 ^ (w * l.length):=Nat.mul_le_mul_left _ this
  rw[Nat.mul_add] at this;omega
def JU (x:BitVec 64):BitVec 64:=
 let a:=(x>>>1&&&6148914691236517205#64)+(x&&&6148914691236517205#64)
 let b:=(a>>>2&&&3689348814741910323#64)+(a&&&3689348814741910323#64)
 let c:=(b>>>4+b)&&&1085102592571150095#64
 let d:=c+c>>>8
 let e:=d+d>>>16
 e+e>>>32
theorem Xq (b:BitVec 64) (m:List Nat) (hl:m.length=16) (hm:∀ d∈m,d≤4) (hb:b.toNat=B6 4 m):((b>>>4+b)&&&1085102592571150095#64).toNat=B6 8 (psm m):=by
 rw[BitVec.toNat_and,BitVec.toNat_add,BitVec.toNat_ushiftRight,hb,Nat.shiftRight_eq_div_pow]
 cases m with
 | nil=>simp at hl
 | cons a m=>
  have ha:=hm a (by simp)
  rw[NY _ _ _ (by omega),←LS,JQ _ _ _ (by simp)]
  have hall:∀ d∈List.zipWith (· + ·) (m++[0]) (a::m),d<2 ^ 4:=fun d h=>by
   have:=LT (c:=4) (d:=4) _ _ (fun x hx=>by
    simp only[List.mem_append,List.mem_singleton] at hx
    rcases hx with hx|rfl
    ·exact hm x (by simp[hx])
    ·omega) hm d h
   omega
  have hzl:(List.zipWith (· + ·) (m++[0]) (a::m)).length=16:=by simp at hl ⊢;omega
  have hlt:=Jc 4 _ hall
  rw[hzl] at hlt
  rw[Nat.mod_eq_of_lt hlt]
  have h2:=Jb 4 _ (by rw[hzl]) hall
  rw[hzl,show B6 (2 * 4) (List.replicate (16 / 2) (2 ^ 4 - 1))=1085102592571150095 by decide+kernel] at h2
  rw[show (1085102592571150095#64).toNat=1085102592571150095 from rfl,h2]
  have hz:∀ (l l':List Nat),evN (List.zipWith (· + ·) l l')=List.zipWith (· + ·) (evN l) (evN l'):=fun l=>by
   induction l using evN.induct with
   | case1 a b l ih=>
    intro l'
    match l' with
    | []=>simp[evN]
    | [_]=>simp[evN]
    | x::y::l'=>simp only[List.zipWith,evN,ih l']
   | case2 l h=>
    intro l'
    match l,l' with
    | [],_=>simp[evN]
    | [_],[]=>simp[evN]
    | [_],_::_=>simp[evN]
    | a::b::l,_=>exact absurd rfl (h a b l)
  rw[hz,IG a m (by rw[hl]),psm]
  congr 1
  exact List.zipWith_comm_of_comm (fun x y=>Nat.add_comm x y)
theorem JV (c:BitVec 64) (k p x lo hi b:Nat) (hp:2 ^ k=p) (hc:c.toNat=x) (hx:x=lo+p * hi) (hlo:lo<p) (hb:x≤b) (hhi:hi≤b) (hlt:b<9223372036854775808):(c+c>>>k).toNat=x+hi:=by
 subst hp
 have h:x / 2 ^ k=hi:=by rw[hx,Nat.add_mul_div_left _ _ (Nat.two_pow_pos k),Nat.div_eq_of_lt hlo,Nat.zero_add]
 rw[BitVec.toNat_add,BitVec.toNat_ushiftRight,Nat.shiftRight_eq_div_pow,hc,h];exact Nat.mod_eq_of_lt (by omega)
theorem Xr (x y t K:Nat) (e:x=y) (h:y=t+256 * K) (ht:t≤64) (hK:K≤20000000000000000):x<9223372036854775808∧x % 128=t:=by omega
theorem Xs (m0 m1 m2 m3 m4 m5 m6 m7:Nat) (q0:m0≤8) (q1:m1≤8) (q2:m2≤8) (q3:m3≤8) (q4:m4≤8) (q5:m5≤8) (q6:m6≤8) (q7:m7≤8) (c:BitVec 64) (hc:c.toNat=m0+256 * m1+65536 * m2+16777216 * m3+4294967296 * m4+1099511627776 * m5+281474976710656 * m6+72057594037927936 * m7):
  ((c+c>>>8)+(c+c>>>8)>>>16+((c+c>>>8)+(c+c>>>8)>>>16)>>>32).toNat<9223372036854775808∧((c+c>>>8)+(c+c>>>8)>>>16+((c+c>>>8)+(c+c>>>8)>>>16)>>>32).toNat % 128=m0+m1+m2+m3+m4+m5+m6+m7:=by
 have e1:=JV c 8 256 _ m0 (m1+256 * m2+65536 * m3+16777216 * m4+4294967296 * m5+1099511627776 * m6+281474976710656 * m7) 1000000000000000000 rfl hc (by omega) (by omega) (by omega) (by omega) (by decide)
 have e2:=JV (c+c>>>8) 16 65536 _ (m0+m1+256 * (m1+m2)) (m2+m3+256 * (m3+m4)+65536 * (m4+m5)+16777216 * (m5+m6)+4294967296 * (m6+m7)+1099511627776 * m7) 2000000000000000000 (by decide) e1 (by omega) (by omega) (by omega) (by omega) (by decide)
 have e3:=JV (c+c>>>8+(c+c>>>8)>>>16) 32 4294967296 _ (m0+m1+m2+m3+256 * (m1+m2+m3+m4)+65536 * (m2+m3+m4+m5)+16777216 * (m3+m4+m5+m6)) (m4+m5+m6+m7+256 * (m5+m6+m7)+65536 * (m6+m7)+16777216 * m7) 4000000000000000000 (by simp) e2 (by clear e1 e2 hc;omega) (by clear e1 e2 hc;omega) (by clear e1 e2 hc;omega) (by clear e1 e2 hc;omega) (by decide)
 refine Xr _ _ (m0+m1+m2+m3+m4+m5+m6+m7) ((m1+m2+m3+m4+m5+m6+m7)+256 * ((m2+m3+m4+m5+m6+m7)+256 * ((m3+m4+m5+m6+m7)+256 * ((m4+m5+m6+m7)+256 * ((m5+m6+m7)+256 * ((m6+m7)+256 * m7)))))) e3 ?_ ?_ ?_
 ·clear e1 e2 e3 hc;omega
 ·clear e1 e2 e3 hc;omega
 ·clear e1 e2 e3 hc;omega
theorem Xt (c:BitVec 64) (m:List Nat) (hl:m.length=8) (hm:∀ d∈m,d≤8) (hc:c.toNat=B6 8 m):((c+c>>>8)+(c+c>>>8)>>>16+((c+c>>>8)+(c+c>>>8)>>>16)>>>32).toNat<9223372036854775808∧((c+c>>>8)+(c+c>>>8)>>>16+((c+c>>>8)+(c+c>>>8)>>>16)>>>32).toNat % 128=m.sum:=by
 match m,hl with
 | [m0,m1,m2,m3,m4,m5,m6,m7],_=>
  have:=Xs m0 m1 m2 m3 m4 m5 m6 m7 (hm m0 (by simp)) (hm m1 (by simp)) (hm m2 (by simp)) (hm m3 (by simp)) (hm m4 (by simp)) (hm m5 (by simp)) (hm m6 (by simp)) (hm m7 (by simp)) c (by rw[hc];simp only[B6];omega)
  refine ⟨this.1,this.2.trans ?_⟩
  simp only[List.sum_cons,List.sum_nil];omega
theorem UZ (l:List Nat) (hl:l.length=64) (hd:∀ d∈l,d≤1) (x:BitVec 64) (hx:x.toNat=B6 1 l):(JU x).toNat<9223372036854775808∧(JU x).toNat % 128=l.sum:=by
 have d1:∀ d∈l,d<2 ^ 1:=fun d h=>by have:=hd d h;omega
 have l1:(psm l).length=32:=by rw[JT,hl]
 have l2:(psm (psm l)).length=16:=by rw[JT,l1]
 have l3:(psm (psm (psm l))).length=8:=by rw[JT,l2]
 have b1:=LU l 1 hd
 have b2:=LU _ _ b1
 have b3:=LU _ _ b2
 have s1:=HU l (by omega)
 have s2:=HU (psm l) (by omega)
 have s3:=HU (psm (psm l)) (by omega)
 have e1:=LV 1 l (by omega) d1
 have e2:=LV 2 (psm l) (by omega) (fun d h=>by have:=b1 d h;omega)
 rw[hl,show NZ 1 (64 / 2)=6148914691236517205 by decide+kernel] at e1
 rw[l1,show NZ 2 (32 / 2)=3689348814741910323 by decide+kernel] at e2
 have t1:=Jc 2 (psm l) (fun d h=>by have:=b1 d h;omega)
 have t2:=Jc 4 (psm (psm l)) (fun d h=>by have:=b2 d h;omega)
 rw[l1] at t1;rw[l2] at t2
 have ea:((x>>>1&&&6148914691236517205#64)+(x&&&6148914691236517205#64)).toNat=B6 2 (psm l):=by
  rw[BitVec.toNat_add,BitVec.toNat_and,BitVec.toNat_and,BitVec.toNat_ushiftRight,hx,Nat.shiftRight_eq_div_pow]
  rw[show (6148914691236517205#64).toNat=6148914691236517205 from rfl,e1]
  exact Nat.mod_eq_of_lt t1
 have eb:∀ a:BitVec 64,a.toNat=B6 2 (psm l)→((a>>>2&&&3689348814741910323#64)+(a&&&3689348814741910323#64)).toNat=B6 4 (psm (psm l)):=fun a ha=>by
  rw[BitVec.toNat_add,BitVec.toNat_and,BitVec.toNat_and,BitVec.toNat_ushiftRight,ha,Nat.shiftRight_eq_div_pow]
  rw[show (3689348814741910323#64).toNat=3689348814741910323 from rfl,e2]
  exact Nat.mod_eq_of_lt t2
 have ec:=Xq _ _ l2 b2 (eb _ ea)
 have:=Xt _ _ l3 b3 ec
 rw[←s1,←s2,←s3]
 exact this
theorem Ix:∀ l:List Bool,(BitVec.ofBoolListLE l).toNat=B6 1 (l.map Bool.toNat)
 | []=>rfl
 | b::l=>by
  have ih:=Ix l
  simp only[BitVec.ofBoolListLE,List.map_cons,B6]
  rw[BitVec.toNat_concat,ih];omega
theorem N1 (F:Nat→Bool) (a:Nat):∀ n,((List.range n).map fun j=>(F (a+j)).toNat).sum=cnt F a n
 | 0=>rfl
 | n+1=>by rw[List.range_succ,List.map_append,List.sum_append,N1 F a n];simp[cnt]
theorem JW (F:Nat→Bool) (k:Nat):(JU (bw F k)).toNat<9223372036854775808∧(JU (bw F k)).toNat % 128=cnt F (64 * k) 64:=by
 have:=UZ ((List.range 64).map fun j=>(F (64 * k+j)).toNat) (by simp) (fun d h=>by
  simp only[List.mem_map] at h
  obtain ⟨j,_,rfl⟩:=h
  cases F (64 * k+j)<;>simp) (bw F k) (by
   unfold bw
   rw[BitVec.toNat_cast,Ix,List.map_map];rfl)
 rw[N1] at this
 exact this
section
open Go.RowKit
def u64 (b:BitVec 64):Value:= .int .u64 b.toNat
theorem P8 (n:Nat) (h:n<18446744073709551616):IntKind.u64.wrap (n:Int)=n:=by
 simp[IntKind.wrap,IntKind.bits,IntKind.signed];omega
theorem O4 (b:BitVec 64):IntKind.u64.wrap (b.toNat:Int)=b.toNat:=P8 _ b.isLt
theorem FE (p:BitVec 64):BitVec.ofInt 64 (p.toNat:Int)=p:=by rw[BitVec.ofInt_natCast];simp
section
variable {P:Program} {C:World→Prop} {o:Oper} {a:Act} {w z:World} {Γ:List Ae} {n:Nat} {ds:List Deferred} {L:List (Nat×Value)} {v:Value} {x y:Operand} {xt yt:TypeId}
theorem ZH (p q:BitVec 64):Op.intBits .or .u64 (p.toNat:Int) (q.toNat:Int)=pure (u64 (p|||q)):=by
 have e:Op.intBits .or .u64 (p.toNat:Int) (q.toNat:Int)=pure (.int .u64 (IntKind.u64.wrap ((BitVec.ofInt 64 (p.toNat:Int)|||BitVec.ofInt 64 (q.toNat:Int)).toNat:Int))):=rfl
 rw[FE,FE,O4] at e;exact e
theorem Y3 (p q:BitVec 64):Op.intBits .and .u64 (p.toNat:Int) (q.toNat:Int)=pure (u64 (p&&&q)):=by
 have e:Op.intBits .and .u64 (p.toNat:Int) (q.toNat:Int)=pure (.int .u64 (IntKind.u64.wrap ((BitVec.ofInt 64 (p.toNat:Int)&&&BitVec.ofInt 64 (q.toNat:Int)).toNat:Int))):=rfl
 rw[FE,FE,O4] at e;exact e
theorem Xu (p q:BitVec 64):Op.intBits .andNot .u64 (p.toNat:Int) (q.toNat:Int)=pure (u64 (p&&& ~~~q)):=by
 have e:Op.intBits .andNot .u64 (p.toNat:Int) (q.toNat:Int)=pure (.int .u64 (IntKind.u64.wrap ((BitVec.ofInt 64 (p.toNat:Int)&&& ~~~(BitVec.ofInt 64 (q.toNat:Int))).toNat:Int))):=rfl
 rw[FE,FE,O4] at e;exact e
theorem LW {p q:BitVec 64} (ho:o.op= .binOp .or xt x y yt) (hx:ev L x=some (u64 p)) (hy:ev L y=some (u64 q)):Ao P C n ds L o (u64 (p|||q)):=fun a hF w _=>by
 have e:=ZH p q
 simp only[execOp,ho,hF.ev hx,hF.ev hy,u64]
 simp only[binOp,go_sem,e]
 rfl
theorem ED {p q:BitVec 64} (ho:o.op= .binOp .and xt x y yt) (hx:ev L x=some (u64 p)) (hy:ev L y=some (u64 q)):Ao P C n ds L o (u64 (p&&&q)):=fun a hF w _=>by
 have e:=Y3 p q
 simp only[execOp,ho,hF.ev hx,hF.ev hy,u64]
 simp only[binOp,go_sem,e]
 rfl
theorem RV {p q:BitVec 64} (ho:o.op= .binOp .andNot xt x y yt) (hx:ev L x=some (u64 p)) (hy:ev L y=some (u64 q)):Ao P C n ds L o (u64 (p&&& ~~~q)):=fun a hF w _=>by
 have e:=Xu p q
 simp only[execOp,ho,hF.ev hx,hF.ev hy,u64]
 simp only[binOp,go_sem,e]
 rfl
theorem Gz {p q:BitVec 64} (ho:o.op= .binOp .add xt x y yt) (hx:ev L x=some (u64 p)) (hy:ev L y=some (u64 q)):Ao P C n ds L o (u64 (p+q)):=fun a hF w _=>by
 simp only[execOp,ho,hF.ev hx,hF.ev hy,u64]
 have e:IntKind.u64.wrap ((p.toNat:Int)+(q.toNat:Int))=((p+q).toNat:Int):=by
  rw[BitVec.toNat_add];simp[IntKind.wrap,IntKind.bits,IntKind.signed]
 simp[go_sem,e]
theorem Xv {p q:BitVec 64} (ho:o.op= .binOp .mul xt x y yt) (hx:ev L x=some (u64 p)) (hy:ev L y=some (u64 q)):Ao P C n ds L o (u64 (p * q)):=fun a hF w _=>by
 simp only[execOp,ho,hF.ev hx,hF.ev hy,u64]
 have e:IntKind.u64.wrap ((p.toNat:Int) * (q.toNat:Int))=((p * q).toNat:Int):=by
  rw[BitVec.toNat_mul];simp[IntKind.wrap,IntKind.bits,IntKind.signed]
 simp[go_sem,e]
theorem Xw {p:BitVec 64} (ho:o.op= .unOp .neg xt x) (hx:ev L x=some (u64 p)):Ao P C n ds L o (u64 (-p)):=by
 have:=Ul (P:=P) (C:=C) (n:=n) (ds:=ds) (L:=L) ho hx
 have e:IntKind.u64.wrap (0 - (p.toNat:Int))=((-p).toNat:Int):=by
  have:=p.isLt
  rw[BitVec.toNat_neg];simp[IntKind.wrap,IntKind.bits,IntKind.signed];omega
 rw[e] at this;exact this
theorem EP {p:BitVec 64} {k:IntKind} {q:Int} {m:Nat} (ho:o.op= .binOp .shr xt x y yt) (hx:ev L x=some (u64 p)) (hy:ev L y=some (.int k q)) (hq:q=m) (hm:m<64):Ao P C n ds L o (u64 (p>>>m)):=fun a hF w _=>by
 subst hq
 simp only[execOp,ho,hF.ev hx,hF.ev hy,u64]
 have hj:¬ ((m:Int)<0):=by omega
 have hj2:min m 64=m:=by omega
 simp[go_sem,Op.shift,IntKind.bits,hj,hj2,Int.shiftRight_eq_div_pow]
theorem LX {k:IntKind} {q:Int} {m:Nat} (ho:o.op= .binOp .shl xt x y yt) (hx:ev L x=some (.int .u64 1)) (hy:ev L y=some (.int k q)) (hq:q=m) (hm:m<64):Ao P C n ds L o (u64 (DF m)):=fun a hF w _=>by
 subst hq
 have hj:¬ ((m:Int)<0):=by omega
 have hj2:min m 64=m:=by omega
 have e:Op.shift .shl .u64 1 k (m:Int)=pure (u64 (DF m)):=by
  have h1:(DF m).toNat=2 ^ m:=by unfold DF;rw[BitVec.toNat_twoPow];exact Nat.mod_eq_of_lt (Nat.pow_lt_pow_right (by omega) hm)
  unfold Op.shift u64
  rw[if_neg hj,h1]
  simp only[IntKind.bits,Int.toNat_natCast,hj2]
  rw[Int.one_mul,←P8 (2 ^ m) (Nat.pow_lt_pow_right (m:=m) (n:=64) (a:=2) (by omega) hm)]
  simp
 simp only[execOp,ho,hF.ev hx,hF.ev hy]
 simp only[binOp,go_sem,e]
 rfl
theorem LY {p q:BitVec 64} (ho:o.op= .binOp .eql xt x y yt) {k:IntKind} (ht:DD P xt xt=some k) (hx:ev L x=some (u64 p)) (hy:ev L y=some (u64 q)):Ao P C n ds L o (.bool (decide (p=q))):=fun a hF w _=>by
 obtain ⟨d,h0,h1⟩:=E3 ht
 simp only[execOp,ho,hF.ev hx,hF.ev hy,u64]
 simp[h1,go_sem]
 rw[Bool.eq_iff_iff];simp
 exact ⟨fun h=>BitVec.eq_of_toNat_eq (by omega),fun h=>by rw[h]⟩
theorem P9 {p q:BitVec 64} (ho:o.op= .binOp .neq xt x y yt) {k:IntKind} (ht:DD P xt xt=some k) (hx:ev L x=some (u64 p)) (hy:ev L y=some (u64 q)):Ao P C n ds L o (.bool (decide (p≠q))):=fun a hF w _=>by
 obtain ⟨d,h0,h1⟩:=E3 ht
 simp only[execOp,ho,hF.ev hx,hF.ev hy,u64]
 simp[h1,go_sem]
 rw[Bool.eq_iff_iff];simp
 exact ⟨fun h e=>h (by rw[e]),fun h e=>h (BitVec.eq_of_toNat_eq (by omega))⟩
theorem Y4 {dt:TypeId} {p:BitVec 64} (ho:o.op= .convert xt dt x) (h1:DD P xt dt=some .i64) (hx:ev L x=some (u64 p)) (hp:p.toNat<9223372036854775808):Ao P C n ds L o (Iv_ p.toNat):=by
 have:=Hu (P:=P) (C:=C) (n:=n) (ds:=ds) (L:=L) ho h1 hx
 rwa[IntWalk.i64_in _ (by omega)] at this
theorem Qb {t:TypeId} {hi mx:Operand} {b off n' q z:Nat} {k2 k3:IntKind} {i2 i3:Int} (ho:o.op= .slice t x none (some hi) (some mx)) (ht:GR P t=some (n',z))
  (hx:ev L x=some (.pointer (some ⟨b,off,none⟩))) (hhi:ev L hi=some (.int k2 i2)) (hmx:ev L mx=some (.int k3 i3)) (e2:i2=(q:Int)) (e3:i3=(q:Int)) (hq:0<q) (hqc:q≤n'):Ao P C n ds L o (.slice (some ⟨b,off,none⟩) q q):=fun a hF w _=>by
 obtain ⟨e,i0,ht1,hi0,hz⟩:=GS ht
 subst e2;subst e3
 have g2:(0:Int)≤(q:Int)∧(q:Int)≤(n':Int):=by omega
 have g3:(0:Int)≤(q:Int)∧(q:Int)≤(q:Int):=by omega
 have key:((⟨b,off,none⟩:Addr).add (0 * z))=⟨b,off,none⟩:=by unfold Addr.add;simp
 have hne:¬ q=0:=by omega
 have hp2:0≤q:=by omega
 simp only[execOp,ho,Option.map_some,Option.map_none,hF.ev hx,hF.ev hhi,hF.ev hmx]
 simp[Instr.sliceAt,Instr.slice,run_underlying ht1,Instr.sureAddr,Instr.sliceBounds,Instr.sliceBound,asIntOf,g2,g3,sizeOf,typeInfo,hi0,hz,hp2,hqc,hne,go_sem]<;>(try simp_all)
theorem RX {t:TypeId} {lo:Operand} {b off l c p z o' l' c':Nat} {k:IntKind} {i:Int} (ho:o.op= .slice t x (some lo) none none) (ht:CK P t=some z)
  (hx:ev L x=some (.slice (some ⟨b,off,none⟩) l c)) (hy:ev L lo=some (.int k i)) (hi:i=(p:Int)) (hpl:p≤l) (hlc:l≤c)
  (h1:(if c=p then off else off+p * z)=o') (h2:l - p=l') (h3:c - p=c'):Ao P C n ds L o (.slice (some ⟨b,o',none⟩) l' c'):=by
 have:=HR (P:=P) (C:=C) (n:=n) (ds:=ds) (L:=L) (p:=p) (q:=l) ho ht hx (.inr ⟨lo,k,i,rfl,hy,hi⟩) (.inl ⟨rfl,rfl⟩) hpl hlc
 rw[h2,h3] at this
 have e:(if c=p then (some ⟨b,off,none⟩:Option Addr) else (some ⟨b,off,none⟩:Option Addr).map (·.add (p * z)))=some ⟨b,o',none⟩:=by
  subst h1
  split
  ·rfl
  ·simp only[Option.map_some,Option.some.injEq]
   unfold Addr.add;split
   ·rename_i h0;simp[h0]
   ·rfl
 rwa[e] at this
theorem U0 {p:Int} (ho:o.op= .binOp .and xt x y yt) (hx:ev L x=some (Iv_ p)) (hy:ev L y=some (Iv_ 127)) (hp:0≤p∧p<9223372036854775808):Ao P C n ds L o (Iv_ (p % 128)):=fun a hF w _=>by
 obtain ⟨q,rfl⟩:=Int.eq_ofNat_of_zero_le hp.1
 have e:Op.intBits .and .i64 (q:Int) 127=pure (Iv_ (IntKind.i64.wrap ((BitVec.ofInt 64 (q:Int)&&&BitVec.ofInt 64 127).toNat:Int))):=rfl
 have e1:(BitVec.ofInt 64 (q:Int)&&&BitVec.ofInt 64 127).toNat=q % 128:=by
  rw[BitVec.toNat_and,show (BitVec.ofInt 64 127).toNat=2 ^ 7 - 1 from rfl,Nat.and_two_pow_sub_one_eq_mod,BitVec.ofInt_natCast,BitVec.toNat_ofNat,Nat.mod_eq_of_lt (a:=q) (b:=2 ^ 64) (by omega)]
 rw[e1,IntWalk.i64_in _ (by omega),show ((q % 128:Nat):Int)=(q:Int) % 128 from by omega] at e
 simp only[execOp,ho,hF.ev hx,hF.ev hy]
 simp only[binOp,go_sem,e]
 rfl
end
end
section
open Go.RowKit
inductive Pt where
 | b (b:Nat) (cs:List Value) (ty:TypeId)
 | a (A:Ae)
def Dh:List Pt→List Ae→List Ae
 | [],R=>R
 | .b b cs ty::G,R=>blk b cs ty::Dh G R
 | .a A::G,R=>A::Dh G R
class Rf (Γ:List Ae) (G:outParam (List Pt)) (R:outParam (List Ae)):Prop where
 e:Γ=Dh G R
instance rf0 {R:List Ae} :Rf R [] R:=⟨rfl⟩
instance rf1 {A:Ae} {Γ R:List Ae} {G:List Pt} [h:Rf Γ G R]:Rf (A::Γ) (.a A::G) R:=⟨congrArg (A:: ·) h.e⟩
instance rf2 {b:Nat} {cs:List Value} {ty:TypeId} {Γ R:List Ae} {G:List Pt} [h:Rf Γ G R]:Rf (blk b cs ty::Γ) (.b b cs ty::G) R:=⟨congrArg (blk b cs ty:: ·) h.e⟩
instance rf3 {Γ R:List Ae} {G:List Pt} [h:Rf Γ G R]:Rf ([]++Γ) G R:=h
instance rf4 {A:Ae} {Γ Γ' R:List Ae} {G:List Pt} [h:Rf (Γ++Γ') G R]:Rf ((A::Γ)++Γ') (.a A::G) R:=⟨congrArg (A:: ·) h.e⟩
instance rf5 {b:Nat} {cs:List Value} {ty:TypeId} {Γ Γ' R:List Ae} {G:List Pt} [h:Rf (Γ++Γ') G R]:Rf ((blk b cs ty::Γ)++Γ') (.b b cs ty::G) R:=⟨congrArg (blk b cs ty:: ·) h.e⟩
theorem CI {R:List Ae} :∀ {G:List Pt} {j b:Nat} {cs:List Value} {ty:TypeId},G[j]? =some (.b b cs ty)→(Dh G R)[j]? =some (blk b cs ty)
 | [],_,_,_,_,h=>by simp at h
 | .b b' cs' ty'::G,0,b,cs,ty,h=>by simp at h;obtain ⟨rfl,rfl,rfl⟩:=h;rfl
 | .a A::G,0,b,cs,ty,h=>by simp at h
 | .b b' cs' ty'::G,j+1,b,cs,ty,h=>by simpa [Dh] using CI (j:=j) (by simpa using h)
 | .a A::G,j+1,b,cs,ty,h=>by simpa [Dh] using CI (j:=j) (by simpa using h)
theorem IH {R:List Ae} :∀ {G:List Pt} {j b:Nat} {cs:List Value} {ty:TypeId},j<G.length→(Dh G R).set j (blk b cs ty)=Dh (G.set j (.b b cs ty)) R
 | [],_,_,_,_,h=>by simp at h
 | .b b' cs' ty'::G,0,b,cs,ty,h=>rfl
 | .a A::G,0,b,cs,ty,h=>rfl
 | .b b' cs' ty'::G,j+1,b,cs,ty,h=>by simp[Dh,IH (j:=j) (by simpa using h)]
 | .a A::G,j+1,b,cs,ty,h=>by simp[Dh,IH (j:=j) (by simpa using h)]
/-! ### Where a walk is -/
inductive Kd where
 | fin
 | seq (c:Code) (k:Kd)
 | blk (i:Nat) (k:Kd)
inductive Pos where
 | c (c:Code) (k:Kd)
 | o (ops os:List Oper) (k:Kd)
 | n (k:Kd)
 | x (i:Nat) (k:Kd)
 | r
section
variable (P:Program) (N:Act→World→Prop) (X:Nat→Act→World→Prop) (R:Act→World→Prop)
def kQ:Kd→(Act→World→Prop)×(Nat→Act→World→Prop)
 | .fin=>(N,X)
 | .seq c k=>(fun a w=>c.wp P (Qp (kQ k).1 (kQ k).2 R) a w,(kQ k).2)
 | .blk i k=>((kQ k).1,upd (kQ k).2 i (kQ k).1)
def BA:Pos→Act→World→Prop
 | .c c k=>c.wp P (Qp (kQ P N X R k).1 (kQ P N X R k).2 R)
 | .o ops os k=>wpList P ops.toArray (Qp (kQ P N X R k).1 (kQ P N X R k).2 R) os
 | .n k=>(kQ P N X R k).1
 | .x i k=>(kQ P N X R k).2 i
 | .r=>R
end
def Uq (L:List (Nat×Value)) (k:Kd):Code→Option Pos
 | .seq x y=>some (.c x (.seq y k))
 | .skip=>some (.n k)
 | .ret=>some .r
 | .exit i=>some (.x i k)
 | .block i c=>some (.c c (.blk i k))
 | .cond o x y=>match ev L o with
  | some (.bool true)=>some (.c x k)
  | some (.bool false)=>some (.c y k)
  | _=>none
 | .region _ ops false=>some (.o ops.toList ops.toList k)
 | _=>none
def O5 (L:List (Nat×Value)):Pos→Option Pos
 | .c c k=>Uq L k c
 | .n (.seq c k)=>some (.c c k)
 | .n (.blk _ k)=>some (.n k)
 | .x i (.seq _ k)=>some (.x i k)
 | .x i (.blk j k)=>bif Nat.beq i j then some (.n k) else some (.x i k)
 | .o _ [] k=>some (.n k)
 | _=>none
theorem pstep_ok {P:Program} {N R:Act→World→Prop} {X:Nat→Act→World→Prop} {n:Nat} {ds:List Deferred} {L:List (Nat×Value)} {w:World} {p p':Pos} (h:O5 L p=some p') (K:∀ x,Fr n ds L x→BA P N X R p' x w):∀ x,Fr n ds L x→BA P N X R p x w:=by
 unfold O5 at h
 split at h
 ·rename_i c k
  unfold Uq at h
  split at h
  ·cases h;exact AO K
  ·cases h;exact Dk K
  ·cases h;exact Ek K
  ·cases h;exact PK K
  ·cases h;exact E2 K
  ·split at h
   ·rename_i hc;cases h;exact PL hc K
   ·rename_i hc;cases h;exact EA hc K
   ·cases h
  ·rename_i id ops;cases h
   have:=AC (id:=id) (ops:=ops.toList) (P:=P) (N:=(kQ P N X R k).1) (X:=(kQ P N X R k).2) (R:=R) K
   simp only[Array.toArray_toList] at this
   exact this
  ·cases h
 ·cases h;exact K
 ·cases h;exact K
 ·cases h;exact K
 ·rename_i i j k
  cases hb:Nat.beq i j with
  | true=>rw[hb] at h;cases h;rw[Nat.eq_of_beq_eq_true hb];exact Ht K
  | false=>rw[hb] at h;cases h;exact YS hb K
 ·cases h;exact K
 ·cases h
/-! ### What is to be shown yet -/
def E0:Option Prop→Prop
 | none=>True
 | some p=>p
def cj:Option Prop→Option Prop→Option Prop
 | none,q=>q
 | some p,none=>some p
 | some p,some q=>some (p∧q)
theorem GY {p q:Option Prop} (h:E0 (cj p q)):E0 p∧E0 q:=by
 cases p<;>cases q<;>simp[cj,E0] at h ⊢ <;>exact h
/-! ### Single operations -/
def Gf {α β:Type} :List α→(List α→β)→β
 | [],k=>k []
 | x::xs,k=>Gf xs fun ys=>k (x::ys)
theorem Er {α β:Type} :∀ (l:List α) (k:List α→β),Gf l k=k l
 | [],_=>rfl
 | x::xs,k=>Er xs fun ys=>k (x::ys)
def Qc {β:Type} (v:Value) (k:Value→β):β:=match v with
 | .bool b=>k (.bool b)
 | .int i n=>k (.int i n)
 | .pointer a=>k (.pointer a)
 | .slice a l c=>k (.slice a l c)
 | .map r=>k (.map r)
 | .agg cs=>k (.agg cs)
 | v=>k v
theorem Qd {β:Type} (v:Value) (k:Value→β):Qc v k=k v:=by cases v<;>rfl
def HV {β:Type} :List Value→(List Value→β)→β
 | [],k=>k []
 | x::xs,k=>Qc x fun y=>HV xs fun ys=>k (y::ys)
theorem Jd {β:Type} :∀ (l:List Value) (k:List Value→β),HV l k=k l
 | [],_=>rfl
 | x::xs,k=>by rw[HV,Qd,Jd xs]
structure OvR where
 v:Value
 hs:List Nat
 zs:List Int
 ok:Bool
 a:List (Nat×Nat)
 ob:Option Prop
def Xy (b:BinOp) (p q:Int):Option Prop:=match b with
 | .lss=>some (p<q)
 | .leq=>some (p≤q)
 | .gtr=>some (q<p)
 | .geq=>some (q≤p)
 | .eql=>some (p=q)
 | .neq=>some (p≠q)
 | _=>none
theorem Qe {b:BinOp} {p q:Int} {pr:Prop} (h:Xy b p q=some pr):(pr→icmp b p q=some (.bool true))∧(¬ pr→icmp b p q=some (.bool false)):=by
 unfold Xy at h
 split at h<;>first|cases h|skip
 all_goals (constructor<;>intro hp<;>simp only[icmp,Option.some.injEq,Value.bool.injEq]<;>first|exact decide_eq_true hp|exact decide_eq_false hp)
def Zw (b:BinOp) (p q r:Int):Option Prop:=match b with
 | .add=>some (p+q=r∧ -9223372036854775808≤r∧r≤9223372036854775807)
 | .sub=>some (p - q=r∧ -9223372036854775808≤r∧r≤9223372036854775807)
 | .mul=>some (p * q=r∧ -9223372036854775808≤r∧r≤9223372036854775807)
 | .quo=>some (0≤p∧0<q∧p / q=r∧p≤9223372036854775807)
 | .rem=>some (0≤p∧q≠0∧p % q=r)
 | _=>none
def i64:IntKind→Bool
 | .i64=>true
 | _=>false
theorem Qf {k:IntKind} (h:i64 k=true):k= .i64:=by cases k<;>first|rfl|cases h
def RY (P:Program) (b:BinOp) (xt:TypeId) (u v:Value) (hs:List Nat) (zs:List Int):Option OvR:=match u,v with
 | .int k p,.int k' q=>match Xy b p q with
  | some pr=>match hs with
   | 0::hs=>match icmp b p q with
    | some c=>some ⟨c,hs,zs,KB k k',[],none⟩
    | none=>none
   | 1::hs=>some ⟨.bool true,hs,zs,KB k k',[],some pr⟩
   | 2::hs=>some ⟨.bool false,hs,zs,KB k k',[],some (¬ pr)⟩
   | 3::hs=>match icmp b p q with
    | some (.bool c)=>some ⟨.bool true,hs,zs,c && KB k k',[],none⟩
    | _=>none
   | 4::hs=>match icmp b p q with
    | some (.bool c)=>some ⟨.bool false,hs,zs,!c && KB k k',[],none⟩
    | _=>none
   | _=>none
  | none=>match zs with
   | r::zs=>match Zw b p q r with
    | some pr=>some ⟨.int .i64 r,hs,zs,i64 k && i64 k',[],some pr⟩
    | none=>none
   | []=>none
 | .pointer (some _),.pointer none=>match b with
  | .eql=>some ⟨.bool false,hs,zs,Fe P xt,[],none⟩
  | .neq=>some ⟨.bool true,hs,zs,Fe P xt,[],none⟩
  | _=>none
 | .pointer none,.pointer none=>match b with
  | .eql=>some ⟨.bool true,hs,zs,Fe P xt,[],none⟩
  | .neq=>some ⟨.bool false,hs,zs,Fe P xt,[],none⟩
  | _=>none
 | _,_=>none
def Qg:Option Nat→Nat→Bool
 | some x,z=>Nat.beq x z
 | none,_=>false
theorem Je {x:Option Nat} {z:Nat} (h:Qg x z=true):x=some z:=by
 cases x with
 | none=>cases h
 | some y=>rw[Nat.eq_of_beq_eq_true (n:=y) (m:=z) h]
def RZ:Option (Nat×Nat)→Nat→Nat→Bool
 | some x,l,z=>Nat.beq x.1 l && Nat.beq x.2 z
 | none,_,_=>false
theorem U1 {x:Option (Nat×Nat)} {l z:Nat} (h:RZ x l z=true):x=some (l,z):=by
 cases x with
 | none=>cases h
 | some y=>
  simp only[RZ,Bool.and_eq_true] at h
  rw[←Nat.eq_of_beq_eq_true h.1,←Nat.eq_of_beq_eq_true h.2]
def R0 (P:Program) (G:List Pt) (L:List (Nat×Value)) (hs:List Nat) (zs:List Int):Op→Option OvR
 | .move x=>match ev L x with|some v=>some ⟨v,hs,zs,true,[],none⟩|none=>none
 | .assign x=>match ev L x with|some v=>some ⟨v,hs,zs,true,[],none⟩|none=>none
 | .pick c x y=>match ev L c with
  | some (.bool true)=>(match ev L x with|some v=>some ⟨v,hs,zs,true,[],none⟩|none=>none)
  | some (.bool false)=>(match ev L y with|some v=>some ⟨v,hs,zs,true,[],none⟩|none=>none)
  | _=>none
 | .extract x i=>match ev L x with
  | some (.tuple vs)=>(match vs.toList[i]? with|some v=>some ⟨v,hs,zs,true,[],none⟩|none=>none)
  | _=>none
 | .nilCheck x=>match ev L x with
  | some (.pointer (some ad))=>some ⟨.pointer (some ad),hs,zs,true,[],none⟩
  | _=>none
 | .unOp b _ x=>match b with
  | .not=>(match ev L x with|some (.bool c)=>some ⟨.bool !c,hs,zs,true,[],none⟩|_=>none)
  | _=>none
 | .binOp b xt x y _=>match ev L x with
  | some u=>(match ev L y with|some v=>RY P b xt u v hs zs|none=>none)
  | none=>none
 | .fieldAddr s x f=>match hs with
  | r::hs=>(match ev L x with
   | some (.pointer (some ⟨b,p,none⟩))=>some ⟨.pointer (some ⟨b,r,none⟩),hs,zs,Zt (DH P s f) p r,[],none⟩
   | _=>none)
  | []=>none
 | .load t x=>match hs with
  | j::0::hs=>(match ev L x with
   | some (.pointer (some ⟨b,p,none⟩))=>(match G[j]? with
    | some (.b b' cs _)=>(match cs[p]? with
     | some v=>some ⟨v,hs,zs,Ft P t,[(b,b')],none⟩
     | none=>none)
    | _=>none)
   | _=>none)
  | j::m::hs=>(match ev L x with
   | some (.pointer (some ⟨b,p,none⟩))=>(match G[j]? with
    | some (.b b' cs _)=>Gf ((cs.drop p).take m) fun vs=>some ⟨.agg vs.toArray,hs,zs,Qg (GT P t) m && Nat.beq vs.length m,[(b,b')],none⟩
    | _=>none)
   | _=>none)
  | _=>none
 | .indexAddr t x y=>match ev L x with
  | some (.slice (some ⟨b,p,none⟩) l _)=>(match ev L y with
   | some (.int _ i)=>(match hs with
    | z::j::r::hs=>some ⟨.pointer (some ⟨b,r,none⟩),hs,zs,Qg (CK P t) z,[],some (i=(j:Int)∧j<l∧p+j * z=r)⟩
    | _=>none)
   | _=>none)
  | some (.pointer (some ⟨b,p,none⟩))=>(match ev L y with
   | some (.int _ i)=>(match hs with
    | l::z::j::r::hs=>some ⟨.pointer (some ⟨b,r,none⟩),hs,zs,RZ (GR P t) l z,[],some (i=(j:Int)∧j<l∧p+j * z=r)⟩
    | _=>none)
   | _=>none)
  | _=>none
 | .call ⟨.builtin .len,⟨[x]⟩,⟨[t]⟩⟩=>match ev L x with
  | some (.slice _ l _)=>some ⟨.int .i64 l,hs,zs,(CK P t).isSome,[],none⟩
  | _=>none
 | .build t ⟨ps⟩=>match (evs L (ps.map (·.2))).map (List.zip (ps.map (·.1))) with
  | some us=>match P.built t us with
   | some cs=>HV cs.toList fun cs=>some ⟨.agg cs.toArray,hs,zs,true,[],none⟩
   | none=>none
  | none=>none
 | _=>none
section
variable {P:Program} {G:List Pt} {L:List (Nat×Value)} {n:Nat} {ds:List Deferred} {w:World} {C:World→Prop} {o:Oper} {hs:List Nat} {zs:List Int} {q:OvR}
theorem U2 {b:BinOp} {xt yt:TypeId} {x y:Operand} {u v:Value} (ho:o.op= .binOp b xt x y yt) (hx:ev L x=some u) (hy:ev L y=some v) (h:RY P b xt u v hs zs=some q) (hb:q.ok=true) (hq:E0 q.ob):Ao P C n ds L o q.v:=by
 have cmp:∀ {k:IntKind} {p r:Int} {c:Value},ev L x=some (.int k p)→ev L y=some (.int k r)→icmp b p r=some c→Ao P C n ds L o c:=by
  intro k p r c hx hy hv
  unfold icmp at hv
  split at hv<;>first|(cases hv;first|exact OV ho hx hy|exact Ug ho hx hy|exact Uh ho hx hy|exact Ui ho hx hy|exact Uj ho hx hy|exact Uk ho hx hy)|cases hv
 unfold RY at h
 split at h
 ·rename_i k p k' r
  split at h
  ·rename_i pr hpr
   split at h
   ·split at h
    ·rename_i hc;cases h;obtain rfl:=Gw hb;exact cmp hx hy hc
    ·cases h
   ·cases h;obtain rfl:=Gw hb;exact cmp hx hy ((Qe hpr).1 hq)
   ·cases h;obtain rfl:=Gw hb;exact cmp hx hy ((Qe hpr).2 hq)
   ·split at h
    ·rename_i c hc;cases h;simp only[Bool.and_eq_true] at hb;obtain rfl:=Gw hb.2;rw[hb.1] at hc;exact cmp hx hy hc
    ·cases h
   ·split at h
    ·rename_i c hc;cases h;simp only[Bool.and_eq_true,Bool.not_eq_true'] at hb;obtain rfl:=Gw hb.2;rw[hb.1] at hc;exact cmp hx hy hc
    ·cases h
   ·cases h
  ·split at h
   ·split at h
    ·rename_i pr hpr
     cases h
     simp only[Bool.and_eq_true] at hb
     obtain rfl:=Qf hb.1
     obtain rfl:=Qf hb.2
     unfold Zw at hpr
     split at hpr<;>first|cases hpr|skip
     ·exact DB ho hx hy hq.1 hq.2
     ·exact JO ho hx hy hq.1 hq.2
     ·exact UM ho hx hy hq.1 hq.2
     ·exact NN ho hx hy hq.1 hq.2.1 hq.2.2.1 hq.2.2.2
     ·exact NO ho hx hy hq.1 hq.2.1 hq.2.2
    ·cases h
   ·cases h
 ·split at h
  ·cases h;exact LK ho hb hx hy
  ·cases h;exact RM ho hb hx hy
  ·cases h
 ·split at h
  ·cases h;exact RN ho hb hx hy
  ·cases h;exact RO ho hb hx hy
  ·cases h
 ·cases h
theorem oval_ok (hM:∀ w,C w→∀ (j b:Nat) (cs:List Value) (ty:TypeId),G[j]? =some (Pt.b b cs ty)→Blk b cs ty w) (h:R0 P G L hs zs o.op=some q) (hb:q.ok=true) (ha:BJ q.a) (hq:E0 q.ob):Ao P C n ds L o q.v:=by
 unfold R0 at h
 split at h
 ·rename_i ho
  split at h
  ·rename_i hx;cases h;exact CA ho hx
  ·cases h
 ·rename_i ho
  split at h
  ·rename_i hx;cases h;exact Ep ho hx
  ·cases h
 ·rename_i ho
  split at h
  ·rename_i hc
   split at h
   ·rename_i hx;cases h;exact LB ho hc hx
   ·cases h
  ·rename_i hc
   split at h
   ·rename_i hx;cases h;exact LD ho hc hx
   ·cases h
  ·cases h
 ·rename_i ho
  split at h
  ·rename_i vs hx
   split at h
   ·rename_i hv;cases h
    exact EC (vs:=vs.toList) ho (by simpa using hx) hv
   ·cases h
  ·cases h
 ·rename_i ho
  split at h
  ·rename_i hx;cases h;exact I8 ho hx
  ·cases h
 ·rename_i ho
  split at h
  ·split at h
   ·rename_i hx;cases h;exact I6 ho hx
   ·cases h
  ·cases h
 ·rename_i b xt x y _ ho
  split at h
  ·rename_i u hx
   split at h
   ·rename_i v hy;exact U2 ho hx hy h hb hq
   ·cases h
  ·cases h
 ·rename_i s x f ho
  split at h
  ·split at h
   ·rename_i b p hx
    cases h
    dsimp only at hb
    cases hf:DH P s f with
    | none=>rw[hf] at hb;cases hb
    | some k=>
     rw[hf] at hb
     exact Dl ho hf hx (Nat.eq_of_beq_eq_true hb)
   ·cases h
  ·cases h
 ·rename_i t x ho
  split at h
  ·split at h
   ·rename_i b p hx
    split at h
    ·rename_i b' cs ty he
     split at h
     ·rename_i v hv
      cases h
      have e1:b=b':=ha.1
      exact AZ ho hx hb (fun w hw=>by rw[e1];exact (hM w hw _ _ _ _ he).cel p hv)
     ·cases h
    ·cases h
   ·cases h
  ·split at h
   ·rename_i b p hx
    split at h
    ·rename_i b' cs ty he
     rw[Er] at h
     cases h
     have e1:b=b':=ha.1
     simp only[Bool.and_eq_true] at hb
     have hl:=Nat.eq_of_beq_eq_true hb.2
     refine BE ho hx (by rw[Je hb.1,hl]) (fun w hw=> ?_)
     rw[e1];exact (hM w hw _ _ _ _ he).part p _ _ rfl
    ·cases h
   ·cases h
  ·cases h
 ·rename_i t x y ho
  split at h
  ·rename_i b p l _ hx
   split at h
   ·rename_i hy
    split at h
    ·cases h
     exact Cc ho (Je hb) hx hy hq.1 hq.2.1 hq.2.2
    ·cases h
   ·cases h
  ·rename_i b p hx
   split at h
   ·rename_i hy
    split at h
    ·cases h
     exact IC ho (U1 hb) hx hy hq.1 hq.2.1 hq.2.2
    ·cases h
   ·cases h
  ·cases h
 ·rename_i x t ho
  split at h
  ·rename_i l _ hx
   cases h
   dsimp only at hb
   cases hz:CK P t with
   | none=>rw[hz] at hb;cases hb
   | some z=>exact Gc ho hz hx
  ·cases h
 ·rename_i t ps ho
  split at h
  ·rename_i us hv
   split at h
   ·rename_i cs hf
    rw[Jd] at h
    cases h
    exact AF (parts:=ps) ho hv (by simpa using hf)
   ·cases h
  ·cases h
 ·cases h
end
/-! ### Stores -/
def Hy:Value→List Value
 | .agg cs=>cs.toList
 | v=>[v]
theorem N3 (v:Value):v.cells=(Hy v).toArray:=by cases v<;>simp[Hy,Value.cells]
def II:List Value→Nat→List Value→List Value
 | cs,_,[]=>cs
 | [],_,_::_=>[]
 | _::cs,0,v::vs=>v::II cs 0 vs
 | c::cs,p+1,v::vs=>c::II cs p (v::vs)
theorem JX:∀ (cs:List Value) (p:Nat) (vs:List Value),p+vs.length≤cs.length→cs.take p++vs++cs.drop (p+vs.length)=II cs p vs
 | cs,p,[],h=>by simp[II]
 | [],p,v::vs,h=>by simp at h
 | c::cs,0,v::vs,h=>by
  have:=JX cs 0 vs (by simp at h ⊢;omega)
  simp only[List.take_zero,List.nil_append,Nat.zero_add] at this
  simp[II,this]
 | c::cs,p+1,v::vs,h=>by
  have:=JX cs p (v::vs) (by simp at h ⊢;omega)
  simp only[II,List.take_succ_cons,List.cons_append]
  rw[←this]
  simp only[List.length_cons,List.cons_append]
  rw[show p+1+(vs.length+1)=(p+(vs.length+1))+1 from by omega,List.drop_succ_cons]
structure OtR where
 G:List Pt
 hs:List Nat
 ok:Bool
 a:List (Nat×Nat)
def Xz (P:Program) (G:List Pt) (L:List (Nat×Value)) (hs:List Nat):Op→Option OtR
 | .store t x y=>match hs with
  | j::hs=>(match ev L x with
   | some (.pointer (some ⟨b,p,none⟩))=>(match ev L y with
    | some v=>(match G[j]? with
     | some (.b b' cs ty)=>Gf (II cs p (Hy v)) fun cs'=>Gf (G.set j (.b b' cs' ty)) fun G=>some ⟨G,hs,(Qg ((P.info? t).map (·.size)) (Hy v).length && Nat.ble (p+(Hy v).length) cs.length) && (Hy v).all (·.oneCell'),[(b,b')]⟩
     | _=>none)
    | none=>none)
   | _=>none)
  | []=>none
 | _=>none
structure Mo (wr:Bool) (S:List Pt→World→Prop):Prop where
 ld:∀ {G:List Pt} {w:World} {j b:Nat} {cs:List Value} {ty:TypeId},S G w→G[j]? =some (.b b cs ty)→Blk b cs ty w
 st:wr=true→∀ {G:List Pt} {w w':World} {j b:Nat} {cs cs':List Value} {ty:TypeId},S G w→G[j]? =some (.b b cs ty)→w'.os=w.os→w'.tape=w.tape→w'.output=w.output→Blk b cs' ty w'→(∀ k:Nat,k≠b→w'.heap[k]? =w.heap[k]?)→S (G.set j (.b b cs' ty)) w'
section
variable {P:Program} {G:List Pt} {L:List (Nat×Value)} {n:Nat} {ds:List Deferred} {o:Oper} {hs:List Nat} {zs:List Int} {S:List Pt→World→Prop} {wr:Bool}
theorem XA (hS:Mo true S) {q:OtR} (h:Xz P G L hs o.op=some q) (hb:q.ok=true) (ha:BJ q.a) {w:World} (hw:S G w):Du P n ds L o w (fun w'=>S q.G w'):=by
 unfold Xz at h
 split at h
 ·rename_i t x y ho
  split at h
  ·split at h
   ·rename_i b p hx
    split at h
    ·rename_i v hy
     split at h
     ·rename_i b' cs ty hG
      rw[Er,Er] at h
      cases h
      have e:b=b':=ha.1
      subst e
      simp only[Bool.and_eq_true] at hb
      obtain ⟨⟨h1,h2⟩,h3⟩:=hb
      have h2:p+(Hy v).length≤cs.length:=Nat.le_of_ble_eq_true h2
      intro a hF
      obtain ⟨w',hr,hB,hx',_⟩:=NR (w:=w) ho hx hy (N3 v) (by simpa using h3) (Je h1) (hS.ld hw hG) h2 (JX cs p _ h2) a hF
      refine ⟨w',hr,hS.st rfl hw hG hx'.os hx'.tape hx'.output hB (fun k hk=> ?_)⟩
      rcases Nat.lt_or_ge k w.heap.size with q|q
      ·exact hx'.block k q hk
      ·rw[Array.getElem?_eq_none q,Array.getElem?_eq_none (by omega)]
     ·cases h
    ·cases h
   ·cases h
  ·cases h
 ·cases h
/-! ### One step,and many -/
structure OsR where
 L:List (Nat×Value)
 G:List Pt
 hs:List Nat
 zs:List Int
 ok:Bool
 a:List (Nat×Nat)
 ob:Option Prop
def ostep (P:Program) (wr:Bool) (n:Nat) (ops:List Oper) (o:Oper) (hs:List Nat) (zs:List Int) (L:List (Nat×Value)) (G:List Pt):Option OsR:=match o.dst with
 | some d=>(match BC ops L o.guard with
  | true=>(match R0 P G L hs zs o.op with
   | some ⟨v,hs,zs,ok,a,ob⟩=>some ⟨(d,v)::L,G,hs,zs,Nat.blt d n && ok,a,ob⟩
   | none=>none)
  | false=>(match El ops L o.guard with
   | true=>some ⟨(d,undef)::L,G,hs,zs,Nat.blt d n,[],none⟩
   | false=>none))
 | none=>(match BC ops L o.guard with
  | true=>(match wr with
   | true=>(match Xz P G L hs o.op with
    | some ⟨G,hs,ok,a⟩=>some ⟨L,G,hs,zs,ok,a,none⟩
    | none=>none)
   | false=>none)
  | false=>(match El ops L o.guard with
   | true=>some ⟨L,G,hs,zs,true,[],none⟩
   | false=>none))
theorem R5 (hS:Mo wr S) {Q:Exit→Act→World→Prop} {ops os:List Oper} {q:OsR} (h:ostep P wr n ops o hs zs L G=some q) (hb:q.ok=true) (ha:BJ q.a) (hq:E0 q.ob) (K:∀ w,S q.G w→∀ x,Fr n ds q.L x→wpList P ops.toArray Q os x w):∀ w,S G w→∀ x,Fr n ds L x→wpList P ops.toArray Q (o::os) x w:=by
 intro w hw
 unfold ostep at h
 split at h
 ·rename_i d hd
  split at h
  ·rename_i hg
   split at h
   ·rename_i hv
    cases h
    simp only[Bool.and_eq_true] at hb
    exact s_do hg hd hb.1 (oval_ok (fun w' e' _ _ _ _ e=>by subst e';exact hS.ld hw e) hv hb.2 ha hq) (K w hw)
   ·cases h
  ·split at h
   ·rename_i hk;cases h;exact PP hk hd hb (K w hw)
   ·cases h
 ·rename_i hd
  split at h
  ·rename_i hg
   split at h
   ·split at h
    ·rename_i hv
     cases h
     exact Fd hg hd (XA hS hv hb ha hw) K
    ·cases h
   ·cases h
  ·split at h
   ·rename_i hk;cases h;exact UL hk hd (K w hw)
   ·cases h
def Ur:Pos→Option (List Oper×Oper×List Oper×Kd)
 | .o ops (o::os) k=>some (ops,o,os,k)
 | _=>none
theorem Qh {p:Pos} {ops os:List Oper} {o:Oper} {k:Kd} (h:Ur p=some (ops,o,os,k)):p= .o ops (o::os) k:=by
 unfold Ur at h;split at h<;>cases h;rfl
structure GsR where
 L:List (Nat×Value)
 G:List Pt
 p:Pos
 ok:Bool
 a:List (Nat×Nat)
 ob:Option Prop
def go (P:Program) (wr:Bool) (n:Nat):Nat→List Nat→List Int→List (Nat×Value)→List Pt→Pos→Bool→List (Nat×Nat)→Option Prop→Option GsR
 | 0,_,_,L,G,p,ok,a,ob=>some ⟨L,G,p,ok,a,ob⟩
 | k+1,hs,zs,L,G,p,ok,a,ob=>match Ur p with
  | some (ops,o,os,kk)=>(match ostep P wr n ops o hs zs L G with
   | some ⟨L,G,hs,zs,ok',a',ob'⟩=>go P wr n k hs zs L G (.o ops os kk) (ok' && ok) (a'++a) (cj ob' ob)
   | none=>none)
  | none=>(match O5 L p with
   | some p=>go P wr n k hs zs L G p ok a ob
   | none=>none)
theorem U3:∀ {k:Nat} {hs:List Nat} {zs:List Int} {L:List (Nat×Value)} {G:List Pt} {p:Pos} {ok:Bool} {a:List (Nat×Nat)} {ob:Option Prop} {q:GsR},go P wr n k hs zs L G p ok a ob=some q→q.ok=true→BJ q.a→E0 q.ob→ok=true∧BJ a∧E0 ob:=by
 intro k
 induction k with
 | zero=>intro hs zs L G p ok a ob q h hb ha hq;simp only[go,Option.some.injEq] at h;subst h;exact ⟨hb,ha,hq⟩
 | succ k ih=>
  intro hs zs L G p ok a ob q h hb ha hq
  simp only[go] at h
  split at h
  ·split at h
   ·obtain ⟨h1,h2,h3⟩:=ih h hb ha hq
    simp only[Bool.and_eq_true] at h1
    exact ⟨h1.2,(BW h2).2,(GY h3).2⟩
   ·cases h
  ·split at h
   ·exact ih h hb ha hq
   ·cases h
theorem GZ {N R:Act→World→Prop} {X:Nat→Act→World→Prop} (hS:Mo wr S):∀ (k:Nat) {hs:List Nat} {zs:List Int} {L:List (Nat×Value)} {G:List Pt} {p:Pos} {ok:Bool} {a:List (Nat×Nat)} {ob:Option Prop} {q:GsR},go P wr n k hs zs L G p ok a ob=some q→q.ok=true→BJ q.a→E0 q.ob→(∀ w,S q.G w→∀ x,Fr n ds q.L x→BA P N X R q.p x w)→∀ w,S G w→∀ x,Fr n ds L x→BA P N X R p x w:=by
 intro k
 induction k with
 | zero=>intro hs zs L G p ok a ob q h hb ha hq K;simp only[go,Option.some.injEq] at h;subst h;exact K
 | succ k ih=>
  intro hs zs L G p ok a ob q h hb ha hq K
  simp only[go] at h
  split at h
  ·rename_i ht
   obtain rfl:=Qh ht
   split at h
   ·rename_i hv
    obtain ⟨h1,h2,h3⟩:=U3 h hb ha hq
    simp only[Bool.and_eq_true] at h1
    exact R5 hS hv h1.1 (BW h2).1 (GY h3).1 (ih h hb ha hq K)
   ·cases h
  ·split at h
   ·rename_i hp
    intro w hw
    exact pstep_ok hp (ih h hb ha hq K w hw)
   ·cases h
end
/-! ### in regions that draw their order -/
section
variable {P:Program} {G:List Pt} {L:List (Nat×Value)} {n:Nat} {ds:List Deferred} {o:Oper} {hs:List Nat} {zs:List Int}
theorem JY {C:World→Prop} {ops:List Oper} {q:OsR} (hM:∀ w,C w→∀ (j b:Nat) (cs:List Value) (ty:TypeId),G[j]? =some (Pt.b b cs ty)→Blk b cs ty w) {d:Nat} (hd:o.dst=some d) (h:ostep P false n ops o hs zs L G=some q) (hb:q.ok=true) (ha:BJ q.a) (hq:E0 q.ob):
  ∃ v,q.L=(d,v)::L∧Nat.blt d n=true∧((BC ops L o.guard=true∧Ao P C n ds L o v)∨(El ops L o.guard=true∧v=undef)):=by
 unfold ostep at h
 split at h
 ·rename_i d' hd'
  rw[hd] at hd';cases hd'
  split at h
  ·rename_i hg
   split at h
   ·rename_i hv
    cases h
    simp only[Bool.and_eq_true] at hb
    exact ⟨_,rfl,hb.1,.inl ⟨hg,oval_ok hM hv hb.2 ha hq⟩⟩
   ·cases h
  ·split at h
   ·rename_i hk;cases h;exact ⟨_,rfl,hb,.inr ⟨hk,rfl⟩⟩
   ·cases h
 ·rename_i hd';rw[hd] at hd';cases hd'
structure QrR where
 L:List (Nat×Value)
 os:List Oper
 ok:Bool
 a:List (Nat×Nat)
 ob:Option Prop
def DM (P:Program) (G:List Pt) (ops:List Oper) (n:Nat):Nat→List Nat→List Int→List (Nat×Value)→List Oper→Bool→List (Nat×Nat)→Option Prop→Option QrR
 | 0,_,_,L,os,ok,a,ob=>some ⟨L,os,ok,a,ob⟩
 | _+1,_,_,_,[],_,_,_=>none
 | k+1,hs,zs,L,o::os,ok,a,ob=>match o.dst with
  | some _=>(match ostep P false n ops o hs zs L G with
   | some ⟨L,_,hs,zs,ok',a',ob'⟩=>DM P G ops n k hs zs L os (ok' && ok) (a'++a) (cj ob' ob)
   | none=>none)
  | none=>none
theorem KE {ops:List Oper} :∀ {k:Nat} {hs:List Nat} {zs:List Int} {L:List (Nat×Value)} {os:List Oper} {ok:Bool} {a:List (Nat×Nat)} {ob:Option Prop} {q:QrR},DM P G ops n k hs zs L os ok a ob=some q→q.ok=true→BJ q.a→E0 q.ob→ok=true∧BJ a∧E0 ob:=by
 intro k
 induction k with
 | zero=>intro hs zs L os ok a ob q h hb ha hq;simp only[DM,Option.some.injEq] at h;subst h;exact ⟨hb,ha,hq⟩
 | succ k ih=>
  intro hs zs L os ok a ob q h hb ha hq
  cases os with
  | nil=>simp[DM] at h
  | cons o os=>
   simp only[DM] at h
   split at h
   ·split at h
    ·obtain ⟨h1,h2,h3⟩:=ih h hb ha hq
     simp only[Bool.and_eq_true] at h1
     exact ⟨h1.2,(BW h2).2,(GY h3).2⟩
    ·cases h
   ·cases h
theorem Us {ops:List Oper} {C:World→Prop} {Q:Act→Prop} (hM:∀ w,C w→∀ (j b:Nat) (cs:List Value) (ty:TypeId),G[j]? =some (Pt.b b cs ty)→Blk b cs ty w):∀ (k:Nat) {hs:List Nat} {zs:List Int} {L:List (Nat×Value)} {os:List Oper} {ok:Bool} {a:List (Nat×Nat)} {ob:Option Prop} {q:QrR},DM P G ops n k hs zs L os ok a ob=some q→q.ok=true→BJ q.a→E0 q.ob→(∀ x,Fr n ds q.L x→wpQuiet P ops.toArray C Q q.os x)→∀ x,Fr n ds L x→wpQuiet P ops.toArray C Q os x:=by
 intro k
 induction k with
 | zero=>intro hs zs L os ok a ob q h hb ha hq K;simp only[DM,Option.some.injEq] at h;subst h;exact K
 | succ k ih=>
  intro hs zs L os ok a ob q h hb ha hq K
  cases os with
  | nil=>simp[DM] at h
  | cons o os=>
   simp only[DM] at h
   split at h
   ·rename_i d hd
    split at h
    ·rename_i hv
     obtain ⟨h1,h2,h3⟩:=KE h hb ha hq
     simp only[Bool.and_eq_true] at h1
     obtain ⟨v,e,hlt,hx⟩:=JY (ds:=ds) hM hd hv h1.1 (BW h2).1 (GY h3).1
     dsimp only at e;subst e
     have K':=ih h hb ha hq K
     rcases hx with ⟨hw,hdo⟩|⟨hk,rfl⟩
     ·exact A6 hw hd hlt hdo K'
     ·exact PS hk hd hlt K'
    ·cases h
   ·cases h
theorem Ut {ops:List Oper} {w:World} {Q:Act→Prop} (hM:∀ (j b:Nat) (cs:List Value) (ty:TypeId),G[j]? =some (Pt.b b cs ty)→Blk b cs ty w):∀ (k:Nat) {hs:List Nat} {zs:List Int} {L:List (Nat×Value)} {os:List Oper} {ok:Bool} {a:List (Nat×Nat)} {ob:Option Prop} {q:QrR},DM P G ops n k hs zs L os ok a ob=some q→q.ok=true→BJ q.a→E0 q.ob→(∀ x,Fr n ds q.L x→wpStill P ops.toArray w Q q.os x)→∀ x,Fr n ds L x→wpStill P ops.toArray w Q os x:=by
 intro k
 induction k with
 | zero=>intro hs zs L os ok a ob q h hb ha hq K;simp only[DM,Option.some.injEq] at h;subst h;exact K
 | succ k ih=>
  intro hs zs L os ok a ob q h hb ha hq K
  cases os with
  | nil=>simp[DM] at h
  | cons o os=>
   simp only[DM] at h
   split at h
   ·rename_i d hd
    split at h
    ·rename_i hv
     obtain ⟨h1,h2,h3⟩:=KE h hb ha hq
     simp only[Bool.and_eq_true] at h1
     obtain ⟨v,e,hlt,hx⟩:=JY (C:=(· =w)) (ds:=ds) (fun w' e=>by subst e;exact hM) hd hv h1.1 (BW h2).1 (GY h3).1
     dsimp only at e;subst e
     have K':=ih h hb ha hq K
     rcases hx with ⟨hw,hdo⟩|⟨hk,rfl⟩
     ·exact Cd hw hd hlt hdo K'
     ·exact PW hk hd hlt K'
    ·cases h
   ·cases h
structure ArR where
 L:List (Nat×Value)
 li:Array Bool
 ok:Bool
 a:List (Nat×Nat)
 ob:Option Prop
def arun (P:Program) (G:List Pt) (ops:List Oper) (n:Nat) (g:Nat→Bool):List Nat→List Nat→List Int→List (Nat×Value)→Array Bool→Bool→List (Nat×Nat)→Option Prop→Option ArR
 | [],_,_,L,li,ok,a,ob=>some ⟨L,li,ok,a,ob⟩
 | i::is,hs,zs,L,li,ok,a,ob=>match ops[i]? with
  | some o=>(match o.dst with
   | some _=>(match ostep P false n ops o hs zs L G with
    | some ⟨L,_,hs,zs,ok',a',ob'⟩=>arun P G ops n g is hs zs L (li.setIfInBounds i true) ((ok' && (g i && (Region.noSelect ops.toArray && (Region.free .any ops.toArray li i && (Region.ready .any ops.toArray li).contains i)))) && ok) (a'++a) (cj ob' ob)
    | none=>none)
   | none=>none)
  | none=>none
theorem Qi {ops:List Oper} {g:Nat→Bool} :∀ {is hs:List Nat} {zs:List Int} {L:List (Nat×Value)} {li:Array Bool} {ok:Bool} {a:List (Nat×Nat)} {ob:Option Prop} {q:ArR},arun P G ops n g is hs zs L li ok a ob=some q→q.ok=true→BJ q.a→E0 q.ob→ok=true∧BJ a∧E0 ob:=by
 intro is
 induction is with
 | nil=>intro hs zs L li ok a ob q h hb ha hq;simp only[arun,Option.some.injEq] at h;subst h;exact ⟨hb,ha,hq⟩
 | cons i is ih=>
  intro hs zs L li ok a ob q h hb ha hq
  simp only[arun] at h
  split at h
  ·split at h
   ·split at h
    ·obtain ⟨h1,h2,h3⟩:=ih h hb ha hq
     simp only[Bool.and_eq_true] at h1
     exact ⟨h1.2,(BW h2).2,(GY h3).2⟩
    ·cases h
   ·cases h
  ·cases h
theorem Uu {ops:List Oper} {N R:Act→World→Prop} {X:Nat→Act→World→Prop} {S:World→Prop} {w:World} (hM:∀ w,S w→∀ (j b:Nat) (cs:List Value) (ty:TypeId),G[j]? =some (Pt.b b cs ty)→Blk b cs ty w) (hS:S w):∀ (is:List Nat) {hs:List Nat} {zs:List Int} {L:List (Nat×Value)} {li:Array Bool} {ok:Bool} {a:List (Nat×Nat)} {ob:Option Prop} {q:ArR} {fuel:Nat},arun P G ops n (fun _=>true) is hs zs L li ok a ob=some q→q.ok=true→BJ q.a→E0 q.ob→
  (∀ x,Fr n ds q.L x→wpAnyH P .any ops.toArray (Qp N X R) S fuel q.li x w)→∀ x,Fr n ds L x→wpAnyH P .any ops.toArray (Qp N X R) S (fuel+is.length) li x w:=by
 intro is
 induction is with
 | nil=>intro hs zs L li ok a ob q fuel h hb ha hq K;simp only[arun,Option.some.injEq] at h;subst h;exact K
 | cons i is ih=>
  intro hs zs L li ok a ob q fuel h hb ha hq K
  simp only[arun] at h
  split at h
  ·rename_i o ho
   split at h
   ·rename_i d hd
    split at h
    ·rename_i hv
     obtain ⟨h1,h2,h3⟩:=Qi h hb ha hq
     simp only[Bool.and_eq_true] at h1
     obtain ⟨v,e,hlt,hx⟩:=JY (ds:=ds) hM hd hv h1.1.1 (BW h2).1 (GY h3).1
     dsimp only at e;subst e
     have K':=ih h hb ha hq K
     rcases hx with ⟨hw,hdo⟩|⟨hk,rfl⟩
     ·exact B4 (fuel:=fuel+is.length) i ho h1.1.2.2.1 h1.1.2.2.2.1 h1.1.2.2.2.2 hw hd hlt hdo hS K'
     ·exact PX (fuel:=fuel+is.length) i ho h1.1.2.2.1 h1.1.2.2.2.1 h1.1.2.2.2.2 hk hd hlt hS K'
    ·cases h
   ·cases h
  ·cases h
section
variable {ops:List Oper} {L':List (Nat×Value)} {ok':Bool} {a':List (Nat×Nat)} {ob:Prop} {z w:World} {Γ F:List Ae}
theorem C4 (h:(ok',a'.map Prod.fst)=(true,a'.map Prod.snd)):ok'=true∧BJ a':=⟨congrArg Prod.fst h,CR (congrArg Prod.snd h)⟩
theorem Iy {Q:Act→Prop} (k:Nat) (hs:List Nat) (zs:List Int) [e:Rf Γ G F] {os os':List Oper} (h:DM P G ops n k hs zs L os true [] none=some ⟨L',os',ok',a',none⟩) (hb:(ok',a'.map Prod.fst)=(true,a'.map Prod.snd)) (K:∀ x,Fr n ds L' x→wpQuiet P ops.toArray (Sep z Γ) Q os' x):∀ x,Fr n ds L x→wpQuiet P ops.toArray (Sep z Γ) Q os x:=
 Us (fun _ H _ _ _ _ q=>(show Sep z (Dh G F) _ from e.e▸H).blk _ (CI q)) k h (C4 hb).1 (C4 hb).2 trivial K
theorem Qj {Q:Act→Prop} (k:Nat) (hs:List Nat) (zs:List Int) (H:Sep z Γ w) [e:Rf Γ G F] {os os':List Oper} (h:DM P G ops n k hs zs L os true [] none=some ⟨L',os',ok',a',none⟩) (hb:(ok',a'.map Prod.fst)=(true,a'.map Prod.snd)) (K:∀ x,Fr n ds L' x→wpStill P ops.toArray w Q os' x):∀ x,Fr n ds L x→wpStill P ops.toArray w Q os x:=
 Ut (fun _ _ _ _ q=>(show Sep z (Dh G F) _ from e.e▸H).blk _ (CI q)) k h (C4 hb).1 (C4 hb).2 trivial K
theorem AM {N R:Act→World→Prop} {X:Nat→Act→World→Prop} (is hs:List Nat) (zs:List Int) (H:Sep z Γ w) [e:Rf Γ G F] {li li':Array Bool} {fuel f2:Nat} (h:arun P G ops n (fun _=>true) is hs zs L li true [] none=some ⟨L',li',ok',a',none⟩) (hb:(ok',a'.map Prod.fst)=(true,a'.map Prod.snd)) (hf:fuel+is.length=f2) (K:∀ x,Fr n ds L' x→wpAnyH P .any ops.toArray (Qp N X R) (Sep z Γ) fuel li' x w):∀ x,Fr n ds L x→wpAnyH P .any ops.toArray (Qp N X R) (Sep z Γ) f2 li x w:=
 hf▸Uu (S:=Sep z Γ) (fun _ H _ _ _ _ q=>(show Sep z (Dh G F) _ from e.e▸H).blk _ (CI q)) H is h (C4 hb).1 (C4 hb).2 trivial K
theorem Hl {Q:Act→Prop} (k:Nat) (hs:List Nat) (zs:List Int) [e:Rf Γ G F] {os os':List Oper} (h:DM P G ops n k hs zs L os true [] none=some ⟨L',os',ok',a',some ob⟩) (hb:(ok',a'.map Prod.fst)=(true,a'.map Prod.snd)) (hq:ob) (K:∀ x,Fr n ds L' x→wpQuiet P ops.toArray (Sep z Γ) Q os' x):∀ x,Fr n ds L x→wpQuiet P ops.toArray (Sep z Γ) Q os x:=
 Us (fun _ H _ _ _ _ q=>(show Sep z (Dh G F) _ from e.e▸H).blk _ (CI q)) k h (C4 hb).1 (C4 hb).2 hq K
theorem Eg {Q:Act→Prop} (k:Nat) (hs:List Nat) (zs:List Int) (H:Sep z Γ w) [e:Rf Γ G F] {os os':List Oper} (h:DM P G ops n k hs zs L os true [] none=some ⟨L',os',ok',a',some ob⟩) (hb:(ok',a'.map Prod.fst)=(true,a'.map Prod.snd)) (hq:ob) (K:∀ x,Fr n ds L' x→wpStill P ops.toArray w Q os' x):∀ x,Fr n ds L x→wpStill P ops.toArray w Q os x:=
 Ut (fun _ _ _ _ q=>(show Sep z (Dh G F) _ from e.e▸H).blk _ (CI q)) k h (C4 hb).1 (C4 hb).2 hq K
theorem Iz {N R:Act→World→Prop} {X:Nat→Act→World→Prop} (is hs:List Nat) (zs:List Int) (H:Sep z Γ w) [e:Rf Γ G F] {li li':Array Bool} {fuel f2:Nat} (h:arun P G ops n (fun _=>true) is hs zs L li true [] none=some ⟨L',li',ok',a',some ob⟩) (hb:(ok',a'.map Prod.fst)=(true,a'.map Prod.snd)) (hq:ob) (hf:fuel+is.length=f2) (K:∀ x,Fr n ds L' x→wpAnyH P .any ops.toArray (Qp N X R) (Sep z Γ) fuel li' x w):∀ x,Fr n ds L x→wpAnyH P .any ops.toArray (Qp N X R) (Sep z Γ) f2 li x w:=
 hf▸Uu (S:=Sep z Γ) (fun _ H _ _ _ _ q=>(show Sep z (Dh G F) _ from e.e▸H).blk _ (CI q)) H is h (C4 hb).1 (C4 hb).2 hq K
end
end
/-! ### as they are used -/
structure FiR where
 L:List (Nat×Value)
 G:List Pt
 p:Pos
 a:List Nat
 b:List Nat
 ob:Option Prop
def fin:Option GsR→Option FiR
 | some ⟨L,G,p,true,a,ob⟩=>some ⟨L,G,p,a.map Prod.fst,a.map Prod.snd,ob⟩
 | _=>none
def Ls {β:Type} :List Pt→List Ae→(List Ae→β)→β
 | [],R,k=>k R
 | .b b cs ty::G,R,k=>Ls G R fun Γ=>k (blk b cs ty::Γ)
 | .a A::G,R,k=>Ls G R fun Γ=>k (A::Γ)
theorem R6 {β:Type} {R:List Ae} (G:List Pt):∀ (k:List Ae→β),Ls G R k=k (Dh G R):=by
 induction G with
 | nil=>intro k;rfl
 | cons x G ih=>intro k;cases x<;>exact ih _
structure FwR where
 L:List (Nat×Value)
 Γ:List Ae
 p:Pos
 a:List Nat
 b:List Nat
 ob:Option Prop
def Qk (F:List Ae):Option GsR→Option FwR
 | some ⟨L,G,p,true,a,ob⟩=>Ls G F fun Γ=>some ⟨L,Γ,p,a.map Prod.fst,a.map Prod.snd,ob⟩
 | _=>none
theorem LZ {F Γ:List Ae} {q:Option GsR} {L:List (Nat×Value)} {p:Pos} {al:List Nat} {ob:Option Prop} (h:Qk F q=some ⟨L,Γ,p,al,al,ob⟩):∃ a G,q=some ⟨L,G,p,true,a,ob⟩∧BJ a∧Dh G F=Γ:=by
 unfold Qk at h
 split at h
 ·rename_i a _
  rw[R6] at h
  simp only[Option.some.injEq,FwR.mk.injEq] at h
  obtain ⟨rfl,h0,rfl,h1,h2,rfl⟩:=h
  exact ⟨_,_,rfl,CR (h1.trans h2.symm),h0⟩
 ·cases h
theorem Jf {q:Option GsR} {L:List (Nat×Value)} {G:List Pt} {p:Pos} {al:List Nat} {ob:Option Prop} (h:fin q=some ⟨L,G,p,al,al,ob⟩):∃ a,q=some ⟨L,G,p,true,a,ob⟩∧BJ a:=by
 unfold fin at h
 split at h
 ·rename_i a _
  simp only[Option.some.injEq,FiR.mk.injEq] at h
  obtain ⟨rfl,rfl,rfl,h1,h2,rfl⟩:=h
  exact ⟨_,rfl,CR (h1.trans h2.symm)⟩
 ·cases h
section
variable {P:Program} {N R:Act→World→Prop} {X:Nat→Act→World→Prop} {n:Nat} {ds:List Deferred} {L L':List (Nat×Value)} {w z:World} {p p':Pos} {al:List Nat} {G G':List Pt} {Γ F:List Ae}
theorem XB (w:World):Mo false (fun G w'=>G=[]∧w'=w):=⟨fun h e=>by rw[h.1] at e;simp at e,fun h=>by cases h⟩
theorem XC (z:World) (F:List Ae) (w:World):Mo false (fun G w'=>Sep z (Dh G F) w'∧w'=w):=⟨fun H e=>H.1.blk _ (CI e),fun h=>by cases h⟩
theorem R7 (z:World) (F:List Ae):Mo true (fun G w=>Sep z (Dh G F) w):=⟨fun H e=>H.blk _ (CI e),fun _ {G w w' j b cs cs' ty} H e h1 h2 h3 hB hk=>by
 have:=H.write j (CI e) h1 h2 h3 hB hk
 have hj:j<G.length:=(List.getElem?_eq_some_iff.1 e).1
 exact (IH (R:=F) (b:=b) (cs:=cs') (ty:=ty) hj)▸this⟩
theorem Z0 (k:Nat) (hs:List Nat) (h:fin (go P false n k hs [] L [] p true [] none)=some ⟨L',[],p',[],[],none⟩) (K:∀ x,Fr n ds L' x→BA P N X R p' x w):∀ x,Fr n ds L x→BA P N X R p x w:=by
 obtain ⟨a,h,ha⟩:=Jf h
 exact GZ (XB w) k h rfl ha trivial (fun _ hw=>hw.2▸K) w ⟨rfl,rfl⟩
theorem Zc (k:Nat) (h:fin (go P false n k [] [] L [] p true [] none)=some ⟨L',[],p',[],[],none⟩) (K:∀ x,Fr n ds L' x→BA P N X R p' x w):∀ x,Fr n ds L x→BA P N X R p x w:=Z0 k [] h K
theorem Z1 (k:Nat) (hs:List Nat) (zs:List Int) {ob:Prop} (h:fin (go P false n k hs zs L [] p true [] none)=some ⟨L',[],p',[],[],some ob⟩) (hq:ob) (K:∀ x,Fr n ds L' x→BA P N X R p' x w):∀ x,Fr n ds L x→BA P N X R p x w:=by
 obtain ⟨a,h,ha⟩:=Jf h
 exact GZ (XB w) k h rfl ha hq (fun _ hw=>hw.2▸K) w ⟨rfl,rfl⟩
theorem Z2 (k:Nat) (hs:List Nat) (H:Sep z Γ w) [e:Rf Γ G F] (h:fin (go P false n k hs [] L G p true [] none)=some ⟨L',G',p',al,al,none⟩) (K:∀ x,Fr n ds L' x→BA P N X R p' x w):∀ x,Fr n ds L x→BA P N X R p x w:=by
 obtain ⟨a,h,ha⟩:=Jf h
 exact GZ (XC z F w) k h rfl ha trivial (fun _ hw=>hw.2▸K) w ⟨e.e▸H,rfl⟩
theorem Z3 (k:Nat) (hs:List Nat) (zs:List Int) (H:Sep z Γ w) [e:Rf Γ G F] {ob:Prop} (h:fin (go P false n k hs zs L G p true [] none)=some ⟨L',G',p',al,al,some ob⟩) (hq:ob) (K:∀ x,Fr n ds L' x→BA P N X R p' x w):∀ x,Fr n ds L x→BA P N X R p x w:=by
 obtain ⟨a,h,ha⟩:=Jf h
 exact GZ (XC z F w) k h rfl ha hq (fun _ hw=>hw.2▸K) w ⟨e.e▸H,rfl⟩
theorem Z4 (k:Nat) (hs:List Nat) (H:Sep z Γ w) [e:Rf Γ G F] {Γ':List Ae} (h:Qk F (go P true n k hs [] L G p true [] none)=some ⟨L',Γ',p',al,al,none⟩) (K:∀ w,Sep z Γ' w→∀ x,Fr n ds L' x→BA P N X R p' x w):∀ x,Fr n ds L x→BA P N X R p x w:=by
 obtain ⟨a,G',h3,ha,rfl⟩:=LZ h
 exact GZ (R7 z F) k h3 rfl ha trivial K w (e.e▸H)
theorem Z5 (k:Nat) (hs:List Nat) (zs:List Int) (H:Sep z Γ w) [e:Rf Γ G F] {Γ':List Ae} {ob:Prop} (h:Qk F (go P true n k hs zs L G p true [] none)=some ⟨L',Γ',p',al,al,some ob⟩) (hq:ob) (K:∀ w,Sep z Γ' w→∀ x,Fr n ds L' x→BA P N X R p' x w):∀ x,Fr n ds L x→BA P N X R p x w:=by
 obtain ⟨a,G',h3,ha,rfl⟩:=LZ h
 exact GZ (R7 z F) k h3 rfl ha hq K w (e.e▸H)
end
/-! ### other steps,told by where the walk is -/
section
variable {P:Program} {N R:Act→World→Prop} {X:Nat→Act→World→Prop} {n d:Nat} {ds:List Deferred} {L:List (Nat×Value)} {w z:World} {k:Kd} {ops rest:List Oper} {o:Oper} {v:Value}
theorem Ad {f:FuncId} {fn:Func} {c:Code} {args:List Value} {R:Value→World→Prop} (hf:P.funcs[f]? =some fn) (hb:fn.body=some c) (hn:fn.ntmps=n) (hlen:Nat.ble args.length n=true)
  (h:∀ a,Fr n [] (first 0 args) a→BA P (Fs P fn R) Hj (Fs P fn R) (.c c .fin) a w):Calls P f args.toArray w (Ret R):=enter hf hb n hn hlen h
theorem gf (K:∀ x,Fr n ds L x→N x w):∀ x,Fr n ds L x→BA P N X R (.n .fin) x w:=K
theorem gx {N' R':Act→World→Prop} {i:Nat} (K:∀ x,Fr n ds L x→BA P N X R (.x i k) x w):∀ x,Fr n ds L x→BA P N' (kQ P N X R k).2 R' (.x i .fin) x w:=K
theorem gn (K:∀ x,Fr n ds L x→BA P N X R (.n k) x w):∀ x,Fr n ds L x→(kQ P N X R k).1 x w:=K
theorem gw (K:∀ x,Fr n ds L x→BA P N X R (.o ops rest k) x w):∀ x,Fr n ds L x→wpList P ops.toArray (Qp (kQ P N X R k).1 (kQ P N X R k).2 R) rest x w:=K
theorem EQ {c:Operand} {x y:Code} {b:Bool} (hc:ev L c=some (.bool b)) (ht:b=true→∀ a,Fr n ds L a→BA P N X R (.c x k) a w) (hf:b=false→∀ a,Fr n ds L a→BA P N X R (.c y k) a w):∀ a,Fr n ds L a→BA P N X R (.c (.cond c x y) k) a w:=PM hc ht hf
theorem Af {c:Operand} {x y:Code} {p:Prop} [hp:Decidable p] (hc:ev L c=some (.bool (decide p))) (ht:p→∀ a,Fr n ds L a→BA P N X R (.c x k) a w) (hf:¬ p→∀ a,Fr n ds L a→BA P N X R (.c y k) a w):∀ a,Fr n ds L a→BA P N X R (.c (.cond c x y) k) a w:=FC hc ht hf
theorem Lt {x y:Code} (M:Act→World→Prop) (h:∀ a,Fr n ds L a→BA P M (kQ P N X R k).2 R (.c x .fin) a w) (h':∀ a w,M a w→BA P N X R (.c y k) a w):∀ a,Fr n ds L a→BA P N X R (.c (.seq x y) k) a w:=YR M h h'
theorem AJ {c:Code} {σ:Type} (Lv:σ→List (Nat×Value)) (G:σ→World→Prop) (m:σ→Nat) (s₀:σ)
  (h₀:∀ a,Fr n ds L a→Fr n ds (Lv s₀) a) (g₀:G s₀ w)
  (round:∀ s w,G s w→∀ a,Fr n ds (Lv s) a→BA P (fun a' w'=>∃ s',Fr n ds (Lv s') a'∧G s' w'∧m s'<m s) (kQ P N X R k).2 R (.c c .fin) a w):∀ a,Fr n ds L a→BA P N X R (.c (.loop c) k) a w:=PN Lv G m s₀ h₀ g₀ round
def IJ (ops:List Oper) (L:List (Nat×Value)) (n:Nat) (o:Oper):Option Nat:=match o.dst with
 | some d=>match BC ops L o.guard with
  | true=>bif Nat.blt d n then some d else none
  | false=>none
 | none=>none
theorem DX (h:IJ ops L n o=some d):BC ops L o.guard=true∧o.dst=some d∧Nat.blt d n=true:=by
 unfold IJ at h
 split at h
 ·rename_i d' hd
  split at h
  ·rename_i hw
   cases hb:Nat.blt d' n with
   | true=>rw[hb] at h;simp at h;subst h;exact ⟨hw,hd,hb⟩
   | false=>rw[hb] at h;cases h
  ·cases h
 ·cases h
theorem Ac (h:IJ ops L n o=some d) (hdo:Ao P (· =w) n ds L o v) (K:∀ a',Fr n ds ((d,v)::L) a'→BA P N X R (.o ops rest k) a' w):∀ a,Fr n ds L a→BA P N X R (.o ops (o::rest) k) a w:=s_do (DX h).1 (DX h).2.1 (DX h).2.2 hdo K
theorem AL {Rr:Value→World→Prop} (h:IJ ops L n o=some d) (hg:B8 P n ds L o w Rr) (K:∀ v w',Rr v w'→∀ a',Fr n ds ((d,v)::L) a'→BA P N X R (.o ops rest k) a' w'):∀ a,Fr n ds L a→BA P N X R (.o ops (o::rest) k) a w:=Eo (DX h).1 (DX h).2.1 (DX h).2.2 hg K
theorem Jg {Rr:Value→World→Prop} (hw:BC ops L o.guard=true) (hd:o.dst=none) (h:B8 P n ds L o w Rr) (K:∀ v w',Rr v w'→∀ a,Fr n ds L a→BA P N X R (.o ops rest k) a w'):∀ a,Fr n ds L a→BA P N X R (.o ops (o::rest) k) a w:=Un hw hd h K
theorem Az {Rr:World→Prop} (hw:BC ops L o.guard=true) (hd:o.dst=none) (h:Du P n ds L o w Rr) (K:∀ w',Rr w'→∀ a,Fr n ds L a→BA P N X R (.o ops rest k) a w'):∀ a,Fr n ds L a→BA P N X R (.o ops (o::rest) k) a w:=Fd hw hd h K
theorem Ak {p:Prop} [Decidable p] (t:Nat) (ht:Cp L t=some (.bool (decide p))) (hy:p→∀ a,Fr n ds ((t,.bool true)::L) a→BA P N X R (.o ops (o::rest) k) a w) (hn:¬ p→∀ a,Fr n ds ((t,.bool false)::L) a→BA P N X R (.o ops (o::rest) k) a w):∀ a,Fr n ds L a→BA P N X R (.o ops (o::rest) k) a w:=PQ t ht hy hn
theorem G0 {b:Bool} (t:Nat) (ht:Cp L t=some (.bool b)) (hy:b=true→∀ a,Fr n ds ((t,.bool true)::L) a→BA P N X R (.o ops (o::rest) k) a w) (hn:b=false→∀ a,Fr n ds ((t,.bool false)::L) a→BA P N X R (.o ops (o::rest) k) a w):∀ a,Fr n ds L a→BA P N X R (.o ops (o::rest) k) a w:=RH t ht hy hn
variable {Γ pre R':List Ae} {post:Value→List Ae→Prop} {f:FuncId} {vs:List Value}
def Lu (ops:List Oper) (L:List (Nat×Value)) (n:Nat) (o:Oper):Option (Nat×FuncId×List Value):=match IJ ops L n o with
 | some d=>match o.op with
  | .call ⟨.value (.func f),⟨xs⟩,_⟩=>match evs L xs with
   | some vs=>some (d,f,vs)
   | none=>none
  | _=>none
 | none=>none
theorem R8 (h:Lu ops L n o=some (d,f,vs)):IJ ops L n o=some d∧∃ xs tys,o.op= .call { callee:= .value (.func f),args:=(xs:List Operand).toArray,argTypes:=tys } ∧evs L xs=some vs:=by
 unfold Lu at h
 split at h
 ·rename_i d' hd
  split at h
  ·rename_i f' xs tys ho
   split at h
   ·rename_i vs' hv
    simp only[Option.some.injEq,Prod.mk.injEq] at h
    obtain ⟨rfl,rfl,rfl⟩:=h
    exact ⟨hd,xs,tys,ho,hv⟩
   ·cases h
  ·cases h
 ·cases h
theorem Aw (h:Lu ops L n o=some (d,f,vs)) (hr:∀ w,(callFunc f vs.toArray).run P w= .ok (.enter f vs.toArray) w) (hc:Cn P f vs pre post) (H:Sep z (pre++R') w)
  (K:∀ v w' Γ',post v Γ'→Sep z (Γ'++R') w'→∀ a',Fr n ds ((d,v)::L) a'→BA P N X R (.o ops rest k) a' w'):∀ a,Fr n ds L a→BA P N X R (.o ops (o::rest) k) a w:=by
 obtain ⟨h1,xs,tys,ho,hv⟩:=R8 h
 exact EZ (DX h1).1 (DX h1).2.1 (DX h1).2.2 ho hv hr hc H rfl K
theorem z_E_ {V:Value} {G:List Ae} (h:Lu ops L n o=some (d,f,vs)) (hr:∀ w,(callFunc f vs.toArray).run P w= .ok (.enter f vs.toArray) w) (hc:Cn P f vs pre (fun v Γ=>v=V∧Γ=G)) (H:Sep z (pre++R') w)
  (K:∀ w',Sep z (G++R') w'→∀ a',Fr n ds ((d,V)::L) a'→BA P N X R (.o ops rest k) a' w'):∀ a,Fr n ds L a→BA P N X R (.o ops (o::rest) k) a w:=
 Aw h hr hc H fun v w' Γ' e=>by obtain ⟨rfl,rfl⟩:=e;exact K w'
def JZ (L:List (Nat×Value)):List ResultVar→Option (List Value)
 | []=>some []
 | .tmp t::rs=>match Cp L t with
  | some v=>match JZ L rs with
   | some vs=>some (v::vs)
   | none=>none
  | none=>none
 | _::_=>none
theorem J0 {L:List (Nat×Value)} :∀ {rs:List ResultVar} {vs:List Value},JZ L rs=some vs→Ed P L w rs vs
 | [],vs,h=>by simp only[JZ,Option.some.injEq] at h;subst h;trivial
 | .tmp t::rs,vs,h=>by
  simp only[JZ] at h
  split at h
  ·rename_i v hv
   split at h
   ·rename_i us hu;cases h;exact ⟨hv,J0 hu⟩
   ·cases h
  ·cases h
 | .cell _ _::_,_,h=>by simp[JZ] at h
def O6 (L:List (Nat×Value)) (rs:List ResultVar):Option Value:=match JZ L rs with
 | some [v]=>some v
 | some vs=>some (.tuple vs.toArray)
 | none=>none
theorem N4 {rs:List ResultVar} (h:O6 L rs=some v):∃ vs,Ed P L w rs vs∧F8 vs=v:=by
 unfold O6 at h
 split at h
 ·rename_i u hu;cases h;exact ⟨_,J0 hu,rfl⟩
 ·rename_i vs hn hu;cases h;exact ⟨_,J0 hu,by cases vs with
   | nil=>rfl
   | cons x xs=>cases xs with
    | nil=>exact (hn x rfl).elim
    | cons y ys=>rfl⟩
 ·cases h
theorem Zr {fn:Func} {R:Value→World→Prop} (h:O6 L fn.results.toList=some v) (q:R v w):∀ a,Fr n [] L a→BA P N X (Fs P fn R) .r a w:=by
 obtain ⟨vs,h1,h2⟩:=N4 (P:=P) (w:=w) h
 exact F9 (by simp) vs h1 h2 q
theorem Zf {fn:Func} {R':Act→World→Prop} {R:Value→World→Prop} (h:O6 L fn.results.toList=some v) (q:R v w):∀ a,Fr n [] L a→BA P (Fs P fn R) X R' (.n .fin) a w:=by
 obtain ⟨vs,h1,h2⟩:=N4 (P:=P) (w:=w) h
 exact F9 (by simp) vs h1 h2 q
/-! results that lie in memory -/
structure RmR where
 vs:List Value
 ok:Bool
 a:List (Nat×Nat)
def G3 (P:Program) (L:List (Nat×Value)) (G:List Pt):List Nat→List ResultVar→Option RmR
 | _,[]=>some ⟨[],true,[]⟩
 | hs,.tmp t::rs=>match Cp L t with
  | some v=>match G3 P L G hs rs with
   | some ⟨vs,ok,a⟩=>some ⟨v::vs,ok,a⟩
   | none=>none
  | none=>none
 | j::m::hs,.cell t ty::rs=>match Cp L t with
  | some (.pointer (some ⟨b,p,none⟩))=>match G[j]? with
   | some (.b b' cs _)=>match G3 P L G hs rs with
    | some ⟨us,ok,a⟩=>Gf ((cs.drop p).take m) fun vs=>some ⟨.agg vs.toArray::us,Qg (GT P ty) vs.length && ok,(b,b')::a⟩
    | none=>none
   | _=>none
  | _=>none
 | _,_=>none
theorem J1 {G:List Pt} (hM:∀ (j b:Nat) (cs:List Value) (ty:TypeId),G[j]? =some (Pt.b b cs ty)→Blk b cs ty w):∀ {rs:List ResultVar} {hs:List Nat} {q:RmR},G3 P L G hs rs=some q→q.ok=true→BJ q.a→Ed P L w rs q.vs
 | [],hs,q,h,_,_=>by simp only[G3,Option.some.injEq] at h;subst h;trivial
 | .tmp t::rs,hs,q,h,hb,ha=>by
  simp only[G3] at h
  split at h
  ·rename_i v hv
   split at h
   ·rename_i hu;cases h;exact ⟨hv,J1 hM hu hb ha⟩
   ·cases h
  ·cases h
 | .cell t ty::rs,j::m::hs,q,h,hb,ha=>by
  simp only[G3] at h
  split at h
  ·rename_i b p hv
   split at h
   ·rename_i b' cs ty' hG
    split at h
    ·rename_i hu
     rw[Er] at h
     cases h
     simp only[Bool.and_eq_true] at hb
     have e:b=b':=ha.1
     subst e
     exact ⟨⟨b,p,hv,Ny (Je hb.1) (hM _ _ _ _ hG) (by rw[List.length_take,List.take_eq_take_iff];simp)⟩,J1 hM hu hb.2 ha.2⟩
    ·cases h
   ·cases h
  ·cases h
 | .cell t ty::rs,[],q,h,_,_=>by simp[G3] at h
 | .cell t ty::rs,[_],q,h,_,_=>by simp[G3] at h
structure RvR where
 v:Value
 a:List Nat
 b:List Nat
def R9:Option RmR→Option RvR
 | some ⟨[v],true,a⟩=>some ⟨v,a.map Prod.fst,a.map Prod.snd⟩
 | some ⟨vs,true,a⟩=>some ⟨.tuple vs.toArray,a.map Prod.fst,a.map Prod.snd⟩
 | _=>none
theorem U4 {q:Option RmR} {al:List Nat} (h:R9 q=some ⟨v,al,al⟩):∃ vs a,q=some ⟨vs,true,a⟩∧BJ a∧F8 vs=v:=by
 unfold R9 at h
 split at h
 ·simp only[Option.some.injEq,RvR.mk.injEq] at h
  obtain ⟨rfl,h1,h2⟩:=h
  exact ⟨_,_,rfl,CR (h1.trans h2.symm),rfl⟩
 ·rename_i vs a hn
  simp only[Option.some.injEq,RvR.mk.injEq] at h
  obtain ⟨rfl,h1,h2⟩:=h
  refine ⟨_,_,rfl,CR (h1.trans h2.symm),?_⟩
  cases vs with
  | nil=>rfl
  | cons x xs=>cases xs with
   | nil=>exact (hn x rfl).elim
   | cons y ys=>rfl
 ·cases h
theorem Zl (hs:List Nat) {G:List Pt} {F:List Ae} {al:List Nat} (H:Sep z Γ w) [e:Rf Γ G F] {fn:Func} {R:Value→World→Prop} (h:R9 (G3 P L G hs fn.results.toList)=some ⟨v,al,al⟩) (q:R v w):∀ a,Fr n [] L a→BA P N X (Fs P fn R) .r a w:=by
 obtain ⟨vs,a,h1,h2,h3⟩:=U4 h
 have H:Sep z (Dh G F) w:=e.e▸H
 exact F9 (by simp) vs (J1 (fun _ _ _ _ e=>H.blk _ (CI e)) h1 rfl h2) h3 q
structure AlR where
 L:List (Nat×Value)
 Γ:List Ae
 ops:List Oper
 os:List Oper
 k:Kd
 d:Nat
 zs:List Value
 e:TypeId
 ob:Option Prop
 a:List Nat
 b:List Nat
def XD (P:Program) (n:Nat):Option FwR→Option AlR
 | some ⟨L,G,p,a,b,ob⟩=>match Ur p with
  | some (ops,o,os,k)=>match IJ ops L n o with
   | some d=>match o.op with
    | .alloc e=>match zeroCells P e with
     | some zs=>Gf zs.toList fun zs=>some ⟨L,G,ops,os,k,d,zs,e,ob,a,b⟩
     | none=>none
    | .box e x=>match ev L x with
     | some v=>Gf (Hy v) fun zs=>some ⟨L,G,ops,os,k,d,zs,e,ob,a,b⟩
     | none=>none
    | _=>none
   | none=>none
  | none=>none
 | none=>none
theorem XE {q:Option FwR} {L':List (Nat×Value)} {G':List Ae} {os:List Oper} {zs:List Value} {e:TypeId} {ob:Option Prop} {al:List Nat} (h:XD P n q=some ⟨L',G',ops,os,k,d,zs,e,ob,al,al⟩) (K:∀ b w,Sep z (blk b zs e::G') w→∀ x,Fr n ds ((d,Pt_ b)::L') x→BA P N X R (.o ops os k) x w):
  ∃ p',q=some ⟨L',G',p',al,al,ob⟩∧∀ w,Sep z G' w→∀ x,Fr n ds L' x→BA P N X R p' x w:=by
 unfold XD at h
 split at h
 ·rename_i L1 G1 p a b ob1
  split at h
  ·rename_i ops1 o os1 k1 ht
   obtain rfl:=Qh ht
   split at h
   ·rename_i d1 hd
    split at h
    ·rename_i e1 ho
     split at h
     ·rename_i zs1 hz
      rw[Er] at h
      simp only[Option.some.injEq,AlR.mk.injEq] at h
      obtain ⟨rfl,rfl,rfl,rfl,rfl,rfl,rfl,rfl,rfl,rfl,rfl⟩:=h
      refine ⟨_,rfl,fun w H=>AL hd (BO H ho (zs:=zs1.toList) (by simpa using hz)) ?_⟩
      rintro _ w' ⟨b,rfl,H'⟩
      exact K b w' H'
     ·cases h
    ·rename_i e1 x1 ho
     split at h
     ·rename_i v1 hx
      rw[Er] at h
      simp only[Option.some.injEq,AlR.mk.injEq] at h
      obtain ⟨rfl,rfl,rfl,rfl,rfl,rfl,rfl,rfl,rfl,rfl,rfl⟩:=h
      refine ⟨_,rfl,fun w H=>AL hd (Ge H ho hx (N3 _)) ?_⟩
      rintro _ w' ⟨b,rfl,H'⟩
      exact K b w' H'
     ·cases h
    ·cases h
   ·cases h
  ·cases h
 ·cases h
theorem Za (m:Nat) (hs:List Nat) {L':List (Nat×Value)} {G:List Pt} {G':List Ae} {p:Pos} {os:List Oper} {zs:List Value} {e:TypeId} {al:List Nat} {F:List Ae} (H:Sep z Γ w) [r:Rf Γ G F] (h:XD P n (Qk F (go P true n m hs [] L G p true [] none))=some ⟨L',G',ops,os,k,d,zs,e,none,al,al⟩)
  (K:∀ b w,Sep z (blk b zs e::G') w→∀ x,Fr n ds ((d,Pt_ b)::L') x→BA P N X R (.o ops os k) x w):∀ x,Fr n ds L x→BA P N X R p x w:=by
 obtain ⟨p',h1,h2⟩:=XE h K
 obtain ⟨a,G1,h3,ha,rfl⟩:=LZ h1
 exact GZ (R7 z F) m h3 rfl ha trivial h2 w (r.e▸H)
theorem gr (K:∀ x,Fr n ds L x→R x w):∀ x,Fr n ds L x→BA P N X R .r x w:=K
end
end
structure Sup where
 gen:Int
 epoch:Int
 pages:Int
 start:Int
 len:Int
 head:Int
 seq:Int
def Sup.list (s:Sup):List Int:=[s.gen,s.epoch,s.pages,s.start,s.len,s.head,s.seq]
def Sup.cells (s:Sup):List Value:=[.int .i64 s.gen,.int .i64 s.epoch,.int .i64 s.pages,.int .i64 s.start,.int .i64 s.len,.int .i64 s.head,.int .i64 s.seq]
def Sup.Ok (s:Sup) (n:Int):Prop:=(∀ x∈s.list,0≤x∧x≤1099511627776)∧16≤s.pages∧s.pages≤1024∧2+s.pages≤s.start∧64≤s.len∧s.start≤n - s.len∧s.len≤n∧s.head<s.len
instance (s:Sup) (n:Int):Decidable (s.Ok n):=by unfold Sup.Ok;exact inferInstance
theorem Sup.get {s:Sup} {n:Int} (h:s.Ok n):(0≤s.gen∧s.gen≤1099511627776)∧(0≤s.epoch∧s.epoch≤1099511627776)∧(0≤s.pages∧s.pages≤1099511627776)∧(0≤s.start∧s.start≤1099511627776)∧(0≤s.len∧s.len≤1099511627776)∧(0≤s.head∧s.head≤1099511627776)∧(0≤s.seq∧s.seq≤1099511627776):=by
 have:=h.1
 simpa [Sup.list] using this
/-! ### a disk -/
structure Dsk where
 n:Nat
 dur:Nat→List UInt8
 ver:Nat→List (List UInt8)
 f1:Int
 f2:Int
 f3:Int
 cut:Bool
 left:Int
def Dsk.cont (D:Dsk) (i:Nat):List UInt8:=(D.ver i).getLast?.getD (D.dur i)
def AY (f:Int):Int:=if f=0 then 0 else f - 1
structure Ent where
 key:Nat
 v:Value
 pvs:List Value
 ps:List (List UInt8)
 born:Nat
def Ent.ie (e:Ent):IE:=((e.key:Int),e.v,e.born)
def Ent.row (e:Ent):Ae:=grow 43 1 e.v e.pvs.length e.pvs
def Ent.Ok (hq:Hp) (e:Ent):Prop:=e.pvs.length=e.ps.length∧e.ps≠[]∧∀ (j:Nat) (pv:Value) (p:List UInt8),e.pvs[j]? =some pv→e.ps[j]? =some p→p.length=256∧rdH 1 pv 256 (p.map u8) hq
def poolA (hq:Hp):Ae:=fun h=>Ck hq h
structure Dsk.Ok (D:Dsk):Prop where
 n1:1≤D.n
 n2:D.n≤4096
 dur:∀ i,i<D.n→(D.dur i).length=256
 ver:∀ i,i<D.n→∀ p∈D.ver i,p.length=256
 f1:0≤D.f1∧D.f1≤1099511627776
 f2:0≤D.f2∧D.f2≤1099511627776
 f3:0≤D.f3∧D.f3≤1099511627776
 left:0≤D.left∧D.left≤1099511627776
structure Dsk.In (D:Dsk) (bs:List UInt8) (es:List Ent) (clk:Nat) (hq:Hp):Prop where
 len:bs.length=D.n * 256
 own:∀ i,i<D.n→(bs.drop (i * 256)).take 256=D.dur i
 ent:∀ e∈es,e.key<D.n∧e.ps=D.ver e.key∧e.Ok hq
 all:∀ i,i<D.n→D.ver i≠[]→∃ e∈es,e.key=i
 nodup:(es.map Ent.key).Nodup
 born:(es.map Ent.born).Nodup
 clk:∀ e∈es,e.born<clk
def Em (pd bd m:Nat) (D:Dsk) (f0:Int) (bs:List UInt8) (es:List Ent) (clk:Nat) (hq:Hp):List Ae:=
  [blk pd [.slice (some ⟨bd,0,none⟩) (D.n * 256) (D.n * 256),.map (some m),.int .i64 f0,.int .i64 D.f1,.int .i64 D.f2,.int .i64 D.f3,.bool D.cut,.int .i64 D.left] 92,
   blk bd (bs.map u8) 5,Ay m (es.map Ent.ie) clk,poolA hq,seps (es.map Ent.row)]
def diskA (pd:Nat) (D:Dsk):Ae:=fun h=>∃ (bd m:Nat) (f0:Int) (bs:List UInt8) (es:List Ent) (clk:Nat) (hq:Hp),(D.Ok∧D.In bs es clk hq)∧seps (Em pd bd m D f0 bs es clk hq) h
theorem diskA.ok {pd:Nat} {D:Dsk} {h:Hp} (a:diskA pd D h):D.Ok:=by
 obtain ⟨_,_,_,_,_,_,_,hp,_⟩:=a;exact hp.1
structure DskX where
 bd:Nat
 m:Nat
 f0:Int
 bs:List UInt8
 es:List Ent
 clk:Nat
 hq:Hp
theorem Sep.disk {z w:World} {Γ:List Ae} {pd:Nat} {D:Dsk} (H:Sep z (diskA pd D::Γ) w):∃ bd m f0 bs es clk hq,D.Ok∧D.In bs es clk hq∧Sep z (Em pd bd m D f0 bs es clk hq++Γ) w:=by
 obtain ⟨x,⟨h1,h2⟩,H⟩:=H.into (σ:=DskX) (p:=fun x=>D.Ok∧D.In x.bs x.es x.clk x.hq) (As:=fun x=>Em pd x.bd x.m D x.f0 x.bs x.es x.clk x.hq)
  (fun h a=>by obtain ⟨bd,m,f0,bs,es,clk,hq,hp,hs⟩:=a;exact ⟨⟨bd,m,f0,bs,es,clk,hq⟩,hp,hs⟩)
 exact ⟨_,_,_,_,_,_,_,h1,h2,H⟩
theorem Sep.toDisk {z w:World} {Γ:List Ae} {pd bd m:Nat} {D:Dsk} {f0:Int} {bs:List UInt8} {es:List Ent} {clk:Nat} {hq:Hp} (H:Sep z (Em pd bd m D f0 bs es clk hq++Γ) w) (h1:D.Ok) (h2:D.In bs es clk hq):Sep z (diskA pd D::Γ) w:=
 H.shut.mono 0 rfl (fun h a=>⟨_,_,_,_,_,_,_,⟨h1,h2⟩,a⟩)
theorem get_ent:∀ (es:List Ent) (k:Nat),(es.map Ent.key).Nodup→(Cl (es.map Ent.ie) (k:Int)=none∧∀ e∈es,e.key≠k)∨∃ (i:Nat) (e:Ent),es[i]? =some e∧e.key=k∧Cl (es.map Ent.ie) (k:Int)=some e.v
 | [],k,_=> .inl ⟨rfl,fun e h=>by cases h⟩
 | e::es,k,hn=>by
  simp only[List.map_cons,List.nodup_cons] at hn
  simp only[List.map_cons,Cl,Ent.ie]
  by_cases q:(k:Int)=(e.key:Int)
  ·exact .inr ⟨0,e,rfl,by omega,by rw[if_pos q]⟩
  ·rw[if_neg q]
   rcases get_ent es k hn.2 with ⟨h1,h2⟩|⟨i,e',h1,h2,h3⟩
   ·exact .inl ⟨h1,fun e' h=>by
     rcases List.mem_cons.1 h with rfl|h
     ·intro q';exact q (by rw[q'])
     ·exact h2 e' h⟩
   ·exact .inr ⟨i+1,e',by simpa using h1,h2,h3⟩
theorem Rd.at {sz:Nat} {ao:Option Addr} {n c:Nat} {xs:List Value} {w:World} {u:Value} {j:Nat} (r:Rd sz (.slice ao n c) n xs w) (h:xs[j]? =some u):At ao j u w:=by
 obtain ⟨ao',c',e,_,_,_,h4⟩:=r
 cases e
 exact h4 j u h
theorem E6 {As:List Ae} {h:Hp} (hs:seps As h) {i:Nat} {A:Ae} (hi:As[i]? =some A):∃ h',A h'∧Ck h' h:=by
 obtain ⟨own,ho⟩:=hs
 exact ⟨_,ho i A hi,fun k o e=>(DI e).2⟩
theorem XF {D:Dsk} {bs:List UInt8} {es:List Ent} {clk:Nat} {hq:Hp} (hI:D.In bs es clk hq) {k:Nat} (hk:k<D.n):
  ∃ v pvs,(Cl (es.map Ent.ie) (k:Int)).getD (.slice none 0 0)=v∧pvs.length=(D.ver k).length∧(∀ h,seps (es.map Ent.row) h→rdH 1 v pvs.length pvs h)∧
   (∀ (j:Nat) (pv:Value) (p:List UInt8),pvs[j]? =some pv→(D.ver k)[j]? =some p→∀ h,poolA hq h→rdH 1 pv 256 (p.map u8) h):=by
 rcases get_ent es k hI.nodup with ⟨hg,hn⟩|⟨i,e,hi,he,hg⟩
 ·have hv:D.ver k=[]:=by
   cases hvk:D.ver k with
   | nil=>rfl
   | cons p ps=>
    obtain ⟨e,he,hek⟩:=hI.all k hk (by rw[hvk];simp)
    exact absurd hek (hn e he)
  exact ⟨.slice none 0 0,[],by simp[hg],by rw[hv];rfl,fun h _=>rdH.nil 1 h,fun j pv p h=>by simp at h⟩
 ·obtain ⟨_,h2,h3,h4,h5⟩:=hI.ent e (List.mem_of_getElem? hi)
  subst he
  refine ⟨e.v,e.pvs,by simp[hg],h3.trans (congrArg _ h2),fun h hs=> ?_,fun j pv p hj hp h hh=>((h5 j pv p hj (by rw[h2];exact hp)).2).le hh⟩
  obtain ⟨h',hA,hsub⟩:=E6 hs (i:=i) (A:=e.row) (by rw[List.getElem?_map,hi];rfl)
  exact (grow.rd hA).le hsub
def Hz (D:Dsk) (k:Nat):Nat→List UInt8
 | 0=>D.dur k
 | _+1=>D.cont k
theorem IK {D:Dsk} {k:Nat} (h:D.ver k=[]):D.cont k=D.dur k:=by simp[Dsk.cont,h]
theorem KF {D:Dsk} {k n:Nat} {p:List UInt8} (hl:n=(D.ver k).length) (h:(D.ver k)[n - 1]? =some p):D.cont k=p:=by
 subst hl
 simp[Dsk.cont,List.getLast?_eq_getElem?,h]
theorem Dsk.In.f {D:Dsk} {bs:List UInt8} {es:List Ent} {clk:Nat} {hq:Hp} (h:D.In bs es clk hq) (a b c:Int) (d:Bool) (e:Int):Dsk.In { D with f1:=a,f2:=b,f3:=c,cut:=d,left:=e } bs es clk hq:=
 ⟨h.len,h.own,h.ent,h.all,h.nodup,h.born,h.clk⟩
theorem Dsk.Ok.f {D:Dsk} (h:D.Ok) {a b c e:Int} {d:Bool} (ha:0≤a∧a≤1099511627776) (hb:0≤b∧b≤1099511627776) (hc:0≤c∧c≤1099511627776) (he:0≤e∧e≤1099511627776):Dsk.Ok { D with f1:=a,f2:=b,f3:=c,cut:=d,left:=e } :=
 ⟨h.n1,h.n2,h.dur,h.ver,ha,hb,hc,he⟩
theorem EE {f:Int} (h:0≤f∧f≤1099511627776):0≤AY f∧AY f≤1099511627776:=by unfold AY;split<;>omega
theorem Dsk.cont_len {D:Dsk} (h:D.Ok) {i:Nat} (hi:i<D.n):(D.cont i).length=256:=by
 unfold Dsk.cont
 cases hl:(D.ver i).getLast? with
 | none=>exact h.dur i hi
 | some p=>exact h.ver i hi p (List.mem_of_getLast? hl)
abbrev stB (ps pd pt:Nat) (x:Sup) (lp:Value) (md:Nat) (un:Bool) (mo:Value):Ae:=blk ps [.pointer (some ⟨pd,0,none⟩),.pointer (some ⟨pt,0,none⟩),.int .i64 x.gen,.int .i64 x.epoch,.int .i64 x.pages,.int .i64 x.start,.int .i64 x.len,.int .i64 x.head,.int .i64 x.seq,lp,.map (some md),.bool un,mo] 106
abbrev lgB (pl pd pt:Nat) (s:Sup) (a q u:Int) (b nu:Bool):Ae:=blk pl [.pointer (some ⟨pd,0,none⟩),.pointer (some ⟨pt,0,none⟩),.int .i64 s.gen,.int .i64 s.epoch,.int .i64 s.pages,.int .i64 s.start,.int .i64 s.len,.int .i64 s.head,.int .i64 s.seq,.int .i64 a,.int .i64 q,.int .i64 u,.bool b,.bool nu] 188
open Go.RowKit
theorem L6:Elt prog 36 (.agg #[Iv_ 0,.bool false,Iv_ 0,Iv_ 0]) 4 32:=Elt.mk (by kernel_rfl) rfl (by omega) (by omega)
theorem A0:Elt prog 123 (.agg #[Iv_ 0,Ci []]) 2 24:=Elt.mk (by kernel_rfl) rfl (by omega) (by omega)
theorem Cf:Elt prog 5 (u8 0) 1 1:=Elt.mk (by kernel_rfl) rfl (by omega) (by omega)
theorem Bq:Elt prog 3 (Iv_ 0) 1 8:=Elt.mk (by kernel_rfl) rfl (by omega) (by omega)
theorem G4:Elt prog 28 (.agg #[Iv_ 0,Iv_ 0,Iv_ 0,Iv_ 0,Iv_ 0,Iv_ 0]) 6 48:=Elt.mk (by kernel_rfl) rfl (by omega) (by omega)
theorem ER:Elt prog 114 (.agg #[Iv_ 0,.slice none 0 0]) 2 32:=Elt.mk (by kernel_rfl) rfl (by omega) (by omega)
theorem CU:Elt prog 116 (.agg #[Iv_ 0,Iv_ 0,.slice none 0 0]) 3 40:=Elt.mk (by kernel_rfl) rfl (by omega) (by omega)
theorem Jh:Elt prog 43 (.slice none 0 0) 1 24:=Elt.mk (by kernel_rfl) rfl (by omega) (by omega)
theorem Cv (x m:Int):Cn prog 91 [Iv_ x,Iv_ m] [] (fun v Γ=>v= .bool (decide (0≤x∧x≤m))∧Γ=[]):=by
 intro z R w H;replace H:=H.l0;refine Ad func91 rfl ntmps91 rfl (Z0 10 [0] rfl (Ak 7 rfl (fun h1=> ?_) (fun h1=> ?_)))
 ·refine Z0 8 [0] rfl (Zr rfl ?_);exact ⟨_,⟨congrArg Value.bool (by rw[Bool.eq_iff_iff];simp<;>omega),rfl⟩,H⟩
 ·refine Zc 8 rfl (Zr rfl ?_);exact ⟨_,⟨congrArg Value.bool (by rw[Bool.eq_iff_iff];simp<;>omega),rfl⟩,H⟩
theorem Ji (pd bd m N:Nat) (f0 f1 f2 f3 lf:Int) (cut:Bool) (hN:N≤9223372036854775807):Cn prog 87 [Pt_ pd] [blk pd [.slice (some ⟨bd,0,none⟩) N N,.map (some m),Iv_ f0,Iv_ f1,Iv_ f2,Iv_ f3,.bool cut,Iv_ lf] 92] (fun v Γ=>v=Iv_ ((N:Int) / 256)∧Γ=[blk pd [.slice (some ⟨bd,0,none⟩) N N,.map (some m),Iv_ f0,Iv_ f1,Iv_ f2,Iv_ f3,.bool cut,Iv_ lf] 92]):=by
 intro z R w H;replace H:=H.l1;refine Ad func87 rfl ntmps87 rfl (Z3 17 [0,0,0] [(N:Int) / 256] H rfl (by omega) (Zr rfl ?_));exact ⟨_,⟨rfl,rfl⟩,H⟩
theorem N5 (pd bd m N:Nat) (f0 f1 f2 f3 lf:Int) (cut:Bool) (x k:Int) (hN:N≤9223372036854775807):Cn prog 112 [Pt_ pd,Iv_ x,Iv_ k] [blk pd [.slice (some ⟨bd,0,none⟩) N N,.map (some m),Iv_ f0,Iv_ f1,Iv_ f2,Iv_ f3,.bool cut,Iv_ lf] 92] (fun v Γ=>v= .bool (decide (0≤x∧0<k∧x<(N:Int) / 256∧k≤(N:Int) / 256 - x))∧Γ=[blk pd [.slice (some ⟨bd,0,none⟩) N N,.map (some m),Iv_ f0,Iv_ f1,Iv_ f2,Iv_ f3,.bool cut,Iv_ lf] 92]):=by
 intro z R w H;replace H:=H.l1;refine Ad func112 rfl ntmps112 rfl (Z0 10 [0] rfl (Ak 9 rfl (fun h1=> ?_) (fun h1=> ?_)))
 ·refine Z0 4 [0] rfl (Ak 13 rfl (fun h2=> ?_) (fun h2=> ?_))
  ·refine Zc 2 rfl (z_E_ rfl (call87 _) (Ji _ _ _ _ _ _ _ _ _ _ (by omega)) H ?_);intro w H;refine Z0 3 [0] rfl (Ak 19 rfl (fun h3=> ?_) (fun h3=> ?_))
   ·refine Zc 2 rfl (z_E_ rfl (call87 _) (Ji _ _ _ _ _ _ _ _ _ _ (by omega)) H ?_);intro w H;refine Z1 8 [0] [((N:Int) / 256) - x] rfl (by omega) (Zr rfl ?_);exact ⟨_,⟨congrArg Value.bool (by first|(rw[eq_comm,decide_eq_false_iff_not];omega)|(rw[Bool.eq_iff_iff];simp<;>omega)),rfl⟩,H⟩
   ·refine Zc 11 rfl (Zr rfl ?_);exact ⟨_,⟨congrArg Value.bool (by first|(rw[eq_comm,decide_eq_false_iff_not];omega)|(rw[Bool.eq_iff_iff];simp<;>omega)),rfl⟩,H⟩
  ·refine Zc 17 rfl (Zr rfl ?_);exact ⟨_,⟨congrArg Value.bool (by first|(rw[eq_comm,decide_eq_false_iff_not];omega)|(rw[Bool.eq_iff_iff];simp<;>omega)),rfl⟩,H⟩
 ·refine Zc 21 rfl (Zr rfl ?_);exact ⟨_,⟨congrArg Value.bool (by first|(rw[eq_comm,decide_eq_false_iff_not];omega)|(rw[Bool.eq_iff_iff];simp<;>omega)),rfl⟩,H⟩
theorem Ql (pd bd m N:Nat) (f0 f1 f2 f3 lf:Int) (cut:Bool):Cn prog 126 [Pt_ pd] [blk pd [.slice (some ⟨bd,0,none⟩) N N,.map (some m),Iv_ f0,Iv_ f1,Iv_ f2,Iv_ f3,.bool cut,Iv_ lf] 92] (fun v Γ=>v= .bool (cut && decide (lf=0))∧Γ=[blk pd [.slice (some ⟨bd,0,none⟩) N N,.map (some m),Iv_ f0,Iv_ f1,Iv_ f2,Iv_ f3,.bool cut,Iv_ lf] 92]):=by
 intro z R w H;replace H:=H.l1;refine Ad func126 rfl ntmps126 rfl (Z2 12 [6,0,0] H rfl (G0 7 rfl (fun h1=> ?_) (fun h1=> ?_)))
 ·refine Z2 10 [7,0,0,0] H rfl (Zr rfl ?_);exact ⟨_,⟨congrArg Value.bool (by simp_all),rfl⟩,H⟩
 ·refine Zc 10 rfl (Zr rfl ?_);exact ⟨_,⟨congrArg Value.bool (by simp_all),rfl⟩,H⟩
theorem Sa (pd bd m N:Nat) (f0 f1 f2 f3 lf:Int) (cut:Bool) (wf1:0≤f1∧f1≤9223372036854775807):Cn prog 113 [Pt_ pd,Iv_ 1] [blk pd [.slice (some ⟨bd,0,none⟩) N N,.map (some m),Iv_ f0,Iv_ f1,Iv_ f2,Iv_ f3,.bool cut,Iv_ lf] 92] (fun v Γ=>v= .bool (decide (f1=1))∧Γ=[blk pd [.slice (some ⟨bd,0,none⟩) N N,.map (some m),Iv_ f0,Iv_ (if f1=0 then 0 else f1 - 1),Iv_ f2,Iv_ f3,.bool cut,Iv_ lf] 92]):=by
 intro z R w H;replace H:=H.l1;refine Ad func113 rfl ntmps113 rfl (Z3 17 [2,4,1,1,3,0,0,0] [] H rfl (by omega) (Af rfl (fun h1=> ?_) (fun h1=> ?_)))
 ·refine Zc 6 rfl (Zr rfl ?_);exact ⟨[blk pd [.slice (some ⟨bd,0,none⟩) N N,.map (some m),Iv_ f0,Iv_ f1,Iv_ f2,Iv_ f3,.bool cut,Iv_ lf] 92],⟨congrArg Value.bool (by first|(rw[Bool.eq_iff_iff];simp<;>omega)|(simp_all<;>omega)),by simp_all⟩,H⟩
 ·refine Zc 3 rfl (BI 10 (by kernel_rfl) (by kernel_rfl) (Bc H fun w H'=> ?_))
  have H:=H'.l1;refine Eg 10 [2,4,1,1,3,0,0,2,4,1,1,3] [f1 - 1] H rfl (by kernel_rfl) (by omega) (Cy (gw (Z5 16 [0,2,4,1,1,3,0,0,0] [] H rfl (by omega) ?_)));intro w H;refine Zr rfl ?_;exact ⟨[blk pd [.slice (some ⟨bd,0,none⟩) N N,.map (some m),Iv_ f0,Iv_ (f1 - 1),Iv_ f2,Iv_ f3,.bool cut,Iv_ lf] 92],⟨congrArg Value.bool (by first|(rw[Bool.eq_iff_iff];simp<;>omega)|(simp_all<;>omega)),by simp_all⟩,H⟩
theorem Sb (pd bd m N:Nat) (f0 f1 f2 f3 lf:Int) (cut:Bool) (wf2:0≤f2∧f2≤9223372036854775807):Cn prog 113 [Pt_ pd,Iv_ 2] [blk pd [.slice (some ⟨bd,0,none⟩) N N,.map (some m),Iv_ f0,Iv_ f1,Iv_ f2,Iv_ f3,.bool cut,Iv_ lf] 92] (fun v Γ=>v= .bool (decide (f2=1))∧Γ=[blk pd [.slice (some ⟨bd,0,none⟩) N N,.map (some m),Iv_ f0,Iv_ f1,Iv_ (if f2=0 then 0 else f2 - 1),Iv_ f3,.bool cut,Iv_ lf] 92]):=by
 intro z R w H;replace H:=H.l1;refine Ad func113 rfl ntmps113 rfl (Z3 17 [2,4,1,2,4,0,0,0] [] H rfl (by omega) (Af rfl (fun h1=> ?_) (fun h1=> ?_)))
 ·refine Zc 6 rfl (Zr rfl ?_);exact ⟨[blk pd [.slice (some ⟨bd,0,none⟩) N N,.map (some m),Iv_ f0,Iv_ f1,Iv_ f2,Iv_ f3,.bool cut,Iv_ lf] 92],⟨congrArg Value.bool (by first|(rw[Bool.eq_iff_iff];simp<;>omega)|(simp_all<;>omega)),by simp_all⟩,H⟩
 ·refine Zc 3 rfl (BI 10 (by kernel_rfl) (by kernel_rfl) (Bc H fun w H'=> ?_))
  have H:=H'.l1;refine Eg 10 [2,4,1,2,4,0,0,2,4,1,2,4] [f2 - 1] H rfl (by kernel_rfl) (by omega) (Cy (gw (Z5 16 [0,2,4,1,2,4,0,0,0] [] H rfl (by omega) ?_)));intro w H;refine Zr rfl ?_;exact ⟨[blk pd [.slice (some ⟨bd,0,none⟩) N N,.map (some m),Iv_ f0,Iv_ f1,Iv_ (f2 - 1),Iv_ f3,.bool cut,Iv_ lf] 92],⟨congrArg Value.bool (by first|(rw[Bool.eq_iff_iff];simp<;>omega)|(simp_all<;>omega)),by simp_all⟩,H⟩
theorem Sc (pd bd m N:Nat) (f0 f1 f2 f3 lf:Int) (cut:Bool) (wf3:0≤f3∧f3≤9223372036854775807):Cn prog 113 [Pt_ pd,Iv_ 3] [blk pd [.slice (some ⟨bd,0,none⟩) N N,.map (some m),Iv_ f0,Iv_ f1,Iv_ f2,Iv_ f3,.bool cut,Iv_ lf] 92] (fun v Γ=>v= .bool (decide (f3=1))∧Γ=[blk pd [.slice (some ⟨bd,0,none⟩) N N,.map (some m),Iv_ f0,Iv_ f1,Iv_ f2,Iv_ (if f3=0 then 0 else f3 - 1),.bool cut,Iv_ lf] 92]):=by
 intro z R w H;replace H:=H.l1;refine Ad func113 rfl ntmps113 rfl (Z3 17 [2,4,1,3,5,0,0,0] [] H rfl (by omega) (Af rfl (fun h1=> ?_) (fun h1=> ?_)))
 ·refine Zc 6 rfl (Zr rfl ?_);exact ⟨[blk pd [.slice (some ⟨bd,0,none⟩) N N,.map (some m),Iv_ f0,Iv_ f1,Iv_ f2,Iv_ f3,.bool cut,Iv_ lf] 92],⟨congrArg Value.bool (by first|(rw[Bool.eq_iff_iff];simp<;>omega)|(simp_all<;>omega)),by simp_all⟩,H⟩
 ·refine Zc 3 rfl (BI 10 (by kernel_rfl) (by kernel_rfl) (Bc H fun w H'=> ?_))
  have H:=H'.l1;refine Eg 10 [2,4,1,3,5,0,0,2,4,1,3,5] [f3 - 1] H rfl (by kernel_rfl) (by omega) (Cy (gw (Z5 16 [0,2,4,1,3,5,0,0,0] [] H rfl (by omega) ?_)));intro w H;refine Zr rfl ?_;exact ⟨[blk pd [.slice (some ⟨bd,0,none⟩) N N,.map (some m),Iv_ f0,Iv_ f1,Iv_ f2,Iv_ (f3 - 1),.bool cut,Iv_ lf] 92],⟨congrArg Value.bool (by first|(rw[Bool.eq_iff_iff];simp<;>omega)|(simp_all<;>omega)),by simp_all⟩,H⟩
theorem Uv (pd bd m N:Nat) (f0 f1 f2 f3 lf:Int) (cut:Bool) (i:Nat) (hN:N≤9223372036854775807) (hi:(i+1) * 256≤N):Cn prog 128 [Pt_ pd,Iv_ (i:Int)] [blk pd [.slice (some ⟨bd,0,none⟩) N N,.map (some m),Iv_ f0,Iv_ f1,Iv_ f2,Iv_ f3,.bool cut,Iv_ lf] 92] (fun v Γ=>v= .slice (some ⟨bd,i * 256,none⟩) 256 (N - i * 256)∧Γ=[blk pd [.slice (some ⟨bd,0,none⟩) N N,.map (some m),Iv_ f0,Iv_ f1,Iv_ f2,Iv_ f3,.bool cut,Iv_ lf] 92]):=by
 intro z R w H;replace H:=H.l1;refine Ad func128 rfl ntmps128 rfl (Z3 16 [0,0,0] [(i:Int) * 256,(i:Int)+1,((i:Int)+1) * 256] H rfl (by omega) (Ac rfl (BD rfl (z:=1) (p:=(i * 256)) (q:=((i+1) * 256)) (o':=i * 256) (l':=256) (c':=N - i * 256) (by kernel_rfl) rfl (.inr ⟨_,_,_,rfl,rfl,(by omega)⟩) (.inr ⟨_,_,_,rfl,rfl,(by omega)⟩) (by omega) (by omega) (by omega) (by omega) (by omega) (by omega)) (Zc 4 rfl (Zr rfl ?_))));exact ⟨_,⟨rfl,rfl⟩,H⟩
end Go.Proofs.YtjegbnfpodadcaaGreatDoor
