/-
  Steps to: The law ThinRefuses holds. No condition.
-/
import Derived.Test.YtjegbnfpodadcaaGreatDoorPart1
import Derived.Test.YtjegbnfpodadcaaGreatDoorCards
import Derived.Test.YtjegbnfpodadcaaGreatDoorTie
import Derived.WalkKit
import Derived.WalkSpells
import Derived.Deep.Quiet
import Derived.KernelRfl
import Derived.IntWalk
import Derived.Maps.AppendAt
import Derived.Laws.AppendOwnNone
import Derived.Laws.CopyRow
import Derived.StillTail
import Derived.Deep.RegionHeld
import Derived.Laws.IdiomStrings
import Derived.Laws.BytesArg
import Derived.Laws.OwnMore
import Derived.Lib.Strings
import Derived.ArgAppend
import Derived.Test.YtjegbnfpodadcaaGreatDoorRows
import Derived.RangeFuncLeaves
import Derived.RangeFuncRecord
import Derived.RangeFuncCalls
import Derived.RangeFuncSeq
import Derived.OrdersIn
import Derived.TacticsIn
import Derived.Laws.IdiomRangeMap
import Derived.Defers
import Derived.Laws.LoneSync
import Derived.LoopN
import Derived.Lib.TrailingZeros
import Derived.Test.YtjegbnfpodadcaaGreatDoorProg
import Derived.Shelf.Sort.Plain
import Derived.Shelf.Slices.In.SortNone
import Derived.DataReads
import Derived.ProofKit
import Derived.OpenShut
import Derived.Lib.SmallJoins
import Derived.Deep.DeepHandedRow
import Derived.Lib.LaidTab
set_option maxRecDepth 100000
set_option linter.unusedSimpArgs false
set_option linter.unusedVariables false
open Go.Proofs.Tryz
namespace Go.Proofs.YtjegbnfpodadcaaGreatDoor
section
open Go.RowKit
abbrev FX (ro:Option Nat):Fence:= { Fence.wide with round:=ro }
def RW (P:Program) (ro:Option Nat) (c:Code) (Q:Exit→Act→World→Prop) (a:Act) (w:World):Prop:=c.wpIn (FX ro) 0 P Q a w
section
variable {P:Program} {ro:Option Nat} {N R:Act→World→Prop} {X:Nat→Act→World→Prop} {a:Act} {w:World} {n:Nat} {ds:List Deferred} {L:List (Nat×Value)}
theorem Cq {x y:Code} (h:∀ a,Fr n ds L a→RW P ro x (Qp (fun a w=>RW P ro y (Qp N X R) a w) X R) a w):∀ a,Fr n ds L a→RW P ro (Code.seq x y) (Qp N X R) a w:=fun a hF=>
 wpIn_seq (wpIn_mono (h a hF) fun e a w q=>by cases e<;>exact q)
theorem FF (h:∀ a,Fr n ds L a→N a w):∀ a,Fr n ds L a→RW P ro Code.skip (Qp N X R) a w:=fun a hF=>wpIn_skip (h a hF)
theorem J2 {id:Nat} (h:∀ a,Fr n ds L a→X id a w):∀ a,Fr n ds L a→RW P ro (Code.exit id) (Qp N X R) a w:=fun a hF=>wpIn_exit (h a hF)
theorem Dw {id:Nat} {c:Code} (h:∀ a,Fr n ds L a→RW P ro c (Qp N (upd X id N) R) a w):∀ a,Fr n ds L a→RW P ro (Code.block id c) (Qp N X R) a w:=fun a hF=>
 wpIn_block (wpIn_mono (h a hF) fun e a w q=>by cases e<;>exact q)
theorem U5 {c:Operand} {x y:Code} (hc:ev L c=some (.bool true)) (h:∀ a,Fr n ds L a→RW P ro x (Qp N X R) a w):∀ a,Fr n ds L a→RW P ro (Code.cond c x y) (Qp N X R) a w:=fun a hF=>wpIn_cond_true (hF.ev hc) (h a hF)
theorem G5 {c:Operand} {x y:Code} (hc:ev L c=some (.bool false)) (h:∀ a,Fr n ds L a→RW P ro y (Qp N X R) a w):∀ a,Fr n ds L a→RW P ro (Code.cond c x y) (Qp N X R) a w:=fun a hF=>wpIn_cond_false (hF.ev hc) (h a hF)
theorem HW {c:Operand} {x y:Code} {b:Bool} (hc:ev L c=some (.bool b)) (ht:b=true→∀ a,Fr n ds L a→RW P ro x (Qp N X R) a w) (hf:b=false→∀ a,Fr n ds L a→RW P ro y (Qp N X R) a w):∀ a,Fr n ds L a→RW P ro (Code.cond c x y) (Qp N X R) a w:=by
 cases b with
 | true=>exact U5 hc (ht rfl)
 | false=>exact G5 hc (hf rfl)
theorem XG {c:Operand} {x y:Code} {p:Prop} [hp:Decidable p] (hc:ev L c=some (.bool (decide p))) (ht:p→∀ a,Fr n ds L a→RW P ro x (Qp N X R) a w) (hf:¬ p→∀ a,Fr n ds L a→RW P ro y (Qp N X R) a w):∀ a,Fr n ds L a→RW P ro (Code.cond c x y) (Qp N X R) a w:=
 HW hc (fun h=>ht (of_decide_eq_true h)) (fun h=>hf (of_decide_eq_false h))
theorem J3 {c:Code} {σ:Type} (Lv:σ→List (Nat×Value)) (G:σ→World→Prop) (m:σ→Nat) (s₀:σ)
  (h₀:∀ a,Fr n ds L a→Fr n ds (Lv s₀) a) (g₀:G s₀ w)
  (round:∀ s w,G s w→∀ a,Fr n ds (Lv s) a→RW P ro c (Qp (fun a' w'=>∃ s',Fr n ds (Lv s') a'∧G s' w'∧m s'<m s) X R) a w):∀ a,Fr n ds L a→RW P ro (Code.loop c) (Qp N X R) a w:=by
 intro a hF b k cs hro hb hr
 have key:∀ n' s a w,m s=n'→Fr n ds (Lv s) a→G s w→
   ∃ e a' w',Qp N X R e a' w'∧ArrivesIn (Machine.fenced P (FX ro)) P (lone (b.atR a (.code c:: .inLoop c::k)) cs w) b k cs e a' w':=by
  intro n'
  induction n' using Nat.strongRecOn with
  | _ n' ih=>
   intro s a w hn hI hG
   obtain ⟨e,a₁,w₁,hq,harr⟩:=round s w hG a hI b (.inLoop c::k) cs hro hb hr
   cases e with
   | normal=>
    obtain ⟨s₁,hI₁,hG₁,hlt⟩:=hq
    obtain ⟨e₂,a₂,w₂,hq₂,harr₂⟩:=ih (m s₁) (hn▸hlt) s₁ a₁ w₁ rfl hI₁ hG₁
    exact ⟨e₂,a₂,w₂,hq₂,.of_steps (StepsIn.trans harr (.one (fenced_calm hb hr rfl) stepR_inLoop)) harr₂⟩
   | exit id=>exact ⟨.exit id,a₁,w₁,hq,.pass (x:= .inLoop c) rfl (fun _ _=> .inl (by simp)) harr⟩
   | ret=>exact ⟨.ret,a₁,w₁,hq,.pass (x:= .inLoop c) rfl (fun _ _=> .inl (by simp)) harr⟩
   | goto l=>exact hq.elim
   | panic ch=>exact hq.elim
   | outgrown=>exact hq.elim
 obtain ⟨e,a',w',hq,harr⟩:=key _ s₀ a w rfl (h₀ a hF) g₀
 exact ⟨e,a',w',hq,.of_steps (.one (fenced_calm hb hr rfl) stepR_loop) harr⟩
/-! ### Operations -/
def CE (o:Oper):Bool:=match o.op with| .defer _=>false|_=>true
theorem O7 {o:Oper} (h:CE o=true):∀ c,o.op≠ .defer c:=fun c e=>by rw[CE,e] at h;cases h
theorem L7 (o:Oper) (h:CE o=true) (ρ:Operand→Value):Oper.semAt ro ρ o=execOp ρ o:=by
 cases ro with
 | none=>rfl
 | some l=>exact Oper.semAt_some l ρ o (O7 h)
theorem Sd {f:FuncId} {args:Array Value} {E:Ending→World→Prop} (h:Calls P f args w E) (k:Nat):CallsIn (FX ro) k P f args w E:=callsIn_wide.2 h
theorem U6 {row:String} {args:Array Value} {E:Value→World→Prop} (h:Rows P row args w E) (k:Nat):RowsIn (FX ro) k P row args w E:=fun c cs _=>
 let ⟨v,w',r,s⟩:=h c cs;⟨v,w',r,stepsIn_wide.2 s⟩
theorem N6 {o:Oper} (hd:CE o=true) {K:Act→World→Prop} (h:o.wp P a w K (Qp N X R)):o.wpIn (FX ro) 0 P a w K (Qp N X R):=by
 refine ⟨fun _ _=>trivial,?_⟩
 rw[show (FX ro).round=ro from rfl,L7 o hd]
 unfold Oper.wp at h
 cases hr:(execOp a.eval o).run P w with
 | ok x w'=>
  rw[hr] at h
  cases x<;>simp only[Oper.upon,Oper.uponIn] at h ⊢ <;>first
   | exact h
   | exact h.elim
   | exact ⟨fun q=>(by cases q),Sd (Calls.mono h fun e w'' q=>by cases e<;>exact q) _⟩
   | exact ⟨fun q=>(by cases q),U6 h _⟩
 | halt x w'=>
  rw[hr] at h
  cases x<;>simp only[Oper.upon,Oper.uponIn] at h ⊢ <;>first
   | exact h
   | exact h.elim
theorem Qm {Q:Exit→Act→World→Prop} {N R:Act→World→Prop} {X:Nat→Act→World→Prop} (hQ:Q=Qp N X R):¬ LetsOut Q:=by
 subst hQ;rintro ⟨a,w,h⟩;exact h
theorem J4 {ops:Array Oper} :∀ (l:List Oper) (a:Act) (w:World),l.all CE=true→wpList P ops (Qp N X R) l a w→wpListIn (FX ro) 0 P ops (Qp N X R) l a w
 | [],_,_,_,h=>h
 | o::rest,a,w,hd,h=>by
  simp only[List.all_cons,Bool.and_eq_true] at hd
  unfold wpList at h
  unfold wpListIn
  split
  ·rename_i hw
   rw[if_pos hw] at h
   rcases h with h|⟨_,h⟩
   ·exact Oper.wpIn_mono (fun a w q=>J4 rest a w hd.2 q) (N6 hd.1 h)
   ·exact absurd h (Qm rfl)
  ·rename_i hw
   rw[if_neg hw] at h
   exact ⟨fun _ _=>trivial,J4 rest _ _ hd.2 h⟩
theorem BQ {id:Nat} {ops:List Oper} (h:∀ a,Fr n ds L a→wpList P ops.toArray (Qp N X R) ops a w) (hd:ops.all CE=true:=by rfl):∀ a,Fr n ds L a→RW P ro (Code.region id ops.toArray false) (Qp N X R) a w:=fun a hF=>
 wpIn_region_lit (J4 ops a w hd (h a hF))
theorem Y5 {ops:Array Oper} (hd:ops.toList.all CE=true) {i:Nat} {K:Act→World→Prop} (h:wpOp P ops (Qp N X R) i K a w):wpOpIn (FX ro) 0 P ops (Qp N X R) i K a w:=by
 unfold wpOp at h
 unfold wpOpIn
 split
 ·rename_i e;rw[e] at h;exact h
 ·rename_i o e
  rw[e] at h
  simp only at h
  have hdo:CE o=true:=List.all_eq_true.1 hd o (by
   have:=Array.mem_of_getElem? e
   simpa using this)
  split
  ·rename_i hw
   rw[if_pos hw] at h
   rcases h with h|⟨_,h⟩
   ·exact N6 hdo h
   ·exact absurd h (Qm rfl)
  ·rename_i hw
   rw[if_neg hw] at h
   exact ⟨fun _ _=>trivial,h⟩
theorem L8 {ops:Array Oper} (hd:ops.toList.all CE=true):∀ (fuel:Nat) (listed:Array Bool) (a:Act) (w:World),wpAny P .any ops (Qp N X R) fuel listed a w→wpAnyIn (FX ro) 0 P .any ops (Qp N X R) fuel listed a w
 | 0,_,_,_,h=>h
 | fuel+1,_,_,_,h=>⟨h.1,fun i hi=>wpOpIn_mono (fun a w q=>L8 hd fuel _ a w q) (Y5 hd (h.2 i hi))⟩
theorem HA {id:Nat} {ops:List Oper} (S:World→Prop) (k:Nat) (hk:ops.length=k) (hm:P.follows .mixedOrders=true)
  (h:∀ w',Ext No w w'→w'.heap.size=w.heap.size→∀ a,Fr n ds L a→FN P ops (Qp N X R) S k (Array.replicate k false) a w') (hd:ops.all CE=true:=by rfl):∀ a,Fr n ds L a→RW P ro (Code.region id ops.toArray true) (Qp N X R) a w:=fun a hF=>
 wpIn_region_any hm (L8 (by simpa using hd) _ _ _ _ (GV (S:=S) _ _ _ _ (by have:=h _ (Ext.drawn No w) rfl a hF (Dc.start _ _) (by simp[hk]);simpa [hk] using this)))
theorem Qn {id:Nat} {ops:List Oper} (C:World→Prop) (hm:P.follows .mixedOrders=true) (hB:Region.lexB .any ops.toArray=true) (hC:C w.drew)
  (h:∀ a,Fr n ds L a→wpQuiet P ops.toArray C (fun a'=>∀ w',C w'→N a' w') ops a) (hd:ops.all CE=true:=by rfl):∀ a,Fr n ds L a→RW P ro (Code.region id ops.toArray true) (Qp N X R) a w:=fun a hF=>by
 refine wpIn_region_any hm (L8 (by simpa using hd) _ _ _ _ ?_)
 have hB':=hB
 simp only[Region.lexB,Bool.and_eq_true] at hB'
 refine wpAny_of_quiet (C:=C) (Q:=fun a'=>∀ w',C w'→N a' w') (fun _ w' hw' h=>h w' hw') _ _ _ _ hC ?_
 have:=wpAnyQ_lex (C:=C) (md:= .any) hB'.1 ops.toArray.toList 0 (Array.replicate ops.toArray.size false) a (by simp) (by simpa using hB'.2) (h a hF)
 simpa using this
/-! ### Operations one by one,yield among them -/
section steps
variable {ops:List Oper} {Q:Exit→Act→World→Prop} {rest:List Oper} {o:Oper} {d:Nat} {v:Value}
theorem IL {id:Nat} (h:∀ a,Fr n ds L a→wpListIn (FX ro) 0 P ops.toArray (Qp N X R) ops a w):∀ a,Fr n ds L a→RW P ro (Code.region id ops.toArray false) (Qp N X R) a w:=fun a hF=>wpIn_region_lit (h a hF)
theorem O8 (h:∀ a,Fr n ds L a→N a w):∀ a,Fr n ds L a→wpListIn (FX ro) 0 P ops.toArray (Qp N X R) [] a w:=h
theorem DO (hw:BC ops L o.guard=true) (hd:o.dst=some d) (hlt:Nat.blt d n=true) (hdo:Ao P (· =w) n ds L o v) (K:∀ a',Fr n ds ((d,v)::L) a'→wpListIn (FX ro) 0 P ops.toArray Q rest a' w) (hnd:CE o=true:=by rfl):∀ a,Fr n ds L a→wpListIn (FX ro) 0 P ops.toArray Q (o::rest) a w:=by
 intro a hF
 unfold wpListIn
 rw[if_pos (wantL_ok hF hw)]
 refine ⟨fun _ _=>trivial,?_⟩
 rw[show (FX ro).round=ro from rfl,L7 o hnd,hdo a hF w rfl,Oper.uponIn_value,hd]
 exact K _ (hF.put d v hlt)
theorem J5 {l:Nat} {x:Operand} {args:List Operand} {vs:List Value} {tys:Array TypeId} {E:Ending→World→Prop} (hw:BC ops L o.guard=true) (hd:o.dst=some d) (hlt:Nat.blt d n=true)
  (ho:o.op= .call { callee:= .value x,args:=args.toArray,argTypes:=tys }) (hx:ev L x=some (.func (.yield l) #[] #[])) (hargs:evs L args=some vs) (hy:YieldAt (FX none) 0 P l vs.toArray w E)
  (hE:∀ e w',E e w'→∃ v,e= .returned v∧∀ a',Fr n ds ((d,v)::L) a'→wpListIn (FX ro) 0 P ops.toArray Q rest a' w'):∀ a,Fr n ds L a→wpListIn (FX ro) 0 P ops.toArray Q (o::rest) a w:=by
 intro a hF
 obtain ⟨fn,tmps,assign,body,hy,hR⟩:=hy
 have hnd:CE o=true:=by rw[CE,ho]
 unfold wpListIn
 rw[if_pos (wantL_ok hF hw)]
 refine ⟨fun _ _=>trivial,?_⟩
 have e1:=hF.evs hargs
 have e2:=hF.ev hx
 have hrun:(execOp a.eval o).run P w= .ok (.round l fn tmps assign body) w:=by
  unfold execOp
  simp only[ho,resolve,e2,Deferred.ofValue,invoke]
  simp only[go_sem,List.map_toArray,e1,List.nil_append,List.append_nil,hy]
  simpa using hy
 rw[show (FX ro).round=ro from rfl,L7 o hnd,hrun,Oper.uponIn_round]
 refine ⟨fun q=>(by cases q),RoundIn.mono (show RoundIn (FX ro) 0 P l fn tmps assign body w E from hR) fun e w' q=> ?_⟩
 obtain ⟨v,rfl,hK⟩:=hE e w' q
 simp only[hd]
 exact hK _ (hF.put d v hlt)
end steps
end
/-! ### An iterator -/
def It (P:Program) (gf:FuncId) (lb:List Value) (pre:List Ae) (vs:List (List Value)):Prop:=
 ∀ (z:World) (l:Nat) (J:Nat→List Ae),(∀ i v,vs[i]? =some v→∀ w,Sep z (pre++J i) w→YieldAt (FX none) 0 P l v.toArray w (fun e w'=>e= .returned (.bool true)∧Sep z (pre++J (i+1)) w'))→
  ∀ w,Sep z (pre++J 0) w→CallsIn (FX none) 0 P gf (#[Value.func (.yield l) #[] #[]]++lb.toArray) w (fun e w'=>(∃ v,e= .returned v)∧Sep z (pre++J vs.length) w')
theorem IM {P:Program} {gf:FuncId} {fn:Func} {c:Code} {args:List Value} {w:World} {T:World→Prop} (hf:P.funcs[gf]? =some fn) (hb:fn.body=some c) (hr:fn.results= #[]) (n:Nat) (hn:fn.ntmps=n) (hlen:Nat.ble args.length n=true)
  (h:∀ a,Fr n [] (first 0 args) a→RW P none c (Qp (fun a w=>a.defers=[]∧T w) Hj (fun a w=>a.defers=[]∧T w)) a w):CallsIn (FX none) 0 P gf args.toArray w (fun e w'=>(∃ v,e= .returned v)∧T w'):=by
 refine callsIn_of_wp hf hb trivial (wpIn_mono (h _ (by rw[hn];exact Fr.start args n (by simpa using hlen))) fun e a w q=> ?_) rfl
 cases e with
 | normal=>exact ⟨q.1,.tuple #[],by simp[results,hr,go_sem],⟨_,rfl⟩,q.2⟩
 | ret=>exact ⟨q.1,.tuple #[],by simp[results,hr,go_sem],⟨_,rfl⟩,q.2⟩
 | exit id=>exact q.elim
 | goto l=>exact q.elim
 | panic ch=>exact q.elim
 | outgrown=>exact q.elim
def mark (D:Nat):Deferred:= { target:= .collected D,args:= #[] }
def BK (st:LoopState) (fn:FuncId) (tmps:Array Value) (t:Nat) (assign body:Code) (D:Nat):Obj:= .loop { state:=st,pending:=none,fn,tmps,params:= #[t],assign,body,defers:=D }
theorem Sep.setObj {z w:World} {Γ:List Ae} (i:Nat) {b:Nat} {o:Obj} (o':Obj) (H:Sep z Γ w) (hA:Γ[i]? =some (YtjegbnfpodadcaaGreatDoor.bk b o)):Sep z (Γ.set i (YtjegbnfpodadcaaGreatDoor.bk b o')) (w.putObj b o'):=by
 have hb:=H.bk i hA
 have hlt:b<w.heap.size:=(Array.getElem?_eq_some_iff.1 hb).1
 exact H.write i hA rfl rfl rfl (World.putObj_heap_same hlt) (fun k hk=>World.putObj_heap_other hk)
theorem U7 {P:Program} {N R:Act→World→Prop} {X:Nat→Act→World→Prop} {z w:World} {n:Nat} {ds:List Deferred} {L:List (Nat×Value)} {g:Operand} {t:Nat} {assign body:Code} {gf:FuncId} {lb:List Value} {pre:List Ae} {vs:List Value}
  (J:Nat→List Ae) (hg:ev L g=some (.func (.func gf) #[] lb.toArray)) (eg:∀ args w,(callFunc gf args).run P w= .ok (.enter gf args) w) (ht:Nat.blt t n=true) (hit:It P gf lb pre (vs.map fun v=>[v])) (H:Sep z (J 0++pre) w)
  (hround:∀ (ro:Option Nat) (i:Nat) (v:Value),vs[i]? =some v→∀ w a,Fr n [] ((t,v)::L) a→
   RW P ro assign (Qp (fun a1 w1=>w1=w∧∀ (F:List Ae) (w:World),Sep z (J i++(pre++F)) w→RW P ro body (Qp (fun _ w3=>Sep z (J (i+1)++(pre++F)) w3) Hj (fun _ _=>False)) a1 w) Hj (fun _ _=>False)) a w)
  (K:∀ D w',Sep z (YtjegbnfpodadcaaGreatDoor.bk D (.deferred (some []))::(J vs.length++pre)) w'→∀ a,Fr n (mark D::ds) L a→N a w'):
  ∀ a,Fr n ds L a→(Code.rangeFunc g #[t] assign body).wp P (Qp N X R) a w:=by
 intro a hF
 refine (wpIn_wide (n:=0)).1 ?_
 refine wpIn_rangeFunc ?_
 intro fn _
 have hro:Fence.wide.round=none:=rfl
 rw[hro]
 obtain ⟨W1,hW1⟩:∃ W1,(w.alloc (.deferred (some []))).alloc (BK .ready fn a.tmps t assign body w.heap.size)=W1:=⟨_,rfl⟩
 obtain ⟨D,hD⟩:∃ D,D=w.heap.size:=⟨_,rfl⟩
 obtain ⟨T,hT⟩:∃ T:List Ae,T=[YtjegbnfpodadcaaGreatDoor.bk D (.deferred (some [])),YtjegbnfpodadcaaGreatDoor.bk (D+1) (BK .ready fn a.tmps t assign body D)]:=⟨_,rfl⟩
 have H1:Sep z (pre++(T++J 0)) W1:=by
  have h1:=H.new (b:=w.heap.size) (o:= .deferred (some [])) (CQ w (.deferred (some []))) (Nat.le_refl _) (by show (w.heap.push _)[w.heap.size]? =_;simp)
  have h2:=h1.new (b:=w.heap.size+1) (o:=BK .ready fn a.tmps t assign body w.heap.size) (CQ _ (BK .ready fn a.tmps t assign body w.heap.size)) (by simp) (by
   show ((w.heap.push _).push _)[w.heap.size+1]? =_
   rw[Array.getElem?_push,if_pos (by simp)])
  have h3:Sep z (YtjegbnfpodadcaaGreatDoor.bk (w.heap.size+1) (BK .ready fn a.tmps t assign body w.heap.size)::YtjegbnfpodadcaaGreatDoor.bk w.heap.size (.deferred (some []))::(J 0++pre)) W1:=hW1▸h2
  have h4:=(h3.pick 2 [1,0] rfl)
  have h5:Sep z (T++(J 0++pre)) W1:=by rw[hT,hD];exact h4
  exact (Sep.swap (As:=T++J 0) (Bs:=pre) (by rw[List.append_assoc];exact h5))
 refine ⟨w.heap.size+1,[mark w.heap.size],W1,{ target:= .fn (.func gf) lb.toArray,args:= #[.func (.yield (w.heap.size+1)) #[] #[]] },W1,gf,#[.func (.yield (w.heap.size+1)) #[] #[]]++lb.toArray,W1,?_,?_,fun _ _=>trivial,?_,fun q=>(by cases q),?_⟩
 ·rw[←hW1];exact run_enterLoop_outer _ _ _ _ _
 ·simp only[resolve,hF.ev hg]
  simp[go_sem]
 ·simp[invoke,go_sem,eg]
 ·rw[←hD] at hW1 ⊢
  have back:∀ {i:Nat} {w:World},Sep z (pre++(T++J i)) w→Sep z (YtjegbnfpodadcaaGreatDoor.bk D (.deferred (some []))::YtjegbnfpodadcaaGreatDoor.bk (D+1) (BK .ready fn a.tmps t assign body D)::(J i++pre)) w:=fun h=>by
   have:=h.swap
   rw[List.append_assoc,hT] at this
   exact this
  have forth:∀ (i:Nat) (w:World),Sep z (YtjegbnfpodadcaaGreatDoor.bk D (.deferred (some []))::YtjegbnfpodadcaaGreatDoor.bk (D+1) (BK .ready fn a.tmps t assign body D)::(J i++pre)) w→Sep z (pre++(T++J i)) w:=fun i w h=>by
   have h':Sep z (T++(J i++pre)) w:=by rw[hT];exact h
   exact (Sep.swap (As:=T++J i) (Bs:=pre) (by rw[List.append_assoc];exact h'))
  have key:=hit z (D+1) (fun i=>T++J i) ?_ W1 H1
  ·refine CallsIn.mono (show CallsIn Fence.wide 0 P gf _ W1 _ from key) ?_
   rintro e w2 ⟨⟨v,rfl⟩,H2⟩
   simp only[List.length_map] at H2
   have H2:=back H2
   refine ⟨none,_,run_endLoop (H2.bk 1 rfl) (by simp),?_⟩
   refine K D _ ?_ _ ⟨hF.size,by show [mark D]++a.defers=_;rw[hF.defers];rfl,hF.get⟩
   have H3:=H2.setObj 1 (.loop { state:= .exhausted,pending:=none,fn,tmps:=a.tmps,params:= #[t],assign,body,defers:=D }) rfl
   exact H3.pick 2 [0] rfl
  ·intro i v hv w2 H2
   rw[List.getElem?_map] at hv
   obtain ⟨u,hu,rfl⟩:=Option.map_eq_some_iff.1 hv
   have H2:=back H2
   have hy:=run_yield (P:=P) (args:=[u].toArray) (H2.bk 1 rfl) (by simp)
   refine ⟨fn,_,assign,body,hy,?_⟩
   refine roundIn_of_wpIn (F:=FX none) trivial ?_
   have hFr:Fr n [] ((t,u)::L) { tmps:=(((#[t]:Array Tmp).zip [u].toArray).foldl (fun tmps (x:Tmp×Value)=>tmps.setIfInBounds x.1 x.2) a.tmps),defers:=[] } :=by
    have h0:Fr n [] L { tmps:=a.tmps,defers:=[] } :=⟨hF.size,rfl,hF.get⟩
    have:=h0.put t u ht
    simpa [Act.put] using this
   have hr:=hround (some (D+1)) i u hu w2 _ hFr
   refine wpIn_mono (show assign.wpIn ((FX none).inRound (D+1)) 0 P _ _ w2 from hr) ?_
   intro e a1 w1 q
   cases e with
   | normal=>
    obtain ⟨rfl,hbody⟩:=q
    refine ⟨_,run_beginRound (H2.bk 1 rfl) rfl,?_⟩
    have H3:=H2.setObj 1 (BK .busy fn a.tmps t assign body D) rfl
    have H4:Sep z ([YtjegbnfpodadcaaGreatDoor.bk D (.deferred (some [])),YtjegbnfpodadcaaGreatDoor.bk (D+1) (BK .busy fn a.tmps t assign body D)]++(J i++pre)) _:=H3
    have H5:=H4.swap
    rw[List.append_assoc] at H5
    refine wpIn_mono (show body.wpIn ((FX none).inRound (D+1)) 0 P _ _ _ from hbody _ _ H5) ?_
    intro e a3 w3 q3
    cases e with
    | normal=>
     have H6:Sep z (J (i+1)++(pre++[YtjegbnfpodadcaaGreatDoor.bk D (.deferred (some [])),YtjegbnfpodadcaaGreatDoor.bk (D+1) (BK .busy fn a.tmps t assign body D)])) w3:=q3
     rw[←List.append_assoc] at H6
     have H7:Sep z (YtjegbnfpodadcaaGreatDoor.bk D (.deferred (some []))::YtjegbnfpodadcaaGreatDoor.bk (D+1) (BK .busy fn a.tmps t assign body D)::(J (i+1)++pre)) w3:=H6.swap
     refine ⟨_,_,run_endRound none (H7.bk 1 rfl),rfl,forth _ _ ?_⟩
     exact H7.setObj 1 (BK .ready fn a.tmps t assign body D) rfl
    | exit id=>exact q3.elim
    | ret=>exact q3.elim
    | goto l=>exact q3.elim
    | panic ch=>exact q3.elim
    | outgrown=>exact q3.elim
   | exit id=>exact q.elim
   | ret=>exact q.elim
   | goto l=>exact q.elim
   | panic ch=>exact q.elim
   | outgrown=>exact q.elim
/-! ### A function that holds such a range -/
def Jj (P:Program) (fn:Func) (R:Value→World→Prop) (a:Act) (w:World):Prop:=
 (a.defers=[]∧∃ v,(results fn a.tmps).run P w= .ok v w∧R v w)∨∃ D w',a.defers=[mark D]∧(Instr.takeDeferred D).run P w= .ok [] w'∧∃ v,(results fn a.tmps).run P w'= .ok v w'∧R v w'
theorem L9 {P:Program} {f:FuncId} {fn:Func} {c:Code} {args:List Value} {w:World} {R:Value→World→Prop} (hf:P.funcs[f]? =some fn) (hb:fn.body=some c) (n:Nat) (hn:fn.ntmps=n) (hlen:Nat.ble args.length n=true)
  (h:∀ a,Fr n [] (first 0 args) a→c.wp P (Qp (Jj P fn R) Hj (Jj P fn R)) a w):Calls P f args.toArray w (Ret R):=by
 refine (callsIn_wide (n:=0)).1 (callsIn_of_wp_marks hf hb trivial (wpIn_mono ((wpIn_wide (n:=0)).2 (h _ (by rw[hn];exact Fr.start args n (by simpa using hlen)))) fun e a w q=> ?_) rfl)
 have fin:Jj P fn R a w→LeavesInM Fence.wide 0 P fn a.tmps (Ret R) a.defers .returning w:=fun q=>by
  rcases q with ⟨hd,v,hr,hR⟩|⟨D,w',hd,ht,v,hr,hR⟩
  ·rw[hd];exact ⟨v,hr,hR⟩
  ·rw[hd]
   exact ⟨by simp,.inl ⟨D,w',rfl,ht,v,hr,hR⟩⟩
 cases e with
 | normal=>exact fin q
 | ret=>exact fin q
 | exit id=>exact q.elim
 | goto l=>exact q.elim
 | panic ch=>exact q.elim
 | outgrown=>exact q.elim
theorem Mc {P:Program} {fn:Func} {R:Value→World→Prop} {n:Nat} {L:List (Nat×Value)} {w:World} {rs:List ResultVar} (hr:fn.results=rs.toArray) (vs:List Value) (hv:Ed P L w rs vs) {v:Value} (he:F8 vs=v) (h:R v w):∀ a,Fr n [] L a→Jj P fn R a w:=fun a hF=> .inl (F9 hr vs hv he h a hF)
theorem Md {P:Program} {fn:Func} {R:Value→World→Prop} {n D:Nat} {L:List (Nat×Value)} {z w:World} {Γ:List Ae} (H:Sep z (YtjegbnfpodadcaaGreatDoor.bk D (.deferred (some []))::Γ) w) {rs:List ResultVar} (hr:fn.results=rs.toArray) (vs:List Value) (hv:∀ w,Ed P L w rs vs) {v:Value} (he:F8 vs=v) (h:∀ w,Sep z Γ w→R v w):∀ a,Fr n [mark D] L a→Jj P fn R a w:=fun a hF=>
 .inr ⟨D,w.putObj D (.deferred none),hF.defers,run_takeDeferred (H.bk 0 rfl),v,by rw[←he];exact Gn hF hr (hv _),h _ ((H.setObj 0 (.deferred none) rfl).pick 1 [] rfl)⟩
end
section
open Go.RowKit
def FS (r m clk:Nat) (seen:List Nat):Ae:=bk r (.mapIter (some m) clk seen.toArray clk)
def BU (l:List IE) (seen:List Nat):List IE:=l.filter fun p=> !seen.contains p.2.2
theorem CB {l:List IE} {seen:List Nat} {p:IE} (h:p∈BU l seen):p∈l∧p.2.2∉seen:=by
 simpa [BU] using h
theorem Qo (l:List IE) (seen:List Nat):(l.map B5).toArray.filter (fun e=> !seen.toArray.contains e.born)=((BU l seen).map B5).toArray:=by
 simp[BU,List.filter_map,Function.comp_def];rfl
theorem DY {l:List IE} {seen:List Nat} {p:IE} (h:p∈BU l seen):(BU l (seen++[p.2.2])).length<(BU l seen).length:=by
 obtain ⟨h1,h2⟩:=CB h
 unfold BU
 refine filter_lt _ _ (fun x hx=> ?_) p ?_ ?_ l h1
 ·simp only[List.contains_eq_mem,List.mem_append,Bool.not_eq_true',decide_eq_false_iff_not,not_or] at hx ⊢;exact hx.1
 ·simpa using h2
 ·simp
def Qq:Option IE→Value
 | none=> .tuple #[.bool false]
 | some p=> .tuple #[.bool true,.int .i64 p.1,p.2.1]
def IA (seen:List Nat):Option IE→List Nat
 | none=>seen
 | some p=>seen++[p.2.2]
def Zx (l:List IE) (seen:List Nat):Option IE→Prop
 | none=>BU l seen=[]
 | some p=>p∈BU l seen
section
variable {P:Program} {C:World→Prop} {o:Oper} {w z:World} {Γ:List Ae} {n:Nat} {ds:List Deferred} {L:List (Nat×Value)} {x y:Operand}
theorem NA {r m clk:Nat} {seen:List Nat} {l:List IE} (hr:w.heap[r]? =some (.mapIter (some m) clk seen.toArray clk)) (hm:w.heap[m]? =some (.map (l.map B5).toArray clk)) (hold:∀ p∈l,p.2.2<clk) (ty:TypeId):
  ∃ q:Option IE,Zx l seen q∧∃ w1:World,(w1=w∨w1=w.drew)∧(Instr.next (Pt_ r) false ty).run P w= .ok (Qq q) { w1 with heap:=w1.heap.setIfInBounds r (.mapIter (some m) clk (IA seen q).toArray clk) } :=by
 have hlt:r<w.heap.size:=(Array.getElem?_eq_some_iff.1 hr).1
 have hE:∀ x∈(l.map B5).toArray.toList,x.born<clk:=fun x hx=>by
  simp only[List.mem_map] at hx
  obtain ⟨p,hp,rfl⟩:=hx
  exact hold p hp
 simp only[Instr.next,getObj,Sem.run_bind,Sem.run,hr,hm,Result.andThen,next_test_false seen.toArray _ clk clk hE (Nat.le_refl _),Bool.false_eq_true,if_false]
 rw[Qo]
 have hmem:∀ p∈BU l seen,p.2.2<clk:=fun p hp=>hold p (CB hp).1
 generalize hG:BU l seen=G at hmem
 have e1:((G.map B5).toArray).filter (fun x=>decide (x.born<clk))=(G.map B5).toArray:=Array.filter_eq_self.2 (fun x hx=>by
  simp only[List.mem_toArray,List.mem_map] at hx
  obtain ⟨p,hp,rfl⟩:=hx
  exact decide_eq_true (hmem p hp))
 have e2:((G.map B5).toArray).filter (fun x=>decide (x.born≥clk))= #[]:=by
  rw[Array.filter_eq_empty_iff]
  intro x hx
  simp only[List.mem_toArray,List.mem_map] at hx
  obtain ⟨p,hp,rfl⟩:=hx
  have:=hmem p hp
  simp[B5];omega
 simp only[e1,e2,Array.append_empty]
 have same:∀ u:World,u.heap=w.heap→({ u with heap:=u.heap.setIfInBounds r (.mapIter (some m) clk seen.toArray clk) } :World)=u:=fun u hu=>by
  have:u.heap.setIfInBounds r (.mapIter (some m) clk seen.toArray clk)=u.heap:=by
   rw[hu];apply Array.ext_getElem?;intro k
   rw[Array.getElem?_setIfInBounds]
   split
   ·rename_i e;subst e;exact hr.symm
   ·rfl
  rw[this]
 cases G with
 | nil=>
  refine ⟨none,hG,w,.inl rfl,?_⟩
  show _=Result.ok _ ({ w with heap:=w.heap.setIfInBounds r (.mapIter (some m) clk seen.toArray clk) } :World)
  rw[same w rfl]
  simp[choose,Sem.run,Question.forced,Qq]
 | cons p0 G=>
  have hne:((((p0::G).map B5).toArray).isEmpty)=false:=by simp[Array.isEmpty]
  simp only[hne,Bool.false_eq_true,if_false,Array.empty_append,Array.size_map]
  generalize hK:(p0::G)=K at hG
  have hKl:0<K.length:=by rw[←hK];simp
  have hch:∃ (j:Nat) (w1:World),j<K.length∧(w1=w∨w1=w.drew)∧(choose (Question.mapNext ((K.map B5).toArray).size)).run P w= .ok j w1:=by
   by_cases hf:((K.map B5).toArray).size≤1
   ·exact ⟨0,w,by omega,.inl rfl,by simp only[choose,Sem.run,Question.forced,hf,decide_true,if_true]⟩
   ·rw[List.size_toArray,List.length_map] at hf ⊢
    exact ⟨(Question.mapNext K.length).cut (w.tape w.drawn (Question.mapNext K.length)),w.drew,Nat.mod_lt _ hKl,.inr rfl,by
     simp only[choose,Sem.run,Question.forced,decide_eq_true_eq,hf,if_false,Bool.false_eq_true];rfl⟩
  obtain ⟨j,w1,hj,hal,hrun⟩:=hch
  have hw1:w1.heap=w.heap:=by rcases hal with rfl|rfl<;>rfl
  refine ⟨some K[j],by show K[j]∈BU l seen;rw[hG];exact List.getElem_mem hj,w1,hal,?_⟩
  have hset:∀ o':Obj,(setObj r o').run P w1= .ok () { w1 with heap:=w1.heap.setIfInBounds r o' } :=fun o'=>by
   simp[setObj,Sem.run,hw1,hr]
  have hjg:((K.map B5).toArray)[j]? =some (B5 K[j]):=by simp[hj]
  simp only[hrun,Array.getElem?_map,hjg,Option.map_some,Sem.run_bind,hset,Result.andThen]
  simp[Qq,IA,B5,Sem.run]
theorem GC (j:Nat) {t e:TypeId} {m clk:Nat} {l:List IE} (H:Sep z Γ w) (hj:Γ[j]? =some (Ay m l clk)) (ho:o.op= .range t x) (ht:Ee P t=some e) (hx:ev L x=some (.map (some m))):
  B8 P n ds L o w (fun v w'=>∃ r,v=Pt_ r∧Sep z (FS r m clk []::Γ) w'):=fun a hF=>by
 obtain ⟨kt,ik,h1,h2⟩:=Dr ht
 refine ⟨_,_,?_,w.heap.size,rfl,H.new (CQ w (.mapIter (some m) clk #[] clk)) (Nat.le_refl _) (by show (w.heap.push _)[w.heap.size]? =_;simp)⟩
 simp only[execOp,ho,hF.ev hx,Sem.run_bind,run_range_map w t kt e m _ clk h1 (H.bk j hj),Result.andThen_ok,Sem.run_pure]
 rfl
theorem HB (i j:Nat) {r m clk:Nat} {l:List IE} {seen:List Nat} (H:Sep z Γ w) (hi:Γ[i]? =some (FS r m clk seen)) (hj:Γ[j]? =some (Ay m l clk)) (ho:o.op= .next x false) (hx:ev L x=some (Pt_ r)) (hold:∀ p∈l,p.2.2<clk):
  B8 P n ds L o w (fun v w'=>∃ q:Option IE,v=Qq q∧Zx l seen q∧Sep z (Γ.set i (FS r m clk (IA seen q))) w'):=fun a hF=>by
 have hr:=H.bk i hi
 obtain ⟨q,hq,w1,hw1,hrun⟩:=NA (P:=P) hr (H.bk j hj) hold o.type
 have hlt:r<w.heap.size:=(Array.getElem?_eq_some_iff.1 hr).1
 have hw:w1.heap=w.heap∧w1.os=w.os∧w1.tape=w.tape∧w1.output=w.output:=by rcases hw1 with rfl|rfl<;>exact ⟨rfl,rfl,rfl,rfl⟩
 refine ⟨_,{ w1 with heap:=w1.heap.setIfInBounds r (.mapIter (some m) clk (IA seen q).toArray clk) },?_,q,rfl,hq,H.write i hi hw.2.1 hw.2.2.1 hw.2.2.2 (o':= .mapIter (some m) clk (IA seen q).toArray clk) (by show (w1.heap.setIfInBounds r _)[r]? =_;rw[hw.1];simp[hlt]) (fun k hk=>by show (w1.heap.setIfInBounds r _)[k]? =_;rw[hw.1];rw[Array.getElem?_setIfInBounds_ne (Ne.symm hk)])⟩
 simp only[execOp,ho,hF.ev hx,Sem.run_bind,hrun,Result.andThen_ok,Sem.run_pure]
theorem Jk {q:Option IE} (ho:o.op= .extract x 0) (hx:ev L x=some (Qq q)):Ao P C n ds L o (.bool q.isSome):=by
 cases q with
 | none=>exact EC ho hx rfl
 | some p=>exact EC ho hx rfl
theorem GD {r m clk:Nat} {l:List IE} {seen:List Nat} {p:IE} (ho:o.op= .entry x) (hx:ev L x=some (Pt_ r)) (hc:∀ w,C w→w.heap[r]? =some (.mapIter (some m) clk (seen++[p.2.2]).toArray clk)∧w.heap[m]? =some (.map (l.map B5).toArray clk)) (hp:p∈l) (hn:(l.map (·.2.2)).Nodup):
  Ao P C n ds L o (.tuple #[Iv_ p.1,p.2.1]):=fun a hF w hw=>by
 obtain ⟨hr,hm⟩:=hc w hw
 have hf:((l.map B5).toArray).find? (fun x=>x.born == p.2.2)=some (B5 p):=by
  rw[←Array.find?_toList]
  exact find_born (B5 p) _ (by simpa [Function.comp_def,B5] using hn) (List.mem_map_of_mem hp)
 simp only[execOp,ho,hF.ev hx,Instr.entry,getObj,Sem.run_bind,Sem.run,hr,hm,Result.andThen,←List.push_toArray,Array.back?_push,bne_self_eq_false,Bool.false_eq_true,if_false,hf]
 rfl
theorem HX (i:Nat) {t e:TypeId} {m clk:Nat} {l:List IE} (H:Sep z Γ w) (hi:Γ[i]? =some (Ay m l clk)) (ho:o.op= .call { callee:= .builtin .clear,args:= #[x],argTypes:= #[t] }) (ht:Ee P t=some e) (hx:ev L x=some (.map (some m))):
  B8 P n ds L o w (fun v w'=>v= .tuple #[]∧Sep z (Γ.set i (Ay m [] clk)) w'):=fun a hF=>by
 obtain ⟨kt,ik,h1,h2⟩:=Dr ht
 have hmb:w.heap[m]? =some (.map (l.map B5).toArray clk):=H.bk i hi
 have hlt:m<w.heap.size:=(Array.getElem?_eq_some_iff.1 hmb).1
 have main:(Builtin.clear_ #[t] o.type #[.map (some m)]).run P w= .ok (.tuple #[]) { w with heap:=w.heap.setIfInBounds m (.map #[] clk) } :=by
  simp[Builtin.clear_,run_underlying h1,getObj,setObj,Sem.run,hmb]
 refine ⟨_,{ w with heap:=w.heap.setIfInBounds m (.map #[] clk) },?_,rfl,H.write i hi rfl rfl rfl (by show (w.heap.setIfInBounds m (.map #[] clk))[m]? =_;simp[hlt]) (fun q hq=>by show (w.heap.setIfInBounds m _)[q]? =_;rw[Array.getElem?_setIfInBounds_ne (Ne.symm hq)])⟩
 simp only[execOp,ho,resolve,invoke,builtin,Sem.run_bind,Sem.run_pure,Result.andThen_ok,List.map_toArray,List.map_cons,List.map_nil,hF.ev hx,main]
end
def Uw (P:Program) (gf:FuncId) (lb:List Value) (pre:List Ae) {σ:Type} (stp:σ→Value→σ→Prop) (s0:σ) (fin:σ→Prop):Prop:=
 ∀ (z:World) (l:Nat) (J:σ→List Ae),(∀ s v s' F,stp s v s'→∀ w,Sep z (pre++(F++J s)) w→YieldAt (FX none) 0 P l #[v] w (fun e w'=>e= .returned (.bool true)∧Sep z (pre++(F++J s')) w'))→
  ∀ w,Sep z (pre++J s0) w→CallsIn (FX none) 0 P gf (#[Value.func (.yield l) #[] #[]]++lb.toArray) w (fun e w'=>(∃ v,e= .returned v)∧∃ s,fin s∧Sep z (pre++J s) w')
theorem Me {P:Program} {N R:Act→World→Prop} {X:Nat→Act→World→Prop} {z w:World} {n:Nat} {ds:List Deferred} {L:List (Nat×Value)} {g:Operand} {t:Nat} {assign body:Code} {gf:FuncId} {lb:List Value} {pre:List Ae} {σ:Type} {stp:σ→Value→σ→Prop} {s0:σ} {fin:σ→Prop}
  (J:σ→List Ae) (hg:ev L g=some (.func (.func gf) #[] lb.toArray)) (eg:∀ args w,(callFunc gf args).run P w= .ok (.enter gf args) w) (ht:Nat.blt t n=true) (hit:Uw P gf lb pre stp s0 fin) (H:Sep z (J s0++pre) w)
  (hround:∀ (ro:Option Nat) (i:σ) (v:Value) (i':σ),stp i v i'→∀ w a,Fr n [] ((t,v)::L) a→
   RW P ro assign (Qp (fun a1 w1=>w1=w∧∀ (F:List Ae) (w:World),Sep z (J i++(pre++F)) w→RW P ro body (Qp (fun _ w3=>Sep z (J i'++(pre++F)) w3) Hj (fun _ _=>False)) a1 w) Hj (fun _ _=>False)) a w)
  (K:∀ D w' s,fin s→Sep z (YtjegbnfpodadcaaGreatDoor.bk D (.deferred (some []))::(J s++pre)) w'→∀ a,Fr n (mark D::ds) L a→N a w'):
  ∀ a,Fr n ds L a→(Code.rangeFunc g #[t] assign body).wp P (Qp N X R) a w:=by
 intro a hF
 refine (wpIn_wide (n:=0)).1 ?_
 refine wpIn_rangeFunc ?_
 intro fn _
 have hro:Fence.wide.round=none:=rfl
 rw[hro]
 obtain ⟨W1,hW1⟩:∃ W1,(w.alloc (.deferred (some []))).alloc (BK .ready fn a.tmps t assign body w.heap.size)=W1:=⟨_,rfl⟩
 obtain ⟨D,hD⟩:∃ D,D=w.heap.size:=⟨_,rfl⟩
 obtain ⟨T,hT⟩:∃ T:List Ae,T=[YtjegbnfpodadcaaGreatDoor.bk D (.deferred (some [])),YtjegbnfpodadcaaGreatDoor.bk (D+1) (BK .ready fn a.tmps t assign body D)]:=⟨_,rfl⟩
 have H1:Sep z (pre++(T++J s0)) W1:=by
  have h1:=H.new (b:=w.heap.size) (o:= .deferred (some [])) (CQ w (.deferred (some []))) (Nat.le_refl _) (by show (w.heap.push _)[w.heap.size]? =_;simp)
  have h2:=h1.new (b:=w.heap.size+1) (o:=BK .ready fn a.tmps t assign body w.heap.size) (CQ _ (BK .ready fn a.tmps t assign body w.heap.size)) (by simp) (by
   show ((w.heap.push _).push _)[w.heap.size+1]? =_
   rw[Array.getElem?_push,if_pos (by simp)])
  have h3:Sep z (YtjegbnfpodadcaaGreatDoor.bk (w.heap.size+1) (BK .ready fn a.tmps t assign body w.heap.size)::YtjegbnfpodadcaaGreatDoor.bk w.heap.size (.deferred (some []))::(J s0++pre)) W1:=hW1▸h2
  have h4:=(h3.pick 2 [1,0] rfl)
  have h5:Sep z (T++(J s0++pre)) W1:=by rw[hT,hD];exact h4
  exact (Sep.swap (As:=T++J s0) (Bs:=pre) (by rw[List.append_assoc];exact h5))
 refine ⟨w.heap.size+1,[mark w.heap.size],W1,{ target:= .fn (.func gf) lb.toArray,args:= #[.func (.yield (w.heap.size+1)) #[] #[]] },W1,gf,#[.func (.yield (w.heap.size+1)) #[] #[]]++lb.toArray,W1,?_,?_,fun _ _=>trivial,?_,fun q=>(by cases q),?_⟩
 ·rw[←hW1];exact run_enterLoop_outer _ _ _ _ _
 ·simp only[resolve,hF.ev hg]
  simp[go_sem]
 ·simp[invoke,go_sem,eg]
 ·rw[←hD] at hW1 ⊢
  have back:∀ {G:List Ae} {i:σ} {w:World},Sep z (G++(T++J i)) w→Sep z (YtjegbnfpodadcaaGreatDoor.bk D (.deferred (some []))::YtjegbnfpodadcaaGreatDoor.bk (D+1) (BK .ready fn a.tmps t assign body D)::(J i++G)) w:=fun h=>by
   have:=h.swap
   rw[List.append_assoc,hT] at this
   exact this
  have forth:∀ (G:List Ae) (i:σ) (w:World),Sep z (YtjegbnfpodadcaaGreatDoor.bk D (.deferred (some []))::YtjegbnfpodadcaaGreatDoor.bk (D+1) (BK .ready fn a.tmps t assign body D)::(J i++G)) w→Sep z (G++(T++J i)) w:=fun G i w h=>by
   have h':Sep z (T++(J i++G)) w:=by rw[hT];exact h
   exact (Sep.swap (As:=T++J i) (Bs:=G) (by rw[List.append_assoc];exact h'))
  have key:=hit z (D+1) (fun i=>T++J i) ?_ W1 H1
  ·refine CallsIn.mono (show CallsIn Fence.wide 0 P gf _ W1 _ from key) ?_
   rintro e w2 ⟨⟨v,rfl⟩,s,hs,H2⟩
   have H2:=back H2
   refine ⟨none,_,run_endLoop (H2.bk 1 rfl) (by simp),?_⟩
   refine K D _ s hs ?_ _ ⟨hF.size,by show [mark D]++a.defers=_;rw[hF.defers];rfl,hF.get⟩
   have H3:=H2.setObj 1 (.loop { state:= .exhausted,pending:=none,fn,tmps:=a.tmps,params:= #[t],assign,body,defers:=D }) rfl
   exact H3.pick 2 [0] rfl
  ·intro i u i' F hu w2 H2
   rw[←List.append_assoc] at H2
   have H2:=back H2
   have hy:=run_yield (P:=P) (args:=[u].toArray) (H2.bk 1 rfl) (by simp)
   refine ⟨fn,_,assign,body,hy,?_⟩
   refine roundIn_of_wpIn (F:=FX none) trivial ?_
   have hFr:Fr n [] ((t,u)::L) { tmps:=(((#[t]:Array Tmp).zip [u].toArray).foldl (fun tmps (x:Tmp×Value)=>tmps.setIfInBounds x.1 x.2) a.tmps),defers:=[] } :=by
    have h0:Fr n [] L { tmps:=a.tmps,defers:=[] } :=⟨hF.size,rfl,hF.get⟩
    have:=h0.put t u ht
    simpa [Act.put] using this
   have hr:=hround (some (D+1)) i u i' hu w2 _ hFr
   refine wpIn_mono (show assign.wpIn ((FX none).inRound (D+1)) 0 P _ _ w2 from hr) ?_
   intro e a1 w1 q
   cases e with
   | normal=>
    obtain ⟨rfl,hbody⟩:=q
    refine ⟨_,run_beginRound (H2.bk 1 rfl) rfl,?_⟩
    have H3:=H2.setObj 1 (BK .busy fn a.tmps t assign body D) rfl
    have H4:Sep z ([YtjegbnfpodadcaaGreatDoor.bk D (.deferred (some [])),YtjegbnfpodadcaaGreatDoor.bk (D+1) (BK .busy fn a.tmps t assign body D)]++(J i++(pre++F))) _:=H3
    have H5:=H4.swap
    rw[List.append_assoc,List.append_assoc] at H5
    refine wpIn_mono (show body.wpIn ((FX none).inRound (D+1)) 0 P _ _ _ from hbody _ _ H5) ?_
    intro e a3 w3 q3
    cases e with
    | normal=>
     have H6:Sep z (J i'++(pre++(F++[YtjegbnfpodadcaaGreatDoor.bk D (.deferred (some [])),YtjegbnfpodadcaaGreatDoor.bk (D+1) (BK .busy fn a.tmps t assign body D)]))) w3:=q3
     rw[←List.append_assoc pre,←List.append_assoc (J i')] at H6
     have H7:Sep z (YtjegbnfpodadcaaGreatDoor.bk D (.deferred (some []))::YtjegbnfpodadcaaGreatDoor.bk (D+1) (BK .busy fn a.tmps t assign body D)::(J i'++(pre++F))) w3:=H6.swap
     refine ⟨_,_,run_endRound none (H7.bk 1 rfl),rfl,?_⟩
     rw[←List.append_assoc];refine forth _ _ _ ?_
     exact H7.setObj 1 (BK .ready fn a.tmps t assign body D) rfl
    | exit id=>exact q3.elim
    | ret=>exact q3.elim
    | goto l=>exact q3.elim
    | panic ch=>exact q3.elim
    | outgrown=>exact q3.elim
   | exit id=>exact q.elim
   | ret=>exact q.elim
   | goto l=>exact q.elim
   | panic ch=>exact q.elim
   | outgrown=>exact q.elim
theorem Se {P:Program} {N R:Act→World→Prop} {X:Nat→Act→World→Prop} {z w:World} {n:Nat} {ds:List Deferred} {L:List (Nat×Value)} {g:Operand} {t:Nat} {assign body:Code} {gf:FuncId} {lb:List Value} {pre:List Ae} {σ:Type} {stp:σ→Value→σ→Prop} {s0:σ} {fin:σ→Prop}
  (J:σ→List Ae) (hg:ev L g=some (.func (.func gf) #[] lb.toArray)) (eg:∀ args w,(callFunc gf args).run P w= .ok (.enter gf args) w) (ht:Nat.blt t n=true) (hit:Uw P gf lb pre stp s0 fin) (H:Sep z (J s0++pre) w)
  (hround:∀ (ro:Option Nat) (i:σ) (v:Value) (i':σ),stp i v i'→∀ w a,Fr n [] ((t,v)::L) a→
   RW P ro assign (Qp (fun a1 w1=>w1=w∧∀ (F:List Ae) (w:World),Sep z (J i++F) w→RW P ro body (Qp (fun _ w3=>Sep z (J i'++F) w3) Hj (fun _ _=>False)) a1 w) Hj (fun _ _=>False)) a w)
  (K:∀ D w' s,fin s→Sep z (YtjegbnfpodadcaaGreatDoor.bk D (.deferred (some []))::(J s++pre)) w'→∀ a,Fr n (mark D::ds) L a→N a w'):
  ∀ a,Fr n ds L a→(Code.rangeFunc g #[t] assign body).wp P (Qp N X R) a w:=
 Me J hg eg ht hit H (fun ro i v i' h w a hF=>by
  refine wpIn_mono (hround ro i v i' h w a hF) ?_
  intro e a1 w1 q
  cases e with
  | normal=>exact ⟨q.1,fun F w hs=>q.2 _ w hs⟩
  | exit id=>exact q.elim
  | ret=>exact q.elim
  | goto l=>exact q.elim
  | panic c=>exact q.elim
  | outgrown=>exact q.elim) K
end
section
open Go.RowKit
section
variable {P:Program} {C:World→Prop} {o:Oper} {a:Act} {w z:World} {Γ:List Ae} {n:Nat} {ds:List Deferred} {L:List (Nat×Value)} {v:Value} {x y:Operand} {xt yt:TypeId} {f:FuncId} {args:List Operand} {vs:List Value} {tys:Array TypeId}
theorem N7 {w':World} (hF:Fr n ds L a) (ho:o.op= .call { callee:= .value (.func f),args:=args.toArray,argTypes:=tys }) (hargs:evs L args=some vs) (hr:(callFunc f vs.toArray).run P w= .ok (.value v) w'):(execOp a.eval o).run P w= .ok (.value v) w':=by
 unfold execOp
 have e:=hF.evs hargs
 simp only[ho,resolve,Act.eval,Deferred.ofValue,invoke]
 simp only[go_sem,List.map_toArray,e,List.nil_append,List.append_nil,hr]
 simpa using hr
theorem Gg (ho:o.op= .call { callee:= .value (.func f),args:=args.toArray,argTypes:=tys }) (hargs:evs L args=some vs) (hr:∀ w,C w→(callFunc f vs.toArray).run P w= .ok (.value v) w):Ao P C n ds L o v:=fun a hF w hw=>N7 hF ho hargs (hr w hw)
theorem O9 (i:Nat) {b p:Nat} {cs:List Value} {ty:TypeId} {u u0:Value} (H:Sep z Γ w) (hi:Γ[i]? =some (blk b cs ty)) (hp:cs[p]? =some u0) (ho:o.op= .call { callee:= .value (.func f),args:=args.toArray,argTypes:=tys }) (hargs:evs L args=some vs) (hu:u.oneCell'=true)
  (hr:w.cell? ⟨b,p,none⟩=some u0→w.frozen? ⟨b,p,none⟩=false→(callFunc f vs.toArray).run P w= .ok (.value v) (w.setCell ⟨b,p,none⟩ u)) {out:List Value} (hout:cs.set p u=out):B8 P n ds L o w (fun v' w'=>v'=v∧Sep z (Γ.set i (blk b out ty)) w'):=fun a hF=>by
 have hB:=H.blk i hi
 refine ⟨v,_,N7 hF ho hargs (hr (hB.cel p hp) (hB.free p)),rfl,?_⟩
 subst hout
 have hlt:=hB.lt
 have hb':w.heap[b]? =some (.cells cs.toArray ty (0,0)):=hB
 refine H.write i hi rfl rfl rfl ?_ (fun q hq=> ?_)
 ·simp only[World.setCell]
  rw[Array.getElem?_modify,if_pos rfl,hb']
  simp
 ·simp[World.setCell,Array.getElem?_modify,Ne.symm hq]
def Mf (P:Program) (s d:TypeId):Bool:=match P.underlying s,P.underlying d with
 | some (.pointer t),some .unsafePointer=>(match P.info? t with|some i=> !(decide (i.size=0))|none=>false)
 | _,_=>false
theorem Mg {dt:TypeId} {b p:Nat} {u:Value} (ho:o.op= .convert xt dt x) (h1:Mf P xt dt=true) (hx:ev L x=some (.pointer (some ⟨b,p,none⟩))) (hc:∀ w,C w→Ga b p u w):Ao P C n ds L o (.pointer (some ⟨b,p,none⟩)):=fun a hF w hw=>by
 unfold Mf at h1
 split at h1
 ·rename_i t hs hd
  split at h1
  ·rename_i i hi
   have hsz:(P.info? t).map (fun i=>decide (i.size=0))=some false:=by rw[hi];simpa using h1
   have:=run_convert_to_unsafe (P:=P) hs hd hsz (hc w hw)
   simp only[execOp,ho,hF.ev hx,Sem.run_bind,this,Result.andThen_ok,Sem.run_pure]
  ·cases h1
 ·cases h1
end
/-! ### Deferred calls -/
def Ux (P:Program) (f:FuncId) (args:List Value) (pre:List Ae) (post:Value→List Ae→Prop):Prop:=
 ∀ z R u w,Sep z (pre++R) w→CallsD P f args.toArray u w (fun e u' w'=>u'=u∧Ret (fun v w'=>∃ Γ',post v Γ'∧Sep z (Γ'++R) w') e w')
theorem Mh {P:Program} {f:FuncId} {fn:Func} {c:Code} {args:List Value} {u:FrameMode} {w:World} {R:Value→World→Prop} (hf:P.funcs[f]? =some fn) (hb:fn.body=some c) (n:Nat) (hn:fn.ntmps=n) (hlen:Nat.ble args.length n=true)
  (h:∀ a,Fr n [] (first 0 args) a→c.wp P (Qp (Fs P fn R) Hj (Fs P fn R)) a w):CallsD P f args.toArray u w (fun e u' w'=>u'=u∧Ret R e w'):=by
 refine callsD_of_wp hf hb (wp_mono (h _ (by rw[hn];exact Fr.start args n (by simpa using hlen))) fun e a w q=> ?_)
 cases e with
 | normal=>obtain ⟨hd,v,hr,hR⟩:=q;exact ⟨hd,v,hr,hR⟩
 | ret=>obtain ⟨hd,v,hr,hR⟩:=q;exact ⟨hd,v,hr,hR⟩
 | exit id=>exact q.elim
 | goto l=>exact q.elim
 | panic ch=>exact q.elim
 | outgrown=>exact q.elim
def HY (P:Program) (fn:Func) (R:Value→World→Prop) (a:Act) (w:World):Prop:=Leaves P fn a.tmps (Ret R) a.defers .returning w
theorem Qr {P:Program} {f:FuncId} {fn:Func} {c:Code} {args:List Value} {w:World} {R:Value→World→Prop} (hf:P.funcs[f]? =some fn) (hb:fn.body=some c) (n:Nat) (hn:fn.ntmps=n) (hlen:Nat.ble args.length n=true)
  (h:∀ a,Fr n [] (first 0 args) a→c.wp P (Qp (HY P fn R) Hj (HY P fn R)) a w):Calls P f args.toArray w (Ret R):=by
 refine calls_of_wp_defers hf hb (wp_mono (h _ (by rw[hn];exact Fr.start args n (by simpa using hlen))) fun e a w q=> ?_)
 cases e with
 | normal=>exact q
 | ret=>exact q
 | exit id=>exact q.elim
 | goto l=>exact q.elim
 | panic ch=>exact q.elim
 | outgrown=>exact q.elim
def dfr (f:FuncId) (vs:List Value):Deferred:= { target:= .fn (.func f) #[],args:=vs.toArray }
theorem FT {P:Program} {fn:Func} {tmps:Array Value} {Rr:Ending→World→Prop} {ds:List Deferred} {z w:World} {Γ pre R':List Ae} {post:Value→List Ae→Prop} {f:FuncId} {vs:List Value} (hr:∀ w,(callFunc f vs.toArray).run P w= .ok (.enter f vs.toArray) w)
  (hc:Ux P f vs pre post) (H:Sep z Γ w) (k:Nat) (is:List Nat) (hok:Fu k is=true) (e:C6 Γ is++Γ.drop k=pre++R') (K:∀ v w' Γ',post v Γ'→Sep z (Γ'++R') w'→Leaves P fn tmps Rr ds .returning w'):Leaves P fn tmps Rr (dfr f vs::ds) .returning w:=by
 refine leaves_cons (f:=f) (args:=vs.toArray) (by simp) (by simp[invoke,go_sem,hr]) ?_
 refine CallsD.mono (hc z R' .returning w (H.perm k is hok e)) fun e u' w' q=> ?_
 obtain ⟨rfl,q⟩:=q
 cases e with
 | returned v=>obtain ⟨Γ',q1,q2⟩:=q;exact K v w' Γ' q1 q2
 | panicked ch=>exact q.elim
 | outgrown=>exact q.elim
theorem Y6 {P:Program} {fn:Func} {R:Value→World→Prop} {tmps:Array Value} {w:World} (hr:fn.results= #[]) (h:R (.tuple #[]) w):Leaves P fn tmps (Ret R) [] .returning w:=⟨.tuple #[],by simp[results,hr,go_sem],h⟩
section
variable {P:Program} {ops:List Oper} {Q:Exit→Act→World→Prop} {w:World} {rest:List Oper} {o:Oper} {n:Nat} {ds:List Deferred} {L:List (Nat×Value)} {f:FuncId} {args:List Operand} {vs:List Value} {tys:Array TypeId}
theorem J6 (hw:BC ops L o.guard=true) (hd:o.dst=none) (ho:o.op= .defer { callee:= .value (.func f),args:=args.toArray,argTypes:=tys }) (hargs:evs L args=some vs)
  (K:∀ a',Fr n (dfr f vs::ds) L a'→wpList P ops.toArray Q rest a' w):∀ a,Fr n ds L a→wpList P ops.toArray Q (o::rest) a w:=by
 intro a hF
 unfold wpList
 rw[if_pos (wantL_ok hF hw)]
 left
 have e:=hF.evs hargs
 have hrun:(execOp a.eval o).run P w= .ok (.defer (dfr f vs)) w:=by
  unfold execOp
  simp only[ho,resolve,Act.eval,Deferred.ofValue,List.map_toArray,e]
  simp[go_sem,dfr]
 unfold Oper.wp
 rw[hrun,Oper.upon_defer,hd]
 exact K _ ⟨hF.size,by show dfr f vs::a.defers=_;rw[hF.defers],hF.get⟩
theorem U8 {z:World} {Γ pre R':List Ae} {post:Value→List Ae→Prop} {d:Nat} {x:Operand} {bs:List Value} (hw:BC ops L o.guard=true) (hd:o.dst=some d) (hlt:Nat.blt d n=true) (ho:o.op= .call { callee:= .value x,args:=args.toArray,argTypes:=tys }) (hx:ev L x=some (.func (.func f) bs.toArray #[])) (hargs:evs L args=some vs) (hr:∀ w,(callFunc f (bs++vs).toArray).run P w= .ok (.enter f (bs++vs).toArray) w)
  (hc:Cn P f (bs++vs) pre post) (H:Sep z Γ w) (k:Nat) (is:List Nat) (hok:Fu k is=true) (e:C6 Γ is++Γ.drop k=pre++R')
  (K:∀ v w' Γ',post v Γ'→Sep z (Γ'++R') w'→∀ a',Fr n ds ((d,v)::L) a'→wpList P ops.toArray Q rest a' w'):∀ a,Fr n ds L a→wpList P ops.toArray Q (o::rest) a w:=by
 intro a hF
 unfold wpList
 rw[if_pos (wantL_ok hF hw)]
 left
 have e1:=hF.evs hargs
 have e2:=hF.ev hx
 have hrun:(execOp a.eval o).run P w= .ok (.enter f (bs++vs).toArray) w:=by
  unfold execOp
  simp only[ho,resolve,e2,Deferred.ofValue,invoke]
  simp only[go_sem,List.map_toArray,e1,List.append_nil]
  simpa using hr w
 unfold Oper.wp
 rw[hrun,Oper.upon_enter]
 exact Calls.mono (hc.at H k is hok e) fun e w' q=>by
  cases e with
  | returned v=>obtain ⟨Γ',q1,q2⟩:=q;simp only[hd];exact K v w' Γ' q1 q2 _ (hF.put d v hlt)
  | panicked c=>exact q.elim
  | outgrown=>exact q.elim
end
end
section
open Go.RowKit
section
variable {P:Program} {C:World→Prop} {o:Oper} {w z:World} {Γ:List Ae} {n:Nat} {ds:List Deferred} {L:List (Nat×Value)} {x y:Operand}
theorem C7 {t e:TypeId} {m clk:Nat} {l:List IE} {k:Int} {zv:Value} (ho:o.op= .lookup t x y true) (ht:Ee P t=some e) (hz:(P.info? e).bind (·.zero)=some zv) (hx:ev L x=some (.map (some m))) (hy:ev L y=some (Iv_ k))
  (hm:∀ w,C w→w.heap[m]? =some (.map (l.map B5).toArray clk)):Ao P C n ds L o (.tuple #[(Cl l k).getD zv,.bool (Cm l k)]):=fun a hF w hw=>by
 obtain ⟨kt,ik,h1,h2⟩:=Dr ht
 have hz':(zeroValue e).run P w= .ok zv w:=by
  cases hi:P.info? e with
  | none=>rw[hi] at hz;cases hz
  | some i=>rw[hi] at hz;simp[zeroValue,typeInfo,hi,show i.zero=some zv from hz,go_sem]
 have hg:(getObj m).run P w= .ok (.map (l.map B5).toArray clk) w:=by simp[getObj,Sem.run,hm w hw]
 have hfg:=HS l k 0
 simp only[execOp,ho,hF.ev hx,hF.ev hy,Instr.lookup,Sem.run_bind,run_underlying h1,Result.andThen_ok,hg,Sem.run_pure,DL h2,List.toList_toArray,Ef h2]
 cases hf:fnd l k 0 with
 | none=>rw[hf] at hfg;simp[hz',Cm,←hfg,Sem.run_bind,Sem.run_pure]
 | some q=>rw[hf] at hfg;simp[Cm,←hfg,Sem.run_pure]
theorem Pa {t e:TypeId} {k:Int} {zv:Value} (ho:o.op= .lookup t x y true) (ht:Ee P t=some e) (hz:(P.info? e).bind (·.zero)=some zv) (hx:ev L x=some (.map none)) (hy:ev L y=some (Iv_ k)):Ao P C n ds L o (.tuple #[zv,.bool false]):=fun a hF w hw=>by
 obtain ⟨kt,ik,h1,h2⟩:=Dr ht
 have hz':(zeroValue e).run P w= .ok zv w:=by
  cases hi:P.info? e with
  | none=>rw[hi] at hz;cases hz
  | some i=>rw[hi] at hz;simp[zeroValue,typeInfo,hi,show i.zero=some zv from hz,go_sem]
 have hfk:=Ef (P:=P) h2 [] k w
 simp only[List.map_nil,fnd] at hfk
 simp only[execOp,ho,hF.ev hx,hF.ev hy,Instr.lookup,Sem.run_bind,run_underlying h1,Result.andThen_ok,Sem.run_pure,DL h2,hfk]
 simp[hz',Sem.run_bind,Sem.run_pure]
theorem Mi {t e:TypeId} {m clk:Nat} {l:List IE} (ho:o.op= .call { callee:= .builtin .len,args:= #[x],argTypes:= #[t] }) (ht:Ee P t=some e) (hx:ev L x=some (.map (some m))) (hm:∀ w,C w→w.heap[m]? =some (.map (l.map B5).toArray clk)):Ao P C n ds L o (Iv_ l.length):=fun a hF w hw=>by
 obtain ⟨kt,ik,h1,h2⟩:=Dr ht
 simp only[execOp,ho,hF.ev hx,resolve,List.map_toArray,List.map_cons,List.map_nil]
 simp[invoke,builtin,Builtin.len_,run_underlying h1,goInt,go_sem,getObj,Sem.run,hm w hw]
theorem Es {t:TypeId} {vs:List Value} {i:Int} {k:IntKind} {j m:Nat} {u:Value} (ho:o.op= .index t x y) (ht:HT P t=some m) (hx:ev L x=some (.agg vs.toArray)) (hm:vs.length=m) (hy:ev L y=some (.int k i)) (hij:i=j) (hv:vs[j]? =some u):Ao P C n ds L o u:=fun a hF w _=>by
 obtain ⟨e,i0,ht,hi,hz,hf⟩:=I9 ht
 subst hij
 have hj:j<vs.length:=(List.getElem?_eq_some_iff.1 hv).1
 have h1:(0:Int)≤(j:Int)∧(j:Int)<(m:Int):=by omega
 have hpart:(part e vs.toArray (j * 1)).run P w= .ok u w:=by
  simp only[part,Sem.run_bind,E4 hf,Result.andThen_ok,if_false,Bool.false_eq_true,Nat.mul_one,List.getElem?_toArray,hv,Sem.run_pure]
 have hso:(sizeOf e).run P w= .ok 1 w:=by simp[sizeOf,typeInfo,hi,hz,go_sem]
 simp only[execOp,ho,hF.ev hx,hF.ev hy,Instr.index,asIntOf,Sem.run_bind,Sem.run_pure,Result.andThen_ok,run_underlying ht,if_pos h1,Int.toNat_natCast,hso,hpart]
theorem FU {c:Code} {N R:Act→World→Prop} {X:Nat→Act→World→Prop} (m:Nat) (h:∀ a,Fr n ds L a→Code.rounds P c (Qp N X R) m a w):∀ a,Fr n ds L a→(Code.loop c).wp P (Qp N X R) a w:=fun a hF=>wp_loop_rounds m (h a hF)
theorem U9 {c:Code} {N R:Act→World→Prop} {X:Nat→Act→World→Prop} {m:Nat} (h:∀ a,Fr n ds L a→c.wp P (Qp (fun a w=>Code.rounds P c (Qp N X R) m a w) X R) a w):∀ a,Fr n ds L a→Code.rounds P c (Qp N X R) (m+1) a w:=fun a hF=>by
 rw[rounds_succ]
 refine wp_mono (h a hF) fun e a w q=> ?_
 cases e<;>exact q
theorem C5 {c:Code} {N R:Act→World→Prop} {X:Nat→Act→World→Prop} {m:Nat} (h:∀ a,Fr n ds L a→BA P (fun a w=>Code.rounds P c (Qp N X R) m a w) X R (.c c .fin) a w):∀ a,Fr n ds L a→Code.rounds P c (Qp N X R) (m+1) a w:=U9 h
end
theorem Pb {P:Program} {fn:Func} {R:Value→World→Prop} {n:Nat} {ds:List Deferred} {L:List (Nat×Value)} {a:Act} {w:World} (hF:Fr n ds L a) {rs:List ResultVar} (hr:fn.results=rs.toArray) (vs:List Value) (hv:Ed P L w rs vs) {v:Value} (he:F8 vs=v) (h:R v w):Leaves P fn a.tmps (Ret R) [] .returning w:=⟨v,by rw[←he];exact Gn hF hr hv,h⟩
end
open Go.RowKit
def Bw (F:Nat→Bool):List Value:=(List.range 16).map fun k=>u64 (bw F k)
theorem Be (F:Nat→Bool):(Bw F).length=16:=by simp[Bw]
theorem wsV_at (F:Nat→Bool) {k:Nat} (hk:k<16):(Bw F)[k]? =some (u64 (bw F k)):=by simp[Bw,hk]
theorem wsV_one (F:Nat→Bool):∀ u∈Bw F,u.oneCell'=true:=fun u h=>by
 simp only[Bw,List.mem_map] at h
 obtain ⟨k,_,rfl⟩:=h;rfl
def B7 (n:Nat) (F D S:Nat→Bool):List Value:= .int .i64 n::(Bw F++(Bw D++(Bw S++Bw fun _=>false)))
abbrev alB (pa n:Nat) (F D S:Nat→Bool):Ae:=blk pa (B7 n F D S) 139
def BB:Nat→Bool:=fun _=>false
theorem Y7 (n:Nat) (F D S:Nat→Bool):(B7 n F D S)[0]? =some (Iv_ n):=rfl
theorem Lw (n:Nat) (F D S:Nat→Bool) {k:Nat} (hk:k<16):(B7 n F D S)[1+k]? =some (u64 (bw F k)):=by
 unfold B7;rw[Nat.add_comm,List.getElem?_cons_succ,List.getElem?_append_left (by rw[Be];exact hk),wsV_at _ hk]
theorem Uy (n:Nat) (F D S:Nat→Bool) {k:Nat} (hk:k<16):(B7 n F D S)[17+k]? =some (u64 (bw D k)):=by
 unfold B7;rw[show 17+k=(16+k)+1 by omega,List.getElem?_cons_succ,List.getElem?_append_right (by rw[Be];omega),Be,show 16+k - 16=k by omega,List.getElem?_append_left (by rw[Be];exact hk),wsV_at _ hk]
theorem Qt {F F':Nat→Bool} {k:Nat} {x:BitVec 64} (hk:k<16) (h:∀ j,j<16→(if k=j then x else bw F j)=bw F' j):(Bw F).take k++[u64 x]++(Bw F).drop (k+1)=Bw F':=by
 have hl:=Be F
 have e:=List.set_eq_take_append_cons_drop (l:=Bw F) (i:=k) (a:=u64 x)
 rw[if_pos (by omega)] at e
 rw[List.append_assoc,List.singleton_append,←e]
 refine List.ext_getElem? fun j=> ?_
 rw[List.getElem?_set]
 rcases Nat.lt_or_ge j 16 with hj|hj
 ·rw[wsV_at F' hj,←h j hj]
  split
  ·rw[if_pos (by omega)]
  ·rw[wsV_at F hj]
 ·rw[if_neg (by omega),List.getElem?_eq_none (by omega),List.getElem?_eq_none (by rw[Be];omega)]
theorem Mj (a:Value) (l:List Value) (k:Nat) (u:Value):(a::l).take (1+k)++[u]++(a::l).drop (1+k+1)=a::(l.take k++[u]++l.drop (k+1)):=by
 rw[Nat.add_comm 1 k];simp
theorem Mk (l m:List Value) (k:Nat) (u:Value) (hk:k<l.length):(l++m).take k++[u]++(l++m).drop (k+1)=(l.take k++[u]++l.drop (k+1))++m:=by
 rw[List.take_append_of_le_length (by omega),List.drop_append_of_le_length (by omega)];simp
theorem Sf (l m:List Value) (k:Nat) (u:Value):(l++m).take (l.length+k)++[u]++(l++m).drop (l.length+k+1)=l++(m.take k++[u]++m.drop (k+1)):=by
 rw[List.take_append,List.drop_append,List.take_of_length_le (by omega),List.drop_of_length_le (by omega)]
 rw[show l.length+k - l.length=k by omega,show l.length+k+1 - l.length=k+1 by omega];simp
theorem IN (n:Nat) {F F':Nat→Bool} (D S:Nat→Bool) {k:Nat} {x:BitVec 64} (hk:k<16) (h:∀ j,j<16→(if k=j then x else bw F j)=bw F' j):(B7 n F D S).take (1+k)++[u64 x]++(B7 n F D S).drop (1+k+1)=B7 n F' D S:=by
 unfold B7;rw[Mj,Mk _ _ _ _ (by rw[Be];exact hk),Qt hk h]
theorem Ml (n:Nat) (F:Nat→Bool) {D D':Nat→Bool} (S:Nat→Bool) {k:Nat} {x:BitVec 64} (hk:k<16) (h:∀ j,j<16→(if k=j then x else bw D j)=bw D' j):(B7 n F D S).take (17+k)++[u64 x]++(B7 n F D S).drop (17+k+1)=B7 n F D' S:=by
 have e:=Sf (Bw F) (Bw D++(Bw S++Bw fun _=>false)) k (u64 x)
 rw[Be] at e
 unfold B7;rw[show 17+k=1+(16+k) by omega,Mj,e,Mk _ _ _ _ (by rw[Be];exact hk),Qt hk h]
theorem DZ (n:Nat) (F D S:Nat→Bool):(B7 n F D S).length=65:=by simp[B7,Be]
theorem N9 (n:Nat) (F D S:Nat→Bool):Bw F++Bw D=((B7 n F D S).drop 1).take 32:=by
 have h1:=Be F;have h2:=Be D
 unfold B7;rw[List.drop_one,List.tail_cons,←List.append_assoc,List.take_left' (by simp[h1,h2])]
theorem Va (n:Nat) (F D S:Nat→Bool):Bw S++Bw BB=((B7 n F D S).drop 33).take 32:=by
 have h1:=Be F;have h2:=Be D;have h3:=Be S
 unfold B7
 rw[show (33:Nat)=32+1 from rfl,List.drop_succ_cons,←List.append_assoc (Bw F),List.drop_left' (by simp[h1,h2]),List.take_of_length_le (by simp[Be])];rfl
theorem Jl (n:Nat) (F S:Nat→Bool):(B7 n F BB S).take 33++(Bw F++Bw BB)++(B7 n F BB S).drop (33+(Bw F++Bw BB).length)=B7 n F BB F:=by
 have h1:=Be F;have h2:=Be BB;have h3:=Be S
 have e:(B7 n F BB S).drop (33+(Bw F++Bw BB).length)=[]:=List.drop_of_length_le (by simp[DZ,h1,h2])
 rw[e,List.append_nil]
 unfold B7
 rw[show (33:Nat)=32+1 from rfl,List.take_succ_cons,←List.append_assoc (Bw F) (Bw BB) (Bw S++_),List.take_left' (by simp[Be])]
 simp only[List.cons_append,List.append_assoc];rfl
theorem Sg (n:Nat) (F D S:Nat→Bool):(B7 n F D S).take 1++(Bw S++Bw BB)++(B7 n F D S).drop (1+(Bw S++Bw BB).length)=B7 n S BB S:=by
 have h1:=Be F;have h2:=Be D;have h3:=Be S;have h4:=Be BB
 rw[show 1+(Bw S++Bw BB).length=32+1 by simp[h3,h4]]
 unfold B7
 rw[List.drop_succ_cons,←List.append_assoc (Bw F) (Bw D),List.drop_left' (by simp[h1,h2])]
 simp only[List.take_succ_cons,List.take_zero,List.cons_append,List.nil_append,List.append_assoc]
theorem IP (l:List Value) (F:Nat→Bool) (h:∀ u∈l,u.oneCell'=true):∀ u∈l++Bw F,u.oneCell'=true:=fun u hu=>by
 rcases List.mem_append.1 hu with q|q
 ·exact h u q
 ·exact wsV_one F u q
theorem bit_of (F:Nat→Bool) (p:Nat):(decide ((bw F (p / 64))>>>(p % 64)&&&1#64=1#64))=F p:=by
 rw[Xo];cases F p<;>simp
theorem XH {z w:World} {Γ:List Ae} (i:Nat) (H:Sep z Γ w) {A:Ae} (hA:Γ[i]? =some A) {b o:Nat} {v:Value} (h:∀ h,A h→celH h b o v):Ga b o v w:=H.cell i hA h
def Fv (F:Nat→Bool) (p:Nat):Nat→Bool:=fun q=>F q || decide (q=p)
def CS (F:Nat→Bool) (p:Nat):Nat→Bool:=fun q=>F q && !decide (q=p)
theorem Vb (F:Nat→Bool) (p j:Nat):(if p / 64=j then bw F (p / 64)&&& ~~~DF (p % 64) else bw F j)=bw (CS F p) j:=by
 rw[show CS F p=fun q=>F q && !decide (q=p) from rfl,←Xn];split
 ·rename_i e;rw[e]
 ·rfl
theorem Oa (F:Nat→Bool) (p j:Nat):(if p / 64=j then bw F (p / 64)|||DF (p % 64) else bw F j)=bw (Fv F p) j:=by
 rw[show Fv F p=fun q=>F q || decide (q=p) from rfl,←Xm];split
 ·rename_i e;rw[e]
 ·rfl
def CF (F G:Nat→Bool):Nat→Bool:=fun q=>F q || G q
def Ea (F G:Nat→Bool) (k:Nat):Nat→Bool:=fun q=>if q<64 * k then G q else F q
theorem HZ (F G:Nat→Bool) (k j:Nat):bw (Ea F G k) j=if j<k then bw G j else bw F j:=by
 symm
 refine Ja fun i hi=> ?_
 unfold Ea
 split
 ·rw[if_pos (by omega),Dm _ _ _ hi]
 ·rw[if_neg (by omega),Dm _ _ _ hi]
theorem Ob (F G:Nat→Bool) (k:Nat):∀ j,j<16→(if k=j then bw G k else bw (Ea F G k) j)=bw (Ea F G (k+1)) j:=fun j _=>by
 rw[HZ,HZ]
 split
 ·rename_i e;subst e;rw[if_pos (by omega)]
 ·by_cases h:j<k
  ·rw[if_pos h,if_pos (by omega)]
  ·rw[if_neg h,if_neg (by omega)]
theorem Oc (F G:Nat→Bool):Ea F G 0=F:=by funext q;simp[Ea]
theorem XI (n:Nat) (F G D D' S:Nat→Bool):B7 n (Ea F G 16) (Ea D D' 16) S=B7 n G D' S:=by
 have h:∀ F G:Nat→Bool,Bw (Ea F G 16)=Bw G:=fun F G=>by
  refine List.ext_getElem? fun j=> ?_
  rcases Nat.lt_or_ge j 16 with hj|hj
  ·rw[wsV_at _ hj,wsV_at _ hj,HZ,if_pos hj]
  ·rw[List.getElem?_eq_none (by rw[Be];omega),List.getElem?_eq_none (by rw[Be];omega)]
 unfold B7;rw[h,h]
theorem Mn (n:Nat) (F D S:Nat→Bool):Bw F=((B7 n F D S).drop 1).take 16:=by
 unfold B7;rw[List.drop_one,List.tail_cons,List.take_left' (Be F)]
theorem XJ (n:Nat) (F D S:Nat→Bool):Bw D=((B7 n F D S).drop 17).take 16:=by
 unfold B7;rw[show (17:Nat)=16+1 from rfl,List.drop_succ_cons,List.drop_left' (Be F),List.take_left' (Be D)]
theorem Y8 (F D:Nat→Bool) (k:Nat):bw (Ea F (CF F D) k) k|||bw D k=bw (CF F D) k:=by
 rw[HZ,if_neg (by omega),Y2];rfl
theorem XK (F D:Nat→Bool) (k:Nat):∀ j,j<16→(if k=j then bw (Ea F (CF F D) k) k|||bw D k else bw (Ea F (CF F D) k) j)=bw (Ea F (CF F D) (k+1)) j:=fun j hj=>by
 rw[Y8];exact Ob F _ k j hj
theorem XL (D:Nat→Bool) (k:Nat):∀ j,j<16→(if k=j then 0#64 else bw (Ea D BB k) j)=bw (Ea D BB (k+1)) j:=fun j hj=>by
 have e:(0#64)=bw BB k:=(bw_zero.2 fun _ _=>rfl).symm
 rw[e];exact Ob D BB k j hj
def Dj (n:Nat):Nat→Bool:=fun q=>decide (q<n)
theorem Vc (k:Nat):Fv (Dj k) k=Dj (k+1):=by
 funext q;unfold Fv Dj;rw[Bool.eq_iff_iff];simp;omega
theorem Sh (k:Nat):∀ j,j<16→(if k / 64=j then bw (Dj k) (k / 64)|||DF (k % 64) else bw (Dj k) j)=bw (Dj (k+1)) j:=fun j _=>by
 rw[←Vc];exact Oa _ _ _
theorem Si (F:Nat→Bool) (k:Nat):(cnt F 0 (64 * k):Int)+(cnt F (64 * k) 64:Int)=(cnt F 0 (64 * (k+1)):Int):=by
 have:=Gy F 0 (64 * k) 64
 rw[show 64 * (k+1)=64 * k+64 by omega,this,Nat.zero_add];omega
theorem Qu (F:Nat→Bool) (a:Nat):∀ n,cnt F a n≤n
 | 0=>Nat.le_refl _
 | n+1=>by
  have:=Qu F a n
  have:(F (a+n)).toNat≤1:=by cases F (a+n)<;>simp
  simp only[cnt];omega
def Qw (j:Nat):UInt8:=UInt8.ofNat (Go.Lib.deBruijn64tab.getD j 0)
def Gp (A:Ae):Prop:=∀ h,A h→∀ j,j<64→celH h 0 j (u8 (Qw j))
theorem XM (x:BitVec 64) (i:Nat) (hi:i<64) (h1:x.getLsbD i=true) (h0:∀ j,j<i→x.getLsbD j=false):(((x&&& -x) * 285870213051353865#64)>>>58).toNat<64∧((Qw (((x&&& -x) * 285870213051353865#64)>>>58).toNat).toNat:Int)=i:=by
 have hx0:x.toNat≠0:=fun e=>by
  have:x=0#64:=BitVec.eq_of_toNat_eq (by simpa using e)
  rw[this] at h1;simp at h1
 have hlt:=x.isLt
 obtain ⟨m,hm,hk⟩:=Go.Lib.ctzFrom_spec 64 x.toNat (by omega) hlt
 have hc:Go.Lib.ctzFrom 64 x.toNat=i:=by
  generalize Go.Lib.ctzFrom 64 x.toNat=c at hm hk
  have hb:∀ j,x.getLsbD j=(decide (j≥c) && (2 * m+1).testBit (j - c)):=fun j=>by
   show x.toNat.testBit j=_
   rw[hm,Nat.testBit_two_pow_mul]
  rcases Nat.lt_trichotomy i c with h|h|h
  ·have:=hb i;rw[h1] at this;simp at this;omega
  ·exact h.symm
  ·have:=hb c;rw[h0 c h] at this;simp at this
 obtain ⟨hlow,_⟩:=Go.Lib.lowest_bit 64 x.toNat hx0 hlt
 have e2:Go.Lib.ctz 64 x.toNat=i:=by unfold Go.Lib.ctz;rw[if_neg hx0,hc]
 rw[e2] at hlow
 have e3:(x&&& -x).toNat=2 ^ i:=by
  rw[BitVec.toNat_and,BitVec.toNat_neg,Nat.mod_eq_of_lt (by omega)];exact hlow
 have e4:(((x&&& -x) * 285870213051353865#64)>>>58).toNat=2 ^ i * 285870213051353865 % 18446744073709551616 / 288230376151711744:=by
  rw[BitVec.toNat_ushiftRight,BitVec.toNat_mul,e3,Nat.shiftRight_eq_div_pow];rfl
 obtain ⟨a1,a2⟩:=Go.Lib.deBruijn64_at i hi
 rw[e4]
 refine ⟨a1,?_⟩
 unfold Qw;rw[a2]
 simp;omega
theorem Mp (pa n:Nat) (F D S:Nat→Bool) (p:Nat):Cn prog 137 [Pt_ pa,Iv_ (p:Int)] [alB pa n F D S] (fun v Γ=>v= .bool (decide (p<n))∧Γ=[alB pa n F D S]):=by
 intro z R w H;replace H:=H.l1;refine Ad func137 rfl ntmps137 rfl (Z0 10 [0] rfl (Ak 7 rfl (fun h1=> ?_) (fun h1=> ?_)))
 ·refine Z0 4 [0] rfl (Ac rfl (AZ rfl rfl (by kernel_rfl) (AB (H.cel 0 rfl 0 (Y7 _ _ _ _)))) (Z0 6 [0] rfl (Zr rfl ?_)));exact ⟨_,⟨congrArg Value.bool (by first|(rw[Bool.eq_iff_iff];simp<;>omega)|(simp<;>omega)),rfl⟩,H⟩
 ·refine Zc 11 rfl (Zr rfl ?_);exact ⟨_,⟨congrArg Value.bool (by first|(rw[Bool.eq_iff_iff];simp<;>omega)|(simp<;>omega)),rfl⟩,H⟩
theorem Mq (pa n:Nat) (F D S:Nat→Bool) (p:Nat) (hp:p<n) (hn:n≤1024):Cn prog 101 [Pt_ pa,Iv_ (p:Int)] [alB pa n F D S] (fun v Γ=>v= .bool (F p)∧Γ=[alB pa n F D S]):=by
 intro z R w H;replace H:=H.l1;refine Ad func101 rfl ntmps101 rfl (Zc 9 rfl (z_E_ rfl (call137 _) (Mp _ _ _ _ _ _) H ?_));intro w H;refine Zc 1 rfl (Ak 8 rfl (fun h1=> ?_) (fun h1=> ?_))
 ·refine Z1 7 [1,1,16,1,(p / 64),1+(p / 64)] [(p:Int) / 64] rfl (by omega) (Ac rfl (AZ rfl rfl (by kernel_rfl) (AB (H.cel 0 rfl (1+(p / 64)) (Lw _ _ _ _ (by omega))))) (Z1 2 [] [(p:Int) % 64] rfl (by omega) (Ac rfl (EP rfl rfl rfl (m:=(p % 64)) (by omega) (by omega)) (Ac rfl (ED (q:=1#64) rfl rfl rfl) (Ac rfl (LY (p:=((bw F (p / 64))>>>(p % 64))&&&(1#64)) (q:=1#64) (k:= .u64) rfl (by kernel_rfl) rfl rfl) (Al 21 (v:= .bool (F p)) rfl (congrArg Value.bool (bit_of F p)) (Zc 5 rfl (Zr rfl ?_))))))));exact ⟨_,⟨rfl,rfl⟩,H⟩
 ·exact absurd hp h1
theorem Qx (pa n:Nat) (F D S:Nat→Bool) (p:Nat) (hp:p<n) (hn:n≤1024) (hF:F p=true):Cn prog 60 [Pt_ pa,Iv_ (p:Int)] [alB pa n F D S] (fun v Γ=>v= .bool true∧Γ=[alB pa n (CS F p) D S]):=by
 intro z R w H;replace H:=H.l1;refine Ad func60 rfl ntmps60 rfl (Zc 10 rfl (z_E_ rfl (call101 _) (Mq _ _ _ _ _ _ (by omega) (by omega)) H ?_));intro w H;replace H:=H.l1;refine Al 7 (v:= .bool true) rfl (congrArg Value.bool hF) (Zc 7 rfl (BI 16 (by kernel_rfl) (by kernel_rfl) (Bc H fun w H'=> ?_)))
 have H:=H'.l1;refine Eg 7 [1,1,16,1,(p / 64),1+(p / 64)] [(p:Int) / 64] H rfl (by kernel_rfl) (by omega) (Cd rfl rfl rfl (AZ rfl rfl (by kernel_rfl) (AB (H.cel 0 rfl (1+(p / 64)) (Lw _ _ _ _ (by omega))))) (Eg 2 [] [(p:Int) % 64] H rfl (by kernel_rfl) (by omega) (Cd rfl rfl rfl (LX rfl rfl rfl (m:=(p % 64)) (by omega) (by omega)) (Cd rfl rfl rfl (RV rfl rfl rfl) (Eg 4 [1,1,16,1,(p / 64),1+(p / 64)] [] H rfl (by kernel_rfl) (by omega) (Cy (gw (Az rfl rfl (Ag 0 H rfl rfl rfl rfl (vs:=[u64 ((bw F (p / 64))&&& ~~~(DF (p % 64)))]) rfl (Ab rfl Ar) (by kernel_rfl) (by simp only[DZ,List.length_cons,List.length_nil];omega) (out:=(B7 n (CS F p) D S)) (IN _ _ _ (by omega) (fun j _=>Vb F p j))) ?_))))))));rintro w H;replace H:=H.l1;refine Zc 8 rfl (Zr rfl ?_);exact ⟨_,⟨rfl,rfl⟩,H⟩
theorem Vd (pa n:Nat) (F D S:Nat→Bool) (p:Nat) (hp:p<n) (hn:n≤1024) (hF:F p=false) (hD:D p=false):Cn prog 119 [Pt_ pa,Iv_ (p:Int)] [alB pa n F D S] (fun v Γ=>v= .bool true∧Γ=[alB pa n F (Fv D p) S]):=by
 intro z R w H;replace H:=H.l1;refine Ad func119 rfl ntmps119 rfl (Zc 10 rfl (z_E_ rfl (call137 _) (Mp _ _ _ _ _ _) H ?_));intro w H;replace H:=H.l1;refine Al 7 (v:= .bool true) rfl (congrArg Value.bool (decide_eq_true hp)) (Zc 4 rfl (z_E_ rfl (call101 _) (Mq _ _ _ _ _ _ (by omega) (by omega)) H ?_));intro w H;replace H:=H.l1;refine Al 12 (v:= .bool false) rfl (congrArg Value.bool hF) (Z1 9 [1,17,16,1,(p / 64),17+(p / 64)] [(p:Int) / 64] rfl (by omega) (Ac rfl (AZ rfl rfl (by kernel_rfl) (AB (H.cel 0 rfl (17+(p / 64)) (Uy _ _ _ _ (by omega))))) (Z1 2 [] [(p:Int) % 64] rfl (by omega) (Ac rfl (EP rfl rfl rfl (m:=(p % 64)) (by omega) (by omega)) (Ac rfl (ED (q:=1#64) rfl rfl rfl) (Ac rfl (LY (p:=((bw D (p / 64))>>>(p % 64))&&&(1#64)) (q:=1#64) (k:= .u64) rfl (by kernel_rfl) rfl rfl) (Al 27 (v:= .bool false) rfl (congrArg Value.bool ((bit_of D p).trans hD)) (Zc 7 rfl (BI 16 (by kernel_rfl) (by kernel_rfl) (Bc H fun w H'=> ?_))))))))))
 have H:=H'.l1;refine Eg 7 [1,17,16,1,(p / 64),17+(p / 64)] [(p:Int) / 64] H rfl (by kernel_rfl) (by omega) (Cd rfl rfl rfl (AZ rfl rfl (by kernel_rfl) (AB (H.cel 0 rfl (17+(p / 64)) (Uy _ _ _ _ (by omega))))) (Eg 2 [] [(p:Int) % 64] H rfl (by kernel_rfl) (by omega) (Cd rfl rfl rfl (LX rfl rfl rfl (m:=(p % 64)) (by omega) (by omega)) (Cd rfl rfl rfl (LW rfl rfl rfl) (Eg 4 [1,17,16,1,(p / 64),17+(p / 64)] [] H rfl (by kernel_rfl) (by omega) (Cy (gw (Az rfl rfl (Ag 0 H rfl rfl rfl rfl (vs:=[u64 ((bw D (p / 64))|||(DF (p % 64)))]) rfl (Ab rfl Ar) (by kernel_rfl) (by simp only[DZ,List.length_cons,List.length_nil];omega) (out:=(B7 n F (Fv D p) S)) (Ml _ _ _ (by omega) (fun j _=>Oa D p j))) ?_))))))));rintro w H;replace H:=H.l1;refine Zc 8 rfl (Zr rfl ?_);exact ⟨_,⟨rfl,rfl⟩,H⟩
theorem Ve (F:Nat→Bool) (k:Nat):Cn prog 85 [u64 (bw F k)] [] (fun v Γ=>v=Iv_ ((cnt F (64 * k) 64:Nat):Int)∧Γ=[]):=by
 intro z R w H;replace H:=H.l0;refine Ad func85 rfl ntmps85 rfl (Zc 8 rfl (Ac rfl (EP rfl rfl rfl (m:=1) rfl (by decide)) (Ac rfl (ED (q:=6148914691236517205#64) rfl rfl rfl) (Zc 1 rfl (Ac rfl (ED (q:=6148914691236517205#64) rfl rfl rfl) (Ac rfl (Gz (p:=((bw F k)>>>1)&&&(6148914691236517205#64)) (q:=(bw F k)&&&(6148914691236517205#64)) rfl rfl rfl) (Zc 6 rfl (Ac rfl (EP rfl rfl rfl (m:=2) rfl (by decide)) (Ac rfl (ED (p:=((((bw F k)>>>1)&&&(6148914691236517205#64))+((bw F k)&&&(6148914691236517205#64)))>>>2) (q:=3689348814741910323#64) rfl rfl rfl) (Zc 1 rfl (Ac rfl (ED (p:=(((bw F k)>>>1)&&&(6148914691236517205#64))+((bw F k)&&&(6148914691236517205#64))) (q:=3689348814741910323#64) rfl rfl rfl) (Ac rfl (Gz (p:=(((((bw F k)>>>1)&&&(6148914691236517205#64))+((bw F k)&&&(6148914691236517205#64)))>>>2)&&&(3689348814741910323#64)) (q:=((((bw F k)>>>1)&&&(6148914691236517205#64))+((bw F k)&&&(6148914691236517205#64)))&&&(3689348814741910323#64)) rfl rfl rfl) (Zc 6 rfl ?_)))))))))))));refine Ac rfl (EP rfl rfl rfl (m:=4) rfl (by decide)) (Zc 1 rfl (Ac rfl (Gz (p:=(((((((bw F k)>>>1)&&&(6148914691236517205#64))+((bw F k)&&&(6148914691236517205#64)))>>>2)&&&(3689348814741910323#64))+(((((bw F k)>>>1)&&&(6148914691236517205#64))+((bw F k)&&&(6148914691236517205#64)))&&&(3689348814741910323#64)))>>>4) (q:=((((((bw F k)>>>1)&&&(6148914691236517205#64))+((bw F k)&&&(6148914691236517205#64)))>>>2)&&&(3689348814741910323#64))+(((((bw F k)>>>1)&&&(6148914691236517205#64))+((bw F k)&&&(6148914691236517205#64)))&&&(3689348814741910323#64))) rfl rfl rfl) (Ac rfl (ED (p:=((((((((bw F k)>>>1)&&&(6148914691236517205#64))+((bw F k)&&&(6148914691236517205#64)))>>>2)&&&(3689348814741910323#64))+(((((bw F k)>>>1)&&&(6148914691236517205#64))+((bw F k)&&&(6148914691236517205#64)))&&&(3689348814741910323#64)))>>>4)+(((((((bw F k)>>>1)&&&(6148914691236517205#64))+((bw F k)&&&(6148914691236517205#64)))>>>2)&&&(3689348814741910323#64))+(((((bw F k)>>>1)&&&(6148914691236517205#64))+((bw F k)&&&(6148914691236517205#64)))&&&(3689348814741910323#64)))) (q:=1085102592571150095#64) rfl rfl rfl) (Zc 7 rfl (Ac rfl (EP rfl rfl rfl (m:=8) rfl (by decide)) (Ac rfl (Gz (p:=(((((((((bw F k)>>>1)&&&(6148914691236517205#64))+((bw F k)&&&(6148914691236517205#64)))>>>2)&&&(3689348814741910323#64))+(((((bw F k)>>>1)&&&(6148914691236517205#64))+((bw F k)&&&(6148914691236517205#64)))&&&(3689348814741910323#64)))>>>4)+(((((((bw F k)>>>1)&&&(6148914691236517205#64))+((bw F k)&&&(6148914691236517205#64)))>>>2)&&&(3689348814741910323#64))+(((((bw F k)>>>1)&&&(6148914691236517205#64))+((bw F k)&&&(6148914691236517205#64)))&&&(3689348814741910323#64))))&&&(1085102592571150095#64)) (q:=((((((((((bw F k)>>>1)&&&(6148914691236517205#64))+((bw F k)&&&(6148914691236517205#64)))>>>2)&&&(3689348814741910323#64))+(((((bw F k)>>>1)&&&(6148914691236517205#64))+((bw F k)&&&(6148914691236517205#64)))&&&(3689348814741910323#64)))>>>4)+(((((((bw F k)>>>1)&&&(6148914691236517205#64))+((bw F k)&&&(6148914691236517205#64)))>>>2)&&&(3689348814741910323#64))+(((((bw F k)>>>1)&&&(6148914691236517205#64))+((bw F k)&&&(6148914691236517205#64)))&&&(3689348814741910323#64))))&&&(1085102592571150095#64))>>>8) rfl rfl rfl) (Zc 7 rfl (Ac rfl (EP rfl rfl rfl (m:=16) rfl (by decide)) (Ac rfl (Gz (p:=((((((((((bw F k)>>>1)&&&(6148914691236517205#64))+((bw F k)&&&(6148914691236517205#64)))>>>2)&&&(3689348814741910323#64))+(((((bw F k)>>>1)&&&(6148914691236517205#64))+((bw F k)&&&(6148914691236517205#64)))&&&(3689348814741910323#64)))>>>4)+(((((((bw F k)>>>1)&&&(6148914691236517205#64))+((bw F k)&&&(6148914691236517205#64)))>>>2)&&&(3689348814741910323#64))+(((((bw F k)>>>1)&&&(6148914691236517205#64))+((bw F k)&&&(6148914691236517205#64)))&&&(3689348814741910323#64))))&&&(1085102592571150095#64))+(((((((((((bw F k)>>>1)&&&(6148914691236517205#64))+((bw F k)&&&(6148914691236517205#64)))>>>2)&&&(3689348814741910323#64))+(((((bw F k)>>>1)&&&(6148914691236517205#64))+((bw F k)&&&(6148914691236517205#64)))&&&(3689348814741910323#64)))>>>4)+(((((((bw F k)>>>1)&&&(6148914691236517205#64))+((bw F k)&&&(6148914691236517205#64)))>>>2)&&&(3689348814741910323#64))+(((((bw F k)>>>1)&&&(6148914691236517205#64))+((bw F k)&&&(6148914691236517205#64)))&&&(3689348814741910323#64))))&&&(1085102592571150095#64))>>>8)) (q:=(((((((((((bw F k)>>>1)&&&(6148914691236517205#64))+((bw F k)&&&(6148914691236517205#64)))>>>2)&&&(3689348814741910323#64))+(((((bw F k)>>>1)&&&(6148914691236517205#64))+((bw F k)&&&(6148914691236517205#64)))&&&(3689348814741910323#64)))>>>4)+(((((((bw F k)>>>1)&&&(6148914691236517205#64))+((bw F k)&&&(6148914691236517205#64)))>>>2)&&&(3689348814741910323#64))+(((((bw F k)>>>1)&&&(6148914691236517205#64))+((bw F k)&&&(6148914691236517205#64)))&&&(3689348814741910323#64))))&&&(1085102592571150095#64))+(((((((((((bw F k)>>>1)&&&(6148914691236517205#64))+((bw F k)&&&(6148914691236517205#64)))>>>2)&&&(3689348814741910323#64))+(((((bw F k)>>>1)&&&(6148914691236517205#64))+((bw F k)&&&(6148914691236517205#64)))&&&(3689348814741910323#64)))>>>4)+(((((((bw F k)>>>1)&&&(6148914691236517205#64))+((bw F k)&&&(6148914691236517205#64)))>>>2)&&&(3689348814741910323#64))+(((((bw F k)>>>1)&&&(6148914691236517205#64))+((bw F k)&&&(6148914691236517205#64)))&&&(3689348814741910323#64))))&&&(1085102592571150095#64))>>>8))>>>16) rfl rfl rfl) (Zc 7 rfl (Ac rfl (EP rfl rfl rfl (m:=32) rfl (by decide)) (Ac rfl (Gz (p:=(((((((((((bw F k)>>>1)&&&(6148914691236517205#64))+((bw F k)&&&(6148914691236517205#64)))>>>2)&&&(3689348814741910323#64))+(((((bw F k)>>>1)&&&(6148914691236517205#64))+((bw F k)&&&(6148914691236517205#64)))&&&(3689348814741910323#64)))>>>4)+(((((((bw F k)>>>1)&&&(6148914691236517205#64))+((bw F k)&&&(6148914691236517205#64)))>>>2)&&&(3689348814741910323#64))+(((((bw F k)>>>1)&&&(6148914691236517205#64))+((bw F k)&&&(6148914691236517205#64)))&&&(3689348814741910323#64))))&&&(1085102592571150095#64))+(((((((((((bw F k)>>>1)&&&(6148914691236517205#64))+((bw F k)&&&(6148914691236517205#64)))>>>2)&&&(3689348814741910323#64))+(((((bw F k)>>>1)&&&(6148914691236517205#64))+((bw F k)&&&(6148914691236517205#64)))&&&(3689348814741910323#64)))>>>4)+(((((((bw F k)>>>1)&&&(6148914691236517205#64))+((bw F k)&&&(6148914691236517205#64)))>>>2)&&&(3689348814741910323#64))+(((((bw F k)>>>1)&&&(6148914691236517205#64))+((bw F k)&&&(6148914691236517205#64)))&&&(3689348814741910323#64))))&&&(1085102592571150095#64))>>>8))+((((((((((((bw F k)>>>1)&&&(6148914691236517205#64))+((bw F k)&&&(6148914691236517205#64)))>>>2)&&&(3689348814741910323#64))+(((((bw F k)>>>1)&&&(6148914691236517205#64))+((bw F k)&&&(6148914691236517205#64)))&&&(3689348814741910323#64)))>>>4)+(((((((bw F k)>>>1)&&&(6148914691236517205#64))+((bw F k)&&&(6148914691236517205#64)))>>>2)&&&(3689348814741910323#64))+(((((bw F k)>>>1)&&&(6148914691236517205#64))+((bw F k)&&&(6148914691236517205#64)))&&&(3689348814741910323#64))))&&&(1085102592571150095#64))+(((((((((((bw F k)>>>1)&&&(6148914691236517205#64))+((bw F k)&&&(6148914691236517205#64)))>>>2)&&&(3689348814741910323#64))+(((((bw F k)>>>1)&&&(6148914691236517205#64))+((bw F k)&&&(6148914691236517205#64)))&&&(3689348814741910323#64)))>>>4)+(((((((bw F k)>>>1)&&&(6148914691236517205#64))+((bw F k)&&&(6148914691236517205#64)))>>>2)&&&(3689348814741910323#64))+(((((bw F k)>>>1)&&&(6148914691236517205#64))+((bw F k)&&&(6148914691236517205#64)))&&&(3689348814741910323#64))))&&&(1085102592571150095#64))>>>8))>>>16)) (q:=((((((((((((bw F k)>>>1)&&&(6148914691236517205#64))+((bw F k)&&&(6148914691236517205#64)))>>>2)&&&(3689348814741910323#64))+(((((bw F k)>>>1)&&&(6148914691236517205#64))+((bw F k)&&&(6148914691236517205#64)))&&&(3689348814741910323#64)))>>>4)+(((((((bw F k)>>>1)&&&(6148914691236517205#64))+((bw F k)&&&(6148914691236517205#64)))>>>2)&&&(3689348814741910323#64))+(((((bw F k)>>>1)&&&(6148914691236517205#64))+((bw F k)&&&(6148914691236517205#64)))&&&(3689348814741910323#64))))&&&(1085102592571150095#64))+(((((((((((bw F k)>>>1)&&&(6148914691236517205#64))+((bw F k)&&&(6148914691236517205#64)))>>>2)&&&(3689348814741910323#64))+(((((bw F k)>>>1)&&&(6148914691236517205#64))+((bw F k)&&&(6148914691236517205#64)))&&&(3689348814741910323#64)))>>>4)+(((((((bw F k)>>>1)&&&(6148914691236517205#64))+((bw F k)&&&(6148914691236517205#64)))>>>2)&&&(3689348814741910323#64))+(((((bw F k)>>>1)&&&(6148914691236517205#64))+((bw F k)&&&(6148914691236517205#64)))&&&(3689348814741910323#64))))&&&(1085102592571150095#64))>>>8))+((((((((((((bw F k)>>>1)&&&(6148914691236517205#64))+((bw F k)&&&(6148914691236517205#64)))>>>2)&&&(3689348814741910323#64))+(((((bw F k)>>>1)&&&(6148914691236517205#64))+((bw F k)&&&(6148914691236517205#64)))&&&(3689348814741910323#64)))>>>4)+(((((((bw F k)>>>1)&&&(6148914691236517205#64))+((bw F k)&&&(6148914691236517205#64)))>>>2)&&&(3689348814741910323#64))+(((((bw F k)>>>1)&&&(6148914691236517205#64))+((bw F k)&&&(6148914691236517205#64)))&&&(3689348814741910323#64))))&&&(1085102592571150095#64))+(((((((((((bw F k)>>>1)&&&(6148914691236517205#64))+((bw F k)&&&(6148914691236517205#64)))>>>2)&&&(3689348814741910323#64))+(((((bw F k)>>>1)&&&(6148914691236517205#64))+((bw F k)&&&(6148914691236517205#64)))&&&(3689348814741910323#64)))>>>4)+(((((((bw F k)>>>1)&&&(6148914691236517205#64))+((bw F k)&&&(6148914691236517205#64)))>>>2)&&&(3689348814741910323#64))+(((((bw F k)>>>1)&&&(6148914691236517205#64))+((bw F k)&&&(6148914691236517205#64)))&&&(3689348814741910323#64))))&&&(1085102592571150095#64))>>>8))>>>16))>>>32) rfl rfl rfl) (Zc 6 rfl ?_)))))))))))))
 refine Ac rfl (Y4 rfl (by kernel_rfl) rfl (JW F k).1) (Ac rfl (U0 rfl rfl rfl (by have:=(JW F k).1;exact ⟨Int.natCast_nonneg _,by unfold JU at this;dsimp only at this ⊢;omega⟩)) (Al 34 (u:=Iv_ (((JU (bw F k)).toNat:Int) % 128)) (v:=Iv_ ((cnt F (64 * k) 64:Nat):Int)) rfl (congrArg Iv_ (by have:=(JW F k).2;omega)) (Zc 4 rfl (gr (F9 rfl [Iv_ ((cnt F (64 * k) 64:Nat):Int)] ⟨rfl,trivial⟩ (v:=Iv_ ((cnt F (64 * k) 64:Nat):Int)) rfl ?_)))));exact ⟨_,⟨rfl,rfl⟩,H⟩
theorem Vf (pa n:Nat) (F D S:Nat→Bool):Cn prog 47 [Pt_ pa] [alB pa n F D S] (fun v Γ=>v=Iv_ (cnt F 0 1024:Int)∧Γ=[alB pa n F D S]):=by
 intro z R w H;replace H:=H.l1;refine Ad func47 rfl ntmps47 rfl (Z0 17 [1,1] rfl (Ac rfl (BE rfl rfl (vs:=Bw F) (by kernel_rfl) (AB ((H.blk 0 rfl).part 1 16 _ (Mn _ _ _ _)))) (Zc 4 rfl ?_)));refine AJ (σ:=Nat) (fun k=>[(11,Iv_ (k:Int)),(3,Iv_ (cnt F 0 (64 * k):Int)),(2,Iv_ 0),(10,.agg (Bw F).toArray)])
   (fun k w=>Sep z (alB pa n F D S::R) w∧(k≤16)) (fun k=>16 - k) 0
   (fun _ hF=>(hF.co rfl (by go_num) (hF.co rfl (by go_num) (hF.all rfl)))) ⟨H,by omega⟩ ?_
 clear H;rintro k w ⟨H',hI⟩;have H:=H'.l1;have hk16:=hI;clear hI
 have hcl:=Qu F 0 (64 * (k+1))
 refine Z0 6 [0] rfl (Af rfl (fun h1=> ?_) (fun h1=> ?_))
 ·refine Zc 6 rfl (Ac rfl (Es (m:=16) rfl (by kernel_rfl) rfl rfl rfl (j:=k) rfl (u:=u64 (bw F k)) (wsV_at F (by omega))) (Zc 6 rfl (z_E_ rfl (call85 _) (Ve _ _) H ?_)));intro w H;replace H:=H.l1;refine Ac rfl (DB rfl rfl rfl (r:=(cnt F 0 (64 * (k+1)):Int)) (Si F k) (by omega)) (Z1 8 [] [(k:Int)+1] rfl (by omega) (gf ?_));intro _ hF;refine ⟨(k+1),(hF.co rfl (by go_num) (hF.all rfl)),⟨H,?_⟩,?_⟩
  ·omega
  ·omega
 ·obtain rfl:k=16:=by omega
  refine Zc 2 rfl (gx (Zc 9 rfl (Zr rfl ?_)));exact ⟨_,⟨rfl,rfl⟩,H⟩
theorem KG (pa n:Nat) (F D S:Nat→Bool):Cn prog 39 [Pt_ pa] [alB pa n F D S] (fun v Γ=>v= .tuple #[]∧Γ=[alB pa n (CF F D) BB (CF F D)]):=by
 intro z R w H;replace H:=H.l1;refine Ad func39 rfl ntmps39 rfl (Z0 7 [1,17] rfl (Ac rfl (BE rfl rfl (vs:=Bw D) (by kernel_rfl) (AB ((H.blk 0 rfl).part 17 16 _ (XJ _ _ _ _)))) (Zc 4 rfl ?_)));refine AJ (σ:=Nat) (fun k=>[(9,Iv_ (k:Int)),(0,Pt_ pa),(8,.agg (Bw D).toArray)])
   (fun k w=>Sep z (alB pa n (Ea F (CF F D) k) (Ea D BB k) S::R) w∧(k≤16)) (fun k=>16 - k) 0
   (fun _ hF=>(hF.co rfl (by go_num) (hF.all rfl))) ⟨(by rw[Oc,Oc];exact H),by omega⟩ ?_
 clear H;rintro k w ⟨H',hI⟩;have H:=H'.l1;have hk16:=hI;clear hI
 refine Z0 6 [0] rfl (Af rfl (fun h1=> ?_) (fun h1=> ?_))
 ·refine Zc 7 rfl (Ac rfl (Es (m:=16) rfl (by kernel_rfl) rfl rfl rfl (j:=k) rfl (u:=u64 (bw D k)) (wsV_at D (by omega))) (Zc 5 rfl (BI 13 (by kernel_rfl) (by kernel_rfl) (Bc H fun w H'=> ?_))))
  have H:=H'.l1;refine Eg 6 [1,1,16,1,k,1+k] [] H rfl (by kernel_rfl) (by omega) (Cd rfl rfl rfl (AZ rfl rfl (by kernel_rfl) (AB (H.cel 0 rfl (1+k) (Lw _ _ _ _ (by omega))))) (NV 1 [] rfl (by kernel_rfl) (Cd rfl rfl rfl (LW rfl rfl rfl) (Eg 4 [1,1,16,1,k,1+k] [] H rfl (by kernel_rfl) (by omega) (Cy (gw (Az rfl rfl (Ag 0 H rfl rfl rfl rfl (vs:=[u64 ((bw (Ea F (CF F D) k) k)|||(bw D k))]) rfl (Ab rfl Ar) (by kernel_rfl) (by simp only[DZ,List.length_cons,List.length_nil];omega) (out:=(B7 n (Ea F (CF F D) (k+1)) (Ea D BB k) S)) (IN _ _ _ (by omega) (XK F D k))) ?_)))))));rintro w H;replace H:=H.l1;refine Z1 9 [1,17,16,1,k,17+k] [] rfl (by omega) (Az rfl rfl (Ag 0 H rfl rfl rfl rfl (vs:=[u64 (0#64)]) rfl (Ab rfl Ar) (by kernel_rfl) (by simp only[DZ,List.length_cons,List.length_nil];omega) (out:=(B7 n (Ea F (CF F D) (k+1)) (Ea D BB (k+1)) S)) (Ml _ _ _ (by omega) (XL D k))) ?_);rintro w H;replace H:=H.l1;refine Z1 7 [] [(k:Int)+1] rfl (by omega) (gf ?_);intro _ hF;refine ⟨(k+1),(hF.co rfl (by go_num) (hF.all rfl)),⟨H,?_⟩,?_⟩
  ·omega
  ·omega
 ·obtain rfl:k=16:=by omega
  refine Zc 2 rfl (gx (Zc 2 rfl ?_));dsimp only[alB] at H
  rw[XI] at H;refine Z0 5 [1] rfl (Ac rfl (BE rfl rfl (vs:=Bw (CF F D)++Bw BB) (by kernel_rfl) (AB ((H.blk 0 rfl).part 1 32 _ (N9 _ _ _ _)))) (Z0 2 [33] rfl (Az rfl rfl (Ag 0 H rfl rfl rfl rfl (vs:=Bw (CF F D)++Bw BB) rfl (IP _ _ (wsV_one _)) (by kernel_rfl) (by simp only[DZ,List.length_append,Be];omega) (out:=(B7 n (CF F D) BB (CF F D))) (Jl _ _ _)) ?_)));rintro w H;replace H:=H.l1;refine Zc 1 rfl (Zf rfl ?_);exact ⟨_,⟨rfl,rfl⟩,H⟩
theorem Vg (pa n:Nat) (F D S:Nat→Bool):Cn prog 70 [Pt_ pa] [alB pa n F D S] (fun v Γ=>v= .tuple #[]∧Γ=[alB pa n S BB S]):=by
 intro z R w H;replace H:=H.l1;refine Ad func70 rfl ntmps70 rfl (Z0 5 [33] rfl (Ac rfl (BE rfl rfl (vs:=Bw S++Bw BB) (by kernel_rfl) (AB ((H.blk 0 rfl).part 33 32 _ (Va _ _ _ _)))) (Z0 2 [1] rfl (Az rfl rfl (Ag 0 H rfl rfl rfl rfl (vs:=Bw S++Bw BB) rfl (IP _ _ (wsV_one _)) (by kernel_rfl) (by simp only[DZ,List.length_append,Be];omega) (out:=(B7 n S BB S)) (Sg _ _ _ _)) ?_))));rintro w H;replace H:=H.l1;refine Zc 1 rfl (Zf rfl ?_);exact ⟨_,⟨rfl,rfl⟩,H⟩
theorem XN (n:Nat) (hn:1≤n∧n≤1024):Cn prog 58 [Iv_ (n:Int)] [] (fun v Γ=>(∃ pa,v=Pt_ pa∧Γ=[alB pa n (Dj n) BB (Dj n)])):=by
 intro z R w H;replace H:=H.l0;refine Ad func58 rfl ntmps58 rfl (Z0 11 [0] rfl (Ak 7 rfl (fun h1=> ?_) (fun h1=> ?_)))
 ·(exfalso;omega)
 ·refine Z0 5 [0] rfl (Af rfl (fun h2=> ?_) (fun h2=> ?_))
  ·(exfalso;omega)
  ·refine Zc 5 rfl (Ac rfl (AF rfl rfl (out:=(B7 n (Dj 0) BB BB)) (by kernel_rfl)) (AL rfl (Ge H rfl rfl (cs:=(B7 n (Dj 0) BB BB)) rfl) ?_));rintro _ w ⟨b1,rfl,H⟩;replace H:=H.l1;refine Zc 11 rfl ?_;refine AJ (σ:=Nat) (fun k=>[(15,Iv_ (k:Int)),(2,.pointer none),(3,Pt_ b1),(14,Iv_ (n:Int))])
     (fun k w=>Sep z (alB b1 n (Dj k) BB BB::R) w∧(k≤n)) (fun k=>n - k) 0
     (fun _ hF=>(hF.co rfl (by go_num) (hF.all rfl))) ⟨H,by omega⟩ ?_
   clear H;rintro k w ⟨H',hI⟩;have H:=H'.l1;have hkn:=hI;clear hI
   refine Z0 6 [0] rfl (Af rfl (fun h3=> ?_) (fun h3=> ?_))
   ·refine Zc 10 rfl (BI 16 (by kernel_rfl) (by kernel_rfl) (Bc H fun w H'=> ?_))
    have H:=H'.l1;refine Eg 7 [1,1,16,1,(k / 64),1+(k / 64)] [(k:Int) / 64] H rfl (by kernel_rfl) (by omega) (Cd rfl rfl rfl (AZ rfl rfl (by kernel_rfl) (AB (H.cel 0 rfl (1+(k / 64)) (Lw _ _ _ _ (by omega))))) (Eg 2 [] [(k:Int) % 64] H rfl (by kernel_rfl) (by omega) (Cd rfl rfl rfl (LX rfl rfl rfl (m:=(k % 64)) (by omega) (by omega)) (Cd rfl rfl rfl (LW rfl rfl rfl) (Eg 4 [1,1,16,1,(k / 64),1+(k / 64)] [] H rfl (by kernel_rfl) (by omega) (Cy (gw (Az rfl rfl (Ag 0 H rfl rfl rfl rfl (vs:=[u64 ((bw (Dj k) (k / 64))|||(DF (k % 64)))]) rfl (Ab rfl Ar) (by kernel_rfl) (by simp only[DZ,List.length_cons,List.length_nil];omega) (out:=(B7 n (Dj (k+1)) BB BB)) (IN _ _ _ (by omega) (Sh k))) ?_))))))));rintro w H;replace H:=H.l1;refine Z1 7 [] [(k:Int)+1] rfl (by omega) (gf ?_);intro _ hF;refine ⟨(k+1),(hF.co rfl (by go_num) (hF.all rfl)),⟨H,?_⟩,?_⟩
    ·omega
    ·omega
   ·obtain rfl:k=n:=by omega
    refine Zc 2 rfl (gx (Z0 8 [1] rfl (Ac rfl (BE rfl rfl (vs:=Bw (Dj k)++Bw BB) (by kernel_rfl) (AB ((H.blk 0 rfl).part 1 32 _ (N9 _ _ _ _)))) (Z0 2 [33] rfl (Az rfl rfl (Ag 0 H rfl rfl rfl rfl (vs:=Bw (Dj k)++Bw BB) rfl (IP _ _ (wsV_one _)) (by kernel_rfl) (by simp only[DZ,List.length_append,Be];omega) (out:=(B7 k (Dj k) BB (Dj k))) (Jl _ _ _)) ?_)))));rintro w H;replace H:=H.l1;refine Zc 9 rfl (Zr rfl ?_);exact ⟨_,⟨b1,rfl,rfl⟩,H⟩
theorem ZI (x:BitVec 64) (i:Nat) (hi:i<64) (hb1:x.getLsbD i=true) (hb0:∀ j,j<i→x.getLsbD j=false) (A:Ae) (hT:Gp A):Cn prog 118 [u64 x] [A] (fun v Γ=>v=Iv_ ((i:Nat):Int)∧Γ=[A]):=by
 intro z R w H;replace H:=H.l1;obtain ⟨hj,hv⟩:=XM x i hi hb1 hb0;refine Ad func118 rfl ntmps118 rfl (Zc 9 rfl (Ac rfl (LY (q:=0#64) (k:= .u64) rfl (by kernel_rfl) rfl rfl) (Zc 2 rfl (Af rfl (fun h1=> ?_) (fun h1=> ?_)))))
 ·(exfalso;rw[h1] at hb1;simp at hb1)
 ·refine Zc 6 rfl (Ac rfl (Xw rfl rfl) (Ac rfl (ED rfl rfl rfl) (Ac rfl (Xv (q:=285870213051353865#64) rfl rfl rfl) (Ac rfl (EP rfl rfl rfl (m:=58) rfl (by decide)) (Ac rfl (IC (l:=64) rfl (z:=1) (j:=(((x&&& -x) * 285870213051353865#64)>>>58).toNat) (r:=(((x&&& -x) * 285870213051353865#64)>>>58).toNat) (by kernel_rfl) rfl rfl rfl hj (by omega)) (Ac rfl (AZ rfl rfl (by kernel_rfl) (AB (XH 0 H rfl (fun h q=>hT h q _ hj)))) (Ac rfl (OZ rfl (by kernel_rfl) rfl) (Al 13 (v:=Iv_ ((i:Nat):Int)) rfl (congrArg Iv_ hv) (Zc 4 rfl (Zr rfl ?_))))))))));exact ⟨_,⟨rfl,rfl⟩,H⟩
theorem XO (pa n:Nat) (F D S:Nat→Bool) (p:Nat) (hp:p<n) (hn:n≤1024) (hb1:F p=true) (hb0:∀ q,q<p→F q=false) (A:Ae) (hT:Gp A):Cn prog 77 [Pt_ pa] [alB pa n F D S,A] (fun v Γ=>v= .tuple #[Iv_ (p:Int),.bool true]∧Γ=[alB pa n (CS F p) D S,A]):=by
 intro z R w H;replace H:=H.l2;refine Ad func77 rfl ntmps77 rfl (Z0 13 [1,1] rfl (Ac rfl (BE rfl rfl (vs:=Bw F) (by kernel_rfl) (AB ((H.blk 0 rfl).part 1 16 _ (Mn _ _ _ _)))) (Zc 4 rfl ?_)));refine AJ (σ:=Nat) (fun k=>[(12,Iv_ (k:Int)),(0,Pt_ pa),(11,.agg (Bw F).toArray)])
   (fun k w=>Sep z (alB pa n F D S::A::R) w∧(k≤p / 64)) (fun k=>16 - k) 0
   (fun _ hF=>(hF.co rfl (by go_num) (hF.all rfl))) ⟨H,by omega⟩ ?_
 clear H;rintro k w ⟨H',hI⟩;have H:=H'.l2;have hkp:=hI;clear hI
 refine Z0 6 [0] rfl (Af rfl (fun h1=> ?_) (fun h1=> ?_))
 ·refine Zc 7 rfl (Ac rfl (Es (m:=16) rfl (by kernel_rfl) rfl rfl rfl (j:=k) rfl (u:=u64 (bw F k)) (wsV_at F (by omega))) (Zc 7 rfl (Ac rfl (P9 (q:=0#64) (k:= .u64) rfl (by kernel_rfl) rfl rfl) (Zc 2 rfl (Af rfl (fun h2=> ?_) (fun h2=> ?_))))))
  ·have hkp2:k=p / 64:=by
     rcases Nat.lt_or_ge k (p / 64) with q|q
     · exact absurd (bw_zero.2 fun j hj=>hb0 _ (by omega)) h2
     · omega
   have htb:F (64 * k+p % 64)=true:=by rw[show 64 * k+p % 64=p by omega];exact hb1
   refine Z1 5 [] [64 * (k:Int)] rfl (by omega) (z_E_ rfl (call118 _) (ZI _ (p % 64) (by omega) (by rw[Dm _ _ _ (by omega)];exact htb) (fun j hj=>by rw[Dm _ _ _ (by omega)];exact hb0 _ (by omega)) _ hT) H.f1 ?_);intro w H;refine Z1 9 [] [(p:Int)] rfl (by omega) (z_E_ rfl (call60 _) (Qx _ _ _ _ _ _ hp hn hb1) H.f1 ?_);intro w H;refine Zc 5 rfl (Zr rfl ?_);exact ⟨_,⟨rfl,rfl⟩,H⟩
  ·have hkp2:k≠p / 64:=fun e=>by
     have:=bw_zero.1 (Decidable.not_not.1 h2) (p % 64) (by omega)
     rw[show 64 * k+p % 64=p by omega,hb1] at this;cases this
   refine Z1 7 [] [(k:Int)+1] rfl (by omega) (gf ?_);intro _ hF;refine ⟨(k+1),(hF.co rfl (by go_num) (hF.all rfl)),⟨H,?_⟩,?_⟩
   ·omega
   ·omega
 ·(exfalso;omega)
theorem Vh (pa n:Nat) (F D S:Nat→Bool) (hb0:∀ q,q<1024→F q=false):Cn prog 77 [Pt_ pa] [alB pa n F D S] (fun v Γ=>v= .tuple #[Iv_ 0,.bool false]∧Γ=[alB pa n F D S]):=by
 intro z R w H;replace H:=H.l1;refine Ad func77 rfl ntmps77 rfl (Z0 13 [1,1] rfl (Ac rfl (BE rfl rfl (vs:=Bw F) (by kernel_rfl) (AB ((H.blk 0 rfl).part 1 16 _ (Mn _ _ _ _)))) (Zc 4 rfl ?_)));refine AJ (σ:=Nat) (fun k=>[(12,Iv_ (k:Int)),(0,Pt_ pa),(11,.agg (Bw F).toArray)])
   (fun k w=>Sep z (alB pa n F D S::R) w∧(k≤16)) (fun k=>16 - k) 0
   (fun _ hF=>(hF.co rfl (by go_num) (hF.all rfl))) ⟨H,by omega⟩ ?_
 clear H;rintro k w ⟨H',hI⟩;have H:=H'.l1;have hkp:=hI;clear hI
 refine Z0 6 [0] rfl (Af rfl (fun h1=> ?_) (fun h1=> ?_))
 ·refine Zc 7 rfl (Ac rfl (Es (m:=16) rfl (by kernel_rfl) rfl rfl rfl (j:=k) rfl (u:=u64 (bw F k)) (wsV_at F (by omega))) (Zc 7 rfl (Ac rfl (P9 (q:=0#64) (k:= .u64) rfl (by kernel_rfl) rfl rfl) (Zc 2 rfl (Af rfl (fun h2=> ?_) (fun h2=> ?_))))))
  ·exact absurd (bw_zero.2 fun j hj=>hb0 _ (by omega)) h2
  ·refine Z1 7 [] [(k:Int)+1] rfl (by omega) (gf ?_);intro _ hF;refine ⟨(k+1),(hF.co rfl (by go_num) (hF.all rfl)),⟨H,?_⟩,?_⟩
   ·omega
   ·omega
 ·refine Zc 2 rfl (gx (Zc 9 rfl (Zr rfl ?_)));exact ⟨_,⟨rfl,rfl⟩,H⟩
def CG {α:Type} (f:Nat→α) (i:Nat) (x:α):Nat→α:=fun k=>if k=i then x else f k
theorem FV {α:Type} (f:Nat→α) (i:Nat) (x:α):CG f i x i=x:=by simp[CG]
theorem upf_other {α:Type} (f:Nat→α) {i k:Nat} (x:α) (h:k≠i):CG f i x k=f k:=by simp[CG,h]
def Dsk.w1 (D:Dsk) (fua:Bool) (i:Nat) (p:List UInt8):Dsk:=
 if fua then { D with dur:=CG D.dur i p,ver:=CG D.ver i [] } else { D with ver:=CG D.ver i (D.ver i++[p]) }
def Dsk.ws (D:Dsk) (fua:Bool) (i:Nat):List (List UInt8)→Dsk
 | []=>D
 | p::ps=>(D.w1 fua i p).ws fua (i+1) ps
theorem Dsk.w1_n (D:Dsk) (fua:Bool) (i:Nat) (p:List UInt8):(D.w1 fua i p).n=D.n:=by cases fua<;>rfl
theorem Dsk.w1_f (D:Dsk) (fua:Bool) (i:Nat) (p:List UInt8):(D.w1 fua i p).f1=D.f1∧(D.w1 fua i p).f2=D.f2∧(D.w1 fua i p).f3=D.f3∧(D.w1 fua i p).cut=D.cut∧(D.w1 fua i p).left=D.left:=by cases fua<;>exact ⟨rfl,rfl,rfl,rfl,rfl⟩
theorem Dsk.ws_snoc (fua:Bool) (ps:List (List UInt8)) (p:List UInt8):∀ (D:Dsk) (i:Nat),D.ws fua i (ps++[p])=(D.ws fua i ps).w1 fua (i+ps.length) p:=by
 induction ps with
 | nil=>intro D i;rfl
 | cons q qs ih=>intro D i;simp only[List.cons_append,Dsk.ws,ih,List.length_cons];rw[show i+1+qs.length=i+(qs.length+1) from by omega]
theorem Dsk.ws_n (fua:Bool) (ps:List (List UInt8)):∀ (D:Dsk) (i:Nat),(D.ws fua i ps).n=D.n:=by
 induction ps with
 | nil=>intro D i;rfl
 | cons q qs ih=>intro D i;simp only[Dsk.ws,ih,Dsk.w1_n]
theorem Dsk.ws_f (fua:Bool) (ps:List (List UInt8)):∀ (D:Dsk) (i:Nat),(D.ws fua i ps).f1=D.f1∧(D.ws fua i ps).f2=D.f2∧(D.ws fua i ps).f3=D.f3∧(D.ws fua i ps).cut=D.cut∧(D.ws fua i ps).left=D.left:=by
 induction ps with
 | nil=>intro D i;exact ⟨rfl,rfl,rfl,rfl,rfl⟩
 | cons q qs ih=>intro D i;simp only[Dsk.ws];rw[(ih _ _).1,(ih _ _).2.1,(ih _ _).2.2.1,(ih _ _).2.2.2.1,(ih _ _).2.2.2.2];exact Dsk.w1_f D fua i q
theorem Dsk.Ok.w1 {D:Dsk} (h:D.Ok) {fua:Bool} {i:Nat} {p:List UInt8} (hp:p.length=256):(D.w1 fua i p).Ok:=by
 cases fua with
 | true=>
  refine ⟨h.n1,h.n2,fun j hj=> ?_,fun j hj q hq=> ?_,h.f1,h.f2,h.f3,h.left⟩
  ·show (CG D.dur i p j).length=256
   unfold CG;split
   ·exact hp
   ·exact h.dur j hj
  ·have hq':q∈CG D.ver i [] j:=hq
   unfold CG at hq';split at hq'
   ·cases hq'
   ·exact h.ver j hj q hq'
 | false=>
  refine ⟨h.n1,h.n2,h.dur,fun j hj q hq=> ?_,h.f1,h.f2,h.f3,h.left⟩
  have hq':q∈CG D.ver i (D.ver i++[p]) j:=hq
  unfold CG at hq';split at hq'
  ·rename_i e;subst e
   rcases List.mem_append.1 hq' with h'|h'
   ·exact h.ver j hj q h'
   ·rw[List.mem_singleton.1 h'];exact hp
  ·exact h.ver j hj q hq'
theorem Ent.Ok.le {hq hq2:Hp} {e:Ent} (h:e.Ok hq) (s:Ck hq hq2):e.Ok hq2:=⟨h.1,h.2.1,fun j pv p h1 h2=>⟨(h.2.2 j pv p h1 h2).1,(h.2.2 j pv p h1 h2).2.le s⟩⟩
theorem Dsk.In.le {D:Dsk} {bs:List UInt8} {es:List Ent} {clk:Nat} {hq hq2:Hp} (h:D.In bs es clk hq) (s:Ck hq hq2):D.In bs es clk hq2:=
 ⟨h.len,h.own,fun e he=>⟨(h.ent e he).1,(h.ent e he).2.1,(h.ent e he).2.2.le s⟩,h.all,h.nodup,h.born,h.clk⟩
/-! ### parts among parts -/
theorem Jm {As:List Ae} {h:Hp} (hs:seps As h) (i:Nat) {A:Ae} (hi:As[i]? =some A):seps (A::As.eraseIdx i) h:=by
 obtain ⟨own,ho⟩:=hs
 have hil:=(List.getElem?_eq_some_iff.1 hi).1
 refine ⟨fun k=>if own k=i then 0 else if own k<i then own k+1 else own k,fun j B hj=> ?_⟩
 cases j with
 | zero=>
  simp only[List.getElem?_cons_zero,Option.some.injEq] at hj
  subst hj
  have:=ho i A hi
  rwa[CD (h':=h) (own':=fun k=>if own k=i then 0 else if own k<i then own k+1 else own k) (j:=0) (fun k=>⟨fun e=>by rw[if_pos e],fun e=>by
   split at e
   ·assumption
   ·split at e<;>omega⟩) (fun _ _=>rfl)] at this
 | succ j=>
  simp only[List.getElem?_cons_succ] at hj
  rw[List.getElem?_eraseIdx] at hj
  split at hj
  ·rename_i hlt
   have:=ho j B hj
   rwa[CD (h':=h) (own':=fun k=>if own k=i then 0 else if own k<i then own k+1 else own k) (j:=j+1) (fun k=>⟨fun e=>by rw[if_neg (by omega),if_pos (by omega)];omega,fun e=>by
    split at e
    ·omega
    ·split at e<;>omega⟩) (fun _ _=>rfl)] at this
  ·rename_i hge
   have:=ho (j+1) B hj
   rwa[CD (h':=h) (own':=fun k=>if own k=i then 0 else if own k<i then own k+1 else own k) (j:=j+1) (fun k=>⟨fun e=>by rw[if_neg (by omega),if_neg (by omega)];omega,fun e=>by
    split at e
    ·omega
    ·split at e<;>omega⟩) (fun _ _=>rfl)] at this
theorem Qy {As:List Ae} {h:Hp} (i:Nat) {A:Ae} (hi:i<As.length) (hs:seps (A::As.eraseIdx i) h):seps (As.set i A) h:=by
 obtain ⟨own,ho⟩:=hs
 have hlen:(As.eraseIdx i).length=As.length - 1:=List.length_eraseIdx_of_lt hi
 refine ⟨fun k=>if own k=0 then i else if own k≤i then own k - 1 else own k,fun j B hj=> ?_⟩
 by_cases e:j=i
 ·subst e
  rw[List.getElem?_set_self hi] at hj
  simp only[Option.some.injEq] at hj
  subst hj
  have:=ho 0 A rfl
  rwa[CD (h':=h) (own':=fun k=>if own k=0 then j else if own k≤j then own k - 1 else own k) (j:=j) (fun k=>⟨fun e=>by rw[if_pos e],fun e=>by
   split at e
   ·assumption
   ·split at e<;>omega⟩) (fun _ _=>rfl)] at this
 ·rw[List.getElem?_set_ne (Ne.symm e)] at hj
  have hjl:=(List.getElem?_eq_some_iff.1 hj).1
  rcases Nat.lt_or_ge j i with hlt|hge
  ·have:=ho (j+1) B (by rw[List.getElem?_cons_succ,List.getElem?_eraseIdx,if_pos hlt];exact hj)
   rwa[CD (h':=h) (own':=fun k=>if own k=0 then i else if own k≤i then own k - 1 else own k) (j:=j) (fun k=>⟨fun e=>by rw[if_neg (by omega),if_pos (by omega)];omega,fun e=>by
    split at e
    ·omega
    ·split at e<;>omega⟩) (fun _ _=>rfl)] at this
  ·obtain ⟨q,rfl⟩:∃ q,j=q+1:=⟨j - 1,by omega⟩
   have:=ho (q+1) B (by rw[List.getElem?_cons_succ,List.getElem?_eraseIdx,if_neg (by omega)];exact hj)
   rwa[CD (h':=h) (own':=fun k=>if own k=0 then i else if own k≤i then own k - 1 else own k) (j:=q+1) (fun k=>⟨fun e=>by rw[if_neg (by omega),if_neg (by omega)];omega,fun e=>by
    split at e
    ·omega
    ·split at e<;>omega⟩) (fun _ _=>rfl)] at this
theorem Qz {As:List Ae} {A:Ae} {h:Hp} (hs:seps (A::As) h):seps (As++[A]) h:=Dq (As:=[A]) (Bs:=As) hs
theorem QA {As:List Ae} {A:Ae} {h:Hp} (hs:seps (A::As) h):seps As h:=by
 have:=Kz hs 1 [] rfl
 exact this
theorem Vi (es:List Ent) (k:Nat) (v':Value) (f:Ent→Ent) (hf:∀ e,(f e).key=e.key∧(f e).v=v'∧(f e).born=e.born):∀ (i:Nat) (e:Ent),(es.map Ent.key).Nodup→es[i]? =some e→e.key=k→updM (es.map Ent.ie) (k:Int) v'=(es.set i (f e)).map Ent.ie:=by
 induction es with
 | nil=>intro i e _ h;simp at h
 | cons x xs ih=>
  intro i e hn hi hk
  simp only[List.map_cons,List.nodup_cons] at hn
  cases i with
  | zero=>
   simp only[List.getElem?_cons_zero,Option.some.injEq] at hi
   subst hi;subst hk
   simp[updM,Ent.ie,hf]
  | succ i=>
   simp only[List.getElem?_cons_succ] at hi
   have hne:¬ (k:Int)=(x.key:Int):=by
    intro q
    have:x.key=e.key:=by omega
    exact hn.1 (this▸List.mem_map_of_mem (List.mem_of_getElem? hi))
   simp only[List.map_cons,updM,List.set_cons_succ]
   rw[if_neg (by simpa [Ent.ie] using hne),ih i e hn.2 hi hk]
theorem Vj (es:List Ent) (k:Nat):∀ (i:Nat) (e:Ent),(es.map Ent.key).Nodup→es[i]? =some e→e.key=k→delM (es.map Ent.ie) (k:Int)=(es.eraseIdx i).map Ent.ie:=by
 induction es with
 | nil=>intro i e _ h;simp at h
 | cons x xs ih=>
  intro i e hn hi hk
  simp only[List.map_cons,List.nodup_cons] at hn
  cases i with
  | zero=>
   simp only[List.getElem?_cons_zero,Option.some.injEq] at hi
   subst hi;subst hk
   simp[delM,Ent.ie]
  | succ i=>
   simp only[List.getElem?_cons_succ] at hi
   have hne:¬ (k:Int)=(x.key:Int):=by
    intro q
    have:x.key=e.key:=by omega
    exact hn.1 (this▸List.mem_map_of_mem (List.mem_of_getElem? hi))
   simp only[List.map_cons,delM,List.eraseIdx_cons_succ]
   rw[if_neg (by simpa [Ent.ie] using hne),ih i e hn.2 hi hk]
theorem Fk {α β:Type} {f:α→β} {l:List α} (hn:(l.map f).Nodup) {i j:Nat} {a b:α} (hi:l[i]? =some a) (hj:l[j]? =some b) (e:f a=f b):i=j:=by
 have h1:=(List.getElem?_eq_some_iff.1 hi).1
 have h2:=(List.getElem?_eq_some_iff.1 hj).1
 refine (List.getElem_inj (xs:=l.map f) (h₀:=by simpa using h1) (h₁:=by simpa using h2) hn).1 ?_
 simp only[List.getElem_map]
 rw[(List.getElem?_eq_some_iff.1 hi).2,(List.getElem?_eq_some_iff.1 hj).2,e]
theorem QB {z w:World} {Γ:List Ae} {D:Dsk} {bs:List UInt8} {es:List Ent} {clk:Nat} {hq:Hp} (hI:D.In bs es clk hq) {k:Nat} (hk:k<D.n) (H:Sep z (seps (es.map Ent.row)::Γ) w):
  ∃ (v:Value) (pvs:List Value) (Rest:List Ae),(Cl (es.map Ent.ie) (k:Int)).getD (.slice none 0 0)=v∧pvs.length=(D.ver k).length∧Sep z (grow 43 1 v pvs.length pvs::seps Rest::Γ) w∧
   ∀ (v' pv:Value) (p:List UInt8),p.length=256→rdH 1 pv 256 (p.map u8) hq→∃ es',(D.w1 false k p).In bs es' (putC (es.map Ent.ie) k clk) hq∧Eq (es.map Ent.ie) k v' clk=es'.map Ent.ie∧
    ∀ h,seps (grow 43 1 v' (pvs.length+1) (pvs++[pv])::[seps Rest]) h→seps (es'.map Ent.row) h:=by
 rcases get_ent es k hI.nodup with ⟨hg,hn⟩|⟨i,e,hi,he,hg⟩
 ·have hv:D.ver k=[]:=by
   cases hvk:D.ver k with
   | nil=>rfl
   | cons p ps=>
    obtain ⟨e,he,hek⟩:=hI.all k hk (by rw[hvk];simp)
    exact absurd hek (hn e he)
  refine ⟨.slice none 0 0,[],es.map Ent.row,by simp[hg],by rw[hv];rfl,H.void fun h=>grow.nil _ _ h,fun v' pv p hp hr=> ?_⟩
  have hh:Cm (es.map Ent.ie) (k:Int)=false:=by simp[Cm,hg]
  refine ⟨es++[⟨k,v',[pv],[p],clk⟩],⟨hI.len,hI.own,?_,?_,?_,?_,?_⟩,?_,fun h hs=> ?_⟩
  ·intro e he
   rcases List.mem_append.1 he with he|he
   ·obtain ⟨h1,h2,h3⟩:=hI.ent e he
    exact ⟨h1,h2.trans (upf_other D.ver _ (hn e he)).symm,h3⟩
   ·rw[List.mem_singleton.1 he]
    refine ⟨hk,?_,rfl,by simp,fun j pv' p' h1 h2=> ?_⟩
    ·show [p]=CG D.ver k (D.ver k++[p]) k
     rw[FV,hv];rfl
    ·have:j=0:=by have:=(List.getElem?_eq_some_iff.1 h1).1;simpa using this
     subst this
     simp at h1 h2;subst h1;subst h2
     exact ⟨hp,hr⟩
  ·intro j hj hjv
   by_cases e:j=k
   ·exact ⟨_,List.mem_append_right _ (List.mem_singleton.2 rfl),e.symm⟩
   ·have:D.ver j≠[]:=by
     have h':CG D.ver k (D.ver k++[p]) j≠[]:=hjv
     rwa[upf_other _ _ e] at h'
    obtain ⟨e',he',hek⟩:=hI.all j hj this
    exact ⟨e',List.mem_append_left _ he',hek⟩
  ·rw[List.map_append]
   refine List.nodup_append.2 ⟨hI.nodup,by simp,fun a ha b hb=> ?_⟩
   simp at hb;subst hb
   obtain ⟨e',he',rfl⟩:=List.mem_map.1 ha
   exact hn e' he'
  ·rw[List.map_append]
   refine List.nodup_append.2 ⟨hI.born,by simp,fun a ha b hb=> ?_⟩
   simp at hb;subst hb
   obtain ⟨e',he',rfl⟩:=List.mem_map.1 ha
   have:=hI.clk e' he'
   omega
  ·intro e he
   simp only[putC,hh,if_false,Bool.false_eq_true]
   rcases List.mem_append.1 he with he|he
   ·have:=hI.clk e he;omega
   ·rw[List.mem_singleton.1 he];show clk<clk+1;omega
  ·simp[Eq,hh,Ent.ie]
  ·rw[List.map_append]
   refine Qz ?_
   have h2:=Dq (As:=[grow 43 1 v' 1 [pv]]) (Bs:=[seps (es.map Ent.row)]) hs
   have h3:=Hw h2
   exact Dq (As:=es.map Ent.row) (Bs:=[grow 43 1 v' 1 [pv]]) h3
 ·obtain ⟨_,h2,h3,h4,h5⟩:=hI.ent e (List.mem_of_getElem? hi)
  subst he
  have hil:=(List.getElem?_eq_some_iff.1 hi).1
  have hh:Cm (es.map Ent.ie) (e.key:Int)=true:=by simp[Cm,hg]
  refine ⟨e.v,e.pvs,(es.map Ent.row).eraseIdx i,by simp[hg],h3.trans (congrArg _ h2),?_,fun v' pv p hp hr=> ?_⟩
  ·have H1:=H.mono 0 (B:=seps (e.row::[seps ((es.map Ent.row).eraseIdx i)])) rfl (fun h hs=>by
    have h1:=Jm hs i (A:=e.row) (by rw[List.getElem?_map,hi];rfl)
    have h1':seps ((es.map Ent.row).eraseIdx i++[e.row]) h:=Dq (As:=[e.row]) (Bs:=(es.map Ent.row).eraseIdx i) h1
    have h2':=KA h1'
    exact Dq (As:=[seps ((es.map Ent.row).eraseIdx i)]) (Bs:=[e.row]) h2')
   exact Sep.opened (As:=[e.row,seps ((es.map Ent.row).eraseIdx i)]) H1
  ·refine ⟨es.set i { e with v:=v',pvs:=e.pvs++[pv],ps:=e.ps++[p] },⟨hI.len,hI.own,?_,?_,?_,?_,?_⟩,?_,fun h hs=> ?_⟩
   ·intro e' he'
    obtain ⟨j,hj⟩:=List.getElem?_of_mem he'
    rw[List.getElem?_set] at hj
    split at hj
    ·rename_i q
     subst q
     simp only[hil,if_true,Option.some.injEq] at hj
     subst hj
     refine ⟨hk,?_,by simp[h3],by simp,fun j' pv' p' q1 q2=> ?_⟩
     ·show e.ps++[p]=CG D.ver e.key (D.ver e.key++[p]) e.key
      rw[FV,h2]
     ·rcases Nat.lt_or_ge j' e.pvs.length with q|q
      ·rw[List.getElem?_append_left q] at q1
       rw[List.getElem?_append_left (by omega)] at q2
       exact h5 j' pv' p' q1 q2
      ·rw[List.getElem?_append_right q] at q1
       rw[List.getElem?_append_right (by omega)] at q2
       have:j' - e.pvs.length=0:=by have:=(List.getElem?_eq_some_iff.1 q1).1;simpa using this
       rw[this] at q1
       rw[show j' - e.ps.length=0 from by omega] at q2
       simp at q1 q2;subst q1;subst q2
       exact ⟨hp,hr⟩
    ·rename_i q
     obtain ⟨h1,h2',h3'⟩:=hI.ent e' (List.mem_of_getElem? hj)
     have hne:e'.key≠e.key:=fun q'=>by
      exact q (Fk hI.nodup hi hj q'.symm)
     exact ⟨h1,h2'.trans (upf_other D.ver _ hne).symm,h3'⟩
   ·intro j hj hjv
    by_cases q:j=e.key
    ·exact ⟨_,List.mem_of_getElem? (List.getElem?_set_self hil),q.symm⟩
    ·have:D.ver j≠[]:=by
      have h':CG D.ver e.key (D.ver e.key++[p]) j≠[]:=hjv
      rwa[upf_other _ _ q] at h'
     obtain ⟨e',he',hek⟩:=hI.all j hj this
     obtain ⟨j',hj'⟩:=List.getElem?_of_mem he'
     have hne:i≠j':=fun q'=>by
      subst q';rw[hi] at hj';cases hj';exact q hek.symm
     exact ⟨e',List.mem_of_getElem? (by rw[List.getElem?_set_ne hne];exact hj'),hek⟩
   ·rw[List.map_set]
    have:(es.map Ent.key).set i e.key=es.map Ent.key:=List.ext_getElem? fun j=>by
     rw[List.getElem?_set]
     split
     ·rename_i q;subst q;simp[hil,(List.getElem?_eq_some_iff.1 hi).2]
     ·rfl
    exact (show ((es.map Ent.key).set i e.key).Nodup by rw[this];exact hI.nodup)
   ·rw[List.map_set]
    have:(es.map Ent.born).set i e.born=es.map Ent.born:=List.ext_getElem? fun j=>by
     rw[List.getElem?_set]
     split
     ·rename_i q;subst q;simp[hil,(List.getElem?_eq_some_iff.1 hi).2]
     ·rfl
    exact (show ((es.map Ent.born).set i e.born).Nodup by rw[this];exact hI.born)
   ·intro e' he'
    simp only[putC,hh,if_true]
    obtain ⟨j,hj⟩:=List.getElem?_of_mem he'
    rw[List.getElem?_set] at hj
    split at hj
    ·simp only[hil,if_true,Option.some.injEq] at hj
     subst hj
     exact hI.clk e (List.mem_of_getElem? hi)
    ·exact hI.clk e' (List.mem_of_getElem? hj)
   ·simp only[Eq,hh,if_true]
    exact Vi es e.key v' (fun x=> { x with v:=v',pvs:=x.pvs++[pv],ps:=x.ps++[p] }) (fun x=>⟨rfl,rfl,rfl⟩) i e hI.nodup hi rfl
   ·rw[List.map_set]
    refine Qy i (by simpa using hil) ?_
    have h2:=Dq (As:=[grow 43 1 v' (e.pvs.length+1) (e.pvs++[pv])]) (Bs:=[seps ((es.map Ent.row).eraseIdx i)]) hs
    have h3:=Hw h2
    have h4:=Dq (As:=(es.map Ent.row).eraseIdx i) (Bs:=[grow 43 1 v' (e.pvs.length+1) (e.pvs++[pv])]) h3
    have e1:grow 43 1 v' (e.pvs.length+1) (e.pvs++[pv])=Ent.row { e with v:=v',pvs:=e.pvs++[pv],ps:=e.ps++[p] } :=by simp[Ent.row]
    rw[←e1]
    exact h4
theorem QC {D:Dsk} {bs bs':List UInt8} {es:List Ent} {clk:Nat} {hq:Hp} (hI:D.In bs es clk hq) {k:Nat} (hk:k<D.n) {p:List UInt8} (hp:p.length=256) (hbs:bs'=bs.take (k * 256)++p++bs.drop (k * 256+256)):
  ∃ es',(D.w1 true k p).In bs' es' clk hq∧delM (es.map Ent.ie) k=es'.map Ent.ie∧∀ h,seps (es.map Ent.row) h→seps (es'.map Ent.row) h:=by
 have hn:D.n * 256=bs.length:=hI.len.symm
 have hkl:k * 256+256≤bs.length:=by omega
 have hlen:bs'.length=D.n * 256:=by subst hbs;simp[hp];omega
 have hown:∀ i,i<D.n→(bs'.drop (i * 256)).take 256=(D.w1 true k p).dur i:=fun i hi=>by
  show _=CG D.dur k p i
  subst hbs
  have e0:(bs.take (k * 256)).length=k * 256:=by rw[List.length_take];omega
  rcases Nat.lt_trichotomy i k with h|h|h
  ·rw[upf_other _ _ (by omega),←hI.own i hi]
   rw[List.append_assoc,List.drop_append_of_le_length (by omega),List.take_append_of_le_length (by rw[List.length_drop,e0];omega)]
   rw[List.drop_take,List.take_take]
   rw[show min 256 (k * 256 - i * 256)=256 from by omega]
  ·subst h
   rw[FV,List.append_assoc,List.drop_append_of_le_length (by omega),List.drop_of_length_le (by omega),List.nil_append]
   rw[List.take_append_of_le_length (by omega),List.take_of_length_le (by omega)]
  ·rw[upf_other _ _ (by omega),←hI.own i hi]
   rw[List.drop_append,List.drop_of_length_le (by simp[hp];omega),List.nil_append,List.drop_drop]
   congr 2
   simp[hp];omega
 rcases get_ent es k hI.nodup with ⟨hg,hno⟩|⟨i,e,hi,he,hg⟩
 ·refine ⟨es,⟨hlen,hown,fun e he=> ?_,fun j hj hjv=> ?_,hI.nodup,hI.born,hI.clk⟩,LO _ _ hg,fun h hs=>hs⟩
  ·obtain ⟨h1,h2,h3⟩:=hI.ent e he
   exact ⟨h1,h2.trans (upf_other D.ver _ (hno e he)).symm,h3⟩
  ·have h':CG D.ver k [] j≠[]:=hjv
   by_cases q:j=k
   ·subst q;rw[FV] at h';exact absurd rfl h'
   ·rw[upf_other _ _ q] at h';exact hI.all j hj h'
 ·subst he
  have hil:=(List.getElem?_eq_some_iff.1 hi).1
  have hsub:(es.eraseIdx i).Sublist es:=List.eraseIdx_sublist es i
  have hkey:∀ e'∈es.eraseIdx i,e'.key≠e.key:=fun e' he' q=>by
   obtain ⟨j,hj⟩:=List.getElem?_of_mem he'
   rw[List.getElem?_eraseIdx] at hj
   have key:∀ j',j'≠i→es[j']? =some e'→False:=fun j' hne hj'=>by
    exact hne (Fk hI.nodup hj' hi q)
   split at hj
   ·exact key j (by omega) hj
   ·exact key (j+1) (by omega) hj
  refine ⟨es.eraseIdx i,⟨hlen,hown,fun e' he'=> ?_,fun j hj hjv=> ?_,(hsub.map Ent.key).nodup hI.nodup,(hsub.map Ent.born).nodup hI.born,fun e' he'=>hI.clk e' (hsub.subset he')⟩,Vj es e.key i e hI.nodup hi rfl,fun h hs=> ?_⟩
  ·obtain ⟨h1,h2,h3⟩:=hI.ent e' (hsub.subset he')
   exact ⟨h1,h2.trans (upf_other D.ver _ (hkey e' he')).symm,h3⟩
  ·have h':CG D.ver e.key [] j≠[]:=hjv
   by_cases q:j=e.key
   ·subst q;rw[FV] at h';exact absurd rfl h'
   ·rw[upf_other _ _ q] at h'
    obtain ⟨e',he',hek⟩:=hI.all j hj h'
    refine ⟨e',?_,hek⟩
    obtain ⟨j',hj'⟩:=List.getElem?_of_mem he'
    have hne:j'≠i:=fun q'=>by subst q';rw[hi] at hj';cases hj';exact q hek.symm
    rw[List.mem_eraseIdx_iff_getElem?]
    exact ⟨j',hne,hj'⟩
  ·have h1:=Jm hs i (A:=e.row) (by rw[List.getElem?_map,hi];rfl)
   have h2:=QA h1
   have e0:(es.map Ent.row).eraseIdx i=(es.eraseIdx i).map Ent.row:=by
    apply List.ext_getElem?
    intro j
    simp only[List.getElem?_eraseIdx,List.getElem?_map]
    split<;>rfl
   rwa[e0] at h2
theorem Sj {z w:World} {Γ:List Ae} {hq:Hp} {b:Nat} {cs:List Value} {t:TypeId} (H:Sep z (poolA hq::blk b cs t::Γ) w):∃ hq2,(Ck hq hq2∧blk b cs t hq2)∧Sep z (poolA hq2::Γ) w:=by
 have H1:Sep z (seps [poolA hq,blk b cs t]::Γ) w:=Sep.shut (As:=[poolA hq,blk b cs t]) H
 exact H1.exAt 0 (σ:=Hp) (p:=fun hq2=>Ck hq hq2∧blk b cs t hq2) (B:=fun hq2=>poolA hq2) rfl (fun h hs=>by
  refine ⟨h,⟨fun k o e=> ?_,?_⟩,fun k o e=>e⟩
  ·obtain ⟨h',h1,h2⟩:=E6 hs (i:=0) rfl
   exact h2 _ _ (h1 _ _ e)
  ·obtain ⟨h',h1,h2⟩:=E6 hs (i:=1) rfl
   exact h2 _ _ h1)
/-! ### a disk whose pool is named -/
def diskQ (pd:Nat) (D:Dsk) (hq:Hp):Ae:=fun h=>∃ (bd m:Nat) (f0:Int) (bs:List UInt8) (es:List Ent) (clk:Nat),(D.Ok∧D.In bs es clk hq)∧seps (Em pd bd m D f0 bs es clk hq) h
structure DskY where
 bd:Nat
 m:Nat
 f0:Int
 bs:List UInt8
 es:List Ent
 clk:Nat
theorem Sep.diskQ {z w:World} {Γ:List Ae} {pd:Nat} {D:Dsk} {hq:Hp} (H:Sep z (YtjegbnfpodadcaaGreatDoor.diskQ pd D hq::Γ) w):∃ bd m f0 bs es clk,D.Ok∧D.In bs es clk hq∧Sep z (Em pd bd m D f0 bs es clk hq++Γ) w:=by
 obtain ⟨x,⟨h1,h2⟩,H⟩:=H.into (σ:=DskY) (p:=fun x=>D.Ok∧D.In x.bs x.es x.clk hq) (As:=fun x=>Em pd x.bd x.m D x.f0 x.bs x.es x.clk hq)
  (fun h a=>by obtain ⟨bd,m,f0,bs,es,clk,hp,hs⟩:=a;exact ⟨⟨bd,m,f0,bs,es,clk⟩,hp,hs⟩)
 exact ⟨_,_,_,_,_,_,h1,h2,H⟩
theorem Sep.toDiskQ {z w:World} {Γ:List Ae} {pd bd m:Nat} {D:Dsk} {f0:Int} {bs:List UInt8} {es:List Ent} {clk:Nat} {hq:Hp} (H:Sep z (Em pd bd m D f0 bs es clk hq++Γ) w) (h1:D.Ok) (h2:D.In bs es clk hq):Sep z (YtjegbnfpodadcaaGreatDoor.diskQ pd D hq::Γ) w:=
 H.shut.mono 0 rfl (fun h a=>⟨_,_,_,_,_,_,⟨h1,h2⟩,a⟩)
theorem Dsk.w1_ver (D:Dsk) (fua:Bool) {i j:Nat} (p:List UInt8) (h:j≠i):(D.w1 fua i p).ver j=D.ver j:=by
 cases fua
 ·exact upf_other D.ver _ h
 ·exact upf_other D.ver _ h
theorem Dsk.ws_ver (fua:Bool) (ps:List (List UInt8)):∀ (D:Dsk) (i j:Nat),j<i∨i+ps.length≤j→(D.ws fua i ps).ver j=D.ver j:=by
 induction ps with
 | nil=>intro D i j _;rfl
 | cons q qs ih=>
  intro D i j h
  simp only[List.length_cons] at h
  simp only[Dsk.ws]
  rw[ih _ _ _ (by omega),Dsk.w1_ver _ _ _ (by omega)]
theorem Dsk.ws_take {D:Dsk} {fua:Bool} {k i:Nat} {ps:List (List UInt8)} {p:List UInt8} (h:ps[i]? =some p):D.ws fua k (ps.take (i+1))=(D.ws fua k (ps.take i)).w1 fua (k+i) p:=by
 rw[List.take_add_one,h]
 have hl:=(List.getElem?_eq_some_iff.1 h).1
 rw[show (some p).toList=[p] from rfl,Dsk.ws_snoc,List.length_take,Nat.min_eq_left (by omega)]
theorem Sk {g:Nat} {hq:Hp} {t:TypeId} {ps:List (List UInt8)} {rest:List Value} (hb:blk g (ps.flatten.map u8++rest) t hq) (hps:∀ p∈ps,p.length=256) {i:Nat} {p:List UInt8} (h:ps[i]? =some p):rdH 1 (.slice (some ⟨g,0+i * 256,none⟩) 256 256) 256 (p.map u8) hq:=by
 have key:∀ (ps:List (List UInt8)) (i:Nat) (p:List UInt8),(∀ p∈ps,p.length=256)→ps[i]? =some p→(ps.flatten.drop (i * 256)).take 256=p∧i * 256+256≤ps.flatten.length:=by
  intro ps
  induction ps with
  | nil=>intro i p _ h;simp at h
  | cons q qs ih=>
   intro i p hl h
   have hq256:=hl q (by simp)
   cases i with
   | zero=>
    simp only[List.getElem?_cons_zero,Option.some.injEq] at h
    subst h
    simp[List.take_append_of_le_length,hq256]
   | succ i=>
    simp only[List.getElem?_cons_succ] at h
    obtain ⟨h1,h2⟩:=ih i p (fun p hp=>hl p (by simp[hp])) h
    rw[List.flatten_cons,show (i+1) * 256=q.length+i * 256 from by omega,List.drop_append]
    refine ⟨?_,by rw[List.length_append];omega⟩
    rw[List.drop_of_length_le (by omega),List.nil_append]
    rw[show q.length+i * 256 - q.length=i * 256 from by omega]
    exact h1
 obtain ⟨h1,h2⟩:=key ps i p hps h
 have hl:(ps.flatten.map u8).length=ps.flatten.length:=List.length_map u8
 refine hb.rd (by omega) (by omega) (by rw[List.length_append,hl];omega) ?_
 rw[Nat.zero_add,Nat.mul_one,List.drop_append_of_le_length (by rw[hl];omega),List.take_append_of_le_length (by rw[List.length_drop,hl];omega),←List.map_drop,←List.map_take,h1]
def Vk (c:UInt32):UInt32:=(c>>>1) ^^^ ((c&&&1) * 2197175160)
def Ia:Nat→UInt32→UInt32
 | 0,c=>c
 | k+1,c=>Vk (Ia k c)
def crcTab:List UInt32:=(List.range 256).map fun i:Nat=>Ia 8 (EO (i:Int))
theorem G6:crcTab.length=256:=by simp[crcTab]
theorem Jn {i:Nat} (h:i<256):crcTab[i]? =some (Ia 8 (EO (i:Int))):=by simp[crcTab,h]
def GE (c:UInt32) (b:UInt8):UInt32:=(c>>>8) ^^^ (crcTab[(c.toUInt8 ^^^ b).toNat]?.getD 0)
def D4 (c:UInt32) (bs:List UInt8):UInt32:=4294967295 ^^^ (bs.foldl GE (4294967295 ^^^ c))
def AQ (bs:List UInt8):UInt32:=D4 0 bs
theorem J7 (c:UInt32) (a b:List UInt8):D4 (D4 c a) b=D4 c (a++b):=by
 unfold D4
 rw[←UInt32.xor_assoc,UInt32.xor_self,UInt32.zero_xor,List.foldl_append]
def Zy:Value:= .int .u32 0
def By (x0 x1 x2:Value) (i:Nat):List Value:=[x0,x1,x2]++((crcTab.take i).map u32++List.replicate (256 - i) Zy)
theorem Sl (x0 x1 x2:Value) {i:Nat} (h:i≤256):(By x0 x1 x2 i).length=259:=by simp[By,G6];omega
theorem QD (x0 x1 x2:Value) {i:Nat} (h:i<256):(By x0 x1 x2 i).take (3+i)++[u32 (Ia 8 (EO (i:Int)))]++(By x0 x1 x2 i).drop (3+i+1)=By x0 x1 x2 (i+1):=by
 have hA:([x0,x1,x2]++(crcTab.take i).map u32).length=3+i:=by simp[G6];omega
 have e1:By x0 x1 x2 i=([x0,x1,x2]++(crcTab.take i).map u32)++List.replicate (256 - i) Zy:=by simp[By]
 rw[e1,List.take_append_of_le_length (by omega),List.take_of_length_le (by omega),List.drop_append,List.drop_of_length_le (by omega),List.nil_append,hA]
 rw[show 3+i+1 - (3+i)=1 from by omega,List.drop_replicate]
 unfold By
 rw[List.take_add_one,Jn h]
 simp
 omega
def ZJ (pt:Nat):Ae:=blk pt (By (.int .u32 0) (.int .i32 0) (.int .u32 0) 0) 183
def ZK (pt:Nat):Ae:=blk pt (By (.int .u32 1) (.int .i32 0) (.int .u32 0) 256) 183
def tblA (pt:Nat):Ae:=fun h=>ZJ pt h∨ZK pt h
theorem QE (x0 x1 x2:Value) (b:UInt8):(By x0 x1 x2 256)[3+b.toNat]? =some (u32 (crcTab[b.toNat]?.getD 0)):=by
 have hb:=b.toNat_lt
 have hl:=G6
 simp only[By]
 rw[List.getElem?_append_right (by simp)]
 simp only[List.length_cons,List.length_nil]
 rw[show 3+b.toNat - (0+1+1+1)=b.toNat from by omega]
 rw[List.getElem?_append_left (by simp[hl];omega),List.getElem?_map,List.take_of_length_le (by omega),Jn (by omega)]
 rfl
def Ah (k:Nat) (x:Int):List UInt8:=(List.range k).map fun i:Nat=>FO (x / 2 ^ (8 * (k - 1 - i)))
theorem Ai (k:Nat) (x:Int):(Ah k x).length=k:=by simp[Ah]
theorem beN_get {k i:Nat} (x:Int) (h:i<k):(Ah k x)[i]? =some (FO (x / 2 ^ (8 * (k - 1 - i)))):=by simp[Ah,h]
def Fx (bs T:List UInt8) (a i:Nat):List UInt8:=bs.take a++T.take i++bs.drop (a+i)
def Bp (bs T:List UInt8) (a:Nat):List UInt8:=bs.take a++T++bs.drop (a+T.length)
theorem Vl {bs T:List UInt8} {a i:Nat} (h:a+i≤bs.length) (hi:i≤T.length):(Fx bs T a i).length=bs.length:=by simp[Fx];omega
theorem Sm (bs T:List UInt8) (a:Nat):Fx bs T a 0=bs:=by simp[Fx]
theorem Vm (bs T:List UInt8) (a:Nat) {i:Nat} (h:i=T.length):Fx bs T a i=Bp bs T a:=by subst h;simp[Fx,Bp]
theorem Ds {bs T:List UInt8} {a:Nat} (h:a+T.length≤bs.length):(Bp bs T a).length=bs.length:=by simp[Bp];omega
theorem Sn {bs T:List UInt8} {a i:Nat} {b:UInt8} (tl:List Value) (h:a+T.length≤bs.length) (hb:T[i]? =some b):
  ((Fx bs T a i).map u8++tl).take (a+i)++[u8 b]++((Fx bs T a i).map u8++tl).drop (a+i+1)=(Fx bs T a (i+1)).map u8++tl:=by
 have hi:=(List.getElem?_eq_some_iff.1 hb).1
 have hA:(bs.take a++T.take i).length=a+i:=by simp;omega
 have hd:bs.drop (a+i)=bs[a+i]'(by omega)::bs.drop (a+i+1):=List.drop_eq_getElem_cons (by omega)
 unfold Fx
 rw[List.take_add_one,hb,hd]
 simp only[List.map_append,List.map_cons,List.append_assoc]
 rw[←List.append_assoc (List.map u8 (bs.take a)),←List.map_append]
 rw[List.take_append_of_le_length (by simp;omega),List.take_of_length_le (by simp;omega),List.drop_append,List.drop_of_length_le (by simp;omega)]
 rw[show a+i+1 - (List.map u8 (bs.take a++T.take i)).length=1 from by rw[List.length_map,hA];omega]
 simp[Nat.add_assoc]
def G7 (s:UInt32):List UInt8:=[s.toUInt8,(s>>>8).toUInt8,(s>>>16).toUInt8,(s>>>24).toUInt8]
def D5 (l:List UInt8):Nat:=l.foldl (fun n b=>256 * n+b.toNat) 0
theorem Jo (l:List UInt8) (b:UInt8):D5 (l++[b])=256 * D5 l+b.toNat:=by simp[D5,List.foldl_append]
theorem HC:∀ (l:List UInt8) (acc:Nat),l.foldl (fun n b=>256 * n+b.toNat) acc<(acc+1) * 256 ^ l.length
 | [],acc=>by simp
 | b::l,acc=>by
  have h:=HC l (256 * acc+b.toNat)
  have hb:=b.toNat_lt
  simp only[List.foldl_cons,List.length_cons,Nat.pow_succ]
  have h2:(256 * acc+b.toNat+1) * 256 ^ l.length≤(256 * (acc+1)) * 256 ^ l.length:=Nat.mul_le_mul_right _ (by omega)
  have h3:256 * (acc+1) * 256 ^ l.length=(acc+1) * (256 ^ l.length * 256):=by
   rw[Nat.mul_comm 256 (acc+1),Nat.mul_assoc,Nat.mul_comm 256]
  omega
theorem So (l:List UInt8):D5 l<256 ^ l.length:=by have:=HC l 0;simpa [D5] using this
def A5 (l:List UInt8):Int:=IntKind.i64.wrap (D5 l)
theorem Pd {l:List UInt8} (h:l.length≤7):A5 l=D5 l:=by
 have h1:=So l
 have h2:256 ^ l.length≤256 ^ 7:=Nat.pow_le_pow_right (by omega) h
 exact IntWalk.i64_in _ (by omega)
theorem Gh (x:Int):∃ q,IntKind.i64.wrap x=x+q * 18446744073709551616∧ -9223372036854775808≤IntKind.i64.wrap x∧IntKind.i64.wrap x≤9223372036854775807:=by
 have key:IntKind.i64.wrap x=if 9223372036854775808≤x % 18446744073709551616 then x % 18446744073709551616 - 18446744073709551616 else x % 18446744073709551616:=by
  show (if (true && decide (x % (2 ^ 64:Int)≥(2 ^ (64 - 1):Int)))=true then x % (2 ^ 64:Int) - (2 ^ 64:Int) else x % (2 ^ 64:Int))=_
  simp only[Bool.true_and,decide_eq_true_eq,show (2:Int) ^ 64=18446744073709551616 from rfl,show (2:Int) ^ (64 - 1)=9223372036854775808 from rfl,ge_iff_le]
 rw[key]
 by_cases h:9223372036854775808≤x % 18446744073709551616
 ·rw[if_pos h];exact ⟨-(x / 18446744073709551616) - 1,by omega,by omega,by omega⟩
 ·rw[if_neg h];exact ⟨-(x / 18446744073709551616),by omega,by omega,by omega⟩
theorem Od (x:Int) (b:UInt8):IntKind.i64.wrap (IntKind.i64.wrap x * 256) % 256=0∧IntKind.i64.wrap (IntKind.i64.wrap x * 256)+b.toNat=IntKind.i64.wrap (256 * x+b.toNat):=by
 have hb:=b.toNat_lt
 obtain ⟨q1,h1,h2,h3⟩:=Gh x
 obtain ⟨q2,h4,h5,h6⟩:=Gh (IntKind.i64.wrap x * 256)
 obtain ⟨q4,h7,h8,h9⟩:=Gh (256 * x+b.toNat)
 omega
theorem Vn (k:Nat) {x:Nat} (h:x<256 ^ k):D5 (Ah k (x:Int))=x:=by
 induction k generalizing x with
 | zero=>simp at h;subst h;rfl
 | succ k ih=>
  have e:Ah (k+1) (x:Int)=Ah k ((x / 256:Nat):Int)++[FO (x:Int)]:=by
   apply List.ext_getElem?
   intro i
   rcases Nat.lt_trichotomy i k with h1|h1|h1
   ·rw[beN_get _ (by omega),List.getElem?_append_left (by rw[Ai];omega),beN_get _ h1]
    congr 2
    rw[show 8 * (k+1 - 1 - i)=8+8 * (k - 1 - i) from by omega,Int.pow_add,←Int.ediv_ediv_of_nonneg (by decide)]
    rfl
   ·subst h1
    rw[beN_get _ (by omega),List.getElem?_append_right (by rw[Ai];omega),Ai]
    simp
   ·rw[List.getElem?_eq_none (by rw[Ai];omega),List.getElem?_eq_none (by simp[Ai];omega)]
  rw[e,Jo,ih (by rw[Nat.pow_succ] at h;omega)]
  have:(FO (x:Int)).toNat=x % 256:=by simp[FO];omega
  rw[this];omega
/-! ### a writer's memory:256 bytes and a place -/
def AX (bs:List UInt8) (a:Int):List Value:=bs.map u8++[.int .i64 a]
theorem EF {bs:List UInt8} (a:Int) (h:bs.length=256):(AX bs a).length=257:=by simp[AX,h]
theorem Mr {bs:List UInt8} (a:Int) (h:bs.length=256):(AX bs a)[256]? =some (Iv_ a):=by simp[AX,List.getElem?_append,h]
theorem Ib {bs:List UInt8} (a a':Int) (h:bs.length=256):(AX bs a).take 256++[Iv_ a']++(AX bs a).drop (256+1)=AX bs a':=by
 unfold AX
 rw[List.take_append_of_le_length (by simp[h]),List.take_of_length_le (by simp[h]),List.drop_of_length_le (by simp[h]),List.append_nil]
theorem Sp {bs T:List UInt8} {a i:Nat} {b:UInt8} (x:Int) (h:a+T.length≤bs.length) (hb:T[i]? =some b):
  (AX (Fx bs T a i) x).take (a+i)++[u8 b]++(AX (Fx bs T a i) x).drop (a+i+1)=AX (Fx bs T a (i+1)) x:=Sn _ h hb
theorem Ms {bs T:List UInt8} {a k:Nat} (x:Int) (h:a+T.length≤bs.length) (hk:k=T.length):(AX bs x).take a++(T.map u8).take k++(AX bs x).drop (a+k)=AX (Bp bs T a) x:=by
 subst hk
 unfold AX Bp
 rw[List.take_append_of_le_length (by simp;omega),List.drop_append_of_le_length (by simp;omega),List.take_of_length_le (l:=T.map u8) (by simp)]
 simp
def wrH (pw:Nat) (a:Int):Ae:=fun h=>∃ bs:List UInt8,bs.length=256∧blk pw (AX bs a) 165 h
theorem wrH.at {pw:Nat} {a:Int} {h:Hp} (w:wrH pw a h):celH h pw 256 (Iv_ a):=by
 obtain ⟨bs,hl,hb⟩:=w
 exact hb.celH 256 (Mr a hl)
theorem HD {pw lo n c:Nat} {bs ys:List UInt8} {a:Int} {t:TypeId} {h:Hp} (q:blk pw (AX bs a) t h) (hb:bs.length=256) (h1:lo+n≤256) (h2:n≤c) (h3:c≤256) (hy:(bs.drop lo).take n=ys):rdH 1 (.slice (some ⟨pw,lo,none⟩) n c) n (ys.map u8) h:=by
 subst hy
 refine q.rd h2 (by omega) (by rw[EF _ hb];omega) ?_
 unfold AX
 rw[List.drop_append_of_le_length (by simp;omega),List.take_append_of_le_length (by simp;omega),Nat.mul_one]
 simp
def Mt (bs:List UInt8):List UInt8:=Bp bs (G7 (AQ (bs.take 252))) 252
theorem Vo {bs:List UInt8} (h:bs.length=256):(Mt bs).length=256:=by
 unfold Mt;rw[Ds (by simp[G7,h])];exact h
/-! ### reading numbers -/
theorem QF (x:Int):IntKind.i64.wrap (IntKind.i64.wrap x)=IntKind.i64.wrap x:=IntWalk.i64_in _ (by obtain ⟨q,h1,h2,h3⟩:=Gh x;omega)
theorem Mu (l:List UInt8):IntKind.i64.wrap (A5 l * 2 ^ 8) % 256=0:=(Od (D5 l) 0).1
theorem KH {xs:List UInt8} {j:Nat} {b:UInt8} (h:xs[j]? =some b):IntKind.i64.wrap (IntKind.i64.wrap (A5 (xs.take j) * 2 ^ 8)+(b.toNat:Int))=A5 (xs.take (j+1)):=by
 rw[List.take_add_one,h]
 show IntKind.i64.wrap (IntKind.i64.wrap (IntKind.i64.wrap (D5 (xs.take j)) * 256)+(b.toNat:Int))=IntKind.i64.wrap (D5 (xs.take j++[b]):Nat)
 rw[(Od _ b).2,QF,Jo]
 congr 1
/-! ### noughts at the ends -/
def rz:List UInt8→Nat
 | []=>0
 | x::xs=>if rz xs=0∧x=0 then 0 else rz xs+1
theorem Pe:∀ xs:List UInt8,rz xs≤xs.length
 | []=>Nat.le_refl _
 | x::xs=>by have:=Pe xs;simp only[rz,List.length_cons];split<;>omega
theorem Pf:∀ (xs:List UInt8) (j:Nat) (b:UInt8),rz xs≤j→xs[j]? =some b→b=0
 | [],j,b,_,h=>by simp at h
 | x::xs,0,b,h1,h=>by
  simp only[rz] at h1
  split at h1
  ·rename_i q;simp at h;exact h▸q.2
  ·omega
 | x::xs,j+1,b,h1,h=>by
  simp only[rz] at h1
  refine Pf xs j b ?_ (by simpa using h)
  split at h1<;>omega
theorem J8:∀ (xs:List UInt8) (m:Nat),rz xs=m+1→∃ b,xs[m]? =some b∧b≠0
 | [],m,h=>by simp[rz] at h
 | x::xs,m,h=>by
  simp only[rz] at h
  split at h
  ·omega
  ·rename_i q
   cases m with
   | zero=>exact ⟨x,by simp,fun e=>q ⟨by omega,e⟩⟩
   | succ m=>obtain ⟨b,h1,h2⟩:=J8 xs m (by omega);exact ⟨b,by simpa using h1,h2⟩
theorem rz_is {xs:List UInt8} {m:Nat} (hm:m≤xs.length) (h0:∀ j b,m≤j→xs[j]? =some b→b=0) (h1:m=0∨∃ b,xs[m - 1]? =some b∧b≠0):m=rz xs:=by
 rcases Nat.lt_trichotomy m (rz xs) with q|q|q
 ·obtain ⟨b,e,hb⟩:=J8 xs (rz xs - 1) (by omega)
  exact absurd (h0 _ _ (by omega) e) hb
 ·exact q
 ·rcases h1 with h1|⟨b,e,hb⟩
  ·omega
  ·exact absurd (Pf xs _ _ (by omega) e) hb
theorem Oe {xs:List UInt8} :rz xs=0↔∀ b∈xs,b=0:=by
 constructor
 ·intro h b hb
  obtain ⟨j,hj,rfl⟩:=List.mem_iff_getElem.1 hb
  exact Pf xs j _ (by omega) (List.getElem?_eq_getElem hj)
 ·intro h
  exact (rz_is (Nat.zero_le _) (fun j b _ e=>h b (List.mem_of_getElem? e)) (.inl rfl)).symm
def lz:List UInt8→Nat
 | []=>0
 | x::xs=>if x=0 then lz xs+1 else 0
theorem Jp:∀ {xs:List UInt8} {p:Nat},p≤xs.length→(∀ j b,j<p→xs[j]? =some b→b=0)→(p=xs.length∨∃ b,xs[p]? =some b∧b≠0)→p=lz xs
 | [],p,hp,_,_=>by simp at hp;subst hp;rfl
 | x::xs,0,_,_,h1=>by
  rcases h1 with h1|⟨b,e,hb⟩
  ·simp at h1
  ·simp at e;subst e;simp[lz,hb]
 | x::xs,p+1,hp,h0,h1=>by
  have e:=h0 0 x (by omega) rfl
  subst e
  have:=Jp (xs:=xs) (p:=p) (by simpa using hp) (fun j b hj e=>h0 (j+1) b (by omega) (by simpa using e)) (by simpa using h1)
  simp[lz,this]
theorem Y9 {xs:List UInt8} (h:rz xs≠0):lz (xs.take (rz xs))<rz xs:=by
 obtain ⟨b,e,hb⟩:=J8 xs (rz xs - 1) (by omega)
 have hl:=Pe xs
 rcases Nat.lt_or_ge (lz (xs.take (rz xs))) (rz xs) with q|q
 ·exact q
 ·have key:∀ (ys:List UInt8) j b,j<lz ys→ys[j]? =some b→b=0:=by
   intro ys
   induction ys with
   | nil=>intro j b hj;simp[lz] at hj
   | cons y ys ih=>
    intro j b hj e
    simp only[lz] at hj
    split at hj
    ·rename_i q
     cases j with
     | zero=>simp at e;exact e▸q
     | succ j=>exact ih j b (by omega) (by simpa using e)
    ·omega
  exact absurd (key (xs.take (rz xs)) (rz xs - 1) b (by omega) (by rw[List.getElem?_take,if_pos (by omega)];exact e)) hb
def IQ (mag sec:List UInt8):Prop:=sec.drop 252=G7 (AQ (sec.take 252))∧sec.take 4=mag
instance (mag sec:List UInt8):Decidable (IQ mag sec):=by unfold IQ;exact inferInstance
theorem Mv {sec:List UInt8} (h:sec.length=256):∃ c0 c1 c2 c3,sec.drop 252=[c0,c1,c2,c3]:=by
 have hl:(sec.drop 252).length=4:=by simp[h]
 match hd:sec.drop 252,hl with
 | [c0,c1,c2,c3],_=>exact ⟨c0,c1,c2,c3,rfl⟩
/-! ### what writers write -/
def AN (l:List UInt8):List UInt8:=l++List.replicate (256 - l.length) 0
theorem A7 {l:List UInt8} (h:l.length≤256):(AN l).length=256:=by simp[AN];omega
theorem BR {l t:List UInt8} {a:Nat} (ha:a=l.length) (h:a+t.length≤256):Bp (AN l) t a=AN (l++t):=by
 subst ha
 unfold Bp AN
 rw[List.take_left' rfl,List.drop_append,List.drop_of_length_le (by omega),List.nil_append,List.drop_replicate,List.length_append]
 rw[show 256 - l.length - (l.length+t.length - l.length)=256 - (l.length+t.length) from by omega]
theorem Sr {l t:List UInt8} {a:Nat} (ha:l.length≤a) (h:a+t.length≤256):Bp (AN l) t a=AN (l++List.replicate (a - l.length) 0++t):=by
 have:AN l=AN (l++List.replicate (a - l.length) 0):=by
  unfold AN
  rw[List.append_assoc,List.length_append,List.length_replicate,List.replicate_append_replicate]
  congr 2;omega
 rw[this,BR (by simp;omega) h]
def Bf (l:List UInt8):List UInt8:=Mt (AN l)
theorem sect_len {l:List UInt8} (h:l.length≤252):(Bf l).length=256:=Vo (A7 (by omega))
theorem HE {l:List UInt8} (h:l.length≤252):(Bf l).take 252=(AN l).take 252:=by
 unfold Bf Mt Bp
 rw[List.append_assoc,List.take_append_of_le_length (by simp[A7 (show l.length≤256 by omega)]),List.take_take]
 simp
theorem G8 {l:List UInt8} (h:l.length≤252):(Bf l).drop 252=G7 (AQ ((Bf l).take 252)):=by
 rw[HE h]
 have hl:=A7 (show l.length≤256 by omega)
 unfold Bf Mt Bp
 rw[List.append_assoc,List.drop_append,List.drop_of_length_le (by simp[hl])]
 simp[hl,G7]
theorem BM {l:List UInt8} (h:l.length≤252) {p k:Nat} (hp:p+k≤l.length):((Bf l).drop p).take k=(l.drop p).take k:=by
 have e:((Bf l).drop p).take k=(((Bf l).take 252).drop p).take k:=by
  rw[List.drop_take,List.take_take];congr 1;omega
 rw[e,HE h,List.drop_take,List.take_take]
 rw[show min k (252 - p)=k from by omega]
 unfold AN
 rw[List.drop_append_of_le_length (by omega),List.take_append_of_le_length (by simp;omega)]
theorem KI {l:List UInt8} (h:l.length≤252):rz (((Bf l).drop l.length).take (252 - l.length))=0:=by
 rw[Oe]
 intro b hb
 have e:((Bf l).drop l.length).take (252 - l.length)=(((Bf l).take 252).drop l.length):=by rw[List.drop_take]
 rw[e,HE h,List.drop_take] at hb
 unfold AN at hb
 rw[List.drop_left' rfl] at hb
 exact (List.mem_replicate.1 (List.mem_of_mem_take hb)).2
/-! ### heads and images -/
theorem BS (ns:List Int):(ns.flatMap (Ah 4)).length=4 * ns.length:=by
 induction ns with
 | nil=>rfl
 | cons x ns ih=>simp[Ai,ih];omega
theorem QG {ns:List Int} {i:Nat} {x:Int} (h:ns[i]? =some x):(ns.take i).flatMap (Ah 4)++Ah 4 x=(ns.take (i+1)).flatMap (Ah 4):=by
 rw[List.take_add_one,h];simp
def Bm (sec:List UInt8):Nat:=(A5 ((sec.drop 24).take 2)).toNat
def DP (sec:List UInt8) (j:Nat):Int:=A5 ((sec.drop (26+4 * j)).take 4)
def hN (sec:List UInt8) (i:Nat):List Value:=(List.range i).map fun j=>Value.int .i64 (DP sec j)
theorem Vp (sec:List UInt8) (i:Nat):hN sec i++[Iv_ (DP sec i)]=hN sec (i+1):=by simp[hN,List.range_succ]
def G9 (sec:List UInt8):Prop:=IQ [80,76,79,71] sec∧(0≤A5 ((sec.drop 4).take 8)∧A5 ((sec.drop 4).take 8)≤1099511627776)∧(0≤A5 ((sec.drop 12).take 8)∧A5 ((sec.drop 12).take 8)≤1099511627776)∧(1≤Bm sec∧Bm sec≤40)∧(∀ j,j<Bm sec→0≤DP sec j∧DP sec j≤1023)∧rz ((sec.drop (26+4 * Bm sec)).take (252 - (26+4 * Bm sec)))=0
def HF (sec:List UInt8):Prop:=sec.drop 252=G7 (AQ (sec.take 252))∧(1≤A5 (sec.take 1)∧A5 (sec.take 1)≤5)∧(0≤A5 ((sec.drop 1).take 2)∧A5 ((sec.drop 1).take 2)≤1023)
theorem XP {sec:List UInt8} :∃ m:Nat,A5 ((sec.drop 24).take 2)=m∧Bm sec=m:=by
 have h:A5 ((sec.drop 24).take 2)=D5 ((sec.drop 24).take 2):=Pd (by simp;omega)
 exact ⟨_,h,by unfold Bm;rw[h];rfl⟩
theorem Ph {z w:World} {Γ:List Ae} (H:Sep z Γ w):Sep z (poolA (fun _=>none)::Γ) w:=H.void fun h k o e=>by cases e
theorem Mw {z w:World} {Γ:List Ae} {hq:Hp} {X:Ae} (H:Sep z (poolA hq::X::Γ) w) {M:Ae} (hX:∀ h,X h→M h) (hM:∀ h h',M h→Ck h h'→M h'):∃ hq2,(Ck hq hq2∧M hq2)∧Sep z (poolA hq2::Γ) w:=by
 have H1:Sep z (seps [poolA hq,X]::Γ) w:=Sep.shut (As:=[poolA hq,X]) H
 exact H1.exAt 0 (σ:=Hp) (p:=fun hq2=>Ck hq hq2∧M hq2) (B:=fun hq2=>poolA hq2) rfl (fun h hs=>by
  refine ⟨h,⟨fun k o e=> ?_,?_⟩,fun k o e=>e⟩
  ·obtain ⟨h',h1,h2⟩:=E6 hs (i:=0) rfl
   exact h2 _ _ (h1 _ _ e)
  ·obtain ⟨h',h1,h2⟩:=E6 hs (i:=1) rfl
   exact hM _ _ (hX _ h1) h2)
theorem Dn {z w:World} {Γ:List Ae} {hq:Hp} {X:Ae} (H:Sep z (poolA hq::X::Γ) w) {sz n:Nat} {v:Value} {xs:List Value} (hX:∀ h,X h→rdH sz v n xs h):∃ hq2,(Ck hq hq2∧rdH sz v n xs hq2)∧Sep z (poolA hq2::Γ) w:=
 Mw H hX (fun _ _ a b=>a.le b)
structure Img where
 num:Int
 kind:Int
 body:List UInt8
deriving DecidableEq
def Img.Ok (m:Img):Prop:=(0≤m.num∧m.num≤1023)∧(1≤m.kind∧m.kind≤5)∧m.body.length=240
instance (m:Img):Decidable m.Ok:=by unfold Img.Ok;exact inferInstance
abbrev ImE:=Img×Value
def ImE.cells (e:ImE):List Value:=[.int .i64 e.1.num,.int .i64 e.1.kind,e.2]
def Fy (es:List ImE):List Value:=es.flatMap ImE.cells
theorem Ic:∀ {es:List ImE} {j:Nat} {e:ImE},es[j]? =some e→∀ k u,(ImE.cells e)[k]? =some u→(Fy es)[j * 3+k]? =some u
 | x::es,0,e,h,k,u,hk=>by
  simp at h;subst h
  have hl:=(List.getElem?_eq_some_iff.1 hk).1
  simp only[Fy,List.flatMap_cons]
  rw[List.getElem?_append_left (by omega)];simpa using hk
 | x::es,j+1,e,h,k,u,hk=>by
  have:=Ic (es:=es) (j:=j) (by simpa using h) k u hk
  simp only[Fy,List.flatMap_cons] at this ⊢
  rw[List.getElem?_append_right (by simp[ImE.cells];omega)]
  rw[show (j+1) * 3+k - (ImE.cells x).length=j * 3+k from by simp[ImE.cells];omega]
  exact this
theorem Mx (es:List ImE) (e:ImE):Fy es++ImE.cells e=Fy (es++[e]):=by simp[Fy]
def imesOk (es:List ImE) (h:Hp):Prop:=∀ e∈es,rdH 1 e.2 e.1.body.length (e.1.body.map u8) h
theorem imesOk.le {es:List ImE} {h h':Hp} (a:imesOk es h) (s:Ck h h'):imesOk es h':=fun e he=>(a e he).le s
def imgsH (v:Value) (ims:List Img):Ae:=fun h=>∃ es:List ImE,es.map Prod.fst=ims∧rdH 3 v ims.length (Fy es) h∧imesOk es h
theorem imgsH.le {v:Value} {ims:List Img} {h h':Hp} (a:imgsH v ims h) (s:Ck h h'):imgsH v ims h':=by
 obtain ⟨es,h1,h2,h3⟩:=a
 exact ⟨es,h1,h2.le s,h3.le s⟩
theorem imgsH.slc {v:Value} {ims:List Img} {h:Hp} (a:imgsH v ims h):∃ ao c,v= .slice ao ims.length c:=by
 obtain ⟨es,h1,h2,h3⟩:=a;exact h2.slc
theorem imgsH.small {v:Value} {ims:List Img} {h:Hp} (a:imgsH v ims h):ims.length≤9223372036854775807:=by
 obtain ⟨es,h1,h2,h3⟩:=a;exact h2.small
/-! ### records -/
structure Rc where
 seq:Int
 ims:List Img
deriving DecidableEq
abbrev RcE:=Rc×Value
def RcE.cells (e:RcE):List Value:=[.int .i64 e.1.seq,e.2]
def HG (es:List RcE):List Value:=es.flatMap RcE.cells
theorem J9:∀ {es:List RcE} {j:Nat} {e:RcE},es[j]? =some e→∀ k u,(RcE.cells e)[k]? =some u→(HG es)[j * 2+k]? =some u
 | x::es,0,e,h,k,u,hk=>by
  simp at h;subst h
  have hl:=(List.getElem?_eq_some_iff.1 hk).1
  simp only[HG,List.flatMap_cons]
  rw[List.getElem?_append_left (by omega)];simpa using hk
 | x::es,j+1,e,h,k,u,hk=>by
  have:=J9 (es:=es) (j:=j) (by simpa using h) k u hk
  simp only[HG,List.flatMap_cons] at this ⊢
  rw[List.getElem?_append_right (by simp[RcE.cells];omega)]
  rw[show (j+1) * 2+k - (RcE.cells x).length=j * 2+k from by simp[RcE.cells];omega]
  exact this
theorem Ss (es:List RcE) (e:RcE):HG es++RcE.cells e=HG (es++[e]):=by simp[HG]
def rcesOk (es:List RcE) (h:Hp):Prop:=∀ e∈es,imgsH e.2 e.1.ims h
theorem rcesOk.le {es:List RcE} {h h':Hp} (a:rcesOk es h) (s:Ck h h'):rcesOk es h':=fun e he=>(a e he).le s
def recsH (v:Value) (rs:List Rc):Ae:=fun h=>∃ es:List RcE,es.map Prod.fst=rs∧rdH 2 v rs.length (HG es) h∧rcesOk es h
theorem recsH.slc {v:Value} {rs:List Rc} {h:Hp} (a:recsH v rs h):∃ ao c,v= .slice ao rs.length c:=by
 obtain ⟨es,h1,h2,h3⟩:=a;exact h2.slc
/-! ### a log's record,read -/
def BX (sec:List UInt8):Int:=A5 ((sec.drop 4).take 8)
def BY (sec:List UInt8):Int:=A5 ((sec.drop 12).take 8)
def C8 (sec:List UInt8):UInt32:=EO (A5 ((sec.drop 20).take 4))
def ES (sec:List UInt8):Int:=A5 ((sec.drop 3).take 4)
def ET (sec:List UInt8):Int:=A5 ((sec.drop 7).take 5)
def BV (sec:List UInt8):Img:=⟨A5 ((sec.drop 1).take 2),A5 (sec.take 1),(sec.drop 12).take 240⟩
def ringAt (s:Sup) (x:Int):Nat:=(s.start+x % s.len).toNat
def nextP (f:Nat→List UInt8) (e sq room:Int) (ims:List Img):Prop:=
 G9 (f 0)∧BX (f 0)=e∧BY (f 0)=sq∧1+(Bm (f 0):Int)≤room∧
 ims=(List.range (Bm (f 0))).map (fun j=>BV (f (1+j)))∧
 (∀ j,j<Bm (f 0)→HF (f (1+j))∧ES (f (1+j))=e∧ET (f (1+j))=sq∧(BV (f (1+j))).num=DP (f 0) j)∧
 AQ ((List.range (Bm (f 0))).flatMap fun j=>f (1+j))=C8 (f 0)
theorem rdH.sl {sz:Nat} {v:Value} {n:Nat} {xs:List Value} {h:Hp} (r:rdH sz v n xs h) (hne:0<xs.length):∃ b o c,v= .slice (some ⟨b,o,none⟩) n c:=by
 obtain ⟨ao,c,e,_,_,_,h4⟩:=r
 obtain ⟨b,p,e',_⟩:=h4 0 xs[0] (List.getElem?_eq_getElem hne)
 subst e';exact ⟨b,p,c,e⟩
theorem D6 {g cap:Nat} {sec:List UInt8} {rest:List Value} {t:TypeId} {h:Hp} (q:blk g (sec.map u8++rest) t h) {k:Nat} (hl:sec.length=k) (hc:k≤cap∧cap≤9223372036854775807∧rest.length=cap - k):rdH 1 (.slice (some ⟨g,0,none⟩) k cap) k (sec.map u8) h:=by
 refine q.rd hc.1 hc.2.1 (by simp;omega) ?_
 rw[List.drop_zero,Nat.mul_one,List.take_append_of_le_length (by simp;omega),List.take_of_length_le (by simp;omega)]
def Dx (F:Nat→List UInt8) (i:Nat):List UInt8:=(List.range i).flatMap fun j=>F (1+j)
theorem QH (F:Nat→List UInt8) (i:Nat):Dx F i++F (1+i)=Dx F (i+1):=by simp[Dx,List.range_succ]
theorem Su (F:Nat→List UInt8) (i:Nat):D4 (AQ (Dx F i)) (F (1+i))=AQ (Dx F (i+1)):=by
 unfold AQ;rw[J7,QH]
theorem ZL (F:Nat→List UInt8):Value.int .u32 0=u32 (AQ (Dx F 0)):=by
 have:AQ (Dx F 0)=0:=by show AQ []=0;decide
 rw[this];rfl
def B3 (n:Nat):Dsk:=⟨n,fun _=>List.replicate 256 0,fun _=>[],0,0,0,false,0⟩
theorem Vq {n:Nat} (h:1≤n∧n≤4096):(B3 n).Ok:=⟨h.1,h.2,fun _ _=>by simp[B3],fun _ _ p hp=>by simp[B3] at hp,by simp[B3],by simp[B3],by simp[B3],by simp[B3]⟩
theorem Vr {n:Nat} :(B3 n).In (List.replicate (n * 256) 0) [] 0 (fun _=>none):=by
 refine ⟨by simp[B3],fun i hi=> ?_,fun e he=>absurd he (by simp),fun i _ h=>by simp[B3] at h,by simp,by simp,fun e he=>absurd he (by simp)⟩
 simp only[B3] at hi ⊢
 rw[List.drop_replicate,List.take_replicate];congr 1;omega
theorem diskA.f1 {D:Dsk} (h:D.f1=0): { D with f1:=AY D.f1 } =D:=by
 cases D;simp at h;subst h;rfl
/-! ### a function that needs the disk's struct alone -/
theorem Sep.tri {z w:World} {A B C:List Ae} (H:Sep z (A++(B++C)) w):Sep z (A++(C++B)) w:=by
 have h1:Sep z ([seps A]++(B++C)) w:=H.shut
 have h2:Sep z (B++(C++[seps A])) w:=by rw[←List.append_assoc];exact h1.swap
 have h3:Sep z ([seps B]++(C++[seps A])) w:=h2.shut
 have h4:Sep z (C++([seps A]++[seps B])) w:=by rw[←List.append_assoc];exact h3.swap
 have h5:Sep z [seps C,seps A,seps B] w:=h4.shut
 have h6:Sep z ([seps B]++[seps A,seps C]) w:=h5.pick 3 [2,1,0] rfl
 have h7:Sep z (B++[seps A,seps C]) w:=h6.opened
 have h8:Sep z ([seps A]++([seps C]++B)) w:=h7.swap
 have h9:Sep z (A++([seps C]++B)) w:=h8.opened
 have h10:Sep z ([seps C]++(B++A)) w:=by rw[←List.append_assoc];exact h9.swap
 have h11:Sep z (C++(B++A)) w:=h10.opened
 have h12:Sep z ((B++A)++C) w:=h11.swap
 have h13:Sep z (B++(A++C)) w:=by rw[←List.append_assoc];exact h12
 have h14:Sep z ((A++C)++B) w:=h13.swap
 rwa[List.append_assoc] at h14
def dkB (pd bd m:Nat) (D:Dsk) (f0:Int):Ae:=blk pd [.slice (some ⟨bd,0,none⟩) (D.n * 256) (D.n * 256),.map (some m),.int .i64 f0,.int .i64 D.f1,.int .i64 D.f2,.int .i64 D.f3,.bool D.cut,.int .i64 D.left] 92
theorem Cn.onDisk {P:Program} {f:FuncId} {args:List Value} {pre:List Ae} {pd:Nat} {D:Dsk} {post:Value→List Ae→Prop}
  (h:D.Ok→∀ bd m f0,Cn P f args (dkB pd bd m D f0::pre) (fun v Γ=>∃ Γ',post v Γ'∧Γ=Γ'++[dkB pd bd m D f0])):
  Cn P f args (diskA pd D::pre) (fun v Γ=>∃ Γ',post v Γ'∧Γ=Γ'++[diskA pd D]):=fun z R w H=>by
 have H0:Sep z (diskA pd D::(pre++R)) w:=H
 obtain ⟨bd,m,f0,bs,es,clk,hq,hD,hIn,H1⟩:=H0.disk
 have H2:Sep z ([dkB pd bd m D f0]++((Em pd bd m D f0 bs es clk hq).drop 1++(pre++R))) w:=H1
 have H3:Sep z ((dkB pd bd m D f0::pre)++(R++(Em pd bd m D f0 bs es clk hq).drop 1)) w:=by
  have:=H2.tri
  rw[List.append_assoc] at this
  exact this
 refine Ret.mono (h hD bd m f0 z _ w H3) ?_
 rintro v w' ⟨Γ,⟨Γ',hp,rfl⟩,H4⟩
 refine ⟨Γ'++[diskA pd D],⟨Γ',hp,rfl⟩,?_⟩
 rw[List.append_assoc] at H4
 have H5:Sep z ([dkB pd bd m D f0]++(R++((Em pd bd m D f0 bs es clk hq).drop 1++Γ'))) w':=by
  have:=H4.swap
  rw[List.append_assoc,List.append_assoc] at this
  exact this
 have H6:Sep z (Em pd bd m D f0 bs es clk hq++(Γ'++R)) w':=by
  have:=H5.tri
  rw[List.append_assoc] at this
  exact this
 have H7:Sep z ([diskA pd D]++(Γ'++R)) w':=Sep.toDisk H6 hD hIn
 have H8:Sep z (Γ'++(R++[diskA pd D])) w':=by
  have:=H7.swap
  rw[List.append_assoc] at this
  exact this
 have H9:=H8.tri
 rw[←List.append_assoc] at H9
 exact H9
/-! ### numbers that were seen -/
def Ha:List Int→Nat→List IE
 | [],_=>[]
 | k::ks,n=>(k,.bool true,n)::Ha ks (n+1)
def seen (ns:List Int):List IE:=Ha ns 0
theorem HH:∀ (ns:List Int) (n:Nat) (k:Int),Cl (Ha ns n) k=if k∈ns then some (.bool true) else none
 | [],n,k=>rfl
 | x::xs,n,k=>by
  simp only[Ha,Cl,HH xs]
  by_cases h:k=x
  ·simp[h]
  ·by_cases h2:k∈xs
   ·simp[h,h2]
   ·simp[h,h2]
theorem Sv (ns:List Int) (k:Int):(Cl (seen ns) k).getD (.bool false)= .bool (decide (k∈ns)):=by
 unfold seen;rw[HH];split
 ·rename_i h;simp[h]
 ·rename_i h;simp[h]
theorem Jq:∀ (ns:List Int) (n:Nat) (k:Int),Ha (ns++[k]) n=Ha ns n++[(k,.bool true,n+ns.length)]
 | [],n,k=>rfl
 | x::xs,n,k=>by
  simp only[List.cons_append,Ha,Jq xs,List.length_cons]
  rw[show n+1+xs.length=n+(xs.length+1) from by omega]
theorem Sw {ns:List Int} {k:Int} (h:k∉ns):Eq (seen ns) k (.bool true) ns.length=seen (ns++[k])∧putC (seen ns) k ns.length=(ns++[k]).length:=by
 have:Cm (seen ns) k=false:=by unfold Cm seen;rw[HH,if_neg h];rfl
 constructor
 ·unfold Eq;rw[this];unfold seen;rw[Jq];simp
 ·unfold putC;rw[this];simp
def imA (A:Ae) (v:Value) (es:List ImE):Ae:=fun h=>A h∧rdH 3 v es.length (Fy es) h∧imesOk es h
theorem Sep.imA {z w:World} {Γ:List Ae} (i:Nat) {A:Ae} (H:Sep z Γ w) (hi:Γ[i]? =some A) {v:Value} {ims:List Img} (hA:∀ h,A h→imgsH v ims h):∃ es:List ImE,es.map Prod.fst=ims∧Sep z (Γ.set i (YtjegbnfpodadcaaGreatDoor.imA A v es)) w:=
 H.exAt i (p:=fun es:List ImE=>es.map Prod.fst=ims) (B:=fun es=>YtjegbnfpodadcaaGreatDoor.imA A v es) hi (fun h a=>by
  obtain ⟨es,h1,h2,h3⟩:=hA h a
  subst h1
  exact ⟨es,rfl,a,by simpa using h2,h3⟩)
theorem imA.at {A:Ae} {ao:Option Addr} {n c:Nat} {es:List ImE} {j:Nat} {e:ImE} {z w:World} {Γ:List Ae} (i:Nat) (H:Sep z Γ w) (hi:Γ[i]? =some (imA A (.slice ao n c) es)) (he:es[j]? =some e):∀ k u,(ImE.cells e)[k]? =some u→At ao (j * 3+k) u w:=fun k u hk=>by
 have hr:=H.rd i hi (fun h q=>q.2.1)
 obtain ⟨ao',c',e',_,_,_,h4⟩:=hr
 cases e'
 exact h4 _ _ (Ic he k u hk)
def EU (ims:List Img):List Value:=ims.map fun m=> .int .i64 m.num
theorem Sx {ims:List Img} {i:Nat} {m:Img} (h:ims[i]? =some m):EU (ims.take i)++[Iv_ m.num]=EU (ims.take (i+1)):=by
 rw[List.take_add_one,h];simp[EU]
theorem Vs (ims:List Img):EU ims=(ims.map Img.num).map Iv_:=by simp[EU]
def Cg (e sq:Int) (m:Img):List UInt8:=Ah 1 m.kind++Ah 2 m.num++Ah 4 e++Ah 5 sq++m.body
def Ch (e sq:Int) (ims:List Img):List UInt8:=ims.flatMap fun m=>Bf (Cg e sq m)
theorem QI {e sq:Int} {ims:List Img} {i:Nat} {m:Img} (h:ims[i]? =some m):Ch e sq (ims.take i)++Bf (Cg e sq m)=Ch e sq (ims.take (i+1)):=by
 rw[List.take_add_one,h];simp[Ch]
def hdL (e sq:Int) (ims:List Img):List UInt8:=[80,76,79,71]++Ah 8 e++Ah 8 sq++Ah 4 ((AQ (Ch e sq ims)).toNat:Int)++Ah 2 ((ims.map Img.num).length:Int)++(ims.map Img.num).flatMap (Ah 4)
theorem FW {e sq:Int} {m:Img} (h:m.body.length=240):(Cg e sq m).length=252:=by simp[Cg,Ai,h]
theorem My {e sq:Int} :∀ {ims:List Img},(∀ m∈ims,m.Ok)→(Ch e sq ims).length=ims.length * 256
 | [],_=>rfl
 | m::ims,h=>by
  have h1:=My (e:=e) (sq:=sq) (ims:=ims) (fun m hm=>h m (by simp[hm]))
  have h2:=sect_len (l:=Cg e sq m) (by rw[FW (h m (by simp)).2.2];omega)
  simp only[Ch,List.flatMap_cons,List.length_append,List.length_cons] at h1 ⊢
  rw[h1,h2];omega
def Bg (e sq:Int) (ims:List Img):List (List UInt8):=Bf (hdL e sq ims)::ims.map fun m=>Bf (Cg e sq m)
theorem QJ (e sq:Int) (ims:List Img):Bf (hdL e sq ims)++Ch e sq ims=(Bg e sq ims).flatten:=by
 simp[Bg,Ch,List.flatMap]
theorem hdL_len (e sq:Int) (ims:List Img):(hdL e sq ims).length=26+4 * ims.length:=by
 simp[hdL,Ai,BS,-List.length_flatMap];omega
theorem Jr {ims:List Img} {i:Nat} {m:Img} (h:(ims.map Img.num).Nodup) (hi:ims[i]? =some m) (hm:m.num∈(ims.take i).map Img.num):False:=by
 have hl:=(List.getElem?_eq_some_iff.1 hi).1
 rw[←List.take_append_drop i ims,List.map_append,List.nodup_append] at h
 refine h.2.2 _ hm m.num ?_ rfl
 rw[List.drop_eq_getElem_cons hl,(List.getElem?_eq_some_iff.1 hi).2]
 simp
def D7 (ims:List Img):Prop:=(∀ m∈ims,m.Ok)∧(ims.map Img.num).Nodup
/-! ### what Append writes -/
def Dsk.wf (D:Dsk):Dsk:= { D with f2:=AY D.f2 }
def Dsk.wr (D:Dsk) (x:Nat) (ps:List (List UInt8)):Dsk:= { Dsk.ws { D with f2:=AY D.f2 } false x ps with left:=max 0 (D.left - 1) }
def Dsk.bad (D:Dsk):Prop:=D.f2=1∨(D.cut=true∧D.left=0)
theorem Dsk.wr_n (D:Dsk) (x:Nat) (ps:List (List UInt8)):(D.wr x ps).n=D.n:=Dsk.ws_n _ _ _ _
theorem Dsk.ws_len (ps:List (List UInt8)):∀ (D:Dsk) (i j:Nat),((D.ws false i ps).ver j).length≤(D.ver j).length+1:=by
 induction ps with
 | nil=>intro D i j;simp[Dsk.ws]
 | cons q qs ih=>
  intro D i j
  rcases Nat.lt_or_ge i j with h|h
  ·have:=ih (D.w1 false i q) (i+1) j
   rw[Dsk.w1_ver _ _ _ (by omega)] at this
   exact this
  ·simp only[Dsk.ws]
   rw[Dsk.ws_ver _ _ _ _ _ (.inl (by omega))]
   show ((CG D.ver i (D.ver i++[q])) j).length≤_
   unfold CG;split
   ·rename_i e;subst e;simp
   ·omega
theorem Dsk.wr_len (D:Dsk) (x:Nat) (ps:List (List UInt8)) (j:Nat):((D.wr x ps).ver j).length≤(D.ver j).length+1:=Dsk.ws_len ps { D with f2:=AY D.f2 } x j
theorem QK {ps:List (List UInt8)} (h:∀ p∈ps,p.length=256):∀ k,(ps.take k).flatten=ps.flatten.take (k * 256):=by
 induction ps with
 | nil=>intro k;simp
 | cons q qs ih=>
  intro k
  cases k with
  | zero=>simp
  | succ k=>
   have hq:=h q (by simp)
   rw[List.take_succ_cons,List.flatten_cons,List.flatten_cons,ih (fun p hp=>h p (by simp[hp])),List.take_append,List.take_of_length_le (l:=q) (by omega)]
   rw[show (k+1) * 256 - q.length=k * 256 from by omega]
theorem QL {ps:List (List UInt8)} (h:∀ p∈ps,p.length=256):∀ k,(ps.drop k).flatten=ps.flatten.drop (k * 256):=by
 induction ps with
 | nil=>intro k;simp
 | cons q qs ih=>
  intro k
  cases k with
  | zero=>simp
  | succ k=>
   have hq:=h q (by simp)
   rw[List.drop_succ_cons,List.flatten_cons,ih (fun p hp=>h p (by simp[hp])),List.drop_append,List.drop_of_length_le (l:=q) (by omega),List.nil_append]
   rw[show (k+1) * 256 - q.length=k * 256 from by omega]
theorem Sy {ps:List (List UInt8)} (h:∀ p∈ps,p.length=256):ps.flatten.length=ps.length * 256:=by
 induction ps with
 | nil=>rfl
 | cons q qs ih=>
  have hq:=h q (by simp)
  rw[List.flatten_cons,List.length_append,ih (fun p hp=>h p (by simp[hp])),List.length_cons];omega
theorem Vt {e sq:Int} {ims:List Img} (h:∀ m∈ims,m.Ok) (hl:ims.length≤40):(∀ p∈Bg e sq ims,p.length=256)∧(Bg e sq ims).length=1+ims.length:=by
 refine ⟨fun p hp=> ?_,by simp[Bg];omega⟩
 rcases List.mem_cons.1 hp with rfl|hp
 ·exact sect_len (by rw[hdL_len];omega)
 ·obtain ⟨m,hm,rfl⟩:=List.mem_map.1 hp
  exact sect_len (Nat.le_of_eq (FW (h m hm).2.2))
theorem grow.rdB {e:TypeId} {b n c:Nat} {xs:List UInt8} {h:Hp} (q:grow e 1 (.slice (some ⟨b,0,none⟩) n c) n (xs.map u8) h):rdH 1 (.slice (some ⟨b,0,none⟩) n c) n (xs.map u8) h:=q.rd
theorem grow.sl {e:TypeId} {sz n:Nat} {v:Value} {xs:List Value} {h:Hp} (q:grow e sz v n xs h) (hn:0<n):∃ b c,v= .slice (some ⟨b,0,none⟩) n c∧n≤c∧c≤9223372036854775807:=by
 have hr:=q.rd
 rcases q.form with ⟨_,rfl⟩|⟨b,c,rfl,h⟩
 ·omega
 ·obtain ⟨_,_,e,_,hc,_⟩:=hr
  cases e
  exact ⟨b,c,rfl,h,hc⟩
/-! ### images of a law -/
def CH (D:Dsk) (s:Sup) (a:Int):Nat→List UInt8:=fun j=>D.cont (ringAt s (a+j))
inductive Runs (D:Dsk) (s:Sup):Int→Int→Int→List Rc→Int→Int→Int→Prop
 | nil (a q u:Int):Runs D s a q u [] a q u
 | snoc {a q u a' q' u':Int} {rs:List Rc} {ims:List Img} :Runs D s a q u rs a' q' u'→u'<s.len→nextP (CH D s a') s.epoch q' (s.len - u') ims→Runs D s a q u (rs++[⟨q',ims⟩]) ((a'+(1+(ims.length:Int))) % s.len) (q'+1) (u'+(1+(ims.length:Int)))
theorem nextP.len {f:Nat→List UInt8} {e sq room:Int} {ims:List Img} (h:nextP f e sq room ims):1≤ims.length∧ims.length≤40∧1+(ims.length:Int)≤room:=by
 obtain ⟨h1,_,_,h4,h5,_⟩:=h
 have hc:=h1.2.2.2.1
 have:ims.length=Bm (f 0):=by rw[h5];simp
 omega
section
theorem Cj {k:Nat} {x:Int} (h0:0≤x) (h1:x<9223372036854775808) (hk:x<256 ^ k):A5 (Ah k x)=x:=by
 obtain ⟨n,rfl⟩:=Int.eq_ofNat_of_zero_le h0
 have hn:D5 (Ah k (n:Int))=n:=Vn k (by exact_mod_cast hk)
 unfold A5;rw[hn]
 exact IntWalk.i64_in _ (by omega)
theorem GF (a b c:List UInt8) {p k:Nat} (hp:p=a.length) (hk:k=b.length):((a++b++c).drop p).take k=b:=by
 subst hp hk
 rw[List.append_assoc,List.drop_left' rfl,List.take_left' rfl]
theorem Sz (ns:List Int):∀ {j:Nat} {x:Int},ns[j]? =some x→((ns.flatMap (Ah 4)).drop (4 * j)).take 4=Ah 4 x:=by
 induction ns with
 | nil=>intro j x h;simp at h
 | cons y ys ih=>
  intro j x h
  cases j with
  | zero=>
   simp at h;subst h
   rw[List.flatMap_cons,Nat.mul_zero,List.drop_zero,List.take_left' (Ai 4 y)]
  | succ j=>
   rw[List.flatMap_cons,show 4 * (j+1)=(Ah 4 y).length+4 * j from by rw[Ai];omega,List.drop_append]
   rw[List.drop_of_length_le (by omega),List.nil_append,show (Ah 4 y).length+4 * j - (Ah 4 y).length=4 * j from by omega]
   exact ih (by simpa using h)
variable {e sq:Int} {ims:List Img}
theorem Mz (e sq:Int) (ims:List Img):hdL e sq ims=[80,76,79,71]++Ah 8 e++(Ah 8 sq++Ah 4 ((AQ (Ch e sq ims)).toNat:Int)++Ah 2 ((ims.map Img.num).length:Int)++(ims.map Img.num).flatMap (Ah 4)):=by
 simp[hdL]
theorem SA (hl:ims.length≤40) (h:0≤e∧e≤1099511627776):BX (Bf (hdL e sq ims))=e:=by
 have hle:=hdL_len e sq ims
 unfold BX
 rw[BM (by omega) (by omega),Mz,GF _ _ _ (by simp) (by simp[Ai])]
 exact Cj h.1 (by omega) (by omega)
theorem SB (hl:ims.length≤40) (h:0≤sq∧sq≤1099511627776):BY (Bf (hdL e sq ims))=sq:=by
 have hle:=hdL_len e sq ims
 unfold BY
 rw[BM (by omega) (by omega),show hdL e sq ims=([80,76,79,71]++Ah 8 e)++Ah 8 sq++(Ah 4 ((AQ (Ch e sq ims)).toNat:Int)++Ah 2 ((ims.map Img.num).length:Int)++(ims.map Img.num).flatMap (Ah 4)) from by simp[hdL],GF _ _ _ (by simp[Ai]) (by simp[Ai])]
 exact Cj h.1 (by omega) (by omega)
theorem ZM (hl:ims.length≤40):C8 (Bf (hdL e sq ims))=AQ (Ch e sq ims):=by
 have hle:=hdL_len e sq ims
 have hu:=(AQ (Ch e sq ims)).toNat_lt
 unfold C8
 rw[BM (by omega) (by omega),show hdL e sq ims=([80,76,79,71]++Ah 8 e++Ah 8 sq)++Ah 4 ((AQ (Ch e sq ims)).toNat:Int)++(Ah 2 ((ims.map Img.num).length:Int)++(ims.map Img.num).flatMap (Ah 4)) from by simp[hdL],GF _ _ _ (by simp[Ai]) (by simp[Ai])]
 rw[Cj (by omega) (by omega) (by omega)]
 exact Xf _
theorem Pi (hl:ims.length≤40):Bm (Bf (hdL e sq ims))=ims.length:=by
 have hle:=hdL_len e sq ims
 unfold Bm
 rw[BM (by omega) (by omega),show hdL e sq ims=([80,76,79,71]++Ah 8 e++Ah 8 sq++Ah 4 ((AQ (Ch e sq ims)).toNat:Int))++Ah 2 ((ims.map Img.num).length:Int)++((ims.map Img.num).flatMap (Ah 4)) from by simp[hdL],GF _ _ _ (by simp[Ai]) (by simp[Ai])]
 rw[List.length_map,Cj (by omega) (by omega) (by omega)];rfl
theorem XQ (hl:ims.length≤40) {j:Nat} {m:Img} (hj:ims[j]? =some m) (hm:m.Ok):DP (Bf (hdL e sq ims)) j=m.num:=by
 have hle:=hdL_len e sq ims
 have hjl:=(List.getElem?_eq_some_iff.1 hj).1
 unfold DP
 rw[BM (by omega) (by omega),show hdL e sq ims=([80,76,79,71]++Ah 8 e++Ah 8 sq++Ah 4 ((AQ (Ch e sq ims)).toNat:Int)++Ah 2 ((ims.map Img.num).length:Int))++((ims.map Img.num).flatMap (Ah 4)) from by simp[hdL]]
 have hpl:([80,76,79,71]++Ah 8 e++Ah 8 sq++Ah 4 ((AQ (Ch e sq ims)).toNat:Int)++Ah 2 ((ims.map Img.num).length:Int)).length=26:=by simp only[List.length_append,Ai];rfl
 rw[List.drop_append,List.drop_of_length_le (by rw[hpl];omega),List.nil_append,hpl,show 26+4 * j - 26=4 * j from by omega]
 rw[Sz _ (x:=m.num) (by simp[hj])]
 have:=hm.1
 exact Cj (by omega) (by omega) (by omega)
theorem XR (hl:1≤ims.length∧ims.length≤40) (he:0≤e∧e≤1099511627776) (hs:0≤sq∧sq≤1099511627776) (hok:∀ m∈ims,m.Ok):G9 (Bf (hdL e sq ims)):=by
 have hle:=hdL_len e sq ims
 have h1:=SA (sq:=sq) hl.2 he
 have h2:=SB (e:=e) hl.2 hs
 have h3:=Pi (e:=e) (sq:=sq) hl.2
 unfold BX at h1
 unfold BY at h2
 refine ⟨⟨G8 (by omega),?_⟩,by rw[h1];exact he,by rw[h2];exact hs,by rw[h3];exact hl,fun j hj=> ?_,?_⟩
 ·have:=BM (l:=hdL e sq ims) (by omega) (p:=0) (k:=4) (by omega)
  rw[List.drop_zero,List.drop_zero] at this
  rw[this,Mz,List.append_assoc];rfl
 ·rw[h3] at hj
  have hg:=List.getElem?_eq_getElem hj
  rw[XQ hl.2 hg (hok _ (List.getElem_mem hj))]
  exact (hok _ (List.getElem_mem hj)).1
 ·rw[h3,←hle]
  exact KI (by omega)
theorem MA (e sq:Int) (m:Img):Cg e sq m=Ah 1 m.kind++Ah 2 m.num++(Ah 4 e++Ah 5 sq++m.body):=by simp[Cg]
theorem MB {m:Img} (hm:m.Ok) (he:0≤e∧e<4294967296) (hs:0≤sq∧sq<1099511627776):HF (Bf (Cg e sq m))∧ES (Bf (Cg e sq m))=e∧ET (Bf (Cg e sq m))=sq∧BV (Bf (Cg e sq m))=m:=by
 have hb:=hm.2.2
 have hle:=FW (e:=e) (sq:=sq) hb
 have h0:=hm.1
 have hk:=hm.2.1
 have e1:A5 ((Bf (Cg e sq m)).take 1)=m.kind:=by
  have:=BM (l:=Cg e sq m) (by omega) (p:=0) (k:=1) (by omega)
  rw[List.drop_zero,List.drop_zero] at this
  rw[this,MA,List.append_assoc,List.take_left' (by rw[Ai])]
  exact Cj (by omega) (by omega) (by omega)
 have e2:A5 (((Bf (Cg e sq m)).drop 1).take 2)=m.num:=by
  rw[BM (by omega) (by omega),MA,GF _ _ _ (by simp[Ai]) (by simp[Ai])]
  exact Cj (by omega) (by omega) (by omega)
 have e3:A5 (((Bf (Cg e sq m)).drop 3).take 4)=e:=by
  rw[BM (by omega) (by omega),show Cg e sq m=(Ah 1 m.kind++Ah 2 m.num)++Ah 4 e++(Ah 5 sq++m.body) from by simp[Cg],GF _ _ _ (by simp[Ai]) (by simp[Ai])]
  exact Cj (by omega) (by omega) (by omega)
 have e4:A5 (((Bf (Cg e sq m)).drop 7).take 5)=sq:=by
  rw[BM (by omega) (by omega),show Cg e sq m=(Ah 1 m.kind++Ah 2 m.num++Ah 4 e)++Ah 5 sq++m.body from by simp[Cg],GF _ _ _ (by simp[Ai]) (by simp[Ai])]
  exact Cj (by omega) (by omega) (by omega)
 have e5:((Bf (Cg e sq m)).drop 12).take 240=m.body:=by
  rw[BM (by omega) (by omega),show Cg e sq m=(Ah 1 m.kind++Ah 2 m.num++Ah 4 e++Ah 5 sq)++m.body++[] from by simp[Cg],GF _ _ _ (by simp[Ai]) (by omega)]
 refine ⟨⟨G8 (by omega),by rw[e1];exact hk,by rw[e2];exact h0⟩,e3,e4,?_⟩
 unfold BV;rw[e1,e2,e5]
theorem MC {F:Nat→List UInt8} {room:Int} (hl:1≤ims.length∧ims.length≤40) (hok:∀ m∈ims,m.Ok) (he:0≤e∧e<4294967296) (hs:0≤sq∧sq<1099511627776) (hr:1+(ims.length:Int)≤room)
  (hF:∀ (j:Nat) (p:List UInt8),(Bg e sq ims)[j]? =some p→F j=p):nextP F e sq room ims:=by
 have h0:F 0=Bf (hdL e sq ims):=hF 0 _ rfl
 have hC:=Pi (e:=e) (sq:=sq) hl.2
 have hI:∀ j (hj:j<ims.length),F (1+j)=Bf (Cg e sq ims[j]):=fun j hj=>hF (1+j) _ (by
  rw[Nat.add_comm];simp[Bg,hj])
 refine ⟨?_,?_,?_,?_,?_,?_,?_⟩
 ·rw[h0];exact XR hl (by omega) (by omega) hok
 ·rw[h0];exact SA hl.2 (by omega)
 ·rw[h0];exact SB hl.2 (by omega)
 ·rw[h0,hC];exact hr
 ·rw[h0,hC]
  apply List.ext_getElem
  ·simp
  ·intro j h1 h2
   simp only[List.getElem_map,List.getElem_range]
   rw[hI j h1,(MB (hok _ (List.getElem_mem h1)) he hs).2.2.2]
 ·intro j hj
  rw[h0,hC] at hj
  obtain ⟨a,b,c,d⟩:=MB (hok _ (List.getElem_mem hj)) he hs
  rw[hI j hj]
  refine ⟨a,b,c,?_⟩
  rw[d,h0,XQ hl.2 (List.getElem?_eq_getElem hj) (hok _ (List.getElem_mem hj))]
 ·rw[h0,hC,ZM hl.2]
  congr 1
  unfold Ch
  rw[List.flatMap_def,List.flatMap_def]
  congr 1
  apply List.ext_getElem
  ·simp
  ·intro j h1 h2
   simp only[List.getElem_map,List.getElem_range]
   exact hI j (by simpa using h2)
end
theorem Vu (ps:List (List UInt8)):∀ (D:Dsk) (x i:Nat),(D.ws false x ps).cont i=(if x≤i then ps[i - x]? else none).getD (D.cont i):=by
 induction ps with
 | nil=>intro D x i;simp[Dsk.ws]
 | cons q qs ih=>
  intro D x i
  simp only[Dsk.ws]
  rw[ih]
  have hc:(D.w1 false x q).cont i=if i=x then q else D.cont i:=by
   show ((CG D.ver x (D.ver x++[q])) i).getLast?.getD (D.dur i)=_
   unfold CG
   split
   ·rename_i h;subst h;simp
   ·rfl
  rw[hc]
  rcases Nat.lt_trichotomy i x with h|h|h
  ·rw[if_neg (show ¬ x+1≤i by omega),if_neg (show ¬ i=x by omega),if_neg (show ¬ x≤i by omega)]
  ·subst h
   rw[if_neg (show ¬ i+1≤i by omega),if_pos rfl,if_pos (Nat.le_refl i),Nat.sub_self];rfl
  ·rw[if_pos (show x+1≤i by omega),if_neg (show ¬ i=x by omega),if_pos (show x≤i by omega),show i - x=(i - (x+1))+1 from by omega,List.getElem?_cons_succ]
theorem wr_cont (ps:List (List UInt8)) (D:Dsk) (x i:Nat):(D.wr x ps).cont i=(if x≤i then ps[i - x]? else none).getD (D.cont i):=Vu ps { D with f2:=AY D.f2 } x i
/-! ### the ring -/
theorem ring_low {s:Sup} {a:Int} {j:Nat} (hs:0≤s.start) (ha:0≤a) (h:a+j<s.len):ringAt s (a+j)=(s.start+a).toNat+j:=by
 unfold ringAt
 rw[Int.emod_eq_of_lt (by omega) h];omega
theorem ring_high {s:Sup} {a:Int} {j:Nat} (hs:0≤s.start) (h1:s.len≤a+j) (h:a+j<s.len+s.len):ringAt s (a+j)=s.start.toNat+(a+j - s.len).toNat:=by
 unfold ringAt
 rw[←Int.sub_emod_right (a+j) s.len,Int.emod_eq_of_lt (by omega) (by omega)];omega
theorem IR {s:Sup} (a b:Int):ringAt s (a % s.len+b)=ringAt s (a+b):=by
 unfold ringAt;rw[Int.emod_add_emod]
theorem Hb {s:Sup} {h:Int} {i j:Nat} (hs:0≤s.start) (hh:0≤h∧h<s.len) (hi:(i:Int)<s.len) (hj:(j:Int)<s.len) (e:ringAt s (h+i)=ringAt s (h+j)):i=j:=by
 rcases Int.lt_or_le (h+i) s.len with a|a<;>rcases Int.lt_or_le (h+j) s.len with b|b
 ·rw[ring_low hs hh.1 a,ring_low hs hh.1 b] at e;omega
 ·rw[ring_low hs hh.1 a,ring_high hs b (by omega)] at e;omega
 ·rw[ring_high hs a (by omega),ring_low hs hh.1 b] at e;omega
 ·rw[ring_high hs a (by omega),ring_high hs b (by omega)] at e;omega
def Et (D:Dsk) (s:Sup) (a:Int) (k:Nat) (ps:List (List UInt8)):Dsk:=if k<ps.length then (D.wr (s.start+a).toNat (ps.take k)).wr s.start.toNat (ps.drop k) else D.wr (s.start+a).toNat (ps.take k)
theorem Vv {D:Dsk} {s:Sup} {a:Int} {k:Nat} {ps:List (List UInt8)} (hs:0≤s.start) (ha:0≤a∧a<s.len) (hl:(ps.length:Int)≤s.len) (hk:(k:Int)=min (ps.length:Int) (s.len - a)) {j:Nat} {p:List UInt8} (hj:ps[j]? =some p):(Et D s a k ps).cont (ringAt s (a+j))=p:=by
 have hjl:=(List.getElem?_eq_some_iff.1 hj).1
 rcases Nat.lt_or_ge j k with h|h
 ·have hr:ringAt s (a+j)=(s.start+a).toNat+j:=ring_low hs ha.1 (by omega)
  have h1:(D.wr (s.start+a).toNat (ps.take k)).cont ((s.start+a).toNat+j)=p:=by
   rw[wr_cont,if_pos (by omega),show (s.start+a).toNat+j - (s.start+a).toNat=j from by omega,List.getElem?_take,if_pos h,hj];rfl
  unfold Et
  split
  ·rw[hr,wr_cont]
   have:(if s.start.toNat≤(s.start+a).toNat+j then (ps.drop k)[(s.start+a).toNat+j - s.start.toNat]? else none)=none:=by
    rw[if_pos (by omega)];exact List.getElem?_eq_none (by rw[List.length_drop];omega)
   rw[this];exact h1
  ·rw[hr];exact h1
 ·have hr:ringAt s (a+j)=s.start.toNat+(a+j - s.len).toNat:=ring_high hs (by omega) (by omega)
  unfold Et
  rw[if_pos (by omega),hr,wr_cont,if_pos (by omega),show s.start.toNat+(a+j - s.len).toNat - s.start.toNat=j - k from by omega,List.getElem?_drop,show k+(j - k)=j from by omega,hj];rfl
theorem app_old {D:Dsk} {s:Sup} {a:Int} {k:Nat} {ps:List (List UInt8)} (hs:0≤s.start) (ha:0≤a∧a<s.len) (hl:(ps.length:Int)≤s.len) (hk:(k:Int)=min (ps.length:Int) (s.len - a)) {i:Nat} (hi:∀ j:Nat,j<ps.length→i≠ringAt s (a+j)):(Et D s a k ps).cont i=D.cont i:=by
 have h1:(D.wr (s.start+a).toNat (ps.take k)).cont i=D.cont i:=by
  rw[wr_cont]
  split
  ·rename_i h
   rw[List.getElem?_eq_none];rfl
   rw[List.length_take]
   rcases Nat.lt_or_ge (i - (s.start+a).toNat) (min k ps.length) with q|q
   ·exact absurd (by rw[ring_low hs ha.1 (by omega)];omega) (hi (i - (s.start+a).toNat) (by omega))
   ·exact q
  ·rfl
 unfold Et
 split
 ·rw[wr_cont]
  split
  ·rename_i hk2 h
   rw[List.getElem?_eq_none];exact h1
   rw[List.length_drop]
   rcases Nat.lt_or_ge (i - s.start.toNat) (ps.length - k) with q|q
   ·exact absurd (by rw[ring_high hs (by omega) (by omega)];omega) (hi (k+(i - s.start.toNat)) (by omega))
   ·exact q
  ·exact h1
 ·exact h1
/-! ### what Open reads -/
theorem SC {F:Nat→List UInt8} {e sq room:Int} {a b:List Img} (h1:nextP F e sq room a) (h2:nextP F e sq room b):a=b:=by
 rw[h1.2.2.2.2.1,h2.2.2.2.2.1]
theorem Runs.pos {D:Dsk} {s:Sup} {h q0:Int} {rs:List Rc} {a q u:Int} (hh:0≤h∧h<s.len) (r:Runs D s h q0 0 rs a q u):a=(h+u) % s.len∧q=q0+rs.length∧0≤u∧u≤s.len∧(rs.length:Int)≤u:=by
 induction r with
 | nil=>exact ⟨by rw[Int.add_zero,Int.emod_eq_of_lt hh.1 hh.2],by simp,by omega,by omega,by simp⟩
 | snoc r hlt hn ih=>
  obtain ⟨h1,h2,h3,h4,h5⟩:=ih
  have hl:=hn.len
  refine ⟨?_,by rw[h2];simp;omega,by omega,by omega,by simp;omega⟩
  rw[h1,Int.emod_add_emod,Int.add_assoc]
theorem KJ:¬ G9 (List.replicate 256 0):=fun h=>by
 have:=h.1.2
 simp at this
section
def Tg (c:List UInt8) (e q:Int):Prop:=(G9 c∧BX c=e∧BY c=q)∨(HF c∧ES c=e∧ET c=q)
theorem SD:¬ HF (List.replicate 256 0):=fun h=>by
 have:=h.2.1.1
 revert this;decide
theorem SE (e q:Int):¬ Tg (List.replicate 256 0) e q:=by
 rintro (⟨h,_⟩|⟨h,_⟩)
 ·exact KJ h
 ·exact SD h
theorem IB {c:List UInt8} (h:G9 c) (g:HF c):False:=by
 have h1:=h.1.2
 have h2:=g.2.1.2
 have:c.take 1=[80]:=by
  have:=congrArg (List.take 1) h1
  rwa[List.take_take] at this
 rw[this] at h2
 revert h2;decide
variable {e q:Int} {ims:List Img}
theorem rec_cases {p:Nat} {c:List UInt8} (hp:(Bg e q ims)[p]? =some c):(p=0∧c=Bf (hdL e q ims))∨∃ j m,p=j+1∧ims[j]? =some m∧c=Bf (Cg e q m):=by
 cases p with
 | zero=>simp[Bg] at hp;exact .inl ⟨rfl,hp.symm⟩
 | succ j=>
  simp only[Bg,List.getElem?_cons_succ,List.getElem?_map,Option.map_eq_some_iff] at hp
  obtain ⟨m,h1,h2⟩:=hp
  exact .inr ⟨j,m,rfl,h1,h2.symm⟩
theorem Of (hl:1≤ims.length∧ims.length≤40) (hok:∀ m∈ims,m.Ok) (he:0≤e∧e<4294967296) (hq:0≤q∧q<1099511627776) {p:Nat} {c:List UInt8} (hp:(Bg e q ims)[p]? =some c) {e' q':Int} (h:Tg c e' q'):e'=e∧q'=q:=by
 rcases rec_cases hp with ⟨rfl,rfl⟩|⟨j,m,rfl,hm,rfl⟩
 ·have hP:=XR hl (e:=e) (sq:=q) (by omega) (by omega) hok
  rcases h with ⟨_,h1,h2⟩|⟨h1,_⟩
  ·exact ⟨h1.symm.trans (SA hl.2 (by omega)),h2.symm.trans (SB hl.2 (by omega))⟩
  ·exact (IB hP h1).elim
 ·obtain ⟨a,b,d,_⟩:=MB (hok m (List.mem_of_getElem? hm)) he hq
  rcases h with ⟨h1,_⟩|⟨_,h1,h2⟩
  ·exact (IB h1 a).elim
  ·exact ⟨h1.symm.trans b,h2.symm.trans d⟩
/-! ### the sectors of records,one behind the other -/
def secs (e:Int) (rs:List Rc):List (List UInt8):=rs.flatMap fun r=>Bg e r.seq r.ims
theorem Eu (e:Int) (rs ss:List Rc):secs e (rs++ss)=secs e rs++secs e ss:=by simp[secs]
theorem IS (e:Int) (r:Rc):secs e [r]=Bg e r.seq r.ims:=by simp[secs]
theorem E7 (e q:Int) (ims:List Img):(Bg e q ims).length=1+ims.length:=by simp[Bg];omega
theorem Js (e:Int) {rs:List Rc} {j:Nat} {r:Rc} (h:rs[j]? =some r):secs e rs=secs e (rs.take j)++Bg e r.seq r.ims++secs e (rs.drop (j+1)):=by
 have hj:=(List.getElem?_eq_some_iff.1 h).1
 have:rs=rs.take j++[r]++rs.drop (j+1):=by
  rw[←(List.getElem?_eq_some_iff.1 h).2,List.take_append_getElem hj,List.take_append_drop]
 conv=>lhs;rw[this]
 rw[Eu,Eu,IS]
theorem SF {e:Int} {rs:List Rc} {c:List UInt8} (h:c∈secs e rs):∃ (j:Nat) (r:Rc) (p:Nat),rs[j]? =some r∧(Bg e r.seq r.ims)[p]? =some c:=by
 obtain ⟨r,hr,hc⟩:=List.mem_flatMap.1 h
 obtain ⟨j,hj⟩:=List.getElem?_of_mem hr
 obtain ⟨p,hp⟩:=List.getElem?_of_mem hc
 exact ⟨j,r,p,hj,hp⟩
/-! ### the log's place on its disk -/
def CM (D:Dsk) (n:Nat) (c:List UInt8):Prop:=c=D.dur n∨c∈D.ver n
def ZN (s:Sup) (c:List UInt8):Prop:=∀ e q,Tg c e q→e<s.epoch∨(e=s.epoch∧q<s.seq)
structure PInv (D:Dsk) (s:Sup) (rs:List Rc) (pt:List (List UInt8)) (a q u:Int) (b:Bool) (sure:Nat):Prop where
 fa:a=(s.head+u) % s.len
 fq:q=s.seq+rs.length+(if b then 1 else 0)
 fu:u=((secs s.epoch rs).length:Int)
 ul:u≤s.len
 pb:b=false→pt=[]
 part:pt=[]∨∃ ims k,((1≤ims.length∧ims.length≤40)∧(∀ m∈ims,m.Ok))∧pt=(Bg s.epoch (s.seq+rs.length) ims).take k∧k<1+ims.length∧u+(1+(ims.length:Int))≤s.len
 recs:∀ (j:Nat) (r:Rc),rs[j]? =some r→r.seq=s.seq+j∧(1≤r.ims.length∧r.ims.length≤40)∧∀ m∈r.ims,m.Ok
 old:∀ i:Nat,(i:Int)<s.len→∀ c,CM D (ringAt s (s.head+i)) c→ZN s c∨(secs s.epoch rs++pt)[i]? =some c
 last:∀ (i:Nat) (c:List UInt8),(secs s.epoch rs++pt)[i]? =some c→D.cont (ringAt s (s.head+i))=c
 dura:∀ (i:Nat) (c:List UInt8),(secs s.epoch (rs.take sure))[i]? =some c→D.dur (ringAt s (s.head+i))=c∧D.ver (ringAt s (s.head+i))=[]
 sure:sure≤rs.length
structure SOk (s:Sup):Prop where
 start:0≤s.start
 head:0≤s.head∧s.head<s.len
 epoch:0≤s.epoch∧s.epoch<4294967296
 seq:0≤s.seq
theorem PInv.f {D D':Dsk} {s:Sup} {rs:List Rc} {pt:List (List UInt8)} {a q u:Int} {b:Bool} {sure:Nat} (h:PInv D s rs pt a q u b sure) (h1:D'.dur=D.dur) (h2:D'.ver=D.ver):PInv D' s rs pt a q u b sure:=
 ⟨h.fa,h.fq,h.fu,h.ul,h.pb,h.part,h.recs,fun i hi c hc=>h.old i hi c (by unfold CM at hc ⊢;rwa[h1,h2] at hc),fun i c hc=>by have:=h.last i c hc;unfold Dsk.cont at this ⊢;rw[h1,h2];exact this,
  fun i c hc=>by rw[h1,h2];exact h.dura i c hc,h.sure⟩
theorem MD {s:Sup} (hl:0<s.len) (h x:Int):∃ i:Nat,(i:Int)<s.len∧ringAt s x=ringAt s (h+i):=by
 have h1:=Int.emod_nonneg (x - h) (by omega:s.len≠0)
 have h2:=Int.emod_lt_of_pos (x - h) hl
 refine ⟨((x - h) % s.len).toNat,by omega,?_⟩
 unfold ringAt
 rw[Int.toNat_of_nonneg h1,Int.add_emod_emod]
 congr 3;omega
theorem PInv.tags {D:Dsk} {s:Sup} {rs:List Rc} {pt:List (List UInt8)} {a q u:Int} {b:Bool} {sure:Nat} (h:PInv D s rs pt a q u b sure) (hs:SOk s) (hq:q≤1099511627776) {i:Nat} (hi:(i:Int)<s.len) {c:List UInt8} (hc:CM D (ringAt s (s.head+i)) c) {e' q':Int} (ht:Tg c e' q'):e'<s.epoch∨(e'=s.epoch∧q'<q):=by
 have hqq:=h.fq
 have hsq:=hs.seq
 rcases h.old i hi c hc with g|g
 ·rcases g _ _ ht with g|⟨g1,g2⟩
  ·exact .inl g
  ·refine .inr ⟨g1,?_⟩;split at hqq<;>omega
 ·rcases List.mem_append.1 (List.mem_of_getElem? g) with g|g
  ·obtain ⟨j,r,p,hj,hp⟩:=SF g
   obtain ⟨h1,h2,h3⟩:=h.recs j r hj
   have hjl:=(List.getElem?_eq_some_iff.1 hj).1
   have:=Of h2 h3 hs.epoch (by split at hqq<;>omega) hp ht
   exact .inr ⟨this.1,by split at hqq<;>omega⟩
  ·rcases h.part with rfl|⟨ims,k,⟨h1,h2⟩,rfl,h3,_⟩
   ·cases g
   ·cases b with
    | false=>have:=h.pb rfl;rw[this] at g;cases g
    | true=>
     rw[if_pos rfl] at hqq
     obtain ⟨p,hp⟩:=List.getElem?_of_mem g
     rw[List.getElem?_take] at hp
     split at hp
     ·have:=Of h1 h2 hs.epoch (by omega) hp ht
      exact .inr ⟨this.1,by omega⟩
     ·cases hp
theorem PInv.drop {D:Dsk} {s:Sup} {rs:List Rc} {pt:List (List UInt8)} {a q u:Int} {b:Bool} {sure:Nat} (h:PInv D s rs pt a q u b sure) (hs:SOk s) (hq:q≤1099511627776) {s':Sup} (h1:s'.start=s.start) (h2:s'.len=s.len) (h3:s'.epoch=s.epoch) (h4:s'.head=a) (h5:s'.seq=q) (h0:0≤s'.len) (hh:0≤s'.head∧s'.head<s'.len):PInv D s' [] [] a q 0 false 0:=by
 have hl:0<s.len:=by have:=hs.head;omega
 refine ⟨?_,by rw[h5];simp,by simp[secs],by omega,fun _=>rfl,.inl rfl,fun j r h=>by simp at h,fun i hi c hc=> .inl fun e q ht=> ?_,fun i c h=>by simp[secs] at h,fun i c h=>by simp[secs] at h,Nat.le_refl _⟩
 ·rw[Int.add_zero,←h4,Int.emod_eq_of_lt hh.1 hh.2]
 ·have hr:ringAt s' (s'.head+i)=ringAt s (s'.head+i):=by unfold ringAt;rw[h1,h2]
  rw[hr] at hc
  obtain ⟨i',hi',he⟩:=MD hl s.head (s'.head+i)
  rw[he] at hc
  have:=h.tags hs hq hi' hc ht
  rw[h3,h5];exact this
def Dsk.fl (D:Dsk):Dsk:= { D with dur:=D.cont,ver:=fun _=>[],f3:=AY D.f3,left:=max 0 (D.left - 1) }
theorem cont_has (D:Dsk) (n:Nat):CM D n (D.cont n):=by
 unfold CM Dsk.cont
 cases hl:(D.ver n).getLast? with
 | none=>exact .inl rfl
 | some p=>exact .inr (List.mem_of_getLast? hl)
theorem fl_has {D:Dsk} {n:Nat} {c:List UInt8} (h:CM D.fl n c):CM D n c:=by
 rcases h with rfl|h
 ·exact cont_has D n
 ·cases h
theorem PInv.flush {D:Dsk} {s:Sup} {rs:List Rc} {pt:List (List UInt8)} {a q u:Int} {b:Bool} {sure:Nat} (h:PInv D s rs pt a q u b sure):PInv D.fl s rs pt a q u b rs.length:=
 ⟨h.fa,h.fq,h.fu,h.ul,h.pb,h.part,h.recs,fun i hi c hc=>h.old i hi c (fl_has hc),fun i c hc=>h.last i c hc,
  fun i c hc=>⟨h.last i c (by rw[List.take_length] at hc;rw[List.getElem?_append_left (List.getElem?_eq_some_iff.1 hc).1];exact hc),rfl⟩,Nat.le_refl _⟩
/-! ### appending -/
theorem ws_dur (ps:List (List UInt8)):∀ (D:Dsk) (x:Nat),(D.ws false x ps).dur=D.dur:=by
 induction ps with
 | nil=>intro D x;rfl
 | cons p ps ih=>intro D x;simp only[Dsk.ws];rw[ih];rfl
theorem ws_mem (ps:List (List UInt8)):∀ (D:Dsk) (x i:Nat) (c:List UInt8),c∈(D.ws false x ps).ver i→c∈D.ver i∨(x≤i∧ps[i - x]? =some c):=by
 induction ps with
 | nil=>intro D x i c h;exact .inl h
 | cons p ps ih=>
  intro D x i c h
  simp only[Dsk.ws] at h
  rcases ih _ _ _ _ h with h|⟨h1,h2⟩
  ·have h:c∈(CG D.ver x (D.ver x++[p])) i:=h
   unfold CG at h
   split at h
   ·rename_i e;subst e
    rcases List.mem_append.1 h with h|h
    ·exact .inl h
    ·simp at h;subst h;exact .inr ⟨Nat.le_refl _,by simp⟩
   ·exact .inl h
  ·exact .inr ⟨by omega,by rw[show i - x=(i - (x+1))+1 from by omega,List.getElem?_cons_succ];exact h2⟩
theorem wr_has {D:Dsk} {x i:Nat} {ps:List (List UInt8)} {c:List UInt8} (h:CM (D.wr x ps) i c):CM D i c∨(x≤i∧ps[i - x]? =some c):=by
 rcases h with rfl|h
 ·exact .inl (.inl (congrFun (ws_dur ps { D with f2:=AY D.f2 } x) i))
 ·rcases ws_mem ps { D with f2:=AY D.f2 } x i c h with h|h
  ·exact .inl (.inr h)
  ·exact .inr h
theorem app_has {D:Dsk} {s:Sup} {a:Int} {k:Nat} {ps:List (List UInt8)} (hs:0≤s.start) (ha:0≤a∧a<s.len) (hl:(ps.length:Int)≤s.len) (hk:(k:Int)=min (ps.length:Int) (s.len - a)) {n:Nat} {c:List UInt8} (h:CM (Et D s a k ps) n c):CM D n c∨∃ j:Nat,ps[j]? =some c∧n=ringAt s (a+j):=by
 have one:∀ {n:Nat} {c:List UInt8},CM (D.wr (s.start+a).toNat (ps.take k)) n c→CM D n c∨∃ j:Nat,ps[j]? =some c∧n=ringAt s (a+j):=fun {n c} h=>by
  rcases wr_has h with h|⟨h1,h2⟩
  ·exact .inl h
  ·rw[List.getElem?_take] at h2
   split at h2
   ·exact .inr ⟨_,h2,by rw[ring_low hs ha.1 (by omega)];omega⟩
   ·cases h2
 unfold Et at h
 split at h
 ·rcases wr_has h with h|⟨h1,h2⟩
  ·exact one h
  ·rw[List.getElem?_drop] at h2
   have hlt:=(List.getElem?_eq_some_iff.1 h2).1
   exact .inr ⟨_,h2,by rw[ring_high hs (by omega) (by omega)];omega⟩
 ·exact one h
theorem FG (D:Dsk) (x:Nat) (ps:List (List UInt8)) (j:Nat) (h:j<x∨x+ps.length≤j):(D.wr x ps).ver j=D.ver j:=Dsk.ws_ver false ps { D with f2:=AY D.f2 } x j h
theorem NC {D:Dsk} {s:Sup} {a:Int} {k:Nat} {ps:List (List UInt8)} (hs:0≤s.start) (ha:0≤a∧a<s.len) (hl:(ps.length:Int)≤s.len) (hk:(k:Int)=min (ps.length:Int) (s.len - a)) {i:Nat} (hi:∀ j:Nat,j<ps.length→i≠ringAt s (a+j)):(Et D s a k ps).ver i=D.ver i:=by
 have h1:(D.wr (s.start+a).toNat (ps.take k)).ver i=D.ver i:=by
  refine FG _ _ _ _ ?_
  rw[List.length_take]
  rcases Nat.lt_or_ge i (s.start+a).toNat with g|g
  ·exact .inl g
  ·rcases Nat.lt_or_ge (i - (s.start+a).toNat) (min k ps.length) with q|q
   ·exact absurd (by rw[ring_low hs ha.1 (by omega)];omega) (hi (i - (s.start+a).toNat) (by omega))
   ·exact .inr (by omega)
 unfold Et
 split
 ·refine (FG _ _ _ _ ?_).trans h1
  rw[List.length_drop]
  rcases Nat.lt_or_ge i s.start.toNat with g|g
  ·exact .inl g
  ·rcases Nat.lt_or_ge (i - s.start.toNat) (ps.length - k) with q|q
   ·exact absurd (by rw[ring_high hs (by omega) (by omega)];omega) (hi (k+(i - s.start.toNat)) (by omega))
   ·exact .inr (by omega)
 ·exact h1
theorem PInv.at_ok {D:Dsk} {s:Sup} {rs:List Rc} {pt:List (List UInt8)} {a q u:Int} {b:Bool} {sure:Nat} (h:PInv D s rs pt a q u b sure) (hs:SOk s):0≤a∧a<s.len:=by
 have:=hs.head
 rw[h.fa];exact ⟨Int.emod_nonneg _ (by omega),Int.emod_lt_of_pos _ (by omega)⟩
theorem PInv.ring {D:Dsk} {s:Sup} {rs:List Rc} {pt:List (List UInt8)} {a q u:Int} {b:Bool} {sure:Nat} (h:PInv D s rs pt a q u b sure) (j:Nat):ringAt s (a+j)=ringAt s (s.head+(((secs s.epoch rs).length+j:Nat):Int)):=by
 have hu:=h.fu
 rw[h.fa,IR];congr 1;omega
theorem PInv.app {D:Dsk} {s:Sup} {rs:List Rc} {pt:List (List UInt8)} {a q u:Int} {sure:Nat} (h:PInv D s rs pt a q u false sure) (hs:SOk s) {k:Nat} (hl:1≤ims.length∧ims.length≤40) (hok:∀ m∈ims,m.Ok) (hr:1+(ims.length:Int)≤s.len - u) (hk:(k:Int)=min (1+(ims.length:Int)) (s.len - a)):
  PInv (Et D s a k (Bg s.epoch q ims)) s (rs++[⟨q,ims⟩]) [] ((a+(1+(ims.length:Int))) % s.len) (q+1) (u+(1+(ims.length:Int))) false sure:=by
 obtain rfl:=h.pb rfl
 have ha:=h.at_ok hs
 have hu:=h.fu
 have hq:=h.fq
 rw[if_neg (by decide)] at hq
 have hpl:=E7 s.epoch q ims
 have hk':(k:Int)=min ((Bg s.epoch q ims).length:Int) (s.len - a):=by rw[hpl];omega
 have hsl:(secs s.epoch (rs++[⟨q,ims⟩]))=secs s.epoch rs++Bg s.epoch q ims:=by rw[Eu,IS]
 have hfar:∀ i:Nat,(i:Int)<s.len→i<(secs s.epoch rs).length→∀ j:Nat,j<(Bg s.epoch q ims).length→ringAt s (s.head+i)≠ringAt s (a+j):=fun i hi hi2 j hj e=>by
  rw[h.ring] at e
  have:=Hb hs.start hs.head hi (by omega) e
  omega
 refine ⟨?_,by simp;omega,by rw[hsl,List.length_append,hpl];omega,by omega,fun _=>rfl,.inl rfl,fun j r hj=> ?_,fun i hi c hc=> ?_,fun i c hc=> ?_,fun i c hc=> ?_,by have:=h.sure;simp;omega⟩
 ·rw[h.fa,Int.emod_add_emod,Int.add_assoc]
 ·rcases Nat.lt_or_ge j rs.length with g|g
  ·rw[List.getElem?_append_left g] at hj;exact h.recs j r hj
  ·rw[List.getElem?_append_right g] at hj
   have:j=rs.length:=by have:=(List.getElem?_eq_some_iff.1 hj).1;simp at this;omega
   subst this
   simp at hj;subst hj
   exact ⟨by dsimp only;omega,hl,hok⟩
 ·rw[List.append_nil,hsl]
  rcases app_has hs.start ha (by omega) hk' hc with hc|⟨j,hj,hn⟩
  ·rcases h.old i hi c hc with g|g
   ·exact .inl g
   ·rw[List.append_nil] at g
    exact .inr (by rw[List.getElem?_append_left (List.getElem?_eq_some_iff.1 g).1];exact g)
  ·have hjl:=(List.getElem?_eq_some_iff.1 hj).1
   rw[h.ring] at hn
   have:=Hb hs.start hs.head hi (by omega) hn
   subst this
   exact .inr (by rw[List.getElem?_append_right (by omega),Nat.add_sub_cancel_left];exact hj)
 ·rw[List.append_nil,hsl] at hc
  rcases Nat.lt_or_ge i (secs s.epoch rs).length with g|g
  ·rw[List.getElem?_append_left g] at hc
   rw[app_old hs.start ha (by omega) hk' (hfar i (by omega) g)]
   exact h.last i c (by rw[List.append_nil];exact hc)
  ·rw[List.getElem?_append_right g] at hc
   have:=Vv (D:=D) hs.start ha (by omega) hk' hc
   rw[h.ring,show (secs s.epoch rs).length+(i - (secs s.epoch rs).length)=i from by omega] at this
   exact this
 ·rw[List.take_append_of_le_length h.sure] at hc
  have hil:i<(secs s.epoch rs).length:=by
   have h1:=(List.getElem?_eq_some_iff.1 hc).1
   have h2:(secs s.epoch rs).length=(secs s.epoch (rs.take sure)).length+(secs s.epoch (rs.drop sure)).length:=by
    rw[←List.length_append,←Eu,List.take_append_drop]
   omega
  obtain ⟨h1,h2⟩:=h.dura i c hc
  have key:∀ c',CM (Et D s a k (Bg s.epoch q ims)) (ringAt s (s.head+i)) c'→CM D (ringAt s (s.head+i)) c':=fun c' hc'=>by
   rcases app_has hs.start ha (by omega) hk' hc' with g|⟨j,hj,hn⟩
   ·exact g
   ·exact (hfar i (by omega) hil j (List.getElem?_eq_some_iff.1 hj).1 hn).elim
  have hd:(Et D s a k (Bg s.epoch q ims)).dur=D.dur:=by
   unfold Et;split
   ·exact (ws_dur _ _ _).trans (ws_dur _ { D with f2:=AY D.f2 } _)
   ·exact ws_dur _ { D with f2:=AY D.f2 } _
  refine ⟨by rw[hd];exact h1,?_⟩
  have hno:=NC (D:=D) hs.start ha (by omega) hk' (hfar i (by omega) hil)
  rw[hno];exact h2
end
section
variable {e q:Int} {ims:List Img}
/-! ### writes that fail -/
theorem PInv.fail0 {D:Dsk} {s:Sup} {rs:List Rc} {pt:List (List UInt8)} {a q u:Int} {sure:Nat} (h:PInv D s rs pt a q u false sure):PInv D.wf s rs [] a (q+1) u true sure:=by
 obtain rfl:=h.pb rfl
 have hq:=h.fq
 rw[if_neg (by decide)] at hq
 exact ⟨h.fa,by rw[if_pos rfl];omega,h.fu,h.ul,fun g=>(by cases g),.inl rfl,h.recs,fun i hi c hc=>h.old i hi c hc,fun i c hc=>h.last i c hc,fun i c hc=>h.dura i c hc,h.sure⟩
theorem PInv.fail1 {D:Dsk} {s:Sup} {rs:List Rc} {pt:List (List UInt8)} {a q u:Int} {sure:Nat} (h:PInv D s rs pt a q u false sure) (hs:SOk s) {k:Nat} (hl:1≤ims.length∧ims.length≤40) (hok:∀ m∈ims,m.Ok) (hr:1+(ims.length:Int)≤s.len - u) (hk:(k:Int)=min (1+(ims.length:Int)) (s.len - a)) (hk2:k<1+ims.length):
  PInv (Dsk.wf (D.wr (s.start+a).toNat ((Bg s.epoch q ims).take k))) s rs ((Bg s.epoch q ims).take k) a (q+1) u true sure:=by
 obtain rfl:=h.pb rfl
 have ha:=h.at_ok hs
 have hu:=h.fu
 have hq:=h.fq
 rw[if_neg (by decide)] at hq
 have hpl:=E7 s.epoch q ims
 have hpk:((Bg s.epoch q ims).take k).length=k:=by rw[List.length_take];omega
 have hlow:∀ j:Nat,j<k→(s.start+a).toNat+j=ringAt s (s.head+(((secs s.epoch rs).length+j:Nat):Int)):=fun j hj=>by
  rw[←h.ring,ring_low hs.start ha.1 (by omega)]
 have hhas:∀ {n:Nat} {c:List UInt8},CM (Dsk.wf (D.wr (s.start+a).toNat ((Bg s.epoch q ims).take k))) n c→CM D n c∨∃ j:Nat,((Bg s.epoch q ims).take k)[j]? =some c∧n=ringAt s (s.head+(((secs s.epoch rs).length+j:Nat):Int)):=fun {n c} g=>by
  rcases wr_has (D:=D) (x:=(s.start+a).toNat) (ps:=(Bg s.epoch q ims).take k) g with g|⟨g1,g2⟩
  ·exact .inl g
  ·have hj:=(List.getElem?_eq_some_iff.1 g2).1
   rw[hpk] at hj
   exact .inr ⟨_,g2,by rw[←hlow _ hj];omega⟩
 have hfar:∀ i:Nat,i<(secs s.epoch rs).length→ringAt s (s.head+i)<(s.start+a).toNat∨(s.start+a).toNat+((Bg s.epoch q ims).take k).length≤ringAt s (s.head+i):=fun i hi=>by
  rw[hpk]
  rcases Nat.lt_or_ge (ringAt s (s.head+i)) (s.start+a).toNat with g|g
  ·exact .inl g
  ·rcases Nat.lt_or_ge (ringAt s (s.head+i)) ((s.start+a).toNat+k) with g2|g2
   ·have:=hlow (ringAt s (s.head+i) - (s.start+a).toNat) (by omega)
    have:=Hb (i:=i) (j:=(secs s.epoch rs).length+(ringAt s (s.head+i) - (s.start+a).toNat)) hs.start hs.head (by omega) (by omega) (by omega)
    omega
   ·exact .inr g2
 have hno:∀ i:Nat,i<(secs s.epoch rs).length→(Dsk.wf (D.wr (s.start+a).toNat ((Bg s.epoch q ims).take k))).ver (ringAt s (s.head+i))=D.ver (ringAt s (s.head+i)):=fun i hi=>FG D _ _ _ (hfar i hi)
 have hdur:(Dsk.wf (D.wr (s.start+a).toNat ((Bg s.epoch q ims).take k))).dur=D.dur:=ws_dur ((Bg s.epoch q ims).take k) { D with f2:=AY D.f2 } _
 have hqs:q=s.seq+rs.length:=by omega
 refine ⟨h.fa,by rw[if_pos rfl];omega,h.fu,h.ul,fun g=>(by cases g),.inr ⟨ims,k,⟨hl,hok⟩,by rw[←hqs],hk2,by omega⟩,h.recs,fun i hi c hc=> ?_,fun i c hc=> ?_,fun i c hc=> ?_,h.sure⟩
 ·rcases hhas hc with hc|⟨j,hj,hn⟩
  ·rcases h.old i hi c hc with g|g
   ·exact .inl g
   ·rw[List.append_nil] at g
    exact .inr (by rw[List.getElem?_append_left (List.getElem?_eq_some_iff.1 g).1];exact g)
  ·have hjl:=(List.getElem?_eq_some_iff.1 hj).1
   rw[hpk] at hjl
   have:=Hb hs.start hs.head hi (by omega) hn
   subst this
   exact .inr (by rw[List.getElem?_append_right (by omega),Nat.add_sub_cancel_left];exact hj)
 ·rcases Nat.lt_or_ge i (secs s.epoch rs).length with g|g
  ·rw[List.getElem?_append_left g] at hc
   have:=h.last i c (by rw[List.append_nil];exact hc)
   unfold Dsk.cont at this ⊢
   rw[hno i g,hdur];exact this
  ·rw[List.getElem?_append_right g] at hc
   have hjl:=(List.getElem?_eq_some_iff.1 hc).1
   rw[hpk] at hjl
   have e1:=hlow (i - (secs s.epoch rs).length) hjl
   rw[show (secs s.epoch rs).length+(i - (secs s.epoch rs).length)=i from by omega] at e1
   rw[←e1]
   show (D.wr _ _).cont _=c
   rw[wr_cont,if_pos (by omega),Nat.add_sub_cancel_left,hc];rfl
 ·have hil:i<(secs s.epoch rs).length:=by
   have h1:=(List.getElem?_eq_some_iff.1 hc).1
   have h2:(secs s.epoch rs).length=(secs s.epoch (rs.take sure)).length+(secs s.epoch (rs.drop sure)).length:=by
    rw[←List.length_append,←Eu,List.take_append_drop]
   omega
  obtain ⟨h1,h2⟩:=h.dura i c hc
  exact ⟨by rw[hdur];exact h1,by rw[hno i hil];exact h2⟩
/-! ### behind a crash -/
structure Crashed (D D':Dsk):Prop where
 n:D'.n=D.n
 ver:∀ i,D'.ver i=[]
 dur:∀ i,CM D i (D'.dur i)
theorem Crashed.cont {D D':Dsk} (h:Crashed D D') (n:Nat):D'.cont n=D'.dur n:=by unfold Dsk.cont;rw[h.ver];rfl
theorem PInv.reads {D D':Dsk} {s:Sup} {rs:List Rc} {pt:List (List UInt8)} {a q u:Int} {b:Bool} {sure:Nat} (h:PInv D s rs pt a q u b sure) (hc:Crashed D D') {i:Nat} (hi:(i:Int)<s.len) {q':Int} (hq:s.seq≤q') (ht:Tg (D'.cont (ringAt s (s.head+i))) s.epoch q'):(secs s.epoch rs++pt)[i]? =some (D'.cont (ringAt s (s.head+i))):=by
 rcases h.old i hi (D'.cont (ringAt s (s.head+i))) (by rw[hc.cont];exact hc.dur _) with g|g
 ·have:=g _ _ ht
  omega
 ·exact g
theorem PInv.one {D D':Dsk} {s:Sup} {rs:List Rc} {pt:List (List UInt8)} {a q u:Int} {b:Bool} {sure:Nat} (h:PInv D s rs pt a q u b sure) (hs:SOk s) (hc:Crashed D D') (hq:q≤1099511627776) {n:Nat} (hn:n≤rs.length) {a' q' u':Int} (hu:u'=((secs s.epoch (rs.take n)).length:Int)) (ha:a'=(s.head+u') % s.len) (hq':q'=s.seq+n)
  (hnx:nextP (CH D' s a') s.epoch q' (s.len - u') ims):∃ r,rs[n]? =some r∧r=⟨q',ims⟩:=by
 obtain ⟨n1,n2,n3,n4,n5,n6,n7⟩:=hnx
 have hF:∀ j:Nat,CH D' s a' j=D'.cont (ringAt s (s.head+(((secs s.epoch (rs.take n)).length+j:Nat):Int))):=fun j=>by
  show D'.cont (ringAt s (a'+j))=_
  rw[ha,IR];congr 2;omega
 have hcnt:=n1.2.2.2.1
 have rd:∀ j:Nat,j≤Bm (CH D' s a' 0)→Tg (CH D' s a' j) s.epoch q'→(secs s.epoch rs++pt)[(secs s.epoch (rs.take n)).length+j]? =some (CH D' s a' j):=fun j hj ht=>by
  rw[hF] at ht ⊢
  exact h.reads hc (by omega) (by omega) ht
 have h0:=rd 0 (by omega) (.inl ⟨n1,n2,n3⟩)
 have hi:∀ j:Nat,j<Bm (CH D' s a' 0)→(secs s.epoch rs++pt)[(secs s.epoch (rs.take n)).length+(1+j)]? =some (CH D' s a' (1+j)):=fun j hj=>by
  obtain ⟨g1,g2,g3,_⟩:=n6 j hj
  exact rd (1+j) (by omega) (.inr ⟨g1,g2,g3⟩)
 have hqq:=h.fq
 have hsq:=hs.seq
 rcases Nat.lt_or_ge n rs.length with hlt|hge
 ·have hr:rs[n]? =some rs[n]:=List.getElem?_eq_getElem hlt
  obtain ⟨r1,r2,r3⟩:=h.recs n _ hr
  refine ⟨_,hr,?_⟩
  have hsp:=Js s.epoch hr
  have hp:=E7 s.epoch rs[n].seq rs[n].ims
  have hat:∀ j:Nat,j<1+rs[n].ims.length→(secs s.epoch rs++pt)[(secs s.epoch (rs.take n)).length+j]? =(Bg s.epoch rs[n].seq rs[n].ims)[j]? :=fun j hj=>by
   rw[hsp,List.append_assoc,List.append_assoc,List.getElem?_append_right (by omega),Nat.add_sub_cancel_left,List.getElem?_append_left (by omega)]
  have e0:=hat 0 (by omega)
  rw[h0] at e0
  have hf0:CH D' s a' 0=Bf (hdL s.epoch rs[n].seq rs[n].ims):=by
   simp[Bg] at e0;exact e0
  have hC:Bm (CH D' s a' 0)=rs[n].ims.length:=by rw[hf0,Pi r2.2]
  have hnx2:nextP (CH D' s a') s.epoch rs[n].seq (s.len - u') rs[n].ims:=by
   refine MC r2 r3 hs.epoch (by split at hqq<;>omega) (by omega) fun j p hj=> ?_
   have hjl:=(List.getElem?_eq_some_iff.1 hj).1
   cases j with
   | zero=>have:=hat 0 (by omega);rw[h0,hj] at this;exact Option.some.inj this
   | succ j=>
    have h1:=hi j (by omega)
    rw[Nat.add_comm 1 j] at h1
    have:=hat (j+1) (by omega)
    rw[h1,hj] at this
    exact Option.some.inj this
  have hnx1:nextP (CH D' s a') s.epoch q' (s.len - u') ims:=⟨n1,n2,n3,n4,n5,n6,n7⟩
  have e1:rs[n].seq=q':=by omega
  rw[e1] at hnx2
  have e2:=SC hnx1 hnx2
  rw[e2,←e1]
 ·have hn2:n=rs.length:=by omega
  subst hn2
  rw[List.take_length] at h0 hi
  rw[List.getElem?_append_right (by omega),Nat.add_zero,Nat.sub_self] at h0
  rcases h.part with rfl|⟨jms,k,⟨p1,p2⟩,rfl,p3,p4⟩
  ·simp at h0
  ·have hk0:0<k:=by
    have:=(List.getElem?_eq_some_iff.1 h0).1
    rw[List.length_take] at this;omega
   rw[List.getElem?_take,if_pos hk0] at h0
   have hf0:CH D' s a' 0=Bf (hdL s.epoch (s.seq+rs.length) jms):=by
    simp[Bg] at h0;exact h0.symm
   have hC:Bm (CH D' s a' 0)=jms.length:=by rw[hf0,Pi p1.2]
   have:=hi (k - 1) (by omega)
   rw[List.getElem?_append_right (by omega),show (secs s.epoch rs).length+(1+(k - 1)) - (secs s.epoch rs).length=k from by omega,List.getElem?_take,if_neg (by omega)] at this
   cases this
theorem PInv.begins {D D':Dsk} {s:Sup} {rs:List Rc} {pt:List (List UInt8)} {a q u:Int} {b:Bool} {sure:Nat} (h:PInv D s rs pt a q u b sure) (hs:SOk s) (hc:Crashed D D') (hq:q≤1099511627776) {got:List Rc} {a' q' u':Int} (r:Runs D' s s.head s.seq 0 got a' q' u'):got.length≤rs.length∧got=rs.take got.length∧u'=((secs s.epoch got).length:Int)∧a'=(s.head+u') % s.len∧q'=s.seq+got.length:=by
 have hpos:=r.pos hs.head
 refine (fun (g:got.length≤rs.length∧got=rs.take got.length∧u'=((secs s.epoch got).length:Int))=>⟨g.1,g.2.1,g.2.2,hpos.1,hpos.2.1⟩) ?_
 clear hpos
 induction r with
 | nil=>exact ⟨by simp,by simp,by simp[secs]⟩
 | @snoc a' q' u' got ims r hlt hn ih=>
  have hpos:=r.pos hs.head
  obtain ⟨i1,i2,i3⟩:=ih
  obtain ⟨r1,hr1,hr2⟩:=h.one hs hc hq i1 (by rw[←i2];exact i3) hpos.1 hpos.2.1 hn
  have hlt2:=(List.getElem?_eq_some_iff.1 hr1).1
  refine ⟨by simp;omega,?_,?_⟩
  ·rw[List.length_append,List.length_singleton,List.take_add_one,←i2,hr1,hr2];rfl
  ·rw[Eu,List.length_append,IS,E7];dsimp only;omega
theorem PInv.read {D D':Dsk} {s:Sup} {rs:List Rc} {pt:List (List UInt8)} {a q u:Int} {b:Bool} {sure:Nat} (h:PInv D s rs pt a q u b sure) (hs:SOk s) (hc:Crashed D D') (hq:q≤1099511627776) {got:List Rc} {a' q' u':Int} (r:Runs D' s s.head s.seq 0 got a' q' u') (hstop:s.len≤u'∨∀ ims,¬ nextP (CH D' s a') s.epoch q' (s.len - u') ims):sure≤got.length∧got.length≤rs.length∧got=rs.take got.length:=by
 obtain ⟨g1,g2,g3,g4,g5⟩:=h.begins hs hc hq r
 refine ⟨?_,g1,g2⟩
 rcases Nat.lt_or_ge got.length sure with hlt|hge
 ·exfalso
  have hsu:=h.sure
  have hqq:=h.fq
  have hsq:=hs.seq
  obtain ⟨r0,hr⟩:∃ r0,rs[got.length]? =some r0:=⟨_,List.getElem?_eq_getElem (by omega)⟩
  obtain ⟨r1,r2,r3⟩:=h.recs _ _ hr
  have hr':(rs.take sure)[got.length]? =some r0:=by rw[List.getElem?_take,if_pos hlt];exact hr
  have hsp:=Js s.epoch hr'
  have hp:=E7 s.epoch r0.seq r0.ims
  have htk:(rs.take sure).take got.length=got:=by rw[List.take_take,Nat.min_eq_left (by omega)];exact g2.symm
  have hle:(secs s.epoch (rs.take sure)).length≤(secs s.epoch rs).length:=by
   have h2:(secs s.epoch rs).length=(secs s.epoch (rs.take sure)).length+(secs s.epoch (rs.drop sure)).length:=by
    rw[←List.length_append,←Eu,List.take_append_drop]
   omega
  have hlen:(secs s.epoch got).length+(1+r0.ims.length)≤(secs s.epoch (rs.take sure)).length:=by
   rw[hsp,htk,List.length_append,List.length_append];omega
  have hu:=h.fu
  have hul:=h.ul
  have hnx:nextP (CH D' s a') s.epoch q' (s.len - u') r0.ims:=by
   have e1:q'=r0.seq:=by omega
   rw[e1]
   refine MC r2 r3 hs.epoch (by split at hqq<;>omega) (by omega) fun j p hj=> ?_
   have hjl:=(List.getElem?_eq_some_iff.1 hj).1
   have hat:(secs s.epoch (rs.take sure))[(secs s.epoch got).length+j]? =some p:=by
    rw[hsp,htk,List.append_assoc,List.getElem?_append_right (by omega),Nat.add_sub_cancel_left,List.getElem?_append_left (by omega)];exact hj
   obtain ⟨d1,d2⟩:=h.dura _ _ hat
   show D'.cont (ringAt s (a'+j))=p
   rw[g4,IR,show s.head+u'+(j:Int)=s.head+(((secs s.epoch got).length+j:Nat):Int) from by omega,hc.cont]
   rcases hc.dur (ringAt s (s.head+(((secs s.epoch got).length+j:Nat):Int))) with g|g
   ·rw[g,d1]
   ·rw[d2] at g;cases g
  rcases hstop with g|g
  ·omega
  ·exact g _ hnx
 ·exact hge
end
structure Pg where
 kind:Int
 body:List UInt8
def Pg.Ok (p:Pg):Prop:=(1≤p.kind∧p.kind≤5)∧p.body.length=240
def noPg:Pg:=⟨0,[]⟩
def Hn (n:Nat) (p:Pg):List UInt8:=[80,80,65,71]++Ah 1 p.kind++Ah 4 (n:Int)++[0,0,0]++p.body
theorem E8 {n:Nat} {p:Pg} (h:p.Ok):(Hn n p).length=252:=by simp[Hn,Ai,h.2]
def DG (n:Nat) (p:Pg):List UInt8:=Bf (Hn n p)
theorem E9 {n:Nat} {p:Pg} (h:p.Ok):(DG n p).length=256:=sect_len (Nat.le_of_eq (E8 h))
def HomeP (c:List UInt8) (n:Nat) (p:Pg):Prop:=(c=List.replicate 256 0∧p=noPg)∨(p.Ok∧c=DG n p)
theorem ME {n:Nat} {p:Pg} (h:p.Ok):(DG n p).take 4=[80,80,65,71]:=by
 have hl:=E8 (n:=n) h
 have:=BM (l:=Hn n p) (by omega) (p:=0) (k:=4) (by omega)
 rw[List.drop_zero,List.drop_zero] at this
 unfold DG
 rw[this];rfl
theorem ND {n:Nat} {p:Pg} (h:p.Ok):DG n p≠List.replicate 256 0:=fun e=>by
 have:=ME (n:=n) h
 rw[e] at this
 exact absurd this (by decide)
def IT (x:Sup):List UInt8:=[80,83,85,80]++x.list.flatMap (Ah 8)
theorem FY (x:Sup):(IT x).length=60:=by simp[IT,Sup.list,Ai]
def C2 (x:Sup):List UInt8:=Bf (IT x)
theorem FZ (x:Sup):(C2 x).length=256:=sect_len (by rw[FY];omega)
def F0 (m:Img):Pg:=⟨m.kind,m.body⟩
theorem Og {m:Img} (h:m.Ok):(F0 m).Ok:=⟨h.2.1,h.2.2⟩
abbrev Bh:=Nat→Option Pg
def pgSet (f:Bh) (n:Nat) (p:Pg):Bh:=fun i=>if i=n then some p else f i
def CV:Bh:=fun _=>none
def Gq (f g:Bh):Bh:=fun i=>(g i).or (f i)
def Eb (f:Bh) (ims:List Img):Bh:=ims.foldl (fun f m=>pgSet f m.num.toNat (F0 m)) f
def ov (rs:List Rc):Bh:=rs.foldl (fun f r=>Eb f r.ims) CV
theorem Id (rs:List Rc) (r:Rc):ov (rs++[r])=Eb (ov rs) r.ims:=by simp[ov,List.foldl_append]
def pgMap (f:Bh) (B:Nat→Pg):Nat→Pg:=fun i=>(f i).getD (B i)
theorem SG (f:Bh) (ims:List Img) (m:Img):Eb f (ims++[m])=pgSet (Eb f ims) m.num.toNat (F0 m):=by simp[Eb,List.foldl_append]
theorem Oh (ims:List Img):∀ (f:Bh) (n:Nat),(Eb f ims n).isSome=((f n).isSome || ims.any fun m=>decide (m.num.toNat=n)):=by
 induction ims with
 | nil=>intro f n;simp[Eb]
 | cons m ims ih=>
  intro f n
  have:Eb f (m::ims)=Eb (pgSet f m.num.toNat (F0 m)) ims:=rfl
  rw[this,ih]
  unfold pgSet
  by_cases h:n=m.num.toNat
  ·subst h;simp
  ·have h2:¬ m.num.toNat=n:=fun e=>h e.symm
   simp[h,h2]
theorem ovI_get {f:Bh} {ims:List Img} {n:Nat} {p:Pg} (h:Eb f ims n=some p):f n=some p∨∃ m∈ims,m.num.toNat=n∧p=F0 m:=by
 induction ims generalizing f with
 | nil=>exact .inl h
 | cons m ims ih=>
  have e:Eb f (m::ims)=Eb (pgSet f m.num.toNat (F0 m)) ims:=rfl
  rw[e] at h
  rcases ih h with g|⟨m',h1,h2,h3⟩
  ·unfold pgSet at g
   split at g
   ·rename_i e;cases g;exact .inr ⟨m,by simp,e.symm,rfl⟩
   ·exact .inl g
  ·exact .inr ⟨m',by simp[h1],h2,h3⟩
theorem Jt:∀ (k:Nat) (rs:List Rc),rs.length=k→∀ {n:Nat} {p:Pg},ov rs n=some p→∃ r∈rs,∃ m∈r.ims,m.num.toNat=n∧p=F0 m:=by
 intro k
 induction k with
 | zero=>intro rs hl n p h;obtain rfl:=List.length_eq_zero_iff.1 hl;cases h
 | succ k ih=>
  intro rs hl n p h
  obtain ⟨rs',r,rfl⟩:∃ rs' r,rs=rs'++[r]:=⟨rs.dropLast,rs.getLast (by intro e;subst e;simp at hl),(List.dropLast_concat_getLast (by intro e;subst e;simp at hl)).symm⟩
  rw[Id] at h
  rcases ovI_get h with g|⟨m,h1,h2,h3⟩
  ·obtain ⟨r',a,b⟩:=ih rs' (by simpa using hl) g;exact ⟨r',by simp[a],b⟩
  ·exact ⟨r,by simp,m,h1,h2,h3⟩
def hwD (D:Dsk) (l:List (Nat×Pg)):Dsk:=l.foldl (fun D x=>D.wr (2+x.1) [DG x.1 x.2]) D
theorem SH (D:Dsk) (l:List (Nat×Pg)) (x:Nat×Pg):hwD D (l++[x])=(hwD D l).wr (2+x.1) [DG x.1 x.2]:=by simp[hwD,List.foldl_append]
theorem hwD_cons (D:Dsk) (l:List (Nat×Pg)) (x:Nat×Pg):hwD D (x::l)=hwD (D.wr (2+x.1) [DG x.1 x.2]) l:=rfl
theorem QM (D:Dsk) (x:Nat) (ps:List (List UInt8)):(D.wr x ps).dur=D.dur:=ws_dur ps { D with f2:=AY D.f2 } x
theorem Ev (l:List (Nat×Pg)):∀ D:Dsk,(hwD D l).n=D.n:=by
 induction l with
 | nil=>intro D;rfl
 | cons x l ih=>intro D;rw[hwD_cons,ih,Dsk.wr_n]
theorem Ju (l:List (Nat×Pg)):∀ D:Dsk,(hwD D l).dur=D.dur:=by
 induction l with
 | nil=>intro D;rfl
 | cons x l ih=>intro D;rw[hwD_cons,ih,QM]
theorem hw_has (l:List (Nat×Pg)):∀ (D:Dsk) (i:Nat) (c:List UInt8),CM (hwD D l) i c→CM D i c∨∃ x∈l,i=2+x.1∧c=DG x.1 x.2:=by
 induction l with
 | nil=>intro D i c h;exact .inl h
 | cons x l ih=>
  intro D i c h
  rw[hwD_cons] at h
  rcases ih _ _ _ h with g|⟨y,h1,h2,h3⟩
  ·rcases wr_has g with g|⟨g1,g2⟩
   ·exact .inl g
   ·have:i - (2+x.1)=0:=by
     have:=(List.getElem?_eq_some_iff.1 g2).1
     simp at this;omega
    rw[this] at g2
    simp at g2
    exact .inr ⟨x,by simp,by omega,g2.symm⟩
  ·exact .inr ⟨y,by simp[h1],h2,h3⟩
theorem Jv (l:List (Nat×Pg)):∀ (D:Dsk) (i:Nat),(∀ x∈l,i≠2+x.1)→(hwD D l).ver i=D.ver i:=by
 induction l with
 | nil=>intro D i _;rfl
 | cons x l ih=>
  intro D i h
  rw[hwD_cons,ih _ _ (fun y hy=>h y (by simp[hy]))]
  refine FG _ _ _ _ ?_
  have:=h x (by simp)
  simp only[List.length_cons,List.length_nil]
  omega
theorem hw_cont_out (l:List (Nat×Pg)) (D:Dsk) (i:Nat) (h:∀ x∈l,i≠2+x.1):(hwD D l).cont i=D.cont i:=by
 unfold Dsk.cont;rw[Jv l D i h,Ju]
theorem Uz (l:List (Nat×Pg)):∀ (D:Dsk),(l.map Prod.fst).Nodup→∀ x∈l,(hwD D l).cont (2+x.1)=DG x.1 x.2:=by
 induction l with
 | nil=>intro D _ x h;cases h
 | cons y l ih=>
  intro D hn x hx
  rw[hwD_cons]
  simp only[List.map_cons,List.nodup_cons] at hn
  rcases List.mem_cons.1 hx with rfl|hx
  ·rw[hw_cont_out]
   ·rw[wr_cont,if_pos (Nat.le_refl _),Nat.sub_self];rfl
   ·intro z hz e
    exact hn.1 (List.mem_map.2 ⟨z,hz,by omega⟩)
  ·exact ih _ hn.2 x hx
theorem MF (l:List (Nat×Pg)):∀ (D:Dsk) (i:Nat),(l.map Prod.fst).Nodup→((hwD D l).ver i).length≤(D.ver i).length+1:=by
 induction l with
 | nil=>intro D i _;show (D.ver i).length≤_;omega
 | cons y l ih=>
  intro D i hn
  rw[hwD_cons]
  simp only[List.map_cons,List.nodup_cons] at hn
  by_cases hi:i=2+y.1
  ·rw[Jv]
   ·exact Dsk.wr_len _ _ _ _
   ·intro z hz e
    exact hn.1 (List.mem_map.2 ⟨z,hz,by omega⟩)
  ·have h1:=ih (D.wr (2+y.1) [DG y.1 y.2]) i hn.2
   rw[FG D _ _ i (by simp only[List.length_cons,List.length_nil];omega)] at h1
   exact h1
/-! ### a superblock saved -/
def EG (D:Dsk) (x:Sup):Dsk:= { Dsk.ws { D with f2:=AY D.f2 } true (x.gen % 2).toNat [C2 x] with left:=max 0 (D.left - 1) }
theorem GG (D:Dsk) (x:Sup):(EG D x).dur (x.gen % 2).toNat=C2 x∧(EG D x).ver (x.gen % 2).toNat=[]:=by
 constructor
 ·show (CG D.dur _ _) _=_;simp[CG]
 ·show (CG D.ver _ _) _=_;simp[CG]
theorem Eh (D:Dsk) (x:Sup) (i:Nat) (h:i≠(x.gen % 2).toNat):(EG D x).dur i=D.dur i∧(EG D x).ver i=D.ver i:=by
 constructor
 ·show (CG D.dur _ _) _=_;unfold CG;rw[if_neg h]
 ·show (CG D.ver _ _) _=_;unfold CG;rw[if_neg h]
open Go.RowKit
theorem Vw (pt i:Nat) (x0 x2:Value):Cn prog 202 [.pointer (some ⟨pt,1,none⟩)] [blk pt (By x0 (.int .i32 0) x2 i) 183] (fun v Γ=>v= .tuple #[]∧Γ=[blk pt (By x0 (.int .i32 1) x2 i) 183]):=by
 intro z R w H;replace H:=H.l1;refine Ad func202 rfl ntmps202 rfl (Zc 2 rfl (Ac rfl (Gg (v:= .tuple #[]) (vs:=[]) rfl rfl (fun w _=>run_call_mark0 func206 (by kernel_rfl) (by kernel_rfl) (by kernel_rfl) .disable (by kernel_rfl) w)) (Z0 8 [1] rfl (AL rfl (O9 0 (p:=1) (u0:= .int .i32 0) (u:= .int .i32 1) (v:= .bool true) H rfl rfl rfl (vs:=[.pointer (some ⟨pt,1,none⟩),.int .i32 0,.int .i32 1]) rfl rfl (fun hc hz=>run_call_cas_hit func207 (by kernel_rfl) (by kernel_rfl) (by kernel_rfl) .i32 (by kernel_rfl) hc hz) (out:=(By x0 (.int .i32 1) x2 i)) rfl) ?_))));rintro _ w ⟨rfl,H⟩;replace H:=H.l1;refine Zc 7 rfl (Ac rfl (Gg (v:= .tuple #[]) (vs:=[]) rfl rfl (fun w _=>run_call_mark0 func208 (by kernel_rfl) (by kernel_rfl) (by kernel_rfl) .enable (by kernel_rfl) w)) (Zc 4 rfl (Ac rfl (Mg rfl (by kernel_rfl) rfl (AB (H.cel 0 rfl 1 rfl))) (Ac rfl (Gg (v:= .tuple #[]) (vs:=[.pointer (some ⟨pt,1,none⟩)]) rfl rfl (fun w _=>run_call_marked func209 (by kernel_rfl) (by kernel_rfl) (by kernel_rfl) .acquire (by kernel_rfl) _ w)) (Zc 3 rfl (Zr rfl ?_))))));exact ⟨_,⟨rfl,rfl⟩,H⟩
theorem QN (pt i:Nat) (x0 x2:Value):Cn prog 203 [.pointer (some ⟨pt,1,none⟩)] [blk pt (By x0 (.int .i32 1) x2 i) 183] (fun v Γ=>v= .tuple #[]∧Γ=[blk pt (By x0 (.int .i32 0) x2 i) 183]):=by
 intro z R w H;replace H:=H.l1;refine Ad func203 rfl ntmps203 rfl (Z2 13 [1,0,0] H rfl (Ac rfl (Mg rfl (by kernel_rfl) rfl (AB (H.cel 0 rfl 1 rfl))) (Ac rfl (Gg (v:= .tuple #[]) (vs:=[.pointer (some ⟨pt,1,none⟩)]) rfl rfl (fun w _=>run_call_marked func211 (by kernel_rfl) (by kernel_rfl) (by kernel_rfl) .releaseMerge (by kernel_rfl) _ w)) (Zc 3 rfl (Ac rfl (Gg (v:= .tuple #[]) (vs:=[]) rfl rfl (fun w _=>run_call_mark0 func206 (by kernel_rfl) (by kernel_rfl) (by kernel_rfl) .disable (by kernel_rfl) w)) (Z0 7 [1] rfl (AL rfl (O9 0 (p:=1) (u0:= .int .i32 1) (u:= .int .i32 0) (v:= .int .i32 0) H rfl rfl rfl (vs:=[.pointer (some ⟨pt,1,none⟩),.int .i32 (-1)]) rfl rfl (fun hc hz=>run_call_add func212 (by kernel_rfl) (by kernel_rfl) (by kernel_rfl) .i32 (by kernel_rfl) (s:=0) hc hz (by simp[go_sem];rfl)) (out:=(By x0 (.int .i32 0) x2 i)) rfl) ?_)))))));rintro _ w ⟨rfl,H⟩;replace H:=H.l1;refine Z0 14 [4] rfl (Ac rfl (Gg (v:= .tuple #[]) (vs:=[]) rfl rfl (fun w _=>run_call_mark0 func208 (by kernel_rfl) (by kernel_rfl) (by kernel_rfl) .enable (by kernel_rfl) w)) (Zc 1 rfl (Zf rfl ?_)));exact ⟨_,⟨rfl,rfl⟩,H⟩
theorem XS (pt i:Nat) (x0 x2:Value):Cn prog 197 [.pointer (some ⟨pt,1,none⟩)] [blk pt (By x0 (.int .i32 0) x2 i) 183] (fun v Γ=>v= .tuple #[]∧Γ=[blk pt (By x0 (.int .i32 1) x2 i) 183]):=by
 intro z R w H;replace H:=H.l1;refine Ad func197 rfl ntmps197 rfl (Z0 4 [1] rfl (z_E_ rfl (call202 _) (Vw _ _ _ _) H ?_));intro w H;refine Zc 1 rfl (Zf rfl ?_);exact ⟨_,⟨rfl,rfl⟩,H⟩
theorem SI (pt i:Nat) (x0 x2:Value):Ux prog 198 [.pointer (some ⟨pt,1,none⟩)] [blk pt (By x0 (.int .i32 1) x2 i) 183] (fun v Γ=>v= .tuple #[]∧Γ=[blk pt (By x0 (.int .i32 0) x2 i) 183]):=by
 intro z R u w H';have H:=H'.l1;refine Mh func198 rfl 6 ntmps198 rfl (AC (KC 3 [1] rfl (by kernel_rfl) (EZ rfl rfl rfl rfl rfl (fun w=>call203 _ w) (QN _ _ _ _) H rfl ?_)));rintro _ w _ ⟨rfl,rfl⟩ H';have H:=H'.l1;refine AH (Xc rfl ?_);exact ⟨[blk pt (By x0 (.int .i32 0) x2 i) 183],⟨rfl,rfl⟩,H⟩
theorem Zb:Cn prog 205 [.bool true] [] (fun v Γ=>v= .int .u32 1∧Γ=[]):=by
 intro z R w H;replace H:=H.l0;refine Ad func205 rfl ntmps205 rfl (Zc 18 rfl (Zr rfl ?_));exact ⟨_,⟨rfl,rfl⟩,H⟩
theorem MG (pt i:Nat) (x1 x2:Value):Cn prog 189 [Pt_ pt] [blk pt (By (.int .u32 0) x1 x2 i) 183] (fun v Γ=>v= .bool false∧Γ=[blk pt (By (.int .u32 0) x1 x2 i) 183]):=by
 intro z R w H;replace H:=H.l1;refine Ad func189 rfl ntmps189 rfl (Z0 10 [0] rfl (Ac rfl (Gg (v:= .int .u32 0) (vs:=[Pt_ pt]) rfl rfl (AB (run_call_load func196 (by kernel_rfl) (by kernel_rfl) (by kernel_rfl) .u32 (by kernel_rfl) (H.cel 0 rfl 0 rfl)))) (Z0 5 [4] rfl (Zr rfl ?_))));exact ⟨_,⟨rfl,rfl⟩,H⟩
theorem SJ (pt i:Nat) (x1 x2:Value):Cn prog 189 [Pt_ pt] [blk pt (By (.int .u32 1) x1 x2 i) 183] (fun v Γ=>v= .bool true∧Γ=[blk pt (By (.int .u32 1) x1 x2 i) 183]):=by
 intro z R w H;replace H:=H.l1;refine Ad func189 rfl ntmps189 rfl (Z0 10 [0] rfl (Ac rfl (Gg (v:= .int .u32 1) (vs:=[Pt_ pt]) rfl rfl (AB (run_call_load func196 (by kernel_rfl) (by kernel_rfl) (by kernel_rfl) .u32 (by kernel_rfl) (H.cel 0 rfl 0 rfl)))) (Z0 5 [3] rfl (Zr rfl ?_))));exact ⟨_,⟨rfl,rfl⟩,H⟩
theorem SK (pt i:Nat) (x1 x2:Value):Ux prog 199 [Pt_ pt,.bool true] [blk pt (By (.int .u32 0) x1 x2 i) 183] (fun v Γ=>v= .tuple #[]∧Γ=[blk pt (By (.int .u32 1) x1 x2 i) 183]):=by
 intro z R u w H';have H:=H'.l1;refine Mh func199 rfl 10 ntmps199 rfl (DJ (Sep z (blk pt (By (.int .u32 0) x1 x2 i) 183::R)) 6 rfl (by kernel_rfl) (Bc H fun w H'=> ?_))
 have H:=H'.l1;refine DE [0,1,2,3] [0] (by kernel_rfl) (fun _ _=>AW) (by exact (H.pick 1 [0] rfl)) rfl (by kernel_rfl) rfl rfl (Cz [4] (by kernel_rfl) (by simp) (Au (BL rfl rfl rfl rfl rfl rfl (fun w=>call205 _ w) (Zb) H rfl ?_)));rintro _ w _ ⟨rfl,rfl⟩ H';have H:=H'.l1;refine Bn (fun _=>(H.pick 1 [0] rfl)) (Cz [5] (by kernel_rfl) (by simp) (Au (Ce rfl rfl rfl rfl (O9 0 (p:=0) (u0:= .int .u32 0) (u:= .int .u32 1) (v:= .tuple #[]) H rfl rfl rfl (vs:=[Pt_ pt,.int .u32 1]) rfl rfl (fun hc hz=>run_call_store func204 (by kernel_rfl) (by kernel_rfl) (by kernel_rfl) (by kernel_rfl) hc hz) (out:=(By (.int .u32 1) x1 x2 i)) rfl) ?_)));rintro _ w ⟨rfl,H'⟩;have H:=H'.l1;refine Bn (fun h=>absurd rfl h) (DK (by kernel_rfl) (Xc rfl ?_));exact ⟨[blk pt (By (.int .u32 1) x1 x2 i) 183],⟨rfl,rfl⟩,H⟩
theorem XT (pt:Nat) (x0 x1 x2:Value):Cn prog 169 [Pt_ pt] [blk pt (By x0 x1 x2 0) 183] (fun v Γ=>v= .tuple #[]∧Γ=[blk pt (By x0 x1 x2 256) 183]):=by
 intro z R w H;replace H:=H.l1;refine Ad func169 rfl ntmps169 rfl (Zc 6 rfl ?_);refine AJ (σ:=Nat) (fun i=>[(4,Iv_ (i:Int)),(0,Pt_ pt)])
   (fun i w=>Sep z (blk pt (By x0 x1 x2 i) 183::R) w∧(i≤256)) (fun i=>256 - i) 0
   (fun _ hF=>(hF.co rfl (by go_num) (hF.all rfl))) ⟨H,by omega⟩ ?_
 clear H;rintro i w ⟨H',hI⟩;have H:=H'.l1;have hi256:=hI;clear hI
 refine Z0 6 [0] rfl (Af rfl (fun h1=> ?_) (fun h1=> ?_))
 ·have hlt:i<256:=by omega
  refine Zc 13 rfl (Ac rfl (P0 rfl (by kernel_rfl) rfl) (Zc 10 rfl ?_));refine AJ (σ:=Nat) (fun j=>[(9,Iv_ (j:Int)),(3,u32 (Ia j (EO (i:Int)))),(0,Pt_ pt),(2,Iv_ (i:Int)),(4,Iv_ (i:Int)),(5,.bool (decide ((i:Int)<256))),(6,Iv_ (i:Int)),(7,Iv_ (i:Int)),(8,u32 (EO (i:Int)))])
    (fun j w=>Sep z (blk pt (By x0 x1 x2 i) 183::R) w∧(j≤8)) (fun j=>8 - j) 0
    (fun _ hF=>(hF.co rfl (by go_num) (hF.co rfl (by go_num) (hF.all rfl)))) ⟨H,by omega⟩ ?_
  clear H;rintro j w ⟨H',hI⟩;have H:=H'.l1;have hj8:=hI;clear hI
  refine Z0 6 [0] rfl (Af rfl (fun h2=> ?_) (fun h2=> ?_))
  ·refine Zc 6 rfl (Ac rfl (Gu rfl rfl (m:=1) (n':=1) rfl (by decide)) (Zc 1 rfl (Ac rfl (UT (q:=1) rfl rfl rfl) (Ac rfl (UU (q:=2197175160) rfl rfl rfl) (Ac rfl (NS rfl rfl rfl) (Z1 8 [] [(j:Int)+1] rfl (by omega) (gf ?_)))))));intro _ hF;refine ⟨(j+1),(hF.co rfl (by go_num) (hF.co rfl (by go_num) (hF.all rfl))),⟨H,?_⟩,?_⟩
   ·omega
   ·omega
  ·obtain rfl:j=8:=by omega
   refine Zc 2 rfl (gx (Z1 9 [3,256,1,i,3+i] [] rfl (by omega) (Az rfl rfl (Ag 0 H rfl rfl rfl rfl (vs:=[u32 (Ia 8 (EO (i:Int)))]) rfl (by simp[u32,Value.oneCell']) (by kernel_rfl) (by rw[Sl _ _ _ (by omega)];simp;omega) (out:=By x0 x1 x2 (i+1)) (by have:=QD x0 x1 x2 hlt;simpa using this)) ?_)));rintro w H;replace H:=H.l1;refine Z1 7 [] [(i:Int)+1] rfl (by omega) (gf ?_);intro _ hF;refine ⟨(i+1),(hF.co rfl (by go_num) (hF.all rfl)),⟨H,?_⟩,?_⟩
   ·omega
   ·omega
 ·refine Zc 2 rfl (gx (Zc 1 rfl (Zf rfl ?_)));obtain rfl:i=256:=by omega
  exact ⟨_,⟨rfl,rfl⟩,H⟩
theorem XU (pt:Nat):Cn prog 190 [Pt_ pt,.func (.func 169) #[Pt_ pt] #[]] [blk pt (By (.int .u32 0) (.int .i32 0) (.int .u32 0) 0) 183] (fun v Γ=>v= .tuple #[]∧Γ=[blk pt (By (.int .u32 1) (.int .i32 0) (.int .u32 0) 256) 183]):=by
 intro z R w H';have H:=H'.l1;refine Qr func190 rfl 21 ntmps190 rfl (AO (AC (KC 3 [1] rfl (by kernel_rfl) (EZ rfl rfl rfl rfl rfl (fun w=>call197 _ w) (XS _ _ _ _) H rfl ?_))));rintro _ w _ ⟨rfl,rfl⟩ H';have H:=H'.l1;refine AH (AO (AC (KC 3 [1] rfl (by kernel_rfl) (J6 rfl rfl rfl rfl (AH (AO (AC (KC 3 [0] rfl (by kernel_rfl) (EZ rfl rfl rfl rfl rfl (fun w=>call189 _ w) (MG _ _ _ _) H rfl ?_)))))))));rintro _ w _ ⟨rfl,rfl⟩ H';have H:=H'.l1;refine BP 1 rfl rfl (AH (PL rfl (AO (AC (KC 3 [0] rfl (by kernel_rfl) (J6 rfl rfl rfl rfl (AH (AC (BP 1 rfl rfl (U8 (bs:=[Pt_ pt]) (vs:=[]) rfl rfl rfl rfl rfl rfl (fun w=>call169 _ w) (XT pt (.int .u32 0) (.int .i32 1) (.int .u32 0)) H 1 [0] rfl rfl ?_))))))))));rintro _ w _ ⟨rfl,rfl⟩ H';have H:=H'.l1;refine AH ?_;intro a hF;unfold HY;rw[hF.defers];refine FT (fun w=>call199 _ w) (SK pt 256 (.int .i32 1) (.int .u32 0)) H 1 [0] rfl rfl ?_;rintro _ w _ ⟨rfl,rfl⟩ H';clear H;have H:Sep z (blk pt (By (.int .u32 1) (.int .i32 1) (.int .u32 0) 256) 183::R) w:=H'
 refine FT (fun w=>call198 _ w) (SI pt 256 (.int .u32 1) (.int .u32 0)) H 1 [0] rfl rfl ?_;rintro _ w _ ⟨rfl,rfl⟩ H';exact Y6 rfl ⟨_,⟨rfl,rfl⟩,H'⟩
theorem Zd (pt:Nat):Cn prog 168 [Pt_ pt,.func (.func 169) #[Pt_ pt] #[]] [blk pt (By (.int .u32 0) (.int .i32 0) (.int .u32 0) 0) 183] (fun v Γ=>v= .tuple #[]∧Γ=[blk pt (By (.int .u32 1) (.int .i32 0) (.int .u32 0) 256) 183]):=by
 intro z R w H;replace H:=H.l1;refine Ad func168 rfl ntmps168 rfl (Z0 5 [0] rfl (z_E_ rfl (call189 _) (MG _ _ _ _) H ?_));intro w H;refine Zc 7 rfl (z_E_ rfl (call190 _) (XU _) H ?_);intro w H;refine Zc 1 rfl (Zf rfl ?_);exact ⟨_,⟨rfl,rfl⟩,H⟩
theorem Ze (pt:Nat):Cn prog 168 [Pt_ pt,.func (.func 169) #[Pt_ pt] #[]] [blk pt (By (.int .u32 1) (.int .i32 0) (.int .u32 0) 256) 183] (fun v Γ=>v= .tuple #[]∧Γ=[blk pt (By (.int .u32 1) (.int .i32 0) (.int .u32 0) 256) 183]):=by
 intro z R w H;replace H:=H.l1;refine Ad func168 rfl ntmps168 rfl (Z0 5 [0] rfl (z_E_ rfl (call189 _) (SJ _ _ _ _) H ?_));intro w H;refine Zc 5 rfl (Zf rfl ?_);exact ⟨_,⟨rfl,rfl⟩,H⟩
theorem ZO (pt:Nat):Cn prog 168 [Pt_ pt,.func (.func 169) #[Pt_ pt] #[]] [tblA pt] (fun v Γ=>v= .tuple #[]∧Γ=[blk pt (By (.int .u32 1) (.int .i32 0) (.int .u32 0) 256) 183]):=Cn.or (Zd pt) (Ze pt)
theorem MH:Cn prog 52 [] [] (fun v Γ=>(∃ pt,v=Pt_ pt∧Γ=[tblA pt])):=by
 intro z R w H;replace H:=H.l0;refine Ad func52 rfl ntmps52 rfl (Zc 7 rfl (Ac rfl (AF rfl rfl (out:=(By (.int .u32 0) (.int .i32 0) (.int .u32 0) 0)) (by kernel_rfl)) (AL rfl (Ge H rfl rfl (cs:=(By (.int .u32 0) (.int .i32 0) (.int .u32 0) 0)) rfl) ?_)));rintro _ w ⟨b1,rfl,H⟩;replace H:=H.l1;refine Zc 4 rfl (Zr rfl ?_);have H:=H.mono 0 (B:=tblA b1) rfl (fun h q=> .inl q);exact ⟨_,⟨b1,rfl,rfl⟩,H⟩
theorem QO (pt:Nat) (sum:UInt32) (v:Value) (bs:List UInt8) (A:Ae) (hA:∀ h,A h→rdH 1 v bs.length (bs.map u8) h):Cn prog 133 [Pt_ pt,u32 sum,v] [tblA pt,A] (fun v Γ=>v=u32 (D4 sum bs)∧Γ=[tblA pt,A]):=by
 intro z R w H;replace H:=H.l2;obtain ⟨ao,c,rfl⟩:=H.says 1 rfl (fun h q=>(hA h q).slc);have hbm:=H.says 1 rfl (fun h q=>(hA h q).small)
 refine Ad func133 rfl ntmps133 rfl (Z0 11 [0] rfl (Ac rfl (FD rfl rfl rfl) (z_E_ rfl (call168 _) (ZO _) H ?_)));intro w H;refine Zc 5 rfl (Ac rfl (NT rfl rfl) (Zc 12 rfl ?_));refine AJ (σ:=Nat) (fun k=>[(20,Iv_ (k:Int)),(7,u32 ((bs.take k).foldl GE (4294967295 ^^^ sum))),(0,Pt_ pt),(6,u32 0),(18,.slice ao bs.length c),(19,Iv_ (bs.length:Int))])
   (fun k w=>Sep z (blk pt (By (.int .u32 1) (.int .i32 0) (.int .u32 0) 256) 183::A::R) w∧(k≤bs.length)) (fun k=>bs.length - k) 0
   (fun _ hF=>(hF.co rfl (by go_num) (hF.co rfl (by go_num) (hF.all rfl)))) ⟨H,by omega⟩ ?_
 clear H;rintro k w ⟨H',hI⟩;have H:=H'.l2;have hk:=hI;clear hI
 refine Z0 6 [0] rfl (Af rfl (fun h1=> ?_) (fun h1=> ?_))
 ·obtain ⟨b,hb⟩:∃ b,bs[k]? =some b:=⟨_,List.getElem?_eq_getElem (by omega)⟩;refine Zc 6 rfl ?_;have hat:=(H.rd 1 rfl hA).at (j:=k) (u:=u8 b) (by simp[hb])
  refine Ac rfl (AD rfl (z:=1) (j:=k) (r:=k) (by kernel_rfl) rfl rfl rfl (by omega) hat (by omega)) (Ac rfl (AR rfl rfl (by kernel_rfl) (AB hat)) (Zc 5 rfl (Ac rfl (Gu rfl rfl (m:=8) (n':=8) rfl (by decide)) (Zc 2 rfl (Ac rfl (Gv rfl (by kernel_rfl) rfl) (Zc 1 rfl (Ac rfl (Xg rfl rfl rfl) (Z0 2 [3] rfl (Ac rfl (IC (l:=256) rfl (z:=1) (j:=((((bs.take k).foldl GE (4294967295 ^^^ sum)).toUInt8) ^^^ b).toNat) (r:=3+(((bs.take k).foldl GE (4294967295 ^^^ sum)).toUInt8 ^^^ b).toNat) (by kernel_rfl) rfl rfl rfl (UInt8.toNat_lt _) (by omega)) (Ac rfl (AZ rfl rfl (by kernel_rfl) (AB (H.cel 0 rfl _ (QE _ _ _ _)))) (Ac rfl (NS rfl rfl rfl) (Z1 8 [] [(k:Int)+1] rfl (by omega) (gf ?_)))))))))))));intro _ hF;refine ⟨(k+1),(hF.co rfl (by go_num) (hF.co rfl (congrArg u32 (by rw[List.take_add_one,hb];simp[GE])) (hF.all rfl))),⟨H,?_⟩,?_⟩
  ·omega
  ·omega
 ·refine Zc 2 rfl (gx (Zc 5 rfl (Ac rfl (NT rfl rfl) (Zc 4 rfl (Zr rfl ?_)))));obtain rfl:k=bs.length:=by omega
  have H:=H.mono 0 (B:=tblA pt) rfl (fun h q=> .inr q);exact ⟨_,⟨congrArg u32 (by simp[D4]),rfl⟩,H⟩
open Go.RowKit
theorem Vx (pt:Nat) (v:Value) (bs:List UInt8) (A:Ae) (hA:∀ h,A h→rdH 1 v bs.length (bs.map u8) h):Cn prog 133 [Pt_ pt,.int .u32 0,v] [tblA pt,A] (fun v Γ=>v=u32 (AQ bs)∧Γ=[tblA pt,A]):=by
 have h:=QO pt 0 v bs A hA
 rw[show u32 0=Value.int .u32 0 from rfl] at h
 exact h
theorem UA (pt:Nat) (v:Value) (n:Nat) (bs:List UInt8) (hn:bs.length=n) (A:Ae) (hA:∀ h,A h→rdH 1 v n (bs.map u8) h):Cn prog 178 [Pt_ pt,v] [tblA pt,A] (fun v Γ=>v=u32 (AQ bs)∧Γ=[tblA pt,A]):=by
 intro z R w H;replace H:=H.l2;subst hn;refine Ad func178 rfl ntmps178 rfl (Zc 9 rfl (z_E_ rfl (call133 _) (Vx _ _ bs _ hA) H ?_));intro w H;refine Zc 4 rfl (Zr rfl ?_);exact ⟨_,⟨rfl,rfl⟩,H⟩
theorem MI (pt:Nat) (v:Value) (n:Nat) (bs:List UInt8) (hn:bs.length=n) (A:Ae) (hA:∀ h,A h→rdH 1 v n (bs.map u8) h):Cn prog 157 [Pt_ pt,v] [tblA pt,A] (fun v Γ=>v= .agg #[u8 ((AQ bs).toUInt8),u8 (((AQ bs)>>>8).toUInt8),u8 (((AQ bs)>>>16).toUInt8),u8 (((AQ bs)>>>24).toUInt8)]∧Γ=[tblA pt,A]):=by
 intro z R w H;replace H:=H.l2;refine Ad func157 rfl ntmps157 rfl (Zc 2 rfl (AL rfl (BO (P:=prog) H rfl (zs:=[u8 0,u8 0,u8 0,u8 0]) (by kernel_rfl)) ?_));rintro _ w ⟨b1,rfl,H⟩;replace H:=H.l3;refine Zc 6 rfl (z_E_ rfl (call178 _) (UA _ _ _ bs (by omega) _ hA) H.f2.f2 ?_);intro w H;refine Zc 6 rfl (Ac rfl (Gv rfl (by kernel_rfl) rfl) (Zc 1 rfl (Ac rfl (Gu rfl rfl (m:=8) (n':=8) rfl (by decide)) (Ac rfl (Gv rfl (by kernel_rfl) rfl) (Zc 1 rfl (Ac rfl (Gu rfl rfl (m:=16) (n':=16) rfl (by decide)) (Ac rfl (Gv rfl (by kernel_rfl) rfl) (Zc 1 rfl (Ac rfl (Gu rfl rfl (m:=24) (n':=24) rfl (by decide)) (Ac rfl (Gv rfl (by kernel_rfl) rfl) (Ac rfl (AF rfl rfl (out:=[u8 ((AQ bs).toUInt8),u8 (((AQ bs)>>>8).toUInt8),u8 (((AQ bs)>>>16).toUInt8),u8 (((AQ bs)>>>24).toUInt8)]) (by kernel_rfl)) (Z4 4 [2] H rfl ?_))))))))))));intro w H;refine Zl [2,4] H rfl ?_;exact ⟨_,⟨rfl,rfl⟩,H.perm 3 [0,1] rfl rfl⟩
theorem CW (pw a k:Nat) (x:Int) (bs:List UInt8) (hb:bs.length=256) (hk:a+k≤256∧k≤8):Cn prog 92 [Pt_ pw,Iv_ x,Iv_ (k:Int)] [blk pw (AX bs (a:Int)) 165] (fun v Γ=>v= .tuple #[]∧Γ=[blk pw (AX (Bp bs (Ah k x) a) ((a+k:Nat):Int)) 165]):=by
 intro z R w H;replace H:=H.l1;refine Ad func92 rfl ntmps92 rfl (Zc 8 rfl ?_);refine AJ (σ:=Nat) (fun i=>[(8,Iv_ (i:Int)),(0,Pt_ pw),(1,Iv_ x),(2,Iv_ (k:Int)),(7,Iv_ (k:Int))])
   (fun i w=>Sep z (blk pw (AX (Fx bs (Ah k x) a i) (a:Int)) 165::R) w∧(i≤k)) (fun i=>k - i) 0
   (fun _ hF=>(hF.co rfl (by go_num) (hF.all rfl))) ⟨(by rw[Sm];exact H),by omega⟩ ?_
 clear H;rintro i w ⟨H',hI⟩;have H:=H'.l1;have hik:=hI;clear hI
 have hwl:(Fx bs (Ah k x) a i).length=256:=by rw[Vl (by omega) (by rw[Ai];omega)];exact hb
 refine Z0 6 [0] rfl (Af rfl (fun h1=> ?_) (fun h1=> ?_))
 ·have hi:i<k:=by omega
  refine Zc 10 rfl (BI 18 (by kernel_rfl) (by kernel_rfl) (Bc H fun w H'=> ?_))
  have H:=H'.l1;refine NV 4 [256] rfl (by kernel_rfl) (Cd rfl rfl rfl (AZ rfl rfl (by kernel_rfl) (AB (H.cel 0 rfl 256 (Mr _ hwl)))) (Eg 8 [] [((a+i:Nat):Int),(k:Int) - 1,((k - 1 - i:Nat):Int),((8 * (k - 1 - i):Nat):Int)] H rfl (by kernel_rfl) (by omega) (Cd rfl rfl rfl (Xj rfl rfl rfl (m:=8 * (k - 1 - i)) rfl (by omega)) (Cd rfl rfl rfl (OY rfl (by kernel_rfl) rfl) (Eg 3 [0,256,1,(a+i),a+i] [] H rfl (by kernel_rfl) (by omega) (Cy (gw (Az rfl rfl (Ag 0 H rfl rfl rfl rfl (vs:=[u8 (FO (x / 2 ^ (8 * (k - 1 - i))))]) rfl (by simp[u8,u32,Value.oneCell']) (by kernel_rfl) (by rw[EF _ hwl];simp;omega) (out:=(AX (Fx bs (Ah k x) a (i+1)) (a:Int))) (Sp _ (by rw[Ai];omega) (beN_get x hi))) ?_))))))));rintro w H;replace H:=H.l1;refine Z1 7 [] [(i:Int)+1] rfl (by omega) (gf ?_);intro _ hF;refine ⟨(i+1),(hF.co rfl (by go_num) (hF.all rfl)),⟨H,?_⟩,?_⟩
  ·omega
  ·omega
 ·obtain rfl:i=k:=by omega
  rw[Vm bs (Ah i x) a (by rw[Ai])] at H;have hwl2:(Bp bs (Ah i x) a).length=256:=by rw[Ds (by rw[Ai];omega)];exact hb
  refine Zc 2 rfl (gx (Z0 6 [256] rfl (Ac rfl (AZ rfl rfl (by kernel_rfl) (AB (H.cel 0 rfl 256 (Mr _ hwl2)))) (Z1 4 [256] [((a+i:Nat):Int)] rfl (by omega) (Az rfl rfl (Ag 0 H rfl rfl rfl rfl (vs:=[Iv_ ((a+i:Nat):Int)]) rfl (by simp[u8,u32,Value.oneCell']) (by kernel_rfl) (by rw[EF _ hwl2];simp) (out:=(AX (Bp bs (Ah i x) a) ((a+i:Nat):Int))) (Ib _ _ hwl2)) ?_)))));rintro w H;replace H:=H.l1;refine Zc 1 rfl (Zf rfl ?_);exact ⟨_,⟨rfl,rfl⟩,H⟩
open Go.RowKit
theorem HI (pw a:Nat) (s bs:List UInt8) (hb:bs.length=256) (hk:a+s.length≤256∧a<256):Cn prog 135 [Pt_ pw,Ci s] [blk pw (AX bs (a:Int)) 165] (fun v Γ=>v= .tuple #[]∧Γ=[blk pw (AX (Bp bs s a) ((a+s.length:Nat):Int)) 165]):=by
 intro z R w H;replace H:=H.l1;refine Ad func135 rfl ntmps135 rfl (DJ (Sep z (wrH pw (a:Int)::R)) 18 rfl (by kernel_rfl) (Bc H fun w H'=> ?_))
 have H:=H'.l1;refine DE [0,1,2] [256] (by kernel_rfl) (fun _ _=>AW) (by exact (H.mono 0 (B:=wrH pw (a:Int)) rfl (fun h q=>⟨_,hb,q⟩))) rfl (by kernel_rfl) rfl rfl (Dv 3 (by kernel_rfl) rfl rfl (by kernel_rfl) (by kernel_rfl) (by kernel_rfl) rfl rfl rfl (AZ rfl rfl (by kernel_rfl) (fun _ hx=>hx.cell 0 rfl (fun h q=>wrH.at q))) (H.mono 0 (B:=wrH pw (a:Int)) rfl (fun h q=>⟨_,hb,q⟩)) (DE [4,5,6,7,8,9] [0,256] (by kernel_rfl) (fun _ _=>AW) (by exact (H.mono 0 (B:=wrH pw (a:Int)) rfl (fun h q=>⟨_,hb,q⟩))) rfl (by kernel_rfl) rfl rfl (Dv 10 (by kernel_rfl) rfl rfl (by kernel_rfl) (by kernel_rfl) (by kernel_rfl) rfl rfl rfl (AZ rfl rfl (by kernel_rfl) (fun _ hx=>hx.cell 0 rfl (fun h q=>wrH.at q))) (H.mono 0 (B:=wrH pw (a:Int)) rfl (fun h q=>⟨_,hb,q⟩)) (Dv 11 (by kernel_rfl) rfl rfl (by kernel_rfl) (by kernel_rfl) (by kernel_rfl) rfl rfl rfl (FP rfl (n':=256) (z:=1) (p:=a) (q:=256) (o':=a) (l':=256 - a) (c':=256 - a) (by kernel_rfl) rfl (.inr ⟨_,_,_,rfl,rfl,rfl⟩) (.inl ⟨rfl,rfl⟩) (by omega) (by omega) (by omega) (by omega) (by omega) (by omega)) (H.mono 0 (B:=wrH pw (a:Int)) rfl (fun h q=>⟨_,hb,q⟩)) (DE [12] [] (by kernel_rfl) (fun _ _=>AW) (by exact (H.mono 0 (B:=wrH pw (a:Int)) rfl (fun h q=>⟨_,hb,q⟩))) rfl (by kernel_rfl) rfl rfl (Cz [13] (by kernel_rfl) (by simp) (Au (Ce rfl rfl rfl rfl (Fi 0 H rfl rfl (by kernel_rfl) rfl rfl (m:=s.length) (news:=(s.map u8)) (.inr ⟨s,rfl,rfl,rfl⟩) (by simp[u8,Value.oneCell']) (by rw[EF _ hb];omega) (k:=s.length) (by omega) (out:=(AX (Bp bs s a) (a:Int))) (Ms _ (by omega) rfl)) ?_))))))))
 rintro _ w ⟨rfl,H⟩;replace H:=H.l1;refine Bn (fun _=>(H.mono 0 (B:=wrH pw (a:Int)) rfl (fun h q=>⟨_,((Ds (by omega)).trans hb),q⟩))) (Dv 14 (by kernel_rfl) rfl rfl (by kernel_rfl) (by kernel_rfl) (by kernel_rfl) rfl rfl rfl (DB rfl rfl rfl (r:=((a+s.length:Nat):Int)) (by omega) (by omega)) (H.mono 0 (B:=wrH pw (a:Int)) rfl (fun h q=>⟨_,((Ds (by omega)).trans hb),q⟩)) (DE [15,16] [256] (by kernel_rfl) (fun _ _=>AW) (by exact (H.mono 0 (B:=wrH pw (a:Int)) rfl (fun h q=>⟨_,((Ds (by omega)).trans hb),q⟩))) rfl (by kernel_rfl) rfl rfl (Cz [17] (by kernel_rfl) (by simp) (Au (A8 rfl rfl rfl (Ag 0 H rfl rfl rfl rfl (vs:=[Iv_ ((a+s.length:Nat):Int)]) rfl (by simp[u8,u32,Value.oneCell']) (by kernel_rfl) (by rw[EF _ ((Ds (by omega)).trans hb)];simp) (out:=(AX (Bp bs s a) ((a+s.length:Nat):Int))) (Ib _ _ ((Ds (by omega)).trans hb))) ?_)))));rintro w H;replace H:=H.l1;refine Bn (fun h=>absurd rfl h) (DK (by kernel_rfl) (gn (Zf rfl ?_)));exact ⟨_,⟨rfl,rfl⟩,H⟩
theorem Hc (pw pt:Nat) (a:Int) (bs:List UInt8) (hb:bs.length=256):Cn prog 136 [Pt_ pw,Pt_ pt] [blk pw (AX bs (a:Int)) 165,tblA pt] (fun v Γ=>v= .slice (some ⟨pw,0,none⟩) 256 256∧Γ=[blk pw (AX (Mt bs) (a:Int)) 165,tblA pt]):=by
 intro z R w H;replace H:=H.l2;refine Ad func136 rfl ntmps136 rfl (Z0 11 [0] rfl (Ac rfl (FP rfl (n':=256) (z:=1) (p:=0) (q:=252) (o':=0) (l':=252) (c':=256) (by kernel_rfl) rfl (.inl ⟨rfl,rfl⟩) (.inr ⟨_,_,_,rfl,rfl,rfl⟩) (by omega) (by omega) (by omega) (by omega) (by omega) (by omega)) (z_E_ rfl (call157 _) (MI _ _ _ (bs.take 252) (by simp[hb]) _ (fun h q=>HD q hb (by omega) (by omega) (by omega) (by simp))) H.f1 ?_)));intro w H;replace H:=H.l2;refine AL rfl (BO (P:=prog) H rfl (zs:=[u8 0,u8 0,u8 0,u8 0]) (by kernel_rfl)) ?_;rintro _ w ⟨b1,rfl,H⟩;replace H:=H.l3;refine Z4 4 [0] H rfl ?_;intro w H;refine BI 5 (by kernel_rfl) (by kernel_rfl) (Bc H fun w H'=> ?_)
 have H:=H'.l3;refine NV 3 [0] rfl (by kernel_rfl) (Cd rfl rfl rfl (FP rfl (n':=256) (z:=1) (p:=252) (q:=256) (o':=252) (l':=4) (c':=4) (by kernel_rfl) rfl (.inr ⟨_,_,_,rfl,rfl,rfl⟩) (.inl ⟨rfl,rfl⟩) (by omega) (by omega) (by omega) (by omega) (by omega) (by omega)) (Cd rfl rfl rfl (FP rfl (n':=4) (z:=1) (p:=0) (q:=4) (o':=0) (l':=4) (c':=4) (by kernel_rfl) rfl (.inl ⟨rfl,rfl⟩) (.inl ⟨rfl,rfl⟩) (by omega) (by omega) (by omega) (by omega) (by omega) (by omega)) (Cy (gw (AL rfl (Fi 2 H rfl rfl (by kernel_rfl) rfl rfl (m:=4) (news:=((G7 (AQ (bs.take 252))).map u8)) (.inl (H.rd 0 rfl (fun h q=>q.rd (by omega) (by omega) (by simp) rfl))) (by simp[G7,u8,Value.oneCell']) (by rw[EF _ hb];omega) (k:=4) (by omega) (out:=(AX (Mt bs) (a:Int))) (Ms _ (by simp[G7,hb]) rfl)) ?_)))));rintro _ w ⟨rfl,H⟩;replace H:=H.l3;refine Z0 7 [0] rfl (Ac rfl (FP rfl (n':=256) (z:=1) (p:=0) (q:=256) (o':=0) (l':=256) (c':=256) (by kernel_rfl) rfl (.inl ⟨rfl,rfl⟩) (.inl ⟨rfl,rfl⟩) (by omega) (by omega) (by omega) (by omega) (by omega) (by omega)) (Zc 4 rfl (Zr rfl ?_)));exact ⟨_,⟨rfl,rfl⟩,H.perm 3 [2,1] rfl rfl⟩
theorem C9 (k:Nat) (pr b o n c:Nat) (xs:List UInt8) (A:Ae) (hA:∀ h,A h→rdH 1 (.slice (some ⟨b,o,none⟩) n c) n (xs.map u8) h) (hn:n≤c∧k<c) (hk:k≤n) (ys:List UInt8) (hy:xs.take k=ys) (o2 n2 c2:Nat) (h1:o+k=o2) (h2:n - k=n2) (h3:c - k=c2):Cn prog 117 [Pt_ pr,Iv_ (k:Int)] [blk pr [.slice (some ⟨b,o,none⟩) n c] 210,A] (fun v Γ=>v=Iv_ (A5 ys)∧Γ=[blk pr [.slice (some ⟨b,o2,none⟩) n2 c2] 210,A]):=by
 intro z R w H;replace H:=H.l2;subst hy h1 h2 h3;have hxl:=H.says 1 rfl (fun h q=>(hA h q).len)
 have hcb:=H.says 1 rfl (fun h q=>(hA h q).cap)
 refine Ad func117 rfl ntmps117 rfl (Z2 18 [0,0,0] H rfl (Ac rfl (BD rfl (z:=1) (p:=0) (q:=k) (o':=o) (l':=k) (c':=c) (by kernel_rfl) rfl (.inl ⟨rfl,rfl⟩) (.inr ⟨_,_,_,rfl,rfl,rfl⟩) (by omega) (by omega) (by omega) (by omega) (by omega) (by omega)) (Zc 5 rfl ?_)));refine AJ (σ:=Nat) (fun j=>[(15,Iv_ (j:Int)),(5,Iv_ (A5 (xs.take j))),(0,Pt_ pr),(1,Iv_ (k:Int)),(4,Iv_ 0),(13,.slice (some ⟨b,o,none⟩) k c),(14,Iv_ (k:Int))])
   (fun j w=>Sep z (blk pr [.slice (some ⟨b,o,none⟩) n c] 210::A::R) w∧(j≤k)) (fun j=>k - j) 0
   (fun _ hF=>(hF.co rfl (by go_num) (hF.co rfl (by go_num) (hF.all rfl)))) ⟨H,by omega⟩ ?_
 clear H;rintro j w ⟨H',hI⟩;have H:=H'.l2;have hjk:=hI;clear hI
 refine Z0 6 [0] rfl (Af rfl (fun h1=> ?_) (fun h1=> ?_))
 ·obtain ⟨x,hx⟩:∃ x,xs[j]? =some x:=⟨_,List.getElem?_eq_getElem (by omega)⟩;refine Z1 7 [1,j,o+j] [] rfl (by omega) (Ac rfl (AZ rfl rfl (by kernel_rfl) (AB (H.cell 1 rfl (fun h q=>(hA h q).at hx)))) (Zc 5 rfl (Ac rfl (P5 rfl rfl rfl (m:=8) rfl (by decide)) (Zc 1 rfl (Ac rfl (OZ rfl (by kernel_rfl) rfl) (Ac rfl (Up rfl rfl rfl (Mu _) ⟨by omega,by have:=x.toNat_lt;omega⟩) (Z1 8 [] [(j:Int)+1] rfl (by omega) (gf ?_))))))));intro _ hF;refine ⟨(j+1),(hF.co rfl (by go_num) (hF.co rfl (congrArg Iv_ (KH hx)) (hF.all rfl))),⟨H,?_⟩,?_⟩
  ·omega
  ·omega
 ·obtain rfl:j=k:=by omega
  refine Zc 2 rfl (gx (Z2 10 [0,0,0] H rfl (Ac rfl (BD rfl (z:=1) (p:=j) (q:=n) (o':=o+j) (l':=n - j) (c':=c - j) (by kernel_rfl) rfl (.inr ⟨_,_,_,rfl,rfl,rfl⟩) (.inl ⟨rfl,rfl⟩) (by omega) (by omega) (by omega) (by omega) (by omega) (by omega)) (Z4 12 [0,0] H rfl ?_))));intro w H;refine Zr rfl ?_;exact ⟨_,⟨rfl,rfl⟩,H⟩
open Go.RowKit
theorem Vy (b o n c:Nat) (xs:List UInt8) (A:Ae) (hA:∀ h,A h→rdH 1 (.slice (some ⟨b,o,none⟩) n c) n (xs.map u8) h) (hn:n≤c):Cn prog 183 [.slice (some ⟨b,o,none⟩) n c,u8 0] [A] (fun v Γ=>v= .slice (some ⟨b,o,none⟩) (rz xs) c∧Γ=[A]):=by
 intro z R w H;replace H:=H.l1;have hxl:=H.says 0 rfl (fun h q=>(hA h q).len)
 have hcb:=H.says 0 rfl (fun h q=>(hA h q).cap)
 refine Ad func183 rfl ntmps183 rfl (Zc 7 rfl ?_);refine AJ (σ:=Nat) (fun m=>[(0,.slice (some ⟨b,o,none⟩) m c),(1,u8 0),(4,.slice none 0 0)])
   (fun m w=>Sep z (A::R) w∧(m≤n∧∀ (j:Nat) (y:UInt8),m≤j→xs[j]? =some y→y=0)) (fun m=>m) n
   (fun _ hF=>(hF.all rfl)) ⟨H,Nat.le_refl _,fun j y hj h=>by have:=(List.getElem?_eq_some_iff.1 h).1;omega⟩ ?_
 clear H;rintro m w ⟨H',hI⟩;have H:=H'.l1;obtain ⟨hm,hz⟩:=hI;refine Z0 7 [0] rfl (Ak 8 rfl (fun h1=> ?_) (fun h1=> ?_))
 ·obtain ⟨x,hx⟩:∃ x,xs[m - 1]? =some x:=⟨_,List.getElem?_eq_getElem (by omega)⟩;refine Z1 5 [1,(m - 1),o+(m - 1)] [((m - 1:Nat):Int)] rfl (by omega) (Ac rfl (AZ rfl rfl (by kernel_rfl) (AB (H.cell 0 rfl (fun h q=>(hA h q).at hx)))) (Zc 1 rfl (Ac rfl (PZ (q:=0) (k:= .u8) rfl (by kernel_rfl) rfl rfl) (Zc 3 rfl (Af rfl (fun h2=> ?_) (fun h2=> ?_))))))
  ·refine Z1 8 [] [((m - 1:Nat):Int)] rfl (by omega) (Ac rfl (BD rfl (z:=1) (p:=0) (q:=(m - 1)) (o':=o) (l':=(m - 1)) (c':=c) (by kernel_rfl) rfl (.inl ⟨rfl,rfl⟩) (.inr ⟨_,_,_,rfl,rfl,rfl⟩) (by omega) (by omega) (by omega) (by omega) (by omega) (by omega)) (Zc 3 rfl (gf ?_)));intro _ hF;refine ⟨(m - 1),(hF.all rfl),⟨H,?_⟩,?_⟩
   ·refine ⟨by omega,fun j y hj h=> ?_⟩;rcases Nat.lt_or_ge j m with q|q
    ·obtain rfl:j=m - 1:=by omega
     rw[hx] at h;cases h;exact h2
    ·exact hz j y q h
   ·omega
  ·refine Zc 2 rfl (gx (Zc 9 rfl (Zr rfl ?_)));obtain rfl:m=rz xs:=rz_is (by omega) hz (by first|exact .inl (by omega)|exact .inr ⟨x,hx,h2⟩);exact ⟨_,⟨rfl,rfl⟩,H⟩
 ·refine Zc 14 rfl (gx (Zc 9 rfl (Zr rfl ?_)));obtain rfl:m=rz xs:=rz_is (by omega) hz (by first|exact .inl (by omega)|exact .inr ⟨x,hx,h2⟩);exact ⟨_,⟨rfl,rfl⟩,H⟩
theorem Vz (b o n c:Nat) (xs:List UInt8) (A:Ae) (hA:∀ h,A h→rdH 1 (.slice (some ⟨b,o,none⟩) n c) n (xs.map u8) h) (hn:n<c):Cn prog 182 [.slice (some ⟨b,o,none⟩) n c,u8 0] [A] (fun v Γ=>v=(if lz xs=n then .slice none 0 0 else .slice (some ⟨b,o+lz xs,none⟩) (n - lz xs) (c - lz xs))∧Γ=[A]):=by
 intro z R w H;replace H:=H.l1;have hxl:=H.says 0 rfl (fun h q=>(hA h q).len)
 have hcb:=H.says 0 rfl (fun h q=>(hA h q).cap)
 refine Ad func182 rfl ntmps182 rfl (Zc 7 rfl ?_);refine AJ (σ:=Nat) (fun p=>[(0,.slice (some ⟨b,(o+p),none⟩) (n - p) (c - p)),(1,u8 0),(4,.slice none 0 0)])
   (fun p w=>Sep z (A::R) w∧(p≤n∧∀ (j:Nat) (y:UInt8),j<p→xs[j]? =some y→y=0)) (fun p=>n - p) 0
   (fun _ hF=>(hF.co rfl (by go_num) (hF.all rfl))) ⟨H,by omega,fun j y hj h=>by omega⟩ ?_
 clear H;rintro p w ⟨H',hI⟩;have H:=H'.l1;obtain ⟨hp,hz⟩:=hI;refine Z0 7 [0] rfl (Ak 8 rfl (fun h1=> ?_) (fun h1=> ?_))
 ·obtain ⟨x,hx⟩:∃ x,xs[p]? =some x:=⟨_,List.getElem?_eq_getElem (by omega)⟩;refine Z1 2 [1,0,o+p] [] rfl (by omega) (Ac rfl (AZ rfl rfl (by kernel_rfl) (AB (H.cell 0 rfl (fun h q=>(hA h q).at hx)))) (Zc 1 rfl (Ac rfl (PZ (q:=0) (k:= .u8) rfl (by kernel_rfl) rfl rfl) (Zc 3 rfl (Af rfl (fun h2=> ?_) (fun h2=> ?_))))))
  ·refine Zc 5 rfl (Ac rfl (BD rfl (z:=1) (p:=1) (q:=(n - p)) (o':=o+(p+1)) (l':=(n - (p+1))) (c':=(c - (p+1))) (by kernel_rfl) rfl (.inr ⟨_,_,_,rfl,rfl,rfl⟩) (.inl ⟨rfl,rfl⟩) (by omega) (by omega) (by omega) (by omega) (by omega) (by omega)) (Zc 3 rfl (gf ?_)));intro _ hF;refine ⟨(p+1),(hF.all rfl),⟨H,?_⟩,?_⟩
   ·refine ⟨by omega,fun j y hj h=> ?_⟩;rcases Nat.lt_or_ge j p with q|q
    ·exact hz j y q h
    ·obtain rfl:j=p:=by omega
     rw[hx] at h;cases h;exact h2
   ·omega
  ·refine Zc 2 rfl (gx (Z0 10 [0] rfl (Af rfl (fun h3=> ?_) (fun h3=> ?_))))
   ·refine Zc 6 rfl (Zr rfl ?_);obtain rfl:p=lz xs:=Jp (by omega) hz (by first|exact .inl (by omega)|exact .inr ⟨x,hx,h2⟩);exact ⟨_,⟨by first|(exfalso;omega)|rw[if_pos (by omega)]|rw[if_neg (by omega)],rfl⟩,H⟩
   ·refine Zc 9 rfl (Zr rfl ?_);obtain rfl:p=lz xs:=Jp (by omega) hz (by first|exact .inl (by omega)|exact .inr ⟨x,hx,h2⟩);exact ⟨_,⟨by first|(exfalso;omega)|rw[if_pos (by omega)]|rw[if_neg (by omega)],rfl⟩,H⟩
 ·refine Zc 11 rfl (gx (Z0 10 [0] rfl (Af rfl (fun h4=> ?_) (fun h4=> ?_))))
  ·refine Zc 6 rfl (Zr rfl ?_);obtain rfl:p=lz xs:=Jp (by omega) hz (by first|exact .inl (by omega)|exact .inr ⟨x,hx,h2⟩);exact ⟨_,⟨by first|(exfalso;omega)|rw[if_pos (by omega)]|rw[if_neg (by omega)],rfl⟩,H⟩
  ·refine Zc 9 rfl (Zr rfl ?_);obtain rfl:p=lz xs:=Jp (by omega) hz (by first|exact .inl (by omega)|exact .inr ⟨x,hx,h2⟩);exact ⟨_,⟨by first|(exfalso;omega)|rw[if_pos (by omega)]|rw[if_neg (by omega)],rfl⟩,H⟩
theorem XV (b o n c:Nat) (xs:List UInt8) (A:Ae) (hA:∀ h,A h→rdH 1 (.slice (some ⟨b,o,none⟩) n c) n (xs.map u8) h) (hn:n<c∨(n≤c∧rz xs=0∧0<c)):Cn prog 167 [.slice (some ⟨b,o,none⟩) n c,Ci [0]] [A] (fun v Γ=>(rz xs=0∧v= .slice none 0 0∧Γ=[A])∨(rz xs≠0∧∃ o1 k1 c1,0<k1∧v= .slice (some ⟨b,o1,none⟩) k1 c1∧Γ=[A])):=by
 intro z R w H;replace H:=H.l1;have hxl:=H.says 0 rfl (fun h q=>(hA h q).len)
 have hcb:=H.says 0 rfl (fun h q=>(hA h q).cap)
 have hrz:=Pe xs
 refine Ad func167 rfl ntmps167 rfl (Z0 13 [0] rfl (Af rfl (fun h1=> ?_) (fun h1=> ?_)))
 ·refine Zc 6 rfl (Zr rfl ?_);exact ⟨_,.inl ⟨by omega,rfl,rfl⟩,H⟩
 ·refine Zc 6 rfl (Ac rfl (P2 (l:=[0]) (m:=[]) rfl (by kernel_rfl) rfl rfl) (Al 11 (v:= .bool false) rfl (congrArg Value.bool (by decide)) (Zc 9 rfl (Ac rfl (RT (l:=[0]) rfl (by kernel_rfl) rfl) (Z0 3 [3] rfl (Ac rfl (IF (l:=[0]) (j:=0) (b:=0) rfl (by kernel_rfl) rfl rfl rfl rfl) (Z0 1 [0] rfl (Al 19 (v:= .bool true) rfl (congrArg Value.bool (by decide)) (Zc 5 rfl (AG (Sep z _) (by kernel_rfl) (by kernel_rfl) H.drew (Br 2 [] rfl (by kernel_rfl) (A6 rfl rfl rfl (IF (l:=[0]) (j:=0) (b:=0) rfl (by kernel_rfl) rfl rfl rfl rfl) (CJ rfl rfl rfl rfl rfl (fun w=>call183 _ w) (v:= .slice (some ⟨b,o,none⟩) (rz xs) c) (cq (Vy _ _ _ _ xs _ hA (by omega)) (by rintro _ _ ⟨rfl,rfl⟩;exact ⟨rfl,rfl⟩) 1 [0] [0] rfl rfl rfl rfl) ?_)))))))))))));refine Br 1 [] rfl (by kernel_rfl) (A6 rfl rfl rfl (IF (l:=[0]) (j:=0) (b:=0) rfl (by kernel_rfl) rfl rfl rfl rfl) (CJ rfl rfl rfl rfl rfl (fun w=>call182 _ w) (v:=if lz ((xs.drop 0).take (rz xs))=(rz xs) then .slice none 0 0 else .slice (some ⟨b,o+lz ((xs.drop 0).take (rz xs)),none⟩) ((rz xs) - lz ((xs.drop 0).take (rz xs))) (c - lz ((xs.drop 0).take (rz xs)))) (cq (Vz _ _ _ _ ((xs.drop 0).take (rz xs)) _ (fun h q=>(hA h q).cut (lo:=0) (m:=rz xs) (c':=c) (by omega) (by omega) (by omega)) (by omega)) (by rintro _ _ ⟨rfl,rfl⟩;exact ⟨rfl,rfl⟩) 1 [0] [0] rfl rfl rfl rfl) (Br 1 [] rfl (by kernel_rfl) (AU (fun w H'=> ?_)))));have H:=H'.l1;refine gn (Zc 2 rfl (Zr rfl ?_))
  by_cases hz:rz xs=0
  ·exact ⟨[A],.inl ⟨hz,by rw[if_pos];simp[hz,lz],rfl⟩,H⟩
  ·have:=Y9 hz
   exact ⟨_,.inr ⟨hz,_,rz xs - lz ((xs.drop 0).take (rz xs)),_,by simp;omega,by rw[if_neg (by simp;omega)],rfl⟩,H⟩
theorem MJ (pr b o n c:Nat) (xs:List UInt8) (A:Ae) (hA:∀ h,A h→rdH 1 (.slice (some ⟨b,o,none⟩) n c) n (xs.map u8) h) (hn:n<c∨(n≤c∧rz xs=0∧0<c)):Cn prog 130 [Pt_ pr] [blk pr [.slice (some ⟨b,o,none⟩) n c] 210,A] (fun v Γ=>v= .bool (decide (rz xs=0))∧Γ=[blk pr [.slice (some ⟨b,o,none⟩) n c] 210,A]):=by
 intro z R w H;replace H:=H.l2;refine Ad func130 rfl ntmps130 rfl (Z2 11 [0,0,0] H rfl (Aw rfl (call167 _) (XV _ _ _ _ xs _ hA hn) H.f1 ?_));rintro _ w _ (⟨hz,rfl,rfl⟩|⟨hz,o1,k1,c1,hk1,rfl,rfl⟩) H'
 ·have H:=H'.l2;refine Z0 6 [3] rfl (Zr rfl ?_);exact ⟨_,⟨congrArg Value.bool (by first|(simp[hz];done)|(rw[Bool.eq_iff_iff];simp<;>omega)),rfl⟩,H.perm 2 [1,0] rfl rfl⟩
 ·have H:=H'.l2;refine Z0 6 [0] rfl (Zr rfl ?_);exact ⟨_,⟨congrArg Value.bool (by first|(simp[hz];done)|(rw[Bool.eq_iff_iff];simp<;>omega)),rfl⟩,H.perm 2 [1,0] rfl rfl⟩
theorem Ka (pt b o c:Nat) (mag sec:List UInt8) (A:Ae) (hA:∀ h,A h→rdH 1 (.slice (some ⟨b,o,none⟩) 256 c) 256 (sec.map u8) h):Cn prog 116 [Pt_ pt,.slice (some ⟨b,o,none⟩) 256 c,Ci mag] [tblA pt,A] (fun v Γ=>(IQ mag sec∧v= .tuple #[.agg #[.slice (some ⟨b,o+4,none⟩) 248 (c - 4)],.bool true]∧Γ=[tblA pt,A])∨(¬ IQ mag sec∧v= .tuple #[.agg #[.slice none 0 0],.bool false]∧Γ=[tblA pt,A])):=by
 intro z R w H;replace H:=H.l2;have hsl:=H.says 1 rfl (fun h q=>(hA h q).len)
 have hcb:=H.says 1 rfl (fun h q=>(hA h q).cap)
 obtain ⟨c0,c1,c2,c3,hd⟩:=Mv hsl;refine Ad func116 rfl ntmps116 rfl (Za 2 [] H rfl ?_);intro b1 w H;refine Zc 5 rfl (AG (Sep z _) (by kernel_rfl) (by kernel_rfl) H.drew (Iy 9 [4] [] rfl (by kernel_rfl) (A6 rfl rfl rfl (BD rfl (z:=1) (p:=252) (q:=256) (o':=o+252) (l':=4) (c':=c - 252) (by kernel_rfl) rfl (.inr ⟨_,_,_,rfl,rfl,rfl⟩) (.inl ⟨rfl,rfl⟩) (by omega) (by omega) (by omega) (by omega) (by omega) (by omega)) (A6 rfl rfl rfl (KD (m:=4) rfl (by kernel_rfl) rfl (by omega)) (A6 rfl rfl rfl (BE rfl rfl (vs:=[u8 c0,u8 c1,u8 c2,u8 c3]) (by kernel_rfl) (fun _ hx=>hx.cell4 2 rfl hA hd)) (Br 2 [] rfl (by kernel_rfl) (A6 rfl rfl rfl (BD rfl (z:=1) (p:=0) (q:=252) (o':=o) (l':=252) (c':=c) (by kernel_rfl) rfl (.inl ⟨rfl,rfl⟩) (.inr ⟨_,_,_,rfl,rfl,rfl⟩) (by omega) (by omega) (by omega) (by omega) (by omega) (by omega)) (CJ rfl rfl rfl rfl rfl (fun w=>call157 _ w) (v:= .agg #[u8 ((AQ (sec.take 252)).toUInt8),u8 (((AQ (sec.take 252))>>>8).toUInt8),u8 (((AQ (sec.take 252))>>>16).toUInt8),u8 (((AQ (sec.take 252))>>>24).toUInt8)]) (cq (MI _ _ _ (sec.take 252) (by simp[hsl]) _ (fun h q=>(hA h q).pre (by omega) (by omega))) (by rintro _ _ ⟨rfl,rfl⟩;exact ⟨rfl,rfl⟩) 3 [1,2,0] [2,0,1] rfl rfl rfl rfl) (A6 rfl rfl rfl (NX rfl (by kernel_rfl) (by kernel_rfl) rfl rfl) (Br 2 [] rfl (by kernel_rfl) (Bj 26 rfl (fun h1=> ?_) (fun h1=> ?_))))))))))))
 ·refine Br 6 [] rfl (by kernel_rfl) (AU (fun w H'=> ?_));have H:=H'.l3;refine gn (Z4 10 [0] H rfl ?_);intro w H;refine Zl [0,1] H rfl ?_;exact ⟨_,.inr ⟨fun hs=>by first|exact absurd (hd▸hs.1) ‹_› |exact absurd hs.2 ‹_›,rfl,rfl⟩,H.perm 3 [1,2] rfl rfl⟩
 ·refine Br 1 [] rfl (by kernel_rfl) (A6 rfl rfl rfl (BD rfl (z:=1) (p:=0) (q:=4) (o':=o) (l':=4) (c':=c) (by kernel_rfl) rfl (.inl ⟨rfl,rfl⟩) (.inr ⟨_,_,_,rfl,rfl,rfl⟩) (by omega) (by omega) (by omega) (by omega) (by omega) (by omega)) (A6 rfl rfl rfl (CN (l:=sec.take 4) rfl (by kernel_rfl) (by kernel_rfl) rfl (fun _ hx=>hx.rd 2 rfl (fun h q=>by have:=(hA h q).pre (m:=4) (c':=c) (by omega) (by omega);rwa[show (sec.take 4).length=4 from by simp[hsl]]))) (Br 1 [] rfl (by kernel_rfl) (A6 rfl rfl rfl (P3 (l:=sec.take 4) (m:=mag) rfl (by kernel_rfl) rfl rfl) (Br 1 [] rfl (by kernel_rfl) (AU (fun w H'=> ?_)))))));have H:=H'.l3;refine gn (Zc 1 rfl (Af rfl (fun h2=> ?_) (fun h2=> ?_)))
  ·refine Z4 8 [0] H rfl ?_;intro w H;refine Zl [0,1] H rfl ?_;exact ⟨_,.inr ⟨fun hs=>by first|exact absurd (hd▸hs.1) ‹_› |exact absurd hs.2 ‹_›,rfl,rfl⟩,H.perm 3 [1,2] rfl rfl⟩
  ·refine Zc 5 rfl (Ac rfl (BD rfl (z:=1) (p:=4) (q:=252) (o':=o+4) (l':=248) (c':=c - 4) (by kernel_rfl) rfl (.inr ⟨_,_,_,rfl,rfl,rfl⟩) (.inr ⟨_,_,_,rfl,rfl,rfl⟩) (by omega) (by omega) (by omega) (by omega) (by omega) (by omega)) (Z4 6 [0] H rfl ?_));intro w H;refine Zl [0,1] H rfl ?_;exact ⟨_,.inl ⟨⟨by rw[hd];exact Decidable.of_not_not ‹_›,Decidable.of_not_not ‹_›⟩,rfl,rfl⟩,H.perm 3 [1,2] rfl rfl⟩
open Go.RowKit
theorem Pj (pt:Nat) (x y num kind:Int) (bv:Value) (body:List UInt8) (A:Ae) (hA:∀ h,A h→rdH 1 bv body.length (body.map u8) h):Cn prog 177 [Pt_ pt,Iv_ x,Iv_ y,.agg #[Iv_ num,Iv_ kind,bv]] [tblA pt,A] (fun v Γ=>(¬ ((0≤x∧x≤4294967295)∧(0≤y∧y≤1099511627775)∧(0≤num∧num≤1023)∧(1≤kind∧kind≤5)∧body.length=240)∧v= .tuple #[.slice none 0 0,Iv_ 1]∧Γ=[tblA pt,A])∨(((0≤x∧x≤4294967295)∧(0≤y∧y≤1099511627775)∧(0≤num∧num≤1023)∧(1≤kind∧kind≤5)∧body.length=240)∧∃ pw,v= .tuple #[.slice (some ⟨pw,0,none⟩) 256 256,Iv_ 0]∧Γ=[blk pw (AX (Bf (Ah 1 kind++Ah 2 num++Ah 4 x++Ah 5 y++body)) 252) 165,tblA pt,A])):=by
 intro z R w H;replace H:=H.l2;obtain ⟨ao,bc,rfl⟩:=H.says 1 rfl (fun h q=>(hA h q).slc);refine Ad func177 rfl ntmps177 rfl (Za 2 [] H rfl ?_);intro b1 w H;refine Zc 11 rfl (z_E_ rfl (call91 _) (Cv _ _) H ?_);intro w H;replace H:=H.l3;refine Ac rfl (Ax rfl rfl) (Zc 2 rfl (Ak 18 rfl (fun h1=> ?_) (fun h1=> ?_)))
 ·refine Zc 39 rfl (Zr rfl ?_);exact ⟨_,.inl ⟨by omega,rfl,rfl⟩,H.perm 3 [1,2] rfl rfl⟩
 ·refine Zc 1 rfl (z_E_ rfl (call91 _) (Cv _ _) H ?_);intro w H;replace H:=H.l3;refine Ac rfl (Ax rfl rfl) (Zc 2 rfl (Ak 23 rfl (fun h2=> ?_) (fun h2=> ?_)))
  ·refine Zc 34 rfl (Zr rfl ?_);exact ⟨_,.inl ⟨by omega,rfl,rfl⟩,H.perm 3 [1,2] rfl rfl⟩
  ·refine Z2 2 [0,0,0] H rfl (z_E_ rfl (call91 _) (Cv _ _) H ?_);intro w H;replace H:=H.l3;refine Ac rfl (Ax rfl rfl) (Zc 2 rfl (Ak 29 rfl (fun h3=> ?_) (fun h3=> ?_)))
   ·refine Zc 28 rfl (Zr rfl ?_);exact ⟨_,.inl ⟨by omega,rfl,rfl⟩,H.perm 3 [1,2] rfl rfl⟩
   ·refine Z2 6 [1,1,0,0,0] H rfl (Ak 35 rfl (fun h4=> ?_) (fun h4=> ?_))
    ·refine Zc 22 rfl (Zr rfl ?_);exact ⟨_,.inl ⟨by omega,rfl,rfl⟩,H.perm 3 [1,2] rfl rfl⟩
    ·refine Z2 6 [1,1,0,0,0] H rfl (Ak 41 rfl (fun h5=> ?_) (fun h5=> ?_))
     ·refine Zc 16 rfl (Zr rfl ?_);exact ⟨_,.inl ⟨by omega,rfl,rfl⟩,H.perm 3 [1,2] rfl rfl⟩
     ·refine Z2 8 [1,2,0,0,0] H rfl (Af rfl (fun h6=> ?_) (fun h6=> ?_))
      ·refine Zc 7 rfl (Zr rfl ?_);exact ⟨_,.inl ⟨by omega,rfl,rfl⟩,H.perm 3 [1,2] rfl rfl⟩
      ·have hbl:body.length=240:=by omega
       refine Zc 4 rfl (AL rfl (BO (P:=prog) H rfl (zs:=(AX (AN []) 0)) (by kernel_rfl)) ?_);rintro _ w ⟨b2,rfl,H⟩;replace H:=H.l4;refine Z2 7 [1,1,1,0] H rfl (z_E_ rfl (call92 _) (CW _ 0 1 kind _ (A7 (by first|omega|(simp[Ai]<;>omega))) (by omega)) H ?_);intro w H;replace H:=H.l4;rw[show Bp (AN []) (Ah 1 kind) 0=AN (Ah 1 kind) from BR rfl (by first|omega|(simp[Ai]<;>omega))] at H;have H:Sep z (blk b2 (AX (AN (Ah 1 kind)) 1) 165::blk b1 [Iv_ num,Iv_ kind,.slice ao body.length bc] 116::tblA pt::A::R) w:=H
       refine Z2 6 [0,1,0] H rfl (z_E_ rfl (call92 _) (CW _ 1 2 num _ (A7 (by first|omega|(simp[Ai]<;>omega))) (by omega)) H ?_);intro w H;replace H:=H.l4;rw[show Bp (AN (Ah 1 kind)) (Ah 2 num) 1=AN (Ah 1 kind++Ah 2 num) from BR (by first|omega|(simp[Ai]<;>omega)) (by first|omega|(simp[Ai]<;>omega))] at H;have H:Sep z (blk b2 (AX (AN (Ah 1 kind++Ah 2 num)) 3) 165::blk b1 [Iv_ num,Iv_ kind,.slice ao body.length bc] 116::tblA pt::A::R) w:=H
       refine Zc 5 rfl (z_E_ rfl (call92 _) (CW _ 3 4 x _ (A7 (by first|omega|(simp[Ai]<;>omega))) (by omega)) H ?_);intro w H;replace H:=H.l4;rw[show Bp (AN (Ah 1 kind++Ah 2 num)) (Ah 4 x) 3=AN (Ah 1 kind++Ah 2 num++Ah 4 x) from BR (by first|omega|(simp[Ai]<;>omega)) (by first|omega|(simp[Ai]<;>omega))] at H;have H:Sep z (blk b2 (AX (AN (Ah 1 kind++Ah 2 num++Ah 4 x)) 7) 165::blk b1 [Iv_ num,Iv_ kind,.slice ao body.length bc] 116::tblA pt::A::R) w:=H
       refine Zc 5 rfl (z_E_ rfl (call92 _) (CW _ 7 5 y _ (A7 (by first|omega|(simp[Ai]<;>omega))) (by omega)) H ?_);intro w H;replace H:=H.l4;rw[show Bp (AN (Ah 1 kind++Ah 2 num++Ah 4 x)) (Ah 5 y) 7=AN (Ah 1 kind++Ah 2 num++Ah 4 x++Ah 5 y) from BR (by first|omega|(simp[Ai]<;>omega)) (by first|omega|(simp[Ai]<;>omega))] at H;have H:Sep z (blk b2 (AX (AN (Ah 1 kind++Ah 2 num++Ah 4 x++Ah 5 y)) 12) 165::blk b1 [Iv_ num,Iv_ kind,.slice ao body.length bc] 116::tblA pt::A::R) w:=H
       refine Z2 7 [1,2,1,0] H rfl (Ac rfl (CN (l:=body) rfl (by kernel_rfl) (by kernel_rfl) rfl (AB (H.rd 3 rfl hA))) (z_E_ rfl (call135 _) (HI _ 12 body _ (A7 (by first|omega|(simp[Ai]<;>omega))) (by first|omega|(simp<;>omega))) H ?_));intro w H;replace H:=H.l4;rw[show ((12+body.length:Nat):Int)=(252:Int) from by omega] at H;rw[show Bp (AN (Ah 1 kind++Ah 2 num++Ah 4 x++Ah 5 y)) body 12=AN (Ah 1 kind++Ah 2 num++Ah 4 x++Ah 5 y++body) from BR (by first|omega|(simp[Ai]<;>omega)) (by first|omega|(simp[Ai]<;>omega))] at H;have H:Sep z (blk b2 (AX (AN (Ah 1 kind++Ah 2 num++Ah 4 x++Ah 5 y++body)) 252) 165::blk b1 [Iv_ num,Iv_ kind,.slice ao body.length bc] 116::tblA pt::A::R) w:=H
       refine Zc 5 rfl (z_E_ rfl (call136 _) (Hc _ _ _ _ (A7 (by first|omega|(simp[Ai]<;>omega)))) H.f2.f1 ?_);intro w H;refine Zc 5 rfl (Zr rfl ?_);exact ⟨_,.inr ⟨by omega,b2,rfl,rfl⟩,H.perm 4 [0,1,3] rfl rfl⟩
theorem KK (pt:Nat) (num kind:Int) (bv:Value) (body:List UInt8) (A:Ae) (hA:∀ h,A h→rdH 1 bv body.length (body.map u8) h):Cn prog 99 [Pt_ pt,.agg #[Iv_ num,Iv_ kind,bv]] [tblA pt,A] (fun v Γ=>(¬ ((0≤num∧num≤1023)∧(1≤kind∧kind≤5)∧body.length=240)∧v= .tuple #[.slice none 0 0,Iv_ 1]∧Γ=[tblA pt,A])∨(((0≤num∧num≤1023)∧(1≤kind∧kind≤5)∧body.length=240)∧∃ pw,v= .tuple #[.slice (some ⟨pw,0,none⟩) 256 256,Iv_ 0]∧Γ=[blk pw (AX (Bf ([80,80,65,71]++Ah 1 kind++Ah 4 num++[0,0,0]++body)) 252) 165,tblA pt,A])):=by
 intro z R w H;replace H:=H.l2;obtain ⟨ao,bc,rfl⟩:=H.says 1 rfl (fun h q=>(hA h q).slc);refine Ad func99 rfl ntmps99 rfl (Za 2 [] H rfl ?_);intro b1 w H;refine Z2 12 [0,0,0] H rfl (z_E_ rfl (call91 _) (Cv _ _) H ?_);intro w H;replace H:=H.l3;refine Ac rfl (Ax rfl rfl) (Zc 2 rfl (Ak 15 rfl (fun h1=> ?_) (fun h1=> ?_)))
 ·refine Zc 28 rfl (Zr rfl ?_);exact ⟨_,.inl ⟨by omega,rfl,rfl⟩,H.perm 3 [1,2] rfl rfl⟩
 ·refine Z2 6 [1,1,0,0,0] H rfl (Ak 21 rfl (fun h2=> ?_) (fun h2=> ?_))
  ·refine Zc 22 rfl (Zr rfl ?_);exact ⟨_,.inl ⟨by omega,rfl,rfl⟩,H.perm 3 [1,2] rfl rfl⟩
  ·refine Z2 6 [1,1,0,0,0] H rfl (Ak 27 rfl (fun h3=> ?_) (fun h3=> ?_))
   ·refine Zc 16 rfl (Zr rfl ?_);exact ⟨_,.inl ⟨by omega,rfl,rfl⟩,H.perm 3 [1,2] rfl rfl⟩
   ·refine Z2 8 [1,2,0,0,0] H rfl (Af rfl (fun h4=> ?_) (fun h4=> ?_))
    ·refine Zc 7 rfl (Zr rfl ?_);exact ⟨_,.inl ⟨by omega,rfl,rfl⟩,H.perm 3 [1,2] rfl rfl⟩
    ·have hbl:body.length=240:=by omega
     refine Zc 4 rfl (AL rfl (BO (P:=prog) H rfl (zs:=(AX (AN []) 0)) (by kernel_rfl)) ?_);rintro _ w ⟨b2,rfl,H⟩;replace H:=H.l4;refine Zc 4 rfl (z_E_ rfl (call135 _) (HI _ 0 [80,80,65,71] _ (A7 (by first|omega|(simp[Ai]<;>omega))) (by first|omega|(simp<;>omega))) H ?_);intro w H;replace H:=H.l4;rw[show Bp (AN []) ([80,80,65,71]) 0=AN ([80,80,65,71]) from BR rfl (by first|omega|(simp[Ai]<;>omega))] at H;have H:Sep z (blk b2 (AX (AN ([80,80,65,71])) 4) 165::blk b1 [Iv_ num,Iv_ kind,.slice ao body.length bc] 116::tblA pt::A::R) w:=H
     refine Z2 7 [1,1,1,0] H rfl (z_E_ rfl (call92 _) (CW _ 4 1 kind _ (A7 (by first|omega|(simp[Ai]<;>omega))) (by omega)) H ?_);intro w H;replace H:=H.l4;rw[show Bp (AN ([80,80,65,71])) (Ah 1 kind) 4=AN ([80,80,65,71]++Ah 1 kind) from BR (by first|omega|(simp[Ai]<;>omega)) (by first|omega|(simp[Ai]<;>omega))] at H;have H:Sep z (blk b2 (AX (AN ([80,80,65,71]++Ah 1 kind)) 5) 165::blk b1 [Iv_ num,Iv_ kind,.slice ao body.length bc] 116::tblA pt::A::R) w:=H
     refine Z2 6 [0,1,0] H rfl (z_E_ rfl (call92 _) (CW _ 5 4 num _ (A7 (by first|omega|(simp[Ai]<;>omega))) (by omega)) H ?_);intro w H;replace H:=H.l4;rw[show Bp (AN ([80,80,65,71]++Ah 1 kind)) (Ah 4 num) 5=AN ([80,80,65,71]++Ah 1 kind++Ah 4 num) from BR (by first|omega|(simp[Ai]<;>omega)) (by first|omega|(simp[Ai]<;>omega))] at H;have H:Sep z (blk b2 (AX (AN ([80,80,65,71]++Ah 1 kind++Ah 4 num)) 9) 165::blk b1 [Iv_ num,Iv_ kind,.slice ao body.length bc] 116::tblA pt::A::R) w:=H
     refine Z0 5 [256] rfl (Az rfl rfl (Ag 0 H rfl rfl rfl rfl (vs:=[Iv_ 12]) rfl (by simp[u8,u32,Value.oneCell']) (by kernel_rfl) (by rw[EF _ (A7 (by first|omega|(simp[Ai]<;>omega)))];simp) (out:=(AX (AN ([80,80,65,71]++Ah 1 kind++Ah 4 num)) 12)) (Ib _ _ (A7 (by first|omega|(simp[Ai]<;>omega))))) ?_);rintro w H;replace H:=H.l4;refine Z2 7 [1,2,1,0] H rfl (Ac rfl (CN (l:=body) rfl (by kernel_rfl) (by kernel_rfl) rfl (AB (H.rd 3 rfl hA))) (z_E_ rfl (call135 _) (HI _ 12 body _ (A7 (by first|omega|(simp[Ai]<;>omega))) (by first|omega|(simp<;>omega))) H ?_));intro w H;replace H:=H.l4;rw[show ((12+body.length:Nat):Int)=(252:Int) from by omega] at H;rw[show Bp (AN ([80,80,65,71]++Ah 1 kind++Ah 4 num)) body 12=AN ([80,80,65,71]++Ah 1 kind++Ah 4 num++[0,0,0]++body) from (Sr (by first|omega|(simp[Ai]<;>omega)) (by first|omega|(simp[Ai]<;>omega))).trans (by simp[Ai])] at H;have H:Sep z (blk b2 (AX (AN ([80,80,65,71]++Ah 1 kind++Ah 4 num++[0,0,0]++body)) 252) 165::blk b1 [Iv_ num,Iv_ kind,.slice ao body.length bc] 116::tblA pt::A::R) w:=H
     refine Zc 5 rfl (z_E_ rfl (call136 _) (Hc _ _ _ _ (A7 (by first|omega|(simp[Ai]<;>omega)))) H.f2.f1 ?_);intro w H;refine Zc 5 rfl (Zr rfl ?_);exact ⟨_,.inr ⟨by omega,b2,rfl,rfl⟩,H.perm 4 [0,1,3] rfl rfl⟩
open Go.RowKit
theorem QP (pt:Nat) (e s:Int) (u:UInt32) (pv:Value) (ns:List Int) (A:Ae) (hA:∀ h,A h→rdH 1 pv ns.length (ns.map Iv_) h):Cn prog 179 [Pt_ pt,.agg #[Iv_ e,Iv_ s,pv,u32 u]] [tblA pt,A] (fun v Γ=>(¬ ((0≤e∧e≤1099511627776)∧(0≤s∧s≤1099511627776)∧(1≤ns.length∧ns.length≤40)∧∀ x∈ns,0≤x∧x≤1023)∧v= .tuple #[.slice none 0 0,Iv_ 1]∧Γ=[tblA pt,A])∨(((0≤e∧e≤1099511627776)∧(0≤s∧s≤1099511627776)∧(1≤ns.length∧ns.length≤40)∧∀ x∈ns,0≤x∧x≤1023)∧∃ pw,v= .tuple #[.slice (some ⟨pw,0,none⟩) 256 256,Iv_ 0]∧Γ=[blk pw (AX (Bf ([80,76,79,71]++Ah 8 e++Ah 8 s++Ah 4 (u.toNat:Int)++Ah 2 (ns.length:Int)++ns.flatMap (Ah 4))) ((26+4 * ns.length:Nat):Int)) 165,tblA pt,A])):=by
 intro z R w H;replace H:=H.l2;obtain ⟨ao,pc,rfl⟩:=H.says 1 rfl (fun h q=>(hA h q).slc);have hul:=u.toNat_lt
 refine Ad func179 rfl ntmps179 rfl (Za 2 [] H rfl ?_);intro b1 w H;refine Z2 12 [0,0,0] H rfl (z_E_ rfl (call91 _) (Cv _ _) H ?_);intro w H;replace H:=H.l3;refine Ac rfl (Ax rfl rfl) (Zc 2 rfl (Ak 17 rfl (fun h1=> ?_) (fun h1=> ?_)))
 ·refine Zc 27 rfl (Zr rfl ?_);exact ⟨_,.inl ⟨by rintro ⟨q1,q2,q3,q4⟩;first|omega|exact absurd (q4 x (List.mem_of_getElem? hx)) ‹_›,rfl,rfl⟩,H.perm 3 [1,2] rfl rfl⟩
 ·refine Z2 2 [1,0,0] H rfl (z_E_ rfl (call91 _) (Cv _ _) H ?_);intro w H;replace H:=H.l3;refine Ac rfl (Ax rfl rfl) (Zc 2 rfl (Ak 23 rfl (fun h2=> ?_) (fun h2=> ?_)))
  ·refine Zc 21 rfl (Zr rfl ?_);exact ⟨_,.inl ⟨by rintro ⟨q1,q2,q3,q4⟩;first|omega|exact absurd (q4 x (List.mem_of_getElem? hx)) ‹_›,rfl,rfl⟩,H.perm 3 [1,2] rfl rfl⟩
  ·refine Z2 6 [2,0,0,0] H rfl (Ak 29 rfl (fun h3=> ?_) (fun h3=> ?_))
   ·refine Zc 15 rfl (Zr rfl ?_);exact ⟨_,.inl ⟨by rintro ⟨q1,q2,q3,q4⟩;first|omega|exact absurd (q4 x (List.mem_of_getElem? hx)) ‹_›,rfl,rfl⟩,H.perm 3 [1,2] rfl rfl⟩
   ·refine Z2 7 [2,0,0,0] H rfl (Af rfl (fun h4=> ?_) (fun h4=> ?_))
    ·refine Zc 7 rfl (Zr rfl ?_);exact ⟨_,.inl ⟨by rintro ⟨q1,q2,q3,q4⟩;first|omega|exact absurd (q4 x (List.mem_of_getElem? hx)) ‹_›,rfl,rfl⟩,H.perm 3 [1,2] rfl rfl⟩
    ·have hn40:ns.length≤40:=by omega
     refine Zc 4 rfl (AL rfl (BO (P:=prog) H rfl (zs:=(AX (AN []) 0)) (by kernel_rfl)) ?_);rintro _ w ⟨b2,rfl,H⟩;replace H:=H.l4;refine Zc 4 rfl (z_E_ rfl (call135 _) (HI _ 0 [80,76,79,71] _ (A7 (by first|omega|(simp[Ai,BS,-List.length_flatMap]<;>omega))) (by first|omega|(simp<;>omega))) H ?_);intro w H;replace H:=H.l4;rw[show Bp (AN []) ([80,76,79,71]) 0=AN ([80,76,79,71]) from BR rfl (by first|omega|(simp[Ai,BS,-List.length_flatMap]<;>omega))] at H;have H:Sep z (blk b2 (AX (AN ([80,76,79,71])) 4) 165::blk b1 [Iv_ e,Iv_ s,.slice ao ns.length pc,u32 u] 230::tblA pt::A::R) w:=H
     refine Z2 6 [0,1,0] H rfl (z_E_ rfl (call92 _) (CW _ 4 8 e _ (A7 (by first|omega|(simp[Ai,BS,-List.length_flatMap]<;>omega))) (by omega)) H ?_);intro w H;replace H:=H.l4;rw[show Bp (AN ([80,76,79,71])) (Ah 8 e) 4=AN ([80,76,79,71]++Ah 8 e) from BR (by first|omega|(simp[Ai,BS,-List.length_flatMap]<;>omega)) (by first|omega|(simp[Ai,BS,-List.length_flatMap]<;>omega))] at H;have H:Sep z (blk b2 (AX (AN ([80,76,79,71]++Ah 8 e)) 12) 165::blk b1 [Iv_ e,Iv_ s,.slice ao ns.length pc,u32 u] 230::tblA pt::A::R) w:=H
     refine Z2 6 [1,1,0] H rfl (z_E_ rfl (call92 _) (CW _ 12 8 s _ (A7 (by first|omega|(simp[Ai,BS,-List.length_flatMap]<;>omega))) (by omega)) H ?_);intro w H;replace H:=H.l4;rw[show Bp (AN ([80,76,79,71]++Ah 8 e)) (Ah 8 s) 12=AN ([80,76,79,71]++Ah 8 e++Ah 8 s) from BR (by first|omega|(simp[Ai,BS,-List.length_flatMap]<;>omega)) (by first|omega|(simp[Ai,BS,-List.length_flatMap]<;>omega))] at H;have H:Sep z (blk b2 (AX (AN ([80,76,79,71]++Ah 8 e++Ah 8 s)) 20) 165::blk b1 [Iv_ e,Iv_ s,.slice ao ns.length pc,u32 u] 230::tblA pt::A::R) w:=H
     refine Z2 6 [3,1,0] H rfl (Ac rfl (Xh rfl (by kernel_rfl) rfl) (z_E_ rfl (call92 _) (CW _ 20 4 (u.toNat:Int) _ (A7 (by first|omega|(simp[Ai,BS,-List.length_flatMap]<;>omega))) (by omega)) H ?_));intro w H;replace H:=H.l4;rw[show Bp (AN ([80,76,79,71]++Ah 8 e++Ah 8 s)) (Ah 4 (u.toNat:Int)) 20=AN ([80,76,79,71]++Ah 8 e++Ah 8 s++Ah 4 (u.toNat:Int)) from BR (by first|omega|(simp[Ai,BS,-List.length_flatMap]<;>omega)) (by first|omega|(simp[Ai,BS,-List.length_flatMap]<;>omega))] at H;have H:Sep z (blk b2 (AX (AN ([80,76,79,71]++Ah 8 e++Ah 8 s++Ah 4 (u.toNat:Int))) 24) 165::blk b1 [Iv_ e,Iv_ s,.slice ao ns.length pc,u32 u] 230::tblA pt::A::R) w:=H
     refine Z2 7 [2,1,0] H rfl (z_E_ rfl (call92 _) (CW _ 24 2 (ns.length:Int) _ (A7 (by first|omega|(simp[Ai,BS,-List.length_flatMap]<;>omega))) (by omega)) H ?_);intro w H;replace H:=H.l4;rw[show Bp (AN ([80,76,79,71]++Ah 8 e++Ah 8 s++Ah 4 (u.toNat:Int))) (Ah 2 (ns.length:Int)) 24=AN ([80,76,79,71]++Ah 8 e++Ah 8 s++Ah 4 (u.toNat:Int)++Ah 2 (ns.length:Int)) from BR (by first|omega|(simp[Ai,BS,-List.length_flatMap]<;>omega)) (by first|omega|(simp[Ai,BS,-List.length_flatMap]<;>omega))] at H;have H:Sep z (blk b2 (AX (AN ([80,76,79,71]++Ah 8 e++Ah 8 s++Ah 4 (u.toNat:Int)++Ah 2 (ns.length:Int))) 26) 165::blk b1 [Iv_ e,Iv_ s,.slice ao ns.length pc,u32 u] 230::tblA pt::A::R) w:=H
     refine Z2 12 [2,1,0] H rfl ?_;refine AJ (σ:=Nat) (fun i=>[(53,Iv_ (i:Int)),(0,Pt_ pt),(6,Pt_ b2),(51,.slice ao ns.length pc),(52,Iv_ (ns.length:Int))])
       (fun i w=>Sep z (blk b2 (AX (AN ([80,76,79,71]++Ah 8 e++Ah 8 s++Ah 4 (u.toNat:Int)++Ah 2 (ns.length:Int)++(ns.take i).flatMap (Ah 4))) ((26+4 * i:Nat):Int)) 165::blk b1 [Iv_ e,Iv_ s,.slice ao ns.length pc,u32 u] 230::tblA pt::A::R) w∧(i≤ns.length∧∀ (j:Nat) (x:Int),j<i→ns[j]? =some x→0≤x∧x≤1023)) (fun i=>ns.length - i) 0
       (fun _ hF=>(hF.co rfl (by go_num) (hF.all rfl))) ⟨(by simpa using H),by omega,fun j x h=>by omega⟩ ?_
     clear H;rintro i w ⟨H',hI⟩;have H:=H'.l4;obtain ⟨hin,hall⟩:=hI;refine Z0 6 [0] rfl (Af rfl (fun h5=> ?_) (fun h5=> ?_))
     ·obtain ⟨x,hx⟩:∃ x,ns[i]? =some x:=⟨_,List.getElem?_eq_getElem (by omega)⟩;refine Zc 6 rfl ?_;have hat:=(H.rd 3 rfl hA).at (j:=i) (u:=Iv_ x) (by simp[hx])
      refine Ac rfl (AD rfl (z:=1) (j:=i) (r:=i) (by kernel_rfl) rfl rfl rfl (by omega) hat (by omega)) (Ac rfl (AR rfl rfl (by kernel_rfl) (AB hat)) (Zc 7 rfl (z_E_ rfl (call91 _) (Cv _ _) H ?_)));intro w H;replace H:=H.l4;refine Ac rfl (Ax rfl rfl) (Zc 2 rfl (Af rfl (fun h6=> ?_) (fun h6=> ?_)))
      ·refine Zc 7 rfl (Zr rfl ?_);exact ⟨_,.inl ⟨by rintro ⟨q1,q2,q3,q4⟩;first|omega|exact absurd (q4 x (List.mem_of_getElem? hx)) ‹_›,rfl,rfl⟩,H.perm 4 [2,3] rfl rfl⟩
      ·refine Zc 4 rfl (z_E_ rfl (call92 _) (CW _ (26+4 * i) 4 x _ (A7 (by first|omega|(simp[Ai,BS,-List.length_flatMap]<;>omega))) (by omega)) H ?_);intro w H;replace H:=H.l4;rw[show ((26+4 * i+4:Nat):Int)=(((26+4 * (i+1):Nat):Int):Int) from by omega] at H;rw[show Bp (AN ([80,76,79,71]++Ah 8 e++Ah 8 s++Ah 4 (u.toNat:Int)++Ah 2 (ns.length:Int)++(ns.take i).flatMap (Ah 4))) (Ah 4 x) (26+4 * i)=AN ([80,76,79,71]++Ah 8 e++Ah 8 s++Ah 4 (u.toNat:Int)++Ah 2 (ns.length:Int)++(ns.take i).flatMap (Ah 4)++Ah 4 x) from BR (by first|omega|(simp[Ai,BS,-List.length_flatMap]<;>omega)) (by first|omega|(simp[Ai,BS,-List.length_flatMap]<;>omega))] at H;have H:Sep z (blk b2 (AX (AN ([80,76,79,71]++Ah 8 e++Ah 8 s++Ah 4 (u.toNat:Int)++Ah 2 (ns.length:Int)++(ns.take i).flatMap (Ah 4)++Ah 4 x)) ((26+4 * (i+1):Nat):Int)) 165::blk b1 [Iv_ e,Iv_ s,.slice ao ns.length pc,u32 u] 230::tblA pt::A::R) w:=H
       refine Z1 7 [] [(i:Int)+1] rfl (by omega) (gf ?_);intro _ hF;refine ⟨(i+1),(hF.co rfl (by go_num) (hF.all rfl)),⟨(by rw[←QG hx,←List.append_assoc];exact H),?_⟩,?_⟩
       ·refine ⟨by omega,fun j y hj h=> ?_⟩;rcases Nat.lt_or_ge j i with q|q
        ·exact hall j y q h
        ·obtain rfl:j=i:=by omega
         rw[hx] at h;cases h;omega
       ·omega
     ·obtain rfl:i=ns.length:=by omega
      refine Zc 2 rfl (gx (Zc 3 rfl ?_));rw[List.take_length] at H;have H:Sep z (blk b2 (AX (AN ([80,76,79,71]++Ah 8 e++Ah 8 s++Ah 4 (u.toNat:Int)++Ah 2 (ns.length:Int)++ns.flatMap (Ah 4))) ((26+4 * ns.length:Nat):Int)) 165::blk b1 [Iv_ e,Iv_ s,.slice ao ns.length pc,u32 u] 230::tblA pt::A::R) w:=H
      refine Zc 2 rfl (z_E_ rfl (call136 _) (Hc _ _ _ _ (A7 (by first|omega|(simp[Ai,BS,-List.length_flatMap]<;>omega)))) H.f2.f1 ?_);intro w H;refine Zc 5 rfl (Zr rfl ?_);exact ⟨_,.inr ⟨⟨by omega,by omega,by omega,fun x hx=>by obtain ⟨j,hj,rfl⟩:=List.mem_iff_getElem.1 hx;exact hall j _ hj (List.getElem?_eq_getElem hj)⟩,b2,rfl,rfl⟩,H.perm 4 [0,1,3] rfl rfl⟩
open Go.RowKit
theorem Ie (b off n c:Nat) (bs:List UInt8) (A:Ae) (hA:∀ h,A h→rdH 1 (.slice (some ⟨b,off,none⟩) n c) n (bs.map u8) h) (hn:0<n∧n≤1073741824):Cn prog 114 [.slice (some ⟨b,off,none⟩) n c] [A] (fun v Γ=>(∃ g cap rest,v= .slice (some ⟨g,0,none⟩) n cap∧(n≤cap∧cap≤9223372036854775807∧rest.length=cap - n)∧Γ=[blk g (bs.map u8++rest) 5,A])):=by
 intro z R w H;replace H:=H.l1;refine Ad func114 rfl ntmps114 rfl (Zc 9 rfl (Ac rfl (LL rfl (by kernel_rfl) rfl rfl) (Zc 7 rfl (AL rfl (Hk H rfl (by kernel_rfl) Cf) ?_))));rintro _ w ⟨b1,rfl,H⟩;replace H:=H.l2;refine Zc 1 rfl ?_;replace H:=(H.mono 0 (B:=grow 5 1 (.slice (some ⟨b1,0,none⟩) 0 0) 0 []) rfl (fun h q=>q.grow (by omega) (by omega) (by simp) rfl)).l2
 refine AL rfl (Bb 0 H rfl rfl (by kernel_rfl) Cf rfl rfl (H.rd 1 rfl hA) (by simp[u8,Value.oneCell']) (by omega)) ?_;rintro v2 w H';have ev2:([]++bs.map u8:List Value)=bs.map u8:=by simp
 rw[ev2] at H';rw[show (0+n:Nat)=n from by omega] at H';have H:=H'.l2;have sv2:=H.says 0 rfl (fun h q=>q.slc)
 refine Zc 4 rfl (Zr rfl ?_);obtain ⟨g,cap,rest,hv,c1,c2,c3,H'⟩:=H.ungrow 0 rfl (by omega);exact ⟨_,⟨g,cap,rest,hv,⟨c1,c2,by omega⟩,rfl⟩,H'⟩
theorem HJ (pd:Nat) (D:Dsk) (x:Int):Cn prog 75 [Pt_ pd,Iv_ x,Iv_ 1] [diskA pd D] (fun v Γ=>(¬ (0≤x∧x<(D.n:Int))∧v= .tuple #[.slice none 0 0,Iv_ 2]∧Γ=[diskA pd D])∨((0≤x∧x<(D.n:Int))∧D.f1=1∧v= .tuple #[.slice none 0 0,Iv_ 10]∧Γ=[diskA pd { D with f1:=AY D.f1 }])∨((0≤x∧x<(D.n:Int))∧¬ D.f1=1∧∃ g cap rest,v= .tuple #[.slice (some ⟨g,0,none⟩) 256 cap,Iv_ 0]∧(256≤cap∧cap≤9223372036854775807∧rest.length=cap - 256)∧Γ=[blk g ((D.cont x.toNat).map u8++rest) 5,diskA pd { D with f1:=AY D.f1 }])):=by
 intro z R w H;replace H:=H.l1;obtain ⟨bd,m,f0,bs,es,clk,hq,hD,hIn,H'⟩:=H.disk;clear H;have hn1:=hD.n1;have hn2:=hD.n2;have hf1:=hD.f1;have hf2:=hD.f2;have hf3:=hD.f3;have hlf:=hD.left;have hbl:=hIn.len
 have H:=H'.l5;refine Ad func75 rfl ntmps75 rfl (Zc 12 rfl (z_E_ rfl (call112 _) (N5 _ _ _ _ _ _ _ _ _ _ _ _ (by omega)) H ?_));intro w H;replace H:=H.l5;refine Ac rfl (Ax rfl rfl) (Zc 2 rfl (Af rfl (fun h1=> ?_) (fun h1=> ?_)))
 ·refine Zc 7 rfl (Zr rfl ?_);replace H:=(Sep.toDisk (D:=D) (pd:=pd) (bd:=bd) (m:=m) (f0:=f0) (bs:=bs) (es:=es) (clk:=clk) (hq:=hq) (Γ:=R) H hD hIn).l1
  exact ⟨_,.inl ⟨by omega,rfl,rfl⟩,H⟩
 ·obtain ⟨k,rfl⟩:∃ k:Nat,x=(k:Int):=⟨x.toNat,by omega⟩;have hk:k<D.n:=by omega
  refine Zc 6 rfl (z_E_ rfl (call113 _) (Sa _ _ _ _ _ _ _ _ _ _ (by omega)) H ?_);intro w H;refine Zc 2 rfl (Af rfl (fun h2=> ?_) (fun h2=> ?_))
  ·refine Zc 7 rfl (Zr rfl ?_);replace H:=(Sep.toDisk (D:= { D with f1:=AY D.f1 }) (pd:=pd) (bd:=bd) (m:=m) (f0:=f0) (bs:=bs) (es:=es) (clk:=clk) (hq:=hq) (Γ:=R) H (hD.f (EE hD.f1) hD.f2 hD.f3 hD.left) (hIn.f _ _ _ _ _)).l1
   exact ⟨_,.inr (.inl ⟨by omega,‹_›,rfl,rfl⟩),H⟩
  ·refine Z3 14 [0,0,0] [(k:Int) * 256,(k:Int)+1,((k:Int)+1) * 256] H rfl (by omega) (Ac rfl (BD rfl (z:=1) (p:=(k * 256)) (q:=((k+1) * 256)) (o':=k * 256) (l':=256) (c':=D.n * 256 - k * 256) (by kernel_rfl) rfl (.inr ⟨_,_,_,rfl,rfl,(by omega)⟩) (.inr ⟨_,_,_,rfl,rfl,(by omega)⟩) (by omega) (by omega) (by omega) (by omega) (by omega) (by omega)) (Aw rfl (call114 _) (Ie _ _ 256 _ (D.dur k) _ (fun h q=>q.rd (by omega) (by omega) (by simp;omega) (by rw[←List.map_drop,←List.map_take,Nat.mul_one,hIn.own k hk])) (by omega)) H.f1 ?_));rintro _ w _ ⟨g,cap,rest,rfl,⟨cg,cc,cl⟩,rfl⟩ H;refine Zc 11 rfl ?_;refine AJ (σ:=Nat) (fun j=>[(31,Iv_ (j:Int)),(0,Pt_ pd),(1,Iv_ (k:Int)),(6,.slice none 0 0),(7,Iv_ 0),(8,.slice (some ⟨g,0,none⟩) 256 cap),(30,Iv_ 1)])
     (fun j w=>Sep z (blk g ((Hz D k j).map u8++rest) 5::blk bd (bs.map u8) 5::blk pd [.slice (some ⟨bd,0,none⟩) (D.n * 256) (D.n * 256),.map (some m),Iv_ f0,Iv_ (if D.f1=0 then 0 else D.f1 - 1),Iv_ D.f2,Iv_ D.f3,.bool D.cut,Iv_ D.left] 92::Ay m (es.map Ent.ie) clk::poolA hq::seps (es.map Ent.row)::R) w∧(j≤1)) (fun j=>1 - j) 0
     (fun _ hF=>(hF.co rfl (by go_num) (hF.all rfl))) ⟨H,by omega⟩ ?_
   clear H;rintro j w ⟨H',hI⟩;have H:=H'.l6;refine Z0 6 [0] rfl (Af rfl (fun h3=> ?_) (fun h3=> ?_))
   ·obtain rfl:j=0:=by omega
    refine Zc 12 rfl ?_;obtain ⟨v0,pvs,hgv,hpl,hrow,hpool⟩:=XF hIn hk;have sv:=H.says 5 rfl (fun h q=>(hrow h q).slc)
    obtain ⟨ao,cc0,rfl⟩:=sv;have hpm:=H.says 5 rfl (fun h q=>(hrow h q).small)
    refine Z3 7 [1,2,0] [(k:Int)] H rfl (by omega) (Ac rfl (E5 (e:=207) (zv:= .slice none 0 0) rfl (by kernel_rfl) (by kernel_rfl) rfl rfl (AB (H.bk 3 rfl))) (Al 41 (v:= .slice ao pvs.length cc0) rfl hgv (Z0 10 [0] rfl (Af rfl (fun h4=> ?_) (fun h4=> ?_)))))
    ·obtain ⟨pv,hpv⟩:∃ pv,pvs[pvs.length - 1]? =some pv:=⟨_,List.getElem?_eq_getElem (by omega)⟩;obtain ⟨p,hp⟩:∃ p,(D.ver k)[pvs.length - 1]? =some p:=⟨_,List.getElem?_eq_getElem (by omega)⟩;have hcp:=KF hpl hp
     have hplen:p.length=256:=by rw[←hcp];exact Dsk.cont_len hD hk
     refine BI 10 (by kernel_rfl) (by kernel_rfl) (Bc H fun w H'=> ?_)
     have H:=H'.l6;refine Eg 3 [] [0] H rfl (by kernel_rfl) (by omega) (Cd rfl rfl rfl (BD rfl (z:=1) (p:=0) (q:=256) (o':=0) (l':=256) (c':=cap) (by kernel_rfl) rfl (.inr ⟨_,_,_,rfl,rfl,rfl⟩) (.inl ⟨rfl,rfl⟩) (by omega) (by omega) (by omega) (by omega) (by omega) (by omega)) (Eg 4 [] [(pvs.length:Int) - 1] H rfl (by kernel_rfl) (by omega) ?_));have hat:=(H.rd 5 rfl hrow).at hpv
     refine Cd rfl rfl rfl (AD rfl (z:=1) (j:=(pvs.length - 1)) (r:=(pvs.length - 1)) (by kernel_rfl) rfl rfl (by omega) (by omega) hat (by omega)) (Cd rfl rfl rfl (AR rfl rfl (by kernel_rfl) (AB hat)) (Cy (gw (AL rfl (Fi 0 H rfl rfl (by kernel_rfl) rfl rfl (m:=256) (news:=(p.map u8)) (.inl (H.rd 4 rfl (hpool _ _ _ hpv hp))) (by simp[u8,Value.oneCell']) (by simp[Hz,hD.dur k hk]<;>omega) (k:=256) (by omega) (out:=((Hz D k (0+1)).map u8++rest)) (by rw[show Hz D k (0+1)=p from hcp];simp[Hz,List.take_of_length_le,hplen,hD.dur k hk,List.drop_append])) ?_))));rintro _ w ⟨rfl,H⟩;replace H:=H.l6;refine Z1 7 [] [(0:Int)+1] rfl (by omega) (gf ?_);intro _ hF;refine ⟨(0+1),(hF.co rfl (by go_num) (hF.all rfl)),⟨H,?_⟩,?_⟩
     ·omega
     ·omega
    ·refine Z1 7 [] [(0:Int)+1] rfl (by omega) (gf ?_);intro _ hF;refine ⟨(0+1),(hF.co rfl (by go_num) (hF.all rfl)),⟨(by rw[show Hz D k (0+1)=Hz D k 0 from IK (List.eq_nil_of_length_eq_zero (by omega))];exact H),?_⟩,?_⟩
     ·omega
     ·omega
   ·refine Zc 2 rfl (gx (Zc 10 rfl (Zr rfl ?_)));obtain rfl:j=1:=by omega
    replace H:=H.f5.f5.f5.f4.f5;replace H:=(Sep.toDisk (D:= { D with f1:=AY D.f1 }) (pd:=pd) (bd:=bd) (m:=m) (f0:=f0) (bs:=bs) (es:=es) (clk:=clk) (hq:=hq) (Γ:=blk g ((Hz D k 1).map u8++rest) 5::R) H (hD.f (EE hD.f1) hD.f2 hD.f3 hD.left) (hIn.f _ _ _ _ _)).l2
    exact ⟨_,.inr (.inr ⟨by omega,‹_›,g,cap,rest,rfl,⟨cg,cc,cl⟩,rfl⟩),H.perm 2 [1,0] rfl rfl⟩
open Go.RowKit
theorem QQ (pt b o c:Nat) (sec:List UInt8) (A:Ae) (hA:∀ h,A h→rdH 1 (.slice (some ⟨b,o,none⟩) 256 c) 256 (sec.map u8) h):Cn prog 132 [Pt_ pt,.slice (some ⟨b,o,none⟩) 256 c] [tblA pt,A] (fun v Γ=>(G9 sec∧∃ v',v= .tuple #[.agg #[Iv_ (A5 ((sec.drop 4).take 8)),Iv_ (A5 ((sec.drop 12).take 8)),v',u32 (EO (A5 ((sec.drop 20).take 4)))],.bool true]∧Γ=[grow 3 1 v' (Bm sec) (hN sec (Bm sec)),tblA pt,A])∨(¬ G9 sec∧v= .tuple #[.agg #[Iv_ 0,Iv_ 0,.slice none 0 0,u32 0],.bool false]∧Γ=[tblA pt,A])):=by
 intro z R w H;replace H:=H.l2;have hsl:=H.says 1 rfl (fun h q=>(hA h q).len)
 have hcb:=H.says 1 rfl (fun h q=>(hA h q).cap)
 obtain ⟨c0,c1,c2,c3,hd⟩:=Mv hsl;obtain ⟨m,hm,hm2⟩:=XP (sec:=sec);refine Ad func132 rfl ntmps132 rfl (Zc 2 rfl (AL rfl (BO (P:=prog) H rfl (zs:=[Iv_ 0,Iv_ 0,.slice none 0 0,u32 0]) (by kernel_rfl)) ?_));rintro _ w ⟨b1,rfl,H⟩;replace H:=H.l3;refine Zc 7 rfl (Aw rfl (call116 _) (Ka _ _ _ _ _ sec _ hA) H.f2.f2 ?_);rintro _ w _ (⟨hs,rfl,rfl⟩|⟨hs,rfl,rfl⟩) H'
 ·have H:=H'.l3;refine Za 3 [] H rfl ?_;intro b2 w H;refine Z4 16 [0] H rfl ?_;intro w H;refine z_E_ rfl (call117 _) (C9 8 _ b (o+4) 248 (c - 4) ((sec.drop 4).take 248) _ (fun h q=>(hA h q).cut (lo:=4) (m:=248) (c':=(c - 4)) (by omega) (by omega) (by omega)) (by omega) (by omega) ((sec.drop 4).take 8) (by rw[List.take_take,Nat.min_eq_left (by omega)]) (o+12) 240 (c - 12) (by omega) (by omega) (by omega)) H.f2.f1 ?_;intro w H;replace H:=H.l4;refine z_E_ rfl (call117 _) (C9 8 _ b (o+12) 240 (c - 12) ((sec.drop 12).take 240) _ (fun h q=>(hA h q).cut (lo:=12) (m:=240) (c':=(c - 12)) (by omega) (by omega) (by omega)) (by omega) (by omega) ((sec.drop 12).take 8) (by rw[List.take_take,Nat.min_eq_left (by omega)]) (o+20) 232 (c - 20) (by omega) (by omega) (by omega)) H ?_;intro w H;replace H:=H.l4;refine z_E_ rfl (call117 _) (C9 4 _ b (o+20) 232 (c - 20) ((sec.drop 20).take 232) _ (fun h q=>(hA h q).cut (lo:=20) (m:=232) (c':=(c - 20)) (by omega) (by omega) (by omega)) (by omega) (by omega) ((sec.drop 20).take 4) (by rw[List.take_take,Nat.min_eq_left (by omega)]) (o+24) 228 (c - 24) (by omega) (by omega) (by omega)) H ?_;intro w H;replace H:=H.l4;refine Ac rfl (P0 rfl (by kernel_rfl) rfl) (Ac rfl (AF rfl rfl (out:=[Iv_ (A5 ((sec.drop 4).take 8)),Iv_ (A5 ((sec.drop 12).take 8)),.slice none 0 0,u32 (EO (A5 ((sec.drop 20).take 4)))]) (by kernel_rfl)) (AL rfl (BO (P:=prog) H rfl (zs:=[Iv_ 0,Iv_ 0,.slice none 0 0,u32 0]) (by kernel_rfl)) ?_))
  rintro _ w ⟨b3,rfl,H⟩;replace H:=H.l5;refine Z4 5 [0] H rfl ?_;intro w H;refine z_E_ rfl (call117 _) (C9 2 _ b (o+24) 228 (c - 24) ((sec.drop 24).take 228) _ (fun h q=>(hA h q).cut (lo:=24) (m:=228) (c':=(c - 24)) (by omega) (by omega) (by omega)) (by omega) (by omega) ((sec.drop 24).take 2) (by rw[List.take_take,Nat.min_eq_left (by omega)]) (o+26) 226 (c - 26) (by omega) (by omega) (by omega)) H.f2.f2 ?_;intro w H;refine Z2 8 [0,2,0] H rfl (z_E_ rfl (call91 _) (Cv _ _) H ?_);intro w H;replace H:=H.l5;refine Ac rfl (Ax rfl rfl) (Zc 1 rfl (Ak 30 rfl (fun h1=> ?_) (fun h1=> ?_)))
  ·refine Zc 18 rfl (Ac rfl (AF rfl rfl (out:=[Iv_ 0,Iv_ 0,.slice none 0 0,u32 0]) (by kernel_rfl)) (Z4 5 [4] H rfl ?_));intro w H;refine Zl [4,4] H rfl ?_;exact ⟨_,.inr ⟨by first|exact fun q=>hs q.1|(rintro ⟨q0,q1,q2,q3,q4,q5⟩;first|(exfalso;omega)|exact absurd (q4 i (by omega)) ‹_› |(rw[hm2] at q5;exact absurd q5 ‹_›)),rfl,rfl⟩,H.perm 5 [3,1] rfl rfl⟩
  ·refine Z2 2 [1,2,0] H rfl (z_E_ rfl (call91 _) (Cv _ _) H ?_);intro w H;replace H:=H.l5;refine Ac rfl (Ax rfl rfl) (Zc 2 rfl (Ak 36 rfl (fun h2=> ?_) (fun h2=> ?_)))
   ·refine Zc 12 rfl (Ac rfl (AF rfl rfl (out:=[Iv_ 0,Iv_ 0,.slice none 0 0,u32 0]) (by kernel_rfl)) (Z4 5 [4] H rfl ?_));intro w H;refine Zl [4,4] H rfl ?_;exact ⟨_,.inr ⟨by first|exact fun q=>hs q.1|(rintro ⟨q0,q1,q2,q3,q4,q5⟩;first|(exfalso;omega)|exact absurd (q4 i (by omega)) ‹_› |(rw[hm2] at q5;exact absurd q5 ‹_›)),rfl,rfl⟩,H.perm 5 [3,1] rfl rfl⟩
   ·refine Z0 4 [0] rfl (Ak 40 rfl (fun h3=> ?_) (fun h3=> ?_))
    ·refine Zc 8 rfl (Ac rfl (AF rfl rfl (out:=[Iv_ 0,Iv_ 0,.slice none 0 0,u32 0]) (by kernel_rfl)) (Z4 5 [4] H rfl ?_));intro w H;refine Zl [4,4] H rfl ?_;exact ⟨_,.inr ⟨by first|exact fun q=>hs q.1|(rintro ⟨q0,q1,q2,q3,q4,q5⟩;first|(exfalso;omega)|exact absurd (q4 i (by omega)) ‹_› |(rw[hm2] at q5;exact absurd q5 ‹_›)),rfl,rfl⟩,H.perm 5 [3,1] rfl rfl⟩
    ·refine Z0 5 [0] rfl (Af rfl (fun h4=> ?_) (fun h4=> ?_))
     ·refine Zc 2 rfl (Ac rfl (AF rfl rfl (out:=[Iv_ 0,Iv_ 0,.slice none 0 0,u32 0]) (by kernel_rfl)) (Z4 5 [4] H rfl ?_));intro w H;refine Zl [4,4] H rfl ?_;exact ⟨_,.inr ⟨by first|exact fun q=>hs q.1|(rintro ⟨q0,q1,q2,q3,q4,q5⟩;first|(exfalso;omega)|exact absurd (q4 i (by omega)) ‹_› |(rw[hm2] at q5;exact absurd q5 ‹_›)),rfl,rfl⟩,H.perm 5 [3,1] rfl rfl⟩
     ·refine Zc 4 rfl (Al 9 (v:=Iv_ (m:Int)) rfl (congrArg Iv_ hm) ?_);replace H:=(H.nilg 3 1).l6
      refine Zc 6 rfl ?_;refine AJ (σ:=Nat×Value) (fun ⟨i,v⟩=>[(46,Iv_ (i:Int)),(4,Pt_ b1),(6,Pt_ b2),(8,Pt_ b3),(45,Iv_ (m:Int))])
        (fun ⟨i,v⟩ w=>Sep z (grow 3 1 v i (hN sec i)::blk b2 [.slice (some ⟨b,(o+(26+4 * i)),none⟩) (252 - (26+4 * i)) (c - (26+4 * i))] 210::A::blk b3 [Iv_ (A5 ((sec.drop 4).take 8)),Iv_ (A5 ((sec.drop 12).take 8)),v,u32 (EO (A5 ((sec.drop 20).take 4)))] 230::tblA pt::blk b1 [Iv_ 0,Iv_ 0,.slice none 0 0,u32 0] 230::R) w∧(i≤m∧∀ j,j<i→0≤DP sec j∧DP sec j≤1023)) (fun ⟨i,v⟩=>m - i) ⟨0,.slice none 0 0⟩
        (fun _ hF=>(hF.co rfl (by go_num) (hF.all rfl))) ⟨H,by omega,fun j h=>by omega⟩ ?_
      clear H;rintro ⟨i,v⟩ w ⟨H',hI⟩;dsimp only at hI H' ⊢
      have H:=H'.l6;have sv:=H.says 0 rfl (fun h q=>q.slc)
      obtain ⟨him,hall⟩:=hI;refine Z0 6 [0] rfl (Af rfl (fun h5=> ?_) (fun h5=> ?_))
      ·have hlt:i<m:=by omega
       refine Zc 6 rfl (z_E_ rfl (call117 _) (C9 4 _ b (o+(26+4 * i)) (252 - (26+4 * i)) (c - (26+4 * i)) ((sec.drop (26+4 * i)).take (252 - (26+4 * i))) _ (fun h q=>(hA h q).cut (lo:=(26+4 * i)) (m:=(252 - (26+4 * i))) (c':=(c - (26+4 * i))) (by omega) (by omega) (by omega)) (by omega) (by omega) ((sec.drop (26+4 * i)).take 4) (by rw[List.take_take,Nat.min_eq_left (by omega)]) (o+(26+4 * (i+1))) (252 - (26+4 * (i+1))) (c - (26+4 * (i+1))) (by omega) (by omega) (by omega)) H.f2.f2 ?_);intro w H;refine Zc 7 rfl (z_E_ rfl (call91 _) (Cv _ _) H ?_);intro w H;replace H:=H.l6;refine Ac rfl (Ax rfl rfl) (Zc 2 rfl (Af rfl (fun h6=> ?_) (fun h6=> ?_)))
       ·refine Zc 2 rfl (Ac rfl (AF rfl rfl (out:=[Iv_ 0,Iv_ 0,.slice none 0 0,u32 0]) (by kernel_rfl)) (Z4 5 [5] H rfl ?_));intro w H;refine Zl [5,4] H rfl ?_;exact ⟨_,.inr ⟨by first|exact fun q=>hs q.1|(rintro ⟨q0,q1,q2,q3,q4,q5⟩;first|(exfalso;omega)|exact absurd (q4 i (by omega)) ‹_› |(rw[hm2] at q5;exact absurd q5 ‹_›)),rfl,rfl⟩,H.perm 6 [4,1] rfl rfl⟩
       ·refine Z2 6 [2,3,0] H rfl (AL rfl (AV H rfl (by kernel_rfl) Bq rfl (by decide) (by decide) (out:=[Iv_ (DP sec i)]) (by kernel_rfl)) ?_);rintro _ w ⟨b4,rfl,H⟩;replace H:=H.l7;refine AL rfl (Bb 3 H rfl rfl (by kernel_rfl) Bq rfl rfl (H.rd 0 rfl (fun h q=>q.rd (by omega) (by omega) (by simp) rfl)) (by simp[Value.oneCell']) (by omega)) ?_;rintro v5 w H';have H':Sep z (blk b4 [Iv_ (DP sec i)] 3::blk b2 [.slice (some ⟨b,(o+(26+4 * (i+1))),none⟩) (252 - (26+4 * (i+1))) (c - (26+4 * (i+1)))] 210::A::grow 3 1 v5 (i+1) (hN sec i++[Iv_ (DP sec i)])::blk b3 [Iv_ (A5 ((sec.drop 4).take 8)),Iv_ (A5 ((sec.drop 12).take 8)),v,u32 (EO (A5 ((sec.drop 20).take 4)))] 230::tblA pt::blk b1 [Iv_ 0,Iv_ 0,.slice none 0 0,u32 0] 230::R) w:=H'
        have ev5:(hN sec i++[Iv_ (DP sec i)]:List Value)=hN sec (i+1):=Vp sec i
        rw[ev5] at H';have H:=H'.l7;have sv5:=H.says 3 rfl (fun h q=>q.slc)
        refine Z0 1 [2] rfl (Az rfl rfl (JP 4 H rfl rfl rfl rfl sv5.cells sv5.one (by kernel_rfl)) ?_);rintro w H;replace H:=H.l7;refine Z1 7 [] [(i:Int)+1] rfl (by omega) ?_;replace H:=H.d.f5.f5.f5.f4.f4.f5;refine gf ?_;intro _ hF;refine ⟨⟨i+1,v5⟩,(hF.co rfl (by go_num) (hF.all rfl)),⟨H,?_⟩,?_⟩
        ·refine ⟨by omega,fun j h=> ?_⟩;rcases Nat.lt_or_ge j i with q|q
         ·exact hall j q
         ·obtain rfl:j=i:=by omega
          unfold DP;omega
        ·omega
      ·obtain rfl:i=m:=by omega
       refine Zc 2 rfl (gx (Zc 5 rfl (z_E_ rfl (call130 _) (MJ _ b (o+(26+4 * i)) (252 - (26+4 * i)) (c - (26+4 * i)) ((sec.drop (26+4 * i)).take (252 - (26+4 * i))) _ (fun h q=>(hA h q).cut (lo:=(26+4 * i)) (m:=(252 - (26+4 * i))) (c':=(c - (26+4 * i))) (by omega) (by omega) (by omega)) (by omega)) H.f2.f2 ?_)));intro w H;replace H:=H.l6;refine Ac rfl (Ax rfl rfl) (Zc 2 rfl (Af rfl (fun h7=> ?_) (fun h7=> ?_)))
       ·refine Zc 2 rfl (Ac rfl (AF rfl rfl (out:=[Iv_ 0,Iv_ 0,.slice none 0 0,u32 0]) (by kernel_rfl)) (Z4 5 [5] H rfl ?_));intro w H;refine Zl [5,4] H rfl ?_;exact ⟨_,.inr ⟨by first|exact fun q=>hs q.1|(rintro ⟨q0,q1,q2,q3,q4,q5⟩;first|(exfalso;omega)|exact absurd (q4 i (by omega)) ‹_› |(rw[hm2] at q5;exact absurd q5 ‹_›)),rfl,rfl⟩,H.perm 6 [4,1] rfl rfl⟩
       ·refine Z2 5 [3,4] H rfl (Az rfl rfl (Ag 5 H rfl rfl rfl rfl (vs:=[Iv_ (A5 ((sec.drop 4).take 8)),Iv_ (A5 ((sec.drop 12).take 8)),v,u32 (EO (A5 ((sec.drop 20).take 4)))]) rfl (Ab rfl (Ab rfl (Ab sv.one (Ab rfl Ar)))) (by kernel_rfl) (by simp) (out:=[Iv_ (A5 ((sec.drop 4).take 8)),Iv_ (A5 ((sec.drop 12).take 8)),v,u32 (EO (A5 ((sec.drop 20).take 4)))]) rfl) ?_);rintro w H;replace H:=H.l6;refine Zc 4 rfl (Zl [5,4] H rfl ?_);subst hm2;exact ⟨_,.inl ⟨⟨hs,by omega,by omega,by omega,hall,by omega⟩,v,rfl,rfl⟩,H.perm 6 [2,4,1] rfl rfl⟩
 ·have H:=H'.l3;refine Za 3 [] H rfl ?_;intro b6 w H;refine Z4 14 [0] H rfl ?_;intro w H;refine Ac rfl (AF rfl rfl (out:=[Iv_ 0,Iv_ 0,.slice none 0 0,u32 0]) (by kernel_rfl)) (Z4 5 [3] H rfl ?_);intro w H;refine Zl [3,4] H rfl ?_;exact ⟨_,.inr ⟨by first|exact fun q=>hs q.1|(rintro ⟨q0,q1,q2,q3,q4,q5⟩;first|(exfalso;omega)|exact absurd (q4 i (by omega)) ‹_› |(rw[hm2] at q5;exact absurd q5 ‹_›)),rfl,rfl⟩,H.perm 4 [1,2] rfl rfl⟩
theorem Pk (pt b o c:Nat) (sec:List UInt8) (A:Ae) (hA:∀ h,A h→rdH 1 (.slice (some ⟨b,o,none⟩) 256 c) 256 (sec.map u8) h):Cn prog 134 [Pt_ pt,.slice (some ⟨b,o,none⟩) 256 c] [tblA pt,A] (fun v Γ=>(HF sec∧∃ g cap rest,v= .tuple #[Iv_ (A5 ((sec.drop 3).take 4)),Iv_ (A5 ((sec.drop 7).take 5)),.agg #[Iv_ (A5 ((sec.drop 1).take 2)),Iv_ (A5 (sec.take 1)),.slice (some ⟨g,0,none⟩) 240 cap],.bool true]∧(240≤cap∧cap≤9223372036854775807∧rest.length=cap - 240)∧Γ=[blk g (((sec.drop 12).take 240).map u8++rest) 5,tblA pt,A])∨(¬ HF sec∧v= .tuple #[Iv_ 0,Iv_ 0,.agg #[Iv_ 0,Iv_ 0,.slice none 0 0],.bool false]∧Γ=[tblA pt,A])):=by
 intro z R w H;replace H:=H.l2;have hsl:=H.says 1 rfl (fun h q=>(hA h q).len)
 have hcb:=H.says 1 rfl (fun h q=>(hA h q).cap)
 obtain ⟨c0,c1,c2,c3,hd⟩:=Mv hsl;refine Ad func134 rfl ntmps134 rfl (Za 4 [] H rfl ?_);intro b1 w H;refine Zc 5 rfl (AG (Sep z _) (by kernel_rfl) (by kernel_rfl) H.drew (Iy 9 [4] [] rfl (by kernel_rfl) (A6 rfl rfl rfl (BD rfl (z:=1) (p:=252) (q:=256) (o':=o+252) (l':=4) (c':=c - 252) (by kernel_rfl) rfl (.inr ⟨_,_,_,rfl,rfl,rfl⟩) (.inl ⟨rfl,rfl⟩) (by omega) (by omega) (by omega) (by omega) (by omega) (by omega)) (A6 rfl rfl rfl (KD (m:=4) rfl (by kernel_rfl) rfl (by omega)) (A6 rfl rfl rfl (BE rfl rfl (vs:=[u8 c0,u8 c1,u8 c2,u8 c3]) (by kernel_rfl) (fun _ hx=>hx.cell4 2 rfl hA hd)) (Br 2 [] rfl (by kernel_rfl) (A6 rfl rfl rfl (BD rfl (z:=1) (p:=0) (q:=252) (o':=o) (l':=252) (c':=c) (by kernel_rfl) rfl (.inl ⟨rfl,rfl⟩) (.inr ⟨_,_,_,rfl,rfl,rfl⟩) (by omega) (by omega) (by omega) (by omega) (by omega) (by omega)) (CJ rfl rfl rfl rfl rfl (fun w=>call157 _ w) (v:= .agg #[u8 ((AQ (sec.take 252)).toUInt8),u8 (((AQ (sec.take 252))>>>8).toUInt8),u8 (((AQ (sec.take 252))>>>16).toUInt8),u8 (((AQ (sec.take 252))>>>24).toUInt8)]) (cq (MI _ _ _ (sec.take 252) (by simp[hsl]) _ (fun h q=>(hA h q).pre (by omega) (by omega))) (by rintro _ _ ⟨rfl,rfl⟩;exact ⟨rfl,rfl⟩) 3 [1,2,0] [2,0,1] rfl rfl rfl rfl) (A6 rfl rfl rfl (NX rfl (by kernel_rfl) (by kernel_rfl) rfl rfl) (Br 1 [] rfl (by kernel_rfl) (AU (fun w H'=> ?_))))))))))));have H:=H'.l3;refine gn (Zc 1 rfl (Af rfl (fun h1=> ?_) (fun h1=> ?_)))
 ·refine Z4 10 [0] H rfl ?_;intro w H;refine Zl [0,3] H rfl ?_;exact ⟨_,.inr ⟨by rintro ⟨q1,q2,q3⟩;first|exact absurd (hd▸q1) ‹_› |(exfalso;omega),rfl,rfl⟩,H.perm 3 [1,2] rfl rfl⟩
 ·refine Zc 5 rfl (Ac rfl (BD rfl (z:=1) (p:=0) (q:=252) (o':=o) (l':=252) (c':=c) (by kernel_rfl) rfl (.inl ⟨rfl,rfl⟩) (.inr ⟨_,_,_,rfl,rfl,rfl⟩) (by omega) (by omega) (by omega) (by omega) (by omega) (by omega)) (Za 1 [] H rfl ?_));intro b2 w H;refine Z4 5 [0] H rfl ?_;intro w H;refine z_E_ rfl (call117 _) (C9 1 _ b o 252 c (sec.take 252) _ (fun h q=>(hA h q).pre (m:=252) (c':=c) (by omega) (by omega)) (by omega) (by omega) (sec.take 1) (by rw[List.take_take,Nat.min_eq_left (by omega)]) (o+1) 251 (c - 1) (by omega) (by omega) (by omega)) H.f3.f1 ?_;intro w H;replace H:=H.l4;refine z_E_ rfl (call117 _) (C9 2 _ b (o+1) 251 (c - 1) ((sec.drop 1).take 251) _ (fun h q=>(hA h q).cut (lo:=1) (m:=251) (c':=(c - 1)) (by omega) (by omega) (by omega)) (by omega) (by omega) ((sec.drop 1).take 2) (by rw[List.take_take,Nat.min_eq_left (by omega)]) (o+3) 249 (c - 3) (by omega) (by omega) (by omega)) H ?_;intro w H;replace H:=H.l4;refine z_E_ rfl (call117 _) (C9 4 _ b (o+3) 249 (c - 3) ((sec.drop 3).take 249) _ (fun h q=>(hA h q).cut (lo:=3) (m:=249) (c':=(c - 3)) (by omega) (by omega) (by omega)) (by omega) (by omega) ((sec.drop 3).take 4) (by rw[List.take_take,Nat.min_eq_left (by omega)]) (o+7) 245 (c - 7) (by omega) (by omega) (by omega)) H ?_;intro w H;replace H:=H.l4;refine z_E_ rfl (call117 _) (C9 5 _ b (o+7) 245 (c - 7) ((sec.drop 7).take 245) _ (fun h q=>(hA h q).cut (lo:=7) (m:=245) (c':=(c - 7)) (by omega) (by omega) (by omega)) (by omega) (by omega) ((sec.drop 7).take 5) (by rw[List.take_take,Nat.min_eq_left (by omega)]) (o+12) 240 (c - 12) (by omega) (by omega) (by omega)) H ?_
  intro w H;refine Z0 12 [0] rfl (Ak 41 rfl (fun h2=> ?_) (fun h2=> ?_))
  ·refine Z4 21 [2] H rfl ?_;intro w H;refine Zl [2,3] H rfl ?_;exact ⟨_,.inr ⟨by rintro ⟨q1,q2,q3⟩;first|exact absurd (hd▸q1) ‹_› |(exfalso;omega),rfl,rfl⟩,H.perm 4 [3,1] rfl rfl⟩
  ·refine Z0 4 [0] rfl (Ak 45 rfl (fun h3=> ?_) (fun h3=> ?_))
   ·refine Z4 17 [2] H rfl ?_;intro w H;refine Zl [2,3] H rfl ?_;exact ⟨_,.inr ⟨by rintro ⟨q1,q2,q3⟩;first|exact absurd (hd▸q1) ‹_› |(exfalso;omega),rfl,rfl⟩,H.perm 4 [3,1] rfl rfl⟩
   ·refine Zc 1 rfl (z_E_ rfl (call91 _) (Cv _ _) H ?_);intro w H;replace H:=H.l4;refine Ac rfl (Ax rfl rfl) (Zc 3 rfl (Af rfl (fun h4=> ?_) (fun h4=> ?_)))
    ·refine Z4 10 [2] H rfl ?_;intro w H;refine Zl [2,3] H rfl ?_;exact ⟨_,.inr ⟨by rintro ⟨q1,q2,q3⟩;first|exact absurd (hd▸q1) ‹_› |(exfalso;omega),rfl,rfl⟩,H.perm 4 [3,1] rfl rfl⟩
    ·refine Z2 10 [0,0,0] H rfl (Aw rfl (call114 _) (Ie _ _ 240 _ ((sec.drop 12).take 240) _ ((fun h q=>(hA h q).cut (lo:=12) (m:=240) (c':=(c - 12)) (by omega) (by omega) (by omega))) (by omega)) H.f1 ?_);rintro _ w _ ⟨g,cap,rest,rfl,⟨cg,cc,cl⟩,rfl⟩ H;refine Z4 9 [3] H rfl ?_;intro w H;refine Zl [3,3] H rfl ?_;exact ⟨_,.inl ⟨⟨by rw[hd];exact Decidable.of_not_not ‹_›,by omega,by omega⟩,g,cap,rest,rfl,⟨cg,cc,cl⟩,rfl⟩,H.perm 5 [0,4,1] rfl rfl⟩
open Go.RowKit
theorem GH (s:Sup) (n:Int) (hn:0≤n∧n≤1152921504606846976):Cn prog 86 [.agg #[Iv_ s.gen,Iv_ s.epoch,Iv_ s.pages,Iv_ s.start,Iv_ s.len,Iv_ s.head,Iv_ s.seq],Iv_ n] [] (fun v Γ=>v=Iv_ (if s.Ok n then 0 else 1)∧Γ=[]):=by
 intro z R w H;replace H:=H.l0;refine Ad func86 rfl ntmps86 rfl (Za 2 [] H rfl ?_);intro b1 w H;refine Z2 20 [0,0,0,1,0,0,2,0,0,3,0,0,4,0,0,5,0,0,6,0,0] H rfl (Ac rfl (AF rfl rfl (out:=[Iv_ s.gen,Iv_ s.epoch,Iv_ s.pages,Iv_ s.start,Iv_ s.len,Iv_ s.head,Iv_ s.seq]) (by kernel_rfl)) (Zc 4 rfl ?_));refine AJ (σ:=Nat) (fun k=>[(22,Iv_ (k:Int)),(1,Iv_ n),(2,Pt_ b1),(21,.agg #[Iv_ s.gen,Iv_ s.epoch,Iv_ s.pages,Iv_ s.start,Iv_ s.len,Iv_ s.head,Iv_ s.seq])])
   (fun k w=>Sep z (blk b1 [Iv_ s.gen,Iv_ s.epoch,Iv_ s.pages,Iv_ s.start,Iv_ s.len,Iv_ s.head,Iv_ s.seq] 103::R) w∧(k≤7∧∀ (j:Nat) (x:Int),j<k→s.list[j]? =some x→0≤x∧x≤1099511627776)) (fun k=>7 - k) 0
   (fun _ hF=>(hF.co rfl (by go_num) (hF.all rfl))) ⟨H,by omega,fun j x h=>by omega⟩ ?_
 clear H;rintro k w ⟨H',hI⟩;have H:=H'.l1;obtain ⟨hk7,hall⟩:=hI;refine Z0 6 [0] rfl (Af rfl (fun h1=> ?_) (fun h1=> ?_))
 ·refine Zc 6 rfl ?_;obtain ⟨x,hx⟩:∃ x,s.list[k]? =some x:=⟨_,List.getElem?_eq_getElem (by simp[Sup.list];omega)⟩;refine Ac rfl (LQ rfl (by kernel_rfl) rfl (l:=s.list) (j:=k) rfl rfl rfl rfl hx) (Z0 8 [0] rfl (Ak 27 rfl (fun h2=> ?_) (fun h2=> ?_)))
  ·refine Zc 12 rfl (Zr rfl ?_);have hok:¬ s.Ok n:=fun ⟨q,q1,q2,q3,q4,q5,q6,q7⟩=>by
     first |omega|(have:=q x (List.mem_of_getElem? hx);omega)
   exact ⟨_,⟨congrArg Iv_ (by rw[if_neg hok]),rfl⟩,H.perm 1 [] rfl rfl⟩
  ·refine Z0 5 [0] rfl (Af rfl (fun h3=> ?_) (fun h3=> ?_))
   ·refine Zc 6 rfl (Zr rfl ?_);have hok:¬ s.Ok n:=fun ⟨q,q1,q2,q3,q4,q5,q6,q7⟩=>by
      first |omega|(have:=q x (List.mem_of_getElem? hx);omega)
    exact ⟨_,⟨congrArg Iv_ (by rw[if_neg hok]),rfl⟩,H.perm 1 [] rfl rfl⟩
   ·refine Z1 7 [] [(k:Int)+1] rfl (by omega) (gf ?_);intro _ hF;refine ⟨(k+1),(hF.co rfl (by go_num) (hF.all rfl)),⟨H,?_⟩,?_⟩
    ·refine ⟨by omega,fun j y hj hy=> ?_⟩;rcases Nat.lt_or_ge j k with h|h
     ·exact hall j y h hy
     ·obtain rfl:j=k:=by omega
      rw[hx] at hy;cases hy;omega
    ·omega
 ·obtain rfl:k=7:=by omega
  have hg:=hall 0 s.gen (by omega) rfl
  have hp:=hall 2 s.pages (by omega) rfl
  have hs:=hall 3 s.start (by omega) rfl
  have hl:=hall 4 s.len (by omega) rfl
  have hh:=hall 5 s.head (by omega) rfl
  refine Zc 2 rfl (gx (Z2 9 [2,0,0,0] H rfl (Ak 35 rfl (fun h4=> ?_) (fun h4=> ?_))))
  ·refine Zc 48 rfl (Zr rfl ?_);have hok:¬ s.Ok n:=fun ⟨q,q1,q2,q3,q4,q5,q6,q7⟩=>by
     first |omega|(have:=q x (List.mem_of_getElem? hx);omega)
   exact ⟨_,⟨congrArg Iv_ (by rw[if_neg hok]),rfl⟩,H.perm 1 [] rfl rfl⟩
  ·refine Z2 5 [2,0,0,0] H rfl (Ak 40 rfl (fun h5=> ?_) (fun h5=> ?_))
   ·refine Zc 43 rfl (Zr rfl ?_);have hok:¬ s.Ok n:=fun ⟨q,q1,q2,q3,q4,q5,q6,q7⟩=>by
      first |omega|(have:=q x (List.mem_of_getElem? hx);omega)
    exact ⟨_,⟨congrArg Iv_ (by rw[if_neg hok]),rfl⟩,H.perm 1 [] rfl rfl⟩
   ·refine Z3 8 [3,0,0,2,0,0,0] [2+s.pages] H rfl (by omega) (Ak 48 rfl (fun h6=> ?_) (fun h6=> ?_))
    ·refine Zc 35 rfl (Zr rfl ?_);have hok:¬ s.Ok n:=fun ⟨q,q1,q2,q3,q4,q5,q6,q7⟩=>by
       first |omega|(have:=q x (List.mem_of_getElem? hx);omega)
     exact ⟨_,⟨congrArg Iv_ (by rw[if_neg hok]),rfl⟩,H.perm 1 [] rfl rfl⟩
    ·refine Z2 5 [4,0,0,0] H rfl (Ak 53 rfl (fun h7=> ?_) (fun h7=> ?_))
     ·refine Zc 30 rfl (Zr rfl ?_);have hok:¬ s.Ok n:=fun ⟨q,q1,q2,q3,q4,q5,q6,q7⟩=>by
        first |omega|(have:=q x (List.mem_of_getElem? hx);omega)
      exact ⟨_,⟨congrArg Iv_ (by rw[if_neg hok]),rfl⟩,H.perm 1 [] rfl rfl⟩
     ·refine Z3 9 [3,0,0,4,0,0,0] [n - s.len] H rfl (by omega) (Ak 62 rfl (fun h8=> ?_) (fun h8=> ?_))
      ·refine Zc 21 rfl (Zr rfl ?_);have hok:¬ s.Ok n:=fun ⟨q,q1,q2,q3,q4,q5,q6,q7⟩=>by
         first |omega|(have:=q x (List.mem_of_getElem? hx);omega)
       exact ⟨_,⟨congrArg Iv_ (by rw[if_neg hok]),rfl⟩,H.perm 1 [] rfl rfl⟩
      ·refine Z2 6 [4,0,0,0] H rfl (Ak 68 rfl (fun h9=> ?_) (fun h9=> ?_))
       ·refine Zc 15 rfl (Zr rfl ?_);have hok:¬ s.Ok n:=fun ⟨q,q1,q2,q3,q4,q5,q6,q7⟩=>by
          first |omega|(have:=q x (List.mem_of_getElem? hx);omega)
        exact ⟨_,⟨congrArg Iv_ (by rw[if_neg hok]),rfl⟩,H.perm 1 [] rfl rfl⟩
       ·refine Z2 8 [5,0,0,4,0,0,0] H rfl (Af rfl (fun h10=> ?_) (fun h10=> ?_))
        ·refine Zc 6 rfl (Zr rfl ?_);have hok:¬ s.Ok n:=fun ⟨q,q1,q2,q3,q4,q5,q6,q7⟩=>by
           first |omega|(have:=q x (List.mem_of_getElem? hx);omega)
         exact ⟨_,⟨congrArg Iv_ (by rw[if_neg hok]),rfl⟩,H.perm 1 [] rfl rfl⟩
        ·refine Zc 8 rfl (Zr rfl ?_);have hok:s.Ok n:=⟨fun x hx=>by
           obtain ⟨j,hj,rfl⟩:=List.mem_iff_getElem.1 hx
           exact hall j _ (by simp[Sup.list] at hj;omega) (List.getElem?_eq_getElem hj)
           ,by omega,by omega,by omega,by omega,by omega,by omega,by omega⟩
         exact ⟨_,⟨congrArg Iv_ (by rw[if_pos hok]),rfl⟩,H.perm 1 [] rfl rfl⟩
theorem QR (pl pd pt:Nat) (s:Sup) (at_ sq us:Int) (br nu:Bool) (hb: -9223372036854775808≤s.len - us∧s.len - us≤9223372036854775807):Cn prog 152 [Pt_ pl] [lgB pl pd pt s at_ sq us br nu] (fun v Γ=>v=Iv_ (if br then 0 else s.len - us)∧Γ=[lgB pl pd pt s at_ sq us br nu]):=by
 intro z R w H;replace H:=H.l1;refine Ad func152 rfl ntmps152 rfl (Z2 14 [12,0,0] H rfl (EQ rfl (fun h1=> ?_) (fun h1=> ?_)))
 ·refine Zc 6 rfl (Zr rfl ?_);exact ⟨_,⟨congrArg Iv_ (by simp_all),rfl⟩,H⟩
 ·refine Zc 3 rfl (AG (Sep z _) (by kernel_rfl) (by kernel_rfl) H.drew (Hl 11 [2,6,0,0,11,0,0] [s.len - us] rfl (by kernel_rfl) (by omega) (AU (fun w H'=> ?_))));have H:=H'.l1;refine gn (Zc 2 rfl (Zr rfl ?_));exact ⟨_,⟨congrArg Iv_ (by simp_all),rfl⟩,H⟩
theorem QS (pl pd pt:Nat) (s:Sup) (at_ sq us:Int) (br nu:Bool):Cn prog 153 [Pt_ pl] [lgB pl pd pt s at_ sq us br nu] (fun v Γ=>v= .tuple #[Iv_ at_,Iv_ sq]∧Γ=[lgB pl pd pt s at_ sq us br nu]):=by
 intro z R w H;replace H:=H.l1;refine Ad func153 rfl ntmps153 rfl (Zc 7 rfl (AG (Sep z _) (by kernel_rfl) (by kernel_rfl) H.drew (BF 10 [9,0,10,0] (fun _ hx=>(AK (hx.blk 0 rfl) AW)) rfl (by kernel_rfl) rfl (AU (fun w H'=> ?_)))));have H:=H'.l1;refine gn (Zc 2 rfl (Zr rfl ?_));exact ⟨_,⟨rfl,rfl⟩,H⟩
theorem QT (pl pd pt:Nat) (s:Sup) (at_ sq us:Int) (br nu:Bool):Cn prog 154 [Pt_ pl] [lgB pl pd pt s at_ sq us br nu] (fun v Γ=>v= .tuple #[]∧Γ=[lgB pl pd pt s at_ sq 0 false nu]):=by
 intro z R w H;replace H:=H.l1;refine Ad func154 rfl ntmps154 rfl (Z4 14 [11,0,12,0] H rfl ?_);intro w H;refine Zf rfl ?_;exact ⟨_,⟨rfl,rfl⟩,H⟩
theorem IU (pl pd pt:Nat) (s:Sup) (at_ sq us:Int) (br nu:Bool) (n:Int) (ha:0≤at_∧at_≤1099511627776) (hn:0≤n∧n≤1099511627776) (hl:0<s.len) (hs:0≤sq∧sq≤2199023255552) (hu:0≤us∧us≤2199023255552):Cn prog 97 [Pt_ pl,Iv_ n] [lgB pl pd pt s at_ sq us br nu] (fun v Γ=>v= .tuple #[]∧Γ=[lgB pl pd pt s ((at_+n) % s.len) (sq+1) (us+n) br nu]):=by
 intro z R w H;replace H:=H.l1;refine Ad func97 rfl ntmps97 rfl (Zc 1 rfl (BI 15 (by kernel_rfl) (by kernel_rfl) (Bc H fun w H'=> ?_)))
 have H:=H'.l1;refine Eg 15 [9,0,0,2,6,0,0,9] [at_+n,(at_+n) % s.len] H rfl (by kernel_rfl) (by omega) (Cy (gw (Z5 26 [0,10,0,0,10,0,11,0,0,11,0] [sq+1,us+n] H rfl (by omega) ?_)));intro w H;refine Zf rfl ?_;exact ⟨_,⟨rfl,rfl⟩,H⟩
theorem VA (pd bd m N:Nat) (f0 f1 f2 f3 lf:Int) (cut:Bool) (pt:Nat) (s:Sup) (hN:N≤1152921504606846976) (hok:s.Ok ((N:Int) / 256)):Cn prog 56 [Pt_ pd,Pt_ pt,.agg #[Iv_ s.gen,Iv_ s.epoch,Iv_ s.pages,Iv_ s.start,Iv_ s.len,Iv_ s.head,Iv_ s.seq]] [blk pd [.slice (some ⟨bd,0,none⟩) N N,.map (some m),Iv_ f0,Iv_ f1,Iv_ f2,Iv_ f3,.bool cut,Iv_ lf] 92] (fun v Γ=>(∃ pl,v=Pt_ pl∧Γ=[lgB pl pd pt s s.head s.seq 0 false (decide (s.epoch<4294967296)),blk pd [.slice (some ⟨bd,0,none⟩) N N,.map (some m),Iv_ f0,Iv_ f1,Iv_ f2,Iv_ f3,.bool cut,Iv_ lf] 92])):=by
 intro z R w H;replace H:=H.l1;refine Ad func56 rfl ntmps56 rfl (Za 2 [] H rfl ?_);intro b1 w H;refine Zc 5 rfl (AG (Sep z _) (by kernel_rfl) (by kernel_rfl) H.drew (Iy 9 [0,7] [] rfl (by kernel_rfl) (CJ rfl rfl rfl rfl rfl (fun w=>call87 _ w) (v:=Iv_ ((N:Int) / 256)) (cq (Ji _ _ _ _ _ _ _ _ _ _ (by omega)) (by rintro _ _ ⟨rfl,rfl⟩;exact ⟨rfl,rfl⟩) 2 [1,0] [1,0] rfl rfl rfl rfl) (CJ rfl rfl rfl rfl rfl (fun w=>call86 _ w) (v:=Iv_ (if s.Ok ((N:Int) / 256) then 0 else 1)) (cq (GH _ _ (by omega)) (by rintro _ _ ⟨rfl,rfl⟩;exact ⟨rfl,rfl⟩) 0 [] [] rfl rfl rfl rfl) (Br 2 [] rfl (by kernel_rfl) (AU (fun w H'=> ?_)))))));have H:=H'.l2;refine gn (Zc 1 rfl (Af rfl (fun h1=> ?_) (fun h1=> ?_)))
 ·exact absurd (if_pos hok) h1
 ·refine Z2 14 [0,7,5,0,0,6,0,0,1,0,0,0] H rfl (Ac rfl (AF rfl rfl (out:=[Pt_ pd,Pt_ pt,Iv_ s.gen,Iv_ s.epoch,Iv_ s.pages,Iv_ s.start,Iv_ s.len,Iv_ s.head,Iv_ s.seq,Iv_ s.head,Iv_ s.seq,Iv_ 0,.bool false,.bool (decide ((s.epoch:Int)<4294967296))]) (by kernel_rfl)) (Za 0 [] H rfl ?_));intro b2 w H;refine Zc 4 rfl (Zr rfl ?_);exact ⟨_,⟨b2,rfl,rfl⟩,H.perm 3 [0,2] rfl rfl⟩
open Go.RowKit
theorem QU (k:Nat):Cn prog 20 [Iv_ (k:Int)] [] (fun v Γ=>(¬ (1≤k∧k≤4096)∧v= .tuple #[.pointer none,Iv_ 1]∧Γ=[])∨((1≤k∧k≤4096)∧∃ pd,v= .tuple #[Pt_ pd,Iv_ 0]∧Γ=[diskA pd (B3 k)])):=by
 intro z R w H;replace H:=H.l0;refine Ad func20 rfl ntmps20 rfl (Z0 12 [0] rfl (Ak 6 rfl (fun h1=> ?_) (fun h1=> ?_)))
 ·refine Zc 13 rfl (Zr rfl ?_);exact ⟨_,.inl ⟨by omega,rfl,rfl⟩,H⟩
 ·refine Z0 5 [0] rfl (Af rfl (fun h2=> ?_) (fun h2=> ?_))
  ·refine Zc 7 rfl (Zr rfl ?_);exact ⟨_,.inl ⟨by omega,rfl,rfl⟩,H⟩
  ·refine Z1 6 [] [((k * 256:Nat):Int)] rfl (by omega) (AL rfl (DA (k:=(k * 256)) H rfl (by kernel_rfl) Cf rfl rfl rfl (by omega)) ?_);rintro _ w ⟨b1,rfl,H⟩;replace H:=H.l1;refine AL rfl (Fj H rfl) ?_;rintro _ w ⟨m2,rfl,H⟩;replace H:=H.l2;refine Ac rfl (AF rfl rfl (out:=[.slice (some ⟨b1,0,none⟩) (k * 256) (k * 256),.map (some m2),Iv_ 0,Iv_ 0,Iv_ 0,Iv_ 0,.bool false,Iv_ 0]) (by kernel_rfl)) (Za 0 [] H rfl ?_);intro b3 w H;refine Zc 5 rfl (Zr rfl ?_);replace H:=(Ph H).l4
   replace H:=(H.void (B:=seps (([]:List Ent).map Ent.row)) (fun h=>⟨fun _=>0,fun i A e=>by cases e⟩)).l5
   have hbs:List.replicate (k * 256) (u8 0)=(List.replicate (k * 256) (0:UInt8)).map u8:=by simp
   rw[hbs] at H;have H:Sep z (seps (([]:List Ent).map Ent.row)::poolA (fun _=>none)::blk b3 [.slice (some ⟨b1,0,none⟩) (k * 256) (k * 256),.map (some m2),Iv_ 0,Iv_ 0,Iv_ 0,Iv_ 0,.bool false,Iv_ 0] 92::Ay m2 (([]:List Ent).map Ent.ie) 0::blk b1 ((List.replicate (k * 256) (0:UInt8)).map u8) 5::R) w:=H
   replace H:=H.f1.f3.f4.f4;replace H:=(Sep.toDisk (D:=B3 k) (pd:=b3) (bd:=b1) (m:=m2) (f0:=0) (bs:=(List.replicate (k * 256) 0)) (es:=([]:List Ent)) (clk:=0) (hq:=(fun _=>none)) (Γ:=R) H (Vq (by omega)) Vr).l1
   exact ⟨_,.inr ⟨by omega,b3,rfl,rfl⟩,H⟩
theorem Oi (pl pd pt:Nat) (s:Sup) (at_ sq us:Int) (br nu:Bool) (x:Int) (D:Dsk) (hf1:D.f1=0) (hr:0≤s.start∧0<s.len∧s.start+s.len≤D.n) (hx:0≤x∧x≤1152921504606846976) (sec:List UInt8) (hsec:D.cont (ringAt s x)=sec):Cn prog 131 [Pt_ pl,Iv_ x] [lgB pl pd pt s at_ sq us br nu,diskA pd D] (fun v Γ=>(∃ g cap rest,v= .tuple #[.slice (some ⟨g,0,none⟩) 256 cap,Iv_ 0]∧(256≤cap∧cap≤9223372036854775807∧rest.length=cap - 256)∧Γ=[blk g (sec.map u8++rest) 5,lgB pl pd pt s at_ sq us br nu,diskA pd D])):=by
 intro z R w H;replace H:=H.l2;have hn2:=H.says 1 rfl (fun h q=>(diskA.ok q).n2)
 have hm1:=Int.emod_nonneg x (by omega:s.len≠0)
 have hm2:=Int.emod_lt_of_pos x (by omega:0<s.len)
 refine Ad func131 rfl ntmps131 rfl (Zc 7 rfl (AI (Sep z (lgB pl pd pt s at_ sq us br nu::diskA pd D::R)) 22 rfl (by kernel_rfl) (Bc H fun w H'=> ?_)))
 have H:=H'.l2;refine Iz [0,1,2,3,4,5,6,7,8,9,10,11,12,13,14,15,16] [0,0,0,2,5,0,0,2,6,0,0] [x % s.len,s.start+(x % s.len)] H rfl (by kernel_rfl) (by omega) rfl (Av [17] (by kernel_rfl) (by simp) (Au (BL rfl rfl rfl rfl rfl rfl (fun w=>call75 _ w) (HJ _ _ _) H.f1 rfl ?_)));rintro _ w _ (⟨hn,rfl,rfl⟩|⟨_,hf,_⟩|⟨_,_,g,cap,rest,rfl,⟨cg,cc,cl⟩,rfl⟩) H'
 ·exact absurd ⟨by omega,by omega⟩ hn
 ·exact absurd hf (by omega)
 ·rw[diskA.f1 hf1] at H';have H:=H'.l3;refine Ap (H.pick 3 [2,1] rfl) (AM [18,19,20,21] [] [] (by exact (H.pick 3 [2,1] rfl)) rfl (by kernel_rfl) rfl (a_done (by kernel_rfl) (gn (Zc 2 rfl (Zr rfl ?_)))));subst hsec;exact ⟨_,⟨g,cap,rest,rfl,⟨cg,cc,cl⟩,rfl⟩,H.perm 3 [0,2,1] rfl rfl⟩
end Go.Proofs.YtjegbnfpodadcaaGreatDoor
