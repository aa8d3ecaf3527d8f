/-
  Steps to: No page that is in use is taken, none twice No condition.
-/
import Derived.Test.YthbbejpbkglmlaaGreatDoorCards
import Derived.Test.YthbbejpbkglmlaaGreatDoorTie
import Derived.WalkKit
import Derived.WalkSpells
import Derived.Deep.Quiet
import Derived.KernelRfl
import Derived.IntWalk
import Derived.Maps.AppendAt
import Derived.Laws.AppendOwnNone
import Derived.Laws.CopyRow
import Derived.StillTail
import Derived.Deep.RegionHeld
import Derived.Laws.IdiomStrings
import Derived.Laws.BytesArg
import Derived.Laws.OwnMore
import Derived.Lib.Strings
import Derived.ArgAppend
import Derived.RangeFuncLeaves
import Derived.RangeFuncRecord
import Derived.RangeFuncCalls
import Derived.RangeFuncSeq
import Derived.OrdersIn
import Derived.TacticsIn
import Derived.Laws.IdiomRangeMap
import Derived.Defers
import Derived.Laws.LoneSync
import Derived.LoopN
import Derived.Test.YthbbejpbkglmlaaGreatDoorRows
import Derived.Test.YthbbejpbkglmlaaGreatDoorProg
import Derived.Shelf.Sort.Plain
import Derived.Shelf.Slices.In.SortNone
import Derived.Lib.TrailingZeros
import Derived.DataReads
import Derived.ProofKit
import Derived.OpenShut
import Derived.Lib.SmallJoins
import Derived.Deep.DeepHandedRow
import Derived.Lib.LaidTab
set_option maxRecDepth 100000
set_option linter.unusedSimpArgs false
set_option linter.unusedVariables false
open Go.Proofs.Tryz
namespace Go.Proofs.YthbbejpbkglmlaaGreatDoor
open Go.RowKit
section
theorem Z{α : Sort _}{a : α}: a=a := rfl
theorem U {p : Prop} (h : p := by omega) : p := h
theorem J {p : Prop} (h : p := by kernel_rfl) : p := h
theorem O {p : Prop} (h : p := by simp) : p := h
abbrev AbE:=@List.getElem?_eq_some_iff
abbrev AbF:=@List.getElem?_eq_getElem
abbrev AbG:=@List.mem_of_getElem?
abbrev AbH:=@List.length_append
abbrev AbI:=@List.length_cons
abbrev AbJ:=@List.take_of_length_le
abbrev AbK:=@List.append_assoc
abbrev AbL:=@Option.some.injEq
abbrev AbM:=@List.length_take
abbrev AbN:=@List.length_map
abbrev AbO:=@List.length_nil
abbrev AbP:=@List.mem_map
abbrev AbQ:=@List.length_replicate
abbrev AbR:=@List.take_append_of_le_length
abbrev AbS:=@Result.andThen_ok
abbrev AbT:=@List.getElem?_append_right
abbrev AbU:=@List.getElem?_append_left
abbrev AbV:=@Nat.zero_le
abbrev AbW:=@Sem.run_bind
abbrev AbX:=@Nat.lt_or_ge
abbrev AbY:=@List.getElem?_map
abbrev AbZ:=@List.take_add_one
abbrev Ab0:=@Bool.eq_iff_iff
abbrev Ab1:=@List.drop_zero
abbrev Ab2:=@Sem.run_pure
abbrev Ab3:=@List.nil_append
abbrev Ab4:=@List.getElem?_cons_succ
abbrev Ab5:=@List.getElem?_eq_none
abbrev Ab6:=@List.drop_of_length_le
abbrev Ab7:=@List.map_append
abbrev Ab8:=@Bool.and_eq_true
abbrev Ab9:=@Nat.le_refl
abbrev Aca:=@List.map_cons
abbrev Acb:=@List.mem_cons
abbrev Acc:=@List.length_drop
abbrev Acd:=@List.mem_append
abbrev Ace:=@List.drop_append_of_le_length
abbrev Acf:=@Option.map_some
abbrev Acg:=@Int.toNat_natCast
abbrev Ach:=@List.map_toArray
abbrev Aci:=@List.getElem?_cons_zero
abbrev Acj:=@Array.getElem?_eq_none
abbrev Ack:=@List.getElem?_of_mem
abbrev Acl:=@List.flatMap_cons
abbrev Acm:=@Nat.min_eq_left
abbrev Acn:=@List.getElem?_take
abbrev Aco:=@List.drop_append
abbrev Acp:=@Option.isSome_iff_exists
abbrev Acq:=@List.take_take
abbrev Acr:=@List.mem_of_mem_take
abbrev Acs:=@List.take_left'
abbrev Acu:=@List.mem_singleton
abbrev Acv:=@Array.getElem?_eq_some_iff
abbrev Acw:=@List.append_nil
abbrev Acx:=@List.drop_succ_cons
abbrev Acy:=@List.take_succ_cons
abbrev Acz:=@List.mem_map_of_mem
abbrev AcA:=@List.getElem?_toArray
abbrev AcB:=@List.take_length
abbrev AcC:=@List.take_append_drop
abbrev AcD:=@Nat.mul_one
abbrev AcE:=@List.getElem?_set
abbrev AcF:=@List.ext_getElem?
abbrev AcG:=@Int.emod_eq_of_lt
abbrev AcH:=@List.getElem?_drop
abbrev AcI:=@Bool.false_eq_true
abbrev AcJ:=@List.getElem?_set_self
abbrev AcK:=@List.set_eq_take_append_cons_drop
abbrev AcL:=@List.mem_range
abbrev AcM:=@Option.map_none
abbrev AcN:=@Nat.mod_eq_of_lt
abbrev AcO:=@Nat.le_of_eq
abbrev AcP:=@List.map_nil
abbrev AcQ:=@Classical.byContradiction
abbrev AcR:=@List.pairwise_map
abbrev AcS:=@Nat.eq_of_beq_eq_true
abbrev AcT:=@IntWalk.i64_in
abbrev AcU:=@Int.emod_lt_of_pos
abbrev AcV:=@Nat.add_sub_cancel_left
abbrev AcW:=@Nat.zero_add
abbrev AcX:=@Array.getElem?_setIfInBounds_ne
abbrev AcY:=@List.nodup_append
abbrev AcZ:=@List.nodup_cons
abbrev Ac0:=@Nat.shiftRight_eq_div_pow
abbrev Ac1:=@List.getElem_mem
abbrev Ac2:=@List.pairwise_cons
abbrev Ac3:=@List.take_zero
abbrev Ac4:=@List.foldl_append
abbrev Ac5:=@List.range_succ
abbrev Ac6:=@List.toList_toArray
abbrev Ac7:=@List.map_map
abbrev Ac8:=@Nat.add_assoc
abbrev Ac9:=@List.cons_append
abbrev Ada:=@Ne.symm
abbrev Adb:=@Array.getElem?_modify
abbrev Adc:=@List.singleton_append
abbrev Add:=@List.drop_eq_getElem_cons
abbrev Ade:=@Nat.mul_le_mul_right
abbrev Adf:=@List.mem_iff_getElem
abbrev Adg:=@Int.emod_nonneg
abbrev Adh:=@List.mem_cons_of_mem
abbrev Adi:=@BitVec.toNat_ushiftRight
abbrev Adj:=@Nat.lt_trichotomy
abbrev Adk:=@List.flatten_cons
abbrev Adl:=@List.length_eq_zero_iff
abbrev Adm:=@List.map_congr_left
abbrev Adn:=@UInt32.toNat_inj
abbrev Ado:=@BitVec.toNat_and
abbrev Adp:=@List.getElem?_eraseIdx
abbrev Adq:=@Option.map_eq_some_iff
abbrev Adr:=@List.map_replicate
abbrev Ads:=@Nat.eq_zero_or_pos
abbrev Adt:=@List.map_take
abbrev Adu:=@List.mem_of_mem_drop
abbrev Adv:=@List.pairwise_iff_getElem
abbrev Adw:=@Nat.mul_add
abbrev Adx:=@UInt32.xor_assoc
abbrev Ady:=@Nat.add_comm
abbrev Adz:=@Nat.lt_of_not_le
abbrev AdA:=@Nat.mul_le_mul_left
abbrev AdB:=@List.drop_replicate
abbrev AdC:=@Int.eq_ofNat_of_zero_le
abbrev AdD:=@List.cons.injEq
abbrev AdE:=@List.drop_left'
abbrev AdF:=@Nat.ne_of_beq_eq_false
abbrev AdG:=@List.eq_nil_of_length_eq_zero
abbrev AdH:=@List.length_range
abbrev AdI:=@List.drop_take
abbrev AdJ:=@List.length_singleton
abbrev AdK:=@List.take_append
abbrev AdL:=@List.mem_flatMap
abbrev AdM:=@Decidable.of_not_not
abbrev AdN:=@Nat.add_mul_div_left
abbrev AdO:=@Nat.div_eq_of_lt
abbrev AdP:=@BitVec.toNat_add
abbrev AdQ:=@Int.tmod_eq_emod_of_nonneg
abbrev AdR:=@Function.comp_apply
abbrev AdS:=@Oper.upon_value
abbrev AdT:=@Array.getElem?_eq_getElem
abbrev AdU:=@UInt8.toNat_inj
abbrev AdV:=@Option.some.inj
abbrev AdW:=@Nat.add_mul_mod_self_left
abbrev AdX:=@Nat.two_pow_pos
abbrev AdY:=@Bool.false_ne_true
abbrev AdZ:=@Nat.le_trans
abbrev Ad0:=@BitVec.getLsbD_and
abbrev Ad1:=@BitVec.getLsbD_xor
abbrev Ad2:=@List.set_set
abbrev Ad3:=@List.filter_append
abbrev Ad4:=@DataW.trod_int
abbrev Ad5:=@BitVec.eq_of_getLsbD_eq
abbrev Ad6:=@Go.WideShapes.add_plain
abbrev Ad7:=@Decidable.not_not
abbrev Ad8:=@Option.bind_some
abbrev Ad9:=@List.all_eq_true
abbrev Aea:=@List.ext_getElem
abbrev Aeb:=@BitVec.getLsbD_twoPow
abbrev Aec:=@BitVec.eq_of_toNat_eq
abbrev Aed:=@Calls.mono
abbrev Aee:=@Nat.add_zero
abbrev Aef:=@List.getElem?_set_ne
abbrev Aeg:=@BitVec.ofInt_natCast
abbrev Aeh:=@Nat.mul_zero
abbrev Aei:=@List.mem_filter
abbrev Aej:=@BitVec.getLsbD_of_ge
abbrev Aek:=@Nat.and_two_pow_sub_one_eq_mod
abbrev Ael:=@Array.getElem?_push
abbrev Aem:=@UInt32.toBitVec_xor
abbrev Aen:=@List.find?_eq_none
abbrev Aeo:=@List.perm_append_comm_assoc
abbrev Aep:=@Int.tmod_lt_of_pos
abbrev Aeq:=@Array.getElem?_append_left
abbrev Aer:=@Prod.mk.injEq
abbrev Aes:=@Int.tdiv_eq_ediv_of_nonneg
abbrev Aet:=@Addr.mk.injEq
abbrev Aeu:=@List.map_drop
abbrev Aev:=@UInt32.toBitVec_shiftRight
abbrev Aew:=@Int.emod_add_emod
abbrev Aex:=@Int.shiftRight_eq_div_pow
abbrev Aey:=@List.getLast?_eq_getElem?
abbrev Aez:=@List.mem_take_iff_getElem
abbrev AeA:=@List.any_eq_true
abbrev AeB:=@UInt32.toNat_and
abbrev AeC:=@List.getElem_map
abbrev AeD:=@List.map_set
abbrev AeE:=@Nat.sub_self
abbrev AeF:=@Int.add_zero
abbrev AeG:=@Option.getD_some
abbrev AeH:=@Oper.upon_enter
abbrev AeI:=@Nat.mul_eq_zero
abbrev AeJ:=@UInt32.xor_self
abbrev AeK:=@UInt32.zero_xor
abbrev AeL:=@List.map_const'
abbrev AeM:=@Int.tmod_nonneg
abbrev AeN:=@List.Perm.cons
abbrev Aa(x:Int):Value:=.int .i64 x
abbrev V (b:Nat):Value:=.pointer (some ⟨b,0,none⟩)
def Cf:List (Nat×Value)->Nat->Option Value
 | [],_=>none
 | (t,v)::l,k=>bif Nat.beq t k then some v else Cf l k
theorem YM{d t:Nat}(h:d≠t):Nat.beq d t=false:=by
 cases hb:Nat.beq d t with
 | false=>rfl
 | true=>exact absurd (AcS hb) h
structure Fr(n:Nat)(ds:List Deferred)(L:List (Nat×Value))(a:Act):Prop where
 size:a.tmps.size=n
 defers:a.defers=ds
 get:∀t v,Cf L t=some v->a.tmps[t]?=some v
theorem Fr.put{n:Nat}{ds:List Deferred}{L:List (Nat×Value)}{a:Act}(h:Fr n ds L a)(d:Nat)(v:Value)(f:Nat.blt d n=true):Fr n ds ((d,v)::L) (a.put (some d) v):=by
 have c:d<n:=by simpa using f
 refine ⟨by simp[Act.put,h.size],by simp[Act.put,h.defers],λt u b=>?_⟩;simp only[Cf] at b;by_cases e:d=t
 ·subst e
  have:Nat.beq d d=true:=by simp
  rw[this] at b;simp only[cond_true,AbL] at b;subst b;simp[Act.put,h.size,c]
 rw[YM e] at b;simp only[cond_false] at b;simp[Act.put,AcX e,h.get t u b]
theorem Fr.nil{n:Nat}{ds:List Deferred}{L:List (Nat×Value)}{a:Act}(h:Fr n ds L a):Fr n ds [] a:=⟨h.size,h.defers,λt v b=>by simp[Cf] at b⟩
theorem Fr.cons{n:Nat}{ds:List Deferred}{L L':List (Nat×Value)}{a:Act}(h:Fr n ds L a)(h':Fr n ds L' a)(t:Nat)(v u:Value)(b:Cf L t=some u)(e:u=v):Fr n ds ((t,v)::L') a:=by
 refine ⟨h.size,h.defers,λs x hs=>?_⟩;simp only[Cf] at hs
 cases hb:Nat.beq t s with
 | true=>rw[hb] at hs;simp at hb;subst hb;simp at hs;subst hs;subst e;exact h.get t u b
 | false=>rw[hb] at hs;exact h'.get s x (by simpa using hs)
theorem Fr.co{n:Nat}{ds:List Deferred}{L L':List (Nat×Value)}{a:Act}{t:Nat}{v u:Value}(h:Fr n ds L a)(b:Cf L t=some u)(e:u=v)(h':Fr n ds L' a):Fr n ds ((t,v)::L') a:=h.cons h' t v u b e
theorem Fr.all{n:Nat}{ds:List Deferred}{L:List (Nat×Value)}{a:Act}(h:Fr n ds L a):∀{L':List (Nat×Value)},L'.map (λe=>Cf L e.1)=L'.map (λe=>some e.2)->Fr n ds L' a
 | [],_=>h.nil
 | e::L',q=>by
  simp only[Aca,AdD] at q;exact h.cons (h.all q.2) e.1 e.2 e.2 q.1 Z
theorem Fr.cz{n:Nat}{ds:List Deferred}{L L':List (Nat×Value)}{a:Act}{t:Nat}{v u:Value}(h:Fr n ds L a)(b:Cf L t=some u:=by exact Z)(e:u=v:=by go_num)(q:L'.map (λe=>Cf L e.1)=L'.map (λe=>some e.2):=by exact Z):Fr n ds ((t,v)::L') a:=h.co b e (h.all q)
theorem fr_z {n:Nat} {ds:List Deferred} {L L':List (Nat×Value)} {t:Nat} {v u:Value} (b:Cf L t=some u:=by exact Z) (e:u=v:=by go_num) (q:L'.map (λe=>Cf L e.1)=L'.map (λe=>some e.2):=by exact Z):∀a,Fr n ds L a->Fr n ds ((t,v)::L') a:=λ_ h=>h.co b e (h.all q)
theorem Fr.upd{n:Nat}{ds:List Deferred}{L:List (Nat×Value)}{a:Act}(h:Fr n ds L a)(t:Nat){v u:Value}(b:Cf L t=some u)(e:u=v):Fr n ds ((t,v)::L) a:=h.cons h t v u b e
def ev(L:List (Nat×Value)):Operand->Option Value
 | .tmp t=>Cf L t
 | .const v=>some v
 | .global g=>some (.pointer (some ⟨g,0,none⟩))
 | .func f=>some (.func (.func f) #[] #[])
theorem Fr.ev{n:Nat}{ds:List Deferred}{L:List (Nat×Value)}{a:Act}(h:Fr n ds L a){x:Operand}{v:Value}(b:ev L x=some v):a.eval x=v:=by
 cases x with
 | tmp t=>simp only[YthbbejpbkglmlaaGreatDoor.ev] at b;simp[Act.eval,h.get t v b]
 | const u=>simp only[YthbbejpbkglmlaaGreatDoor.ev,AbL] at b;simp[Act.eval,b]
 | global g=>simp only[YthbbejpbkglmlaaGreatDoor.ev,AbL] at b;simp[Act.eval,b]
 | func f=>simp only[YthbbejpbkglmlaaGreatDoor.ev,AbL] at b;simp[Act.eval,b]
def evs(L:List (Nat×Value)):List Operand->Option (List Value)
 | []=>some []
 | x::xs=>match YthbbejpbkglmlaaGreatDoor.ev L x,evs L xs with
  | some v,some vs=>some (v::vs)
  | _,_=>none
theorem Fr.evs{n:Nat}{ds:List Deferred}{L:List (Nat×Value)}{a:Act}(h:Fr n ds L a):∀{xs:List Operand} {vs:List Value},evs L xs=some vs->xs.map a.eval=vs
 | [],vs,e=>by simp only[YthbbejpbkglmlaaGreatDoor.evs,AbL] at e;subst e;rfl
 | x::xs,vs,e=>by
  simp only[YthbbejpbkglmlaaGreatDoor.evs] at e
  cases h1:YthbbejpbkglmlaaGreatDoor.ev L x with
  | none=>rw[h1] at e;cases e
  | some v=>
   cases h2:YthbbejpbkglmlaaGreatDoor.evs L xs with
   | none=>rw[h1,h2] at e;cases e
   | some us=>
    rw[h1,h2] at e;simp only[AbL] at e;subst e;simp[h.ev h1,h.evs h2]
def first:Nat->List Value->List (Nat×Value)
 | _,[]=>[]
 | k,v::vs=>(k,v)::first (k+1) vs
theorem JH:∀(vs:List Value) (k t:Nat) (v:Value),Cf (first k vs) t=some v->k<=t/\vs[t-k]?=some v
 | [],_,_,_,h=>by simp[first,Cf] at h
 | u::us,k,t,v,h=>by
  simp only[first,Cf] at h
  cases hb:Nat.beq k t with
  | true=>rw[hb] at h;simp at hb h;subst hb;subst h;simp
  | false=>
   rw[hb] at h;have:=JH us (k+1) t v (by simpa using h);refine ⟨by omega,?_⟩;rw[show t-k=(t-(k+1))+1 from by omega];simpa using this.2
theorem Fr.start(args:List Value)(n:Nat)(h:args.length<=n):Fr n [] (first 0 args) {tmps:=args.toArray++Array.replicate (n-args.toArray.size) undef,defers:=[]} :=by
 refine ⟨by simp;omega,Z,λt v b=>?_⟩;have:=(JH args 0 t v b).2;simp only[Nat.sub_zero] at this;have a:t<args.length:=by
  rcases AbX t args.length with h|h
  ·exact h
  rw[Ab5 h] at this;cases this
 rw[Aeq (by simpa using a)];simpa using this

def Qp(N:Act->World->Prop)(X:Nat->Act->World->Prop)(R:Act->World->Prop):Exit->Act->World->Prop
 | .normal,a,w=>N a w
 | .exit id,a,w=>X id a w
 | .ret,a,w=>R a w
 | _,_,_=>False
def HL:Nat->Act->World->Prop:=λ_ _ _=>False
def upd(X:Nat->Act->World->Prop)(id:Nat)(N:Act->World->Prop):Nat->Act->World->Prop:=λj a w=>if j=id then N a w else X j a w
section
variable{P:Program}{N R:Act->World->Prop}{X:Nat->Act->World->Prop}{a:Act}{w:World}
theorem Aaz{x y:Code}(h:x.wp P (Qp (λa w=>y.wp P (Qp N X R) a w) X R) a w):(Code.seq x y).wp P (Qp N X R) a w:=
 wp_seq (wp_mono h λe a w q=>by cases e<;>exact q)
theorem YN(h:N a w):Code.skip.wp P (Qp N X R) a w:=wp_skip h
theorem YO{id:Nat}(h:X id a w):(Code.exit id).wp P (Qp N X R) a w:=wp_exit h
theorem AaA(h:R a w):Code.ret.wp P (Qp N X R) a w:=wp_ret h
theorem Wr{id:Nat}{c:Code}(h:c.wp P (Qp N (upd X id N) R) a w):(Code.block id c).wp P (Qp N X R) a w:=
 wp_block (wp_mono h λe a w q=>by
  cases e<;>exact q)
theorem YP{id:Nat}(h:N a w):upd X id N id a w:=by simp only[upd,if_true];exact h
theorem AaB{id j:Nat}{M:Act->World->Prop}(b:Nat.beq j id=false)(h:X j a w):upd X id M j a w:=by
 have:j≠id:=AdF b;simp only[upd,if_neg this];exact h
theorem Qt{n:Nat}{ds:List Deferred}{L:List (Nat×Value)}(b:Fr n ds L a){c:Operand}{x y:Code}(d:ev L c=some (.bool true))(h:x.wp P (Qp N X R) a w):(Code.cond c x y).wp P (Qp N X R) a w:=wp_cond_true (b.ev d) h
theorem Oa{n:Nat}{ds:List Deferred}{L:List (Nat×Value)}(b:Fr n ds L a){c:Operand}{x y:Code}(d:ev L c=some (.bool false))(h:y.wp P (Qp N X R) a w):(Code.cond c x y).wp P (Qp N X R) a w:=wp_cond_false (b.ev d) h
theorem Qu{n:Nat}{ds:List Deferred}{L:List (Nat×Value)}(d:Fr n ds L a){c:Operand}{x y:Code}{b:Bool}(e:ev L c=some (.bool b))(g:b=true->x.wp P (Qp N X R) a w)(f:b=false->y.wp P (Qp N X R) a w):(Code.cond c x y).wp P (Qp N X R) a w:=by
 cases b with
 | true=>exact Qt d e (g Z)
 | false=>exact Oa d e (f Z)
theorem AaC{n:Nat}{ds:List Deferred}{L:List (Nat×Value)}(b:Fr n ds L a){c:Operand}{x y:Code}{p:Prop}[hp:Decidable p](f:ev L c=some (.bool (decide p)))(d:p->x.wp P (Qp N X R) a w)(e:¬p->y.wp P (Qp N X R) a w):(Code.cond c x y).wp P (Qp N X R) a w:=
 Qu b f (λh=>d (of_decide_eq_true h)) (λh=>e (of_decide_eq_false h))

section framed
variable{n:Nat}{ds:List Deferred}{L:List (Nat×Value)}
theorem AV{x y:Code}(h:∀a,Fr n ds L a->x.wp P (Qp (λa w=>y.wp P (Qp N X R) a w) X R) a w):∀a,Fr n ds L a->(Code.seq x y).wp P (Qp N X R) a w:=λa b=>Aaz (h a b)
theorem Dw(h:∀a,Fr n ds L a->N a w):∀a,Fr n ds L a->Code.skip.wp P (Qp N X R) a w:=λa b=>YN (h a b)
theorem Qw{id:Nat}(h:∀a,Fr n ds L a->X id a w):∀a,Fr n ds L a->(Code.exit id).wp P (Qp N X R) a w:=λa b=>YO (h a b)
theorem EA(h:∀a,Fr n ds L a->R a w):∀a,Fr n ds L a->Code.ret.wp P (Qp N X R) a w:=λa b=>AaA (h a b)
theorem Fm{id:Nat}{c:Code}(h:∀a,Fr n ds L a->c.wp P (Qp N (upd X id N) R) a w):∀a,Fr n ds L a->(Code.block id c).wp P (Qp N X R) a w:=λa b=>Wr (h a b)
theorem HP{id:Nat}(h:∀a,Fr n ds L a->N a w):∀a,Fr n ds L a->upd X id N id a w:=λa b=>YP (h a b)
theorem AaD{id j:Nat}{M:Act->World->Prop}(b:Nat.beq j id=false)(h:∀a,Fr n ds L a->X j a w):∀a,Fr n ds L a->upd X id M j a w:=λa c=>AaB b (h a c)
theorem Qx{c:Operand}{x y:Code}(d:ev L c=some (.bool true))(h:∀a,Fr n ds L a->x.wp P (Qp N X R) a w):∀a,Fr n ds L a->(Code.cond c x y).wp P (Qp N X R) a w:=λa b=>Qt b d (h a b)
theorem EP{c:Operand}{x y:Code}(d:ev L c=some (.bool false))(h:∀a,Fr n ds L a->y.wp P (Qp N X R) a w):∀a,Fr n ds L a->(Code.cond c x y).wp P (Qp N X R) a w:=λa b=>Oa b d (h a b)
theorem Qy{c:Operand}{x y:Code}{b:Bool}(e:ev L c=some (.bool b))(f:b=true->∀a,Fr n ds L a->x.wp P (Qp N X R) a w)(g:b=false->∀a,Fr n ds L a->y.wp P (Qp N X R) a w):∀a,Fr n ds L a->(Code.cond c x y).wp P (Qp N X R) a w:=
 λa d=>Qu d e (λh=>f h a d) (λh=>g h a d)
theorem FY{c:Operand}{x y:Code}{p:Prop}[hp:Decidable p](d:ev L c=some (.bool (decide p)))(e:p->∀a,Fr n ds L a->x.wp P (Qp N X R) a w)(f:¬p->∀a,Fr n ds L a->y.wp P (Qp N X R) a w):∀a,Fr n ds L a->(Code.cond c x y).wp P (Qp N X R) a w:=
 λa b=>AaC b d (λh=>e h a b) (λh=>f h a b)
end framed
theorem Qz{n:Nat}{ds:List Deferred}{L:List (Nat×Value)}{c:Code}{σ:Type}(h:σ->List (Nat×Value))(G:σ->World->Prop)(m:σ->Nat)(q:σ)
  (h₀:∀a,Fr n ds L a->Fr n ds (h q) a)(g₀:G q w)
  (f:∀s w,G s w->∀a,Fr n ds (h s) a->c.wp P (Qp (λa' w'=>∃t,Fr n ds (h t) a'/\G t w'/\m t<m s) X R) a w):∀a,Fr n ds L a->(Code.loop c).wp P (Qp N X R) a w:=by
 intro a hF b k cs;have u:∀n' s a w,m s=n'->Fr n ds (h s) a->G s w->
   ∃e a' w',Qp N X R e a' w'/\Arrives P (lone (b.at a (.code c:: .inLoop c::k)) cs w) b k cs e a' w':=by
  intro n'
  induction n' using Nat.strongRecOn with
  | _ n' ih=>
   intro s a w z hI hG;obtain ⟨e,o,i,hq,d⟩:=f s w hG a hI b (.inLoop c::k) cs
   cases e with
   | normal=>
    obtain ⟨y,j,r,v⟩:=hq;obtain ⟨e₂,a₂,w₂,p,g⟩:=ih (m y) (z▸v) y o i Z j r;exact ⟨e₂,a₂,w₂,p,.of_steps (Steps.trans d (.one step_inLoop)) g⟩
   | exit id=>exact ⟨.exit id,o,i,hq,.pass (x:=.inLoop c) Z (λ_ _=>.inl O) d⟩
   | ret=>exact ⟨.ret,o,i,hq,.pass (x:=.inLoop c) Z (λ_ _=>.inl O) d⟩
   | goto l=>exact hq.elim
   | panic ch=>exact hq.elim
   | outgrown=>exact hq.elim
 obtain ⟨e,a',w',hq,d⟩:=u _ q a w Z (h₀ a hF) g₀;exact ⟨e,a',w',hq,.of_steps (.one step_loop) d⟩
end
def Ret(R:Value->World->Prop):Ending->World->Prop
 | .returned v,w=>R v w
 | _,_=>False
theorem Ret.mono{P:Program}{f:FuncId}{args:Array Value}{w:World}{R R':Value->World->Prop}(h:Calls P f args w (Ret R))(a:∀v w',R v w'->R' v w'):Calls P f args w (Ret R'):=
 Aed h λe w' q=>by cases e<;>first|exact a _ _ q|exact q
def FP(P:Program)(fn:Func)(R:Value->World->Prop)(a:Act)(w:World):Prop:=
 a.defers=[]/\∃v,(results fn a.tmps).run P w=.ok v w/\R v w
theorem enter{P:Program}{f:FuncId}{d:Func}{c:Code}{args:List Value}{w:World}{R:Value->World->Prop}(m:P.funcs[f]?=some d)(o:d.body=some c)(n:Nat)(k:d.ntmps=n)(b:Nat.ble args.length n=true)
  (h:∀a,Fr n [] (first 0 args) a->c.wp P (Qp (FP P d R) HL (FP P d R)) a w):Calls P f args.toArray w (Ret R):=by
 refine calls_of_wp m o (wp_mono (h _ (by rw[k];exact Fr.start args n (by simpa using b))) λe a w q=>?_)
 cases e with
 | normal=>obtain ⟨i,v,g,j⟩:=q;exact ⟨i,v,g,j⟩
 | ret=>obtain ⟨i,v,g,j⟩:=q;exact ⟨i,v,g,j⟩
 | exit id=>exact q.elim
 | goto l=>exact q.elim
 | panic ch=>exact q.elim
 | outgrown=>exact q.elim
def YQ(P:Program)(L:List (Nat×Value))(w:World):ResultVar->Value->Prop
 | .tmp t,v=>Cf L t=some v
 | .cell t ty,v=>∃b p,Cf L t=some (.pointer (some ⟨b,p,none⟩))/\(loadVar ty ⟨b,p,none⟩).run P w=.ok v w
def Eq(P:Program)(L:List (Nat×Value))(w:World):List ResultVar->List Value->Prop
 | [],[]=>True
 | r::rs,v::vs=>YQ P L w r v/\Eq P L w rs vs
 | _,_=>False
theorem JI{P:Program}{n:Nat}{ds:List Deferred}{L:List (Nat×Value)}{a:Act}{w:World}(d:Fr n ds L a):∀(rs:List ResultVar) (vs:List Value),Eq P L w rs vs->
  (rs.mapM (λx=>match x with
   | ResultVar.tmp t=>(Pure.pure (a.tmps.getD t undef):Sem Value)
   | ResultVar.cell p t=>do loadVar t (<-asAddr (a.tmps.getD p undef)))).run P w=.ok vs w
 | [],[],_=>by simp[go_sem]
 | [],_::_,h=>h.elim
 | _::_,[],h=>h.elim
 | r::rs,v::vs,h=>by
  have ih:=JI d rs vs h.2;have c:=h.1
  cases r with
  | tmp t=>
   simp only[YQ] at c;simp only[List.mapM_cons,AbW,Ab2,AbS,ih];simp[Array.getD,d.get t v c];have:=d.get t v c;rw[Acv] at this;obtain ⟨f,i⟩:=this;simp[f,i]
  | cell t ty=>
   obtain ⟨b,p,l,g⟩:=c;have k:=d.get t _ l;have e:a.tmps.getD t undef=.pointer (some ⟨b,p,none⟩):=by simp[k]
   have j:(asAddr (a.tmps.getD t undef)).run P w=.ok ⟨b,p,none⟩ w:=by rw[e];rfl
   simp only[List.mapM_cons,AbW,Ab2,AbS,j,g,ih]
def Gz:List Value->Value
 | [v]=>v
 | vs=>.tuple vs.toArray
theorem GK{P:Program}{b:Func}{n:Nat}{ds:List Deferred}{L:List (Nat×Value)}{a:Act}{w:World}(e:Fr n ds L a){rs:List ResultVar}(c:b.results=rs.toArray){vs:List Value}(f:Eq P L w rs vs):(results b a.tmps).run P w=.ok (Gz vs) w:=by
 have g:=JI e rs vs f;have d:(List.toArray<$> (rs.mapM (λx=>match x with
   | ResultVar.tmp t=>(Pure.pure (a.tmps.getD t undef):Sem Value)
   | ResultVar.cell p t=>do loadVar t (<-asAddr (a.tmps.getD p undef))))).run P w=.ok vs.toArray w:=by
  show (Sem.bind _ _).run P w=_;have:=AbW (P:=P) (w:=w) (rs.mapM (λx=>match x with
   | ResultVar.tmp t=>(Pure.pure (a.tmps.getD t undef):Sem Value)
   | ResultVar.cell p t=>do loadVar t (<-asAddr (a.tmps.getD p undef)))) (λx=>(Pure.pure x.toArray:Sem (Array Value)))
  refine this.trans ?_;rw[g];rfl
 unfold results;rw[c,List.mapM_toArray,AbW]
 erw [d]
 simp only[AbS,Ab2]
 cases vs with
 | nil=>rfl
 | cons x xs=>cases xs with
  | nil=>rfl
  | cons y ys=>simp[Gz]
theorem GA{P:Program}{c:Func}{R:Value->World->Prop}{n:Nat}{L:List (Nat×Value)}{w:World}{rs:List ResultVar}(d:c.results=rs.toArray)(vs:List Value)(e:Eq P L w rs vs){v:Value}(f:Gz vs=v)(h:R v w):∀a,Fr n [] L a->FP P c R a w:=λa b=>
 ⟨b.defers,v,by rw[<-f];exact GK b d e,h⟩
theorem AaE{P:Program}{b:Func}{R:Value->World->Prop}{n:Nat}{L:List (Nat×Value)}{a:Act}{w:World}(d:Fr n [] L a)(c:b.results= #[])(h:R (.tuple #[]) w):FP P b R a w:=
 ⟨d.defers,_,by simp[results,c,go_sem],h⟩
theorem YR{P:Program}{b:Func}{R:Value->World->Prop}{n:Nat}{L:List (Nat×Value)}{w:World}(c:b.results= #[])(h:R (.tuple #[]) w):∀a,Fr n [] L a->FP P b R a w:=λ_ d=>AaE d c h
end
section
structure Ext(F:Nat->Prop)(w w':World):Prop where
 os:w'.os=w.os
 tape:w'.tape=w.tape
 output:w'.output=w.output
 size:w.heap.size<=w'.heap.size
 block:∀k,k<w.heap.size->¬F k->w'.heap[k]?=w.heap[k]?
def No:Nat->Prop:=λ_=>False
theorem Ext.refl(F:Nat->Prop)(w:World):Ext F w w:=⟨Z,Z,Z,Ab9 _,λ_ _ _=>rfl⟩
theorem Ext.mono{F b:Nat->Prop}{w w':World}(h:Ext F w w')(c:∀k,k<w.heap.size->F k->b k):Ext b w w':=
 ⟨h.os,h.tape,h.output,h.size,λk a d=>h.block k a (λq=>d (c k a q))⟩
theorem Ext.below{w w':World}(h:Ext No w w'):Below w.heap.size w w':=⟨h.os,h.tape,h.output,h.size,λk a=>h.block k a (λq=>q)⟩
theorem Ext.of_grown{w w':World}{a:Option Nat}(h:w.grownBy w' a):Ext (λk=>some k=a) w w':=⟨h.os,h.tape,h.output,h.size,λk b c=>h.block k b c⟩
theorem Ext.drawn(F:Nat->Prop)(w:World):Ext F w {w with drawn:=w.drawn+1} :=⟨Z,Z,Z,Ab9 _,λ_ _ _=>rfl⟩
def Blk(b:Nat)(cs:List Value)(ty:TypeId)(w:World):Prop:=w.heap[b]?=some (.cells cs.toArray ty (0,0))
def E6(b o:Nat)(v:Value)(w:World):Prop:=w.cell? ⟨b,o,none⟩=some v
theorem QA{w:World}{b:Nat}{o:Obj}(h:w.heap[b]?=some o):b<w.heap.size:=by
 rcases AbX b w.heap.size with h'|h'
 ·exact h'
 rw[Acj h'] at h;cases h
theorem Blk.lt{b:Nat}{cs:List Value}{ty:TypeId}{w:World}(h:Blk b cs ty w):b<w.heap.size:=QA h
theorem Blk.cel{b:Nat}{cs:List Value}{ty:TypeId}{w:World}(h:Blk b cs ty w)(o:Nat){v:Value}(a:cs[o]?=some v):E6 b o v w:=by
 unfold E6 World.cell?;have h':w.heap[b]?=some (.cells cs.toArray ty (0,0)):=h;simp[h',a]
theorem Blk.free{b:Nat}{cs:List Value}{ty:TypeId}{w:World}(h:Blk b cs ty w)(o:Nat):w.frozen? ⟨b,o,none⟩=false:=by
 unfold World.frozen?;have h':w.heap[b]?=some (.cells cs.toArray ty (0,0)):=h;simp[h']
def Abj(P:Program)(C:World->Prop)(o:Oper)(a:Act)(v:Value):Prop:=∀w,C w->(execOp a.eval o).run P w=.ok (.value v) w
def Ax(P:Program)(C:World->Prop)(n:Nat)(ds:List Deferred)(L:List (Nat×Value))(o:Oper)(v:Value):Prop:=∀a,Fr n ds L a->Abj P C o a v
def Abk(P:Program)(o:Oper)(a:Act)(w:World)(R:Value->World->Prop):Prop:=∃v w',(execOp a.eval o).run P w=.ok (.value v) w'/\R v w'
def Abl(P:Program)(o:Oper)(a:Act)(w:World)(R:World->Prop):Prop:=∃w',(execOp a.eval o).run P w=.ok .skip w'/\R w'
def BX(P:Program)(n:Nat)(ds:List Deferred)(L:List (Nat×Value))(o:Oper)(w:World)(R:Value->World->Prop):Prop:=∀a,Fr n ds L a->Abk P o a w R
def Dt(P:Program)(n:Nat)(ds:List Deferred)(L:List (Nat×Value))(o:Oper)(w:World)(R:World->Prop):Prop:=∀a,Fr n ds L a->Abl P o a w R
def BJ(ops:List Oper)(L:List (Nat×Value)):Option (Nat×Bool)->Bool
 | none=>true
 | some (j,b)=>match (ops[j]?).bind (·.dst) with
  | some t=>match Cf L t with
   | some (.bool c)=>(match c,b with|true,true=>true|false,false=>true|_,_=>false)
   | _=>false
  | none=>false
def EB(ops:List Oper)(L:List (Nat×Value)):Option (Nat×Bool)->Bool
 | none=>false
 | some (j,b)=>match (ops[j]?).bind (·.dst) with
  | some t=>match Cf L t with
   | some (.bool c)=>(match c,b with|true,false=>true|false,true=>true|_,_=>false)
   | some (.tuple _)=>true
   | _=>false
  | none=>false
theorem wantL_ok{ops:List Oper}{L:List (Nat×Value)}{n:Nat}{ds:List Deferred}{a:Act}{o:Oper}(d:Fr n ds L a)(h:BJ ops L o.guard=true):Region.wanted o (yielded ops.toArray a.tmps)=true:=by
 unfold Region.wanted
 cases hg:o.guard with
 | none=>rfl
 | some g=>
  obtain ⟨j,b⟩:=g;rw[hg] at h;simp only[BJ] at h;simp only[yielded,AcA]
  cases ht:(ops[j]?).bind (·.dst) with
  | none=>rw[ht] at h;cases h
  | some t=>
   rw[ht] at h;simp only at h
   cases hl:Cf L t with
   | none=>rw[hl] at h;cases h
   | some v=>
    rw[hl] at h;have e:=d.get t v hl;cases v<;>simp at h;rename_i c;simp only[Ad8,e];cases c<;>cases b<;>simp at h ⊢
theorem skipL_ok{ops:List Oper}{L:List (Nat×Value)}{n:Nat}{ds:List Deferred}{a:Act}{o:Oper}(d:Fr n ds L a)(h:EB ops L o.guard=true):Region.wanted o (yielded ops.toArray a.tmps)=false:=by
 unfold Region.wanted
 cases hg:o.guard with
 | none=>rw[hg] at h;cases h
 | some g=>
  obtain ⟨j,b⟩:=g;rw[hg] at h;simp only[EB] at h;simp only[yielded,AcA]
  cases ht:(ops[j]?).bind (·.dst) with
  | none=>rw[ht] at h;cases h
  | some t=>
   rw[ht] at h;simp only at h
   cases hl:Cf L t with
   | none=>rw[hl] at h;cases h
   | some v=>
    rw[hl] at h;have e:=d.get t v hl;simp only[Ad8,e];cases v<;>simp at h ⊢;rename_i c;cases c<;>cases b<;>simp at h ⊢
section steps
variable{P:Program}{ops:List Oper}{Q:Exit->Act->World->Prop}{a:Act}{w:World}{rest:List Oper}{o:Oper}{n d:Nat}{ds:List Deferred}{L:List (Nat×Value)}{v:Value}
theorem AB{p:World->Prop}{w:World}(h:p w):∀w',w'=w->p w':=λw' e=>by subst e;exact h
theorem s_do(g:BJ ops L o.guard=true)(f:o.dst=some d)(b:Nat.blt d n=true)(e:Ax P (· =w) n ds L o v)(K:∀a',Fr n ds ((d,v)::L) a'->wpList P ops.toArray Q rest a' w):∀a,Fr n ds L a->wpList P ops.toArray Q (o::rest) a w:=by
 intro a c;unfold wpList;rw[if_pos (wantL_ok c g)];left;unfold Oper.wp;rw[e a c w Z,AdS,f];exact K _ (c.put d v b)
theorem QB(f:EB ops L o.guard=true)(e:o.dst=some d)(b:Nat.blt d n=true)(K:∀a',Fr n ds ((d,undef)::L) a'->wpList P ops.toArray Q rest a' w):∀a,Fr n ds L a->wpList P ops.toArray Q (o::rest) a w:=by
 intro a c;unfold wpList;rw[if_neg (by rw[skipL_ok c f];exact AdY),e];exact K _ (c.put d undef b)
theorem Ws(d:EB ops L o.guard=true)(c:o.dst=none)(K:∀a,Fr n ds L a->wpList P ops.toArray Q rest a w):∀a,Fr n ds L a->wpList P ops.toArray Q (o::rest) a w:=by
 intro a b;unfold wpList;rw[if_neg (by rw[skipL_ok b d];exact AdY),c];exact K a b
theorem EF{R:Value->World->Prop}(g:BJ ops L o.guard=true)(f:o.dst=some d)(b:Nat.blt d n=true)(h:BX P n ds L o w R)(K:∀v w',R v w'->∀a',Fr n ds ((d,v)::L) a'->wpList P ops.toArray Q rest a' w'):∀a,Fr n ds L a->wpList P ops.toArray Q (o::rest) a w:=by
 intro a c;obtain ⟨v,w',e,i⟩:=h a c;unfold wpList;rw[if_pos (wantL_ok c g)];left;unfold Oper.wp;rw[e,AdS,f];exact K v w' i _ (c.put d v b)
theorem FC{R:World->Prop}(e:BJ ops L o.guard=true)(d:o.dst=none)(h:Dt P n ds L o w R)(K:∀w',R w'->∀a,Fr n ds L a->wpList P ops.toArray Q rest a w'):∀a,Fr n ds L a->wpList P ops.toArray Q (o::rest) a w:=by
 intro a b;obtain ⟨w',c,f⟩:=h a b;unfold wpList;rw[if_pos (wantL_ok b e)];left;unfold Oper.wp;rw[c,Oper.upon_skip,d];exact K w' f a b
theorem QC{p:Prop}[Decidable p](t:Nat)(b:Cf L t=some (.bool (decide p)))(d:p->∀a,Fr n ds ((t,.bool true)::L) a->wpList P ops.toArray Q (o::rest) a w)(e:¬p->∀a,Fr n ds ((t,.bool false)::L) a->wpList P ops.toArray Q (o::rest) a w):∀a,Fr n ds L a->wpList P ops.toArray Q (o::rest) a w:=by
 intro a c;by_cases h:p
 ·exact d h a (c.upd t b (by simp[h]))
 exact e h a (c.upd t b (by simp[h]))
theorem SS{b:Bool}(t:Nat)(c:Cf L t=some (.bool b))(e:b=true->∀a,Fr n ds ((t,.bool true)::L) a->wpList P ops.toArray Q (o::rest) a w)(f:b=false->∀a,Fr n ds ((t,.bool false)::L) a->wpList P ops.toArray Q (o::rest) a w):∀a,Fr n ds L a->wpList P ops.toArray Q (o::rest) a w:=by
 intro a d
 cases b with
 | true=>exact e Z a (d.upd t c Z)
 | false=>exact f Z a (d.upd t c Z)
theorem AP{N R:Act->World->Prop}{X:Nat->Act->World->Prop}(h:∀a,Fr n ds L a->N a w):∀a,Fr n ds L a->wpList P ops.toArray (Qp N X R) [] a w:=h
theorem AI{id:Nat}{N R:Act->World->Prop}{X:Nat->Act->World->Prop}(h:∀a,Fr n ds L a->wpList P ops.toArray (Qp N X R) ops a w):∀a,Fr n ds L a->(Code.region id ops.toArray false).wp P (Qp N X R) a w:=λa b=>wp_region_lit (h a b)
theorem QD{R:Value->World->Prop}{f:FuncId}{args:List Operand}{vs:List Value}{tys:Array TypeId}(p:BJ ops L o.guard=true)(m:o.dst=some d)(i:Nat.blt d n=true)
  (l:o.op=.call {callee:=.value (.func f),args:=args.toArray,argTypes:=tys})(b:evs L args=some vs)(k:∀w,(callFunc f vs.toArray).run P w=.ok (.enter f vs.toArray) w)(h:Calls P f vs.toArray w (Ret R))
  (K:∀v w',R v w'->∀a',Fr n ds ((d,v)::L) a'->wpList P ops.toArray Q rest a' w'):∀a,Fr n ds L a->wpList P ops.toArray Q (o::rest) a w:=by
 intro a j;unfold wpList;rw[if_pos (wantL_ok j p)];left;have g:(execOp a.eval o).run P w=.ok (.enter f vs.toArray) w:=by
  unfold execOp;have e:=j.evs b;simp only[l,resolve,Act.eval,Deferred.ofValue,invoke];simp only[go_sem,Ach,e,Ab3,Acw,k];simpa using k w
 unfold Oper.wp;rw[g,AeH];exact Aed h λe w' q=>by
  cases e with
  | returned v=>simp only[m];exact K v w' q _ (j.put d v i)
  | panicked c=>exact q.elim
  | outgrown=>exact q.elim
end steps

section quiet
variable{P:Program}{ops:List Oper}{C:World->Prop}{Q:Act->Prop}{a:Act}{rest:List Oper}{o:Oper}{n d:Nat}{ds:List Deferred}{L:List (Nat×Value)}{v:Value}
theorem Bn(i:BJ ops L o.guard=true)(f:o.dst=some d)(b:Nat.blt d n=true)(e:Ax P C n ds L o v)(K:∀a',Fr n ds ((d,v)::L) a'->wpQuiet P ops.toArray C Q rest a'):∀a,Fr n ds L a->wpQuiet P ops.toArray C Q (o::rest) a:=λa c=>
 wpQuiet_step λK' h=>by
  rw[if_pos (wantL_ok c i)];refine ⟨v,λw g=>?_,h _ ?_⟩
  ·unfold Oper.quietAt;rw[e a c w g];exact ⟨Z,Z⟩
  rw[f];exact K _ (c.put d v b)
theorem QE(g:EB ops L o.guard=true)(e:o.dst=some d)(b:Nat.blt d n=true)(K:∀a',Fr n ds ((d,undef)::L) a'->wpQuiet P ops.toArray C Q rest a'):∀a,Fr n ds L a->wpQuiet P ops.toArray C Q (o::rest) a:=λa c=>
 wpQuiet_step λK' f=>by
  rw[if_neg (by rw[skipL_ok c g];exact AdY)];exact f _ (by rw[e];exact K _ (c.put d undef b))
theorem CE{p:Prop}[Decidable p](t:Nat)(b:Cf L t=some (.bool (decide p)))(d:p->∀a,Fr n ds ((t,.bool true)::L) a->wpQuiet P ops.toArray C Q (o::rest) a)(e:¬p->∀a,Fr n ds ((t,.bool false)::L) a->wpQuiet P ops.toArray C Q (o::rest) a):∀a,Fr n ds L a->wpQuiet P ops.toArray C Q (o::rest) a:=by
 intro a c;by_cases h:p
 ·exact d h a (c.upd t b (by simp[h]))
 exact e h a (c.upd t b (by simp[h]))
theorem ST{b:Bool}(t:Nat)(c:Cf L t=some (.bool b))(e:b=true->∀a,Fr n ds ((t,.bool true)::L) a->wpQuiet P ops.toArray C Q (o::rest) a)(f:b=false->∀a,Fr n ds ((t,.bool false)::L) a->wpQuiet P ops.toArray C Q (o::rest) a):∀a,Fr n ds L a->wpQuiet P ops.toArray C Q (o::rest) a:=by
 intro a d
 cases b with
 | true=>exact e Z a (d.upd t c Z)
 | false=>exact f Z a (d.upd t c Z)
theorem Dh{f:FuncId}{args:List Operand}{vs:List Value}{tys:Array TypeId}(s:BJ ops L o.guard=true)(m:o.dst=some d)(i:Nat.blt d n=true)
  (l:o.op=.call {callee:=.value (.func f),args:=args.toArray,argTypes:=tys})(b:evs L args=some vs)(k:∀w,(callFunc f vs.toArray).run P w=.ok (.enter f vs.toArray) w)(h:∀w,C w->Calls P f vs.toArray w (Ret λu w'=>u=v/\C w'))
  (K:∀a',Fr n ds ((d,v)::L) a'->wpQuiet P ops.toArray C Q rest a'):∀a,Fr n ds L a->wpQuiet P ops.toArray C Q (o::rest) a:=λa j=>
 wpQuiet_step λK' r=>by
  rw[if_pos (wantL_ok j s)];refine ⟨v,λw p=>?_,r _ ?_⟩
  ·have g:(execOp a.eval o).run P w=.ok (.enter f vs.toArray) w:=by
    unfold execOp;have e:=j.evs b;simp only[l,resolve,Act.eval,Deferred.ofValue,invoke];simp only[go_sem,Ach,e,Ab3,Acw,k];simpa using k w
   unfold Oper.quietAt;rw[g];refine ⟨Z,Aed (h w p) λe w' q=>?_⟩
   cases e with
   | returned u=>exact ⟨by rw[q.1],q.2⟩
   | panicked c=>exact q.elim
   | outgrown=>exact q.elim
  rw[m];exact K _ (j.put d v i)
theorem Bu{N:Act->World->Prop}(h:∀w',C w'->∀a,Fr n ds L a->N a w'):∀a,Fr n ds L a->wpQuiet P ops.toArray C (λa'=>∀w',C w'->N a' w') [] a:=λa c w' b=>h w' b a c
theorem Bd{id:Nat}{N R:Act->World->Prop}{X:Nat->Act->World->Prop}{w:World}(C:World->Prop)(d:P.follows .mixedOrders=true)(b:Region.lexB .any ops.toArray=true)(c:C w.drew)
  (h:∀a,Fr n ds L a->wpQuiet P ops.toArray C (λa'=>∀w',C w'->N a' w') ops a):∀a,Fr n ds L a->(Code.region id ops.toArray true).wp P (Qp N X R) a w:=λa e=>
 wp_region_quiet (C:=C) d b c (h a e)
end quiet
end
section
section
variable{P:Program}{C:World->Prop}{o:Oper}{a:Act}{n:Nat}{ds:List Deferred}{L:List (Nat×Value)}{v:Value}
theorem CX{x:Operand}(c:o.op=.move x)(b:ev L x=some v):Ax P C n ds L o v:=λa d w _=>by
 simp only[execOp,c,d.ev b];rfl
theorem AS{x:Operand}(c:o.op=.assign x)(b:ev L x=some v):Ax P C n ds L o v:=λa d w _=>by
 simp only[execOp,c,d.ev b];rfl
theorem L0{c x y:Operand}(e:o.op=.pick c x y)(f:ev L c=some (.bool true))(d:ev L x=some v):Ax P C n ds L o v:=λa b w _=>by
 simp only[execOp,e,b.ev f,b.ev d];simp[go_sem]
theorem L2{c x y:Operand}(e:o.op=.pick c x y)(f:ev L c=some (.bool false))(d:ev L y=some v):Ax P C n ds L o v:=λa b w _=>by
 simp only[execOp,e,b.ev f,b.ev d];simp[go_sem]

def Du(P:Program)(s t:TypeId):Option IntKind:=match P.underlying s,P.underlying t with
 | some _,some (.int k)=>some k
 | _,_=>none
theorem EG{s t:TypeId}{k:IntKind}(h:Du P s t=some k):∃d,P.underlying s=some d/\P.underlying t=some (.int k):=by
 unfold Du at h;split at h
 ·rename_i d c b a;simp only[AbL] at h;subst h;exact ⟨d,b,a⟩
 cases h
def CY(P:Program)(t:TypeId):Option Nat:=match P.underlying t with
 | some (.slice e)=>(P.info? e).map (·.size)
 | _=>none
theorem EQ{t:TypeId}{z:Nat}(h:CY P t=some z):∃e i,P.underlying t=some (.slice e)/\P.info? e=some i/\i.size=z:=by
 unfold CY at h;split at h
 ·rename_i e a
  cases hi:P.info? e with
  | none=>rw[hi] at h;cases h
  | some i=>rw[hi] at h;exact ⟨e,i,a,hi,by simpa using h⟩
 cases h
def Hf(P:Program)(t:TypeId):Option (Nat×Nat):=match P.underlying t with
 | some (.array l e)=>(P.info? e).map λi=>(l,i.size)
 | _=>none
theorem Hg{t:TypeId}{l z:Nat}(h:Hf P t=some (l,z)):∃e i,P.underlying t=some (.array l e)/\P.info? e=some i/\i.size=z:=by
 unfold Hf at h;split at h
 ·rename_i l' e b
  cases hi:P.info? e with
  | none=>rw[hi] at h;cases h
  | some i=>
   rw[hi] at h;simp only[Acf,AbL,Aer] at h;obtain ⟨rfl,a⟩:=h;exact ⟨e,i,b,hi,a⟩
 cases h
def DW(P:Program)(s:TypeId)(f:Nat):Option Nat:=match P.underlying s with
 | some (.struct fs)=>match fs[f]? with
  | some fd=>match P.info? fd.type with
   | some i=>bif Nat.beq i.size 0 then none else some fd.offset
   | none=>none
  | none=>none
 | _=>none
theorem NQ{s:TypeId}{f k:Nat}(h:DW P s f=some k):∃b a i,P.underlying s=some (.struct b)/\b[f]?=some a/\P.info? a.type=some i/\i.size≠0/\a.offset=k:=by
 unfold DW at h;split at h
 ·rename_i b e
  split at h
  ·rename_i a c
   split at h
   ·rename_i i d
    cases hb:Nat.beq i.size 0 with
    | true=>rw[hb] at h;cases h
    | false=>
     rw[hb] at h;exact ⟨b,a,i,e,c,d,AdF hb,by simpa using h⟩
   cases h
  cases h
 cases h
def Hh(P:Program)(t:TypeId):Option Nat:=match P.underlying t with
 | some (.struct _)=>(P.info? t).map (·.size)
 | some (.array _ _)=>(P.info? t).map (·.size)
 | _=>none
theorem L3{t:TypeId}{z:Nat}(h:Hh P t=some z)(w:World):(isAgg t).run P w=.ok true w/\(sizeOf t).run P w=.ok z w:=by
 have a:∀d,P.underlying t=some d->((d matches .struct _)=true\/(d matches .array _ _)=true)->(P.info? t).map (·.size)=some z->(isAgg t).run P w=.ok true w/\(sizeOf t).run P w=.ok z w:=by
  intro d e b hs
  cases hi:P.info? t with
  | none=>rw[hi] at hs;cases hs
  | some i=>
   rw[hi] at hs;simp only[Acf,AbL] at hs;refine ⟨?_,by simp[sizeOf,typeInfo,hi,go_sem,hs]⟩;unfold isAgg;simp only[run_underlying e,go_sem,AbW,AbS];rcases b with b|b<;>(cases d<;>simp at b ⊢)
 unfold Hh at h;split at h
 ·rename_i c;exact a _ c (.inl Z) h
 ·rename_i c;exact a _ c (.inr Z) h
 cases h

section ints
variable{x y:Operand}{xt yt:TypeId}{k:IntKind}{p q:Int}
theorem VI(d:o.op=.binOp .add xt x y yt)(c:ev L x=some (.int k p))(e:ev L y=some (.int k q)):Ax P C n ds L o (.int k (k.wrap (p+q))):=λa b w _=>by
 simp only[execOp,d,b.ev c,b.ev e];simp[go_sem]
theorem AaF(d:o.op=.binOp .sub xt x y yt)(c:ev L x=some (.int k p))(e:ev L y=some (.int k q)):Ax P C n ds L o (.int k (k.wrap (p-q))):=λa b w _=>by
 simp only[execOp,d,b.ev c,b.ev e];simp[go_sem]
theorem VJ(d:o.op=.binOp .mul xt x y yt)(c:ev L x=some (.int k p))(e:ev L y=some (.int k q)):Ax P C n ds L o (.int k (k.wrap (p*q))):=λa b w _=>by
 simp only[execOp,d,b.ev c,b.ev e];simp[go_sem]
theorem VK(d:o.op=.binOp .quo xt x y yt)(c:ev L x=some (.int k p))(e:ev L y=some (.int k q))(f:q≠0):Ax P C n ds L o (.int k (k.wrap (p.tdiv q))):=λa b w _=>by
 simp only[execOp,d,b.ev c,b.ev e];simp[go_sem,f]
theorem JJ(d:o.op=.binOp .rem xt x y yt)(c:ev L x=some (.int k p))(e:ev L y=some (.int k q))(f:q≠0):Ax P C n ds L o (.int k (p.tmod q)):=λa b w _=>by
 simp only[execOp,d,b.ev c,b.ev e];simp[go_sem,f]
theorem Pi(d:o.op=.binOp .lss xt x y yt)(c:ev L x=some (.int k p))(e:ev L y=some (.int k q)):Ax P C n ds L o (.bool (decide (p<q))):=λa b w _=>by
 simp only[execOp,d,b.ev c,b.ev e];simp[go_sem]
theorem VL(d:o.op=.binOp .leq xt x y yt)(c:ev L x=some (.int k p))(e:ev L y=some (.int k q)):Ax P C n ds L o (.bool (decide (p<=q))):=λa b w _=>by
 simp only[execOp,d,b.ev c,b.ev e];simp[go_sem]
theorem VM(d:o.op=.binOp .gtr xt x y yt)(c:ev L x=some (.int k p))(e:ev L y=some (.int k q)):Ax P C n ds L o (.bool (decide (q<p))):=λa b w _=>by
 simp only[execOp,d,b.ev c,b.ev e];simp[go_sem]
theorem VN(d:o.op=.binOp .geq xt x y yt)(c:ev L x=some (.int k p))(e:ev L y=some (.int k q)):Ax P C n ds L o (.bool (decide (q<=p))):=λa b w _=>by
 simp only[execOp,d,b.ev c,b.ev e];simp[go_sem]
theorem VO(d:o.op=.binOp .eql xt x y yt)(c:ev L x=some (.int k p))(e:ev L y=some (.int k q)):Ax P C n ds L o (.bool (decide (p=q))):=λa b w _=>by
 simp only[execOp,d,b.ev c,b.ev e];simp[go_sem];rw[Ab0];simp
theorem Pj(d:o.op=.binOp .neq xt x y yt)(c:ev L x=some (.int k p))(e:ev L y=some (.int k q)):Ax P C n ds L o (.bool (decide (p≠q))):=λa b w _=>by
 simp only[execOp,d,b.ev c,b.ev e];simp[go_sem];rw[Ab0];simp
theorem CA(c:o.op=.binOp .add xt x y yt)(b:ev L x=some (Aa p))(e:ev L y=some (Aa q)){r:Int}(a:p+q=r)(d: -9223372036854775808<=r/\r<=9223372036854775807):Ax P C n ds L o (Aa r):=by
 have:=VI (P:=P) (C:=C) (n:=n) (ds:=ds) (L:=L) c b e;rwa[a,AcT _ d] at this
theorem Km(c:o.op=.binOp .sub xt x y yt)(b:ev L x=some (Aa p))(e:ev L y=some (Aa q)){r:Int}(a:p-q=r)(d: -9223372036854775808<=r/\r<=9223372036854775807):Ax P C n ds L o (Aa r):=by
 have:=AaF (P:=P) (C:=C) (n:=n) (ds:=ds) (L:=L) c b e;rwa[a,AcT _ d] at this
theorem GQ(c:o.op=.binOp .mul xt x y yt)(b:ev L x=some (Aa p))(e:ev L y=some (Aa q)){r:Int}(a:p*q=r)(d: -9223372036854775808<=r/\r<=9223372036854775807):Ax P C n ds L o (Aa r):=by
 have:=VJ (P:=P) (C:=C) (n:=n) (ds:=ds) (L:=L) c b e;rwa[a,AcT _ d] at this
theorem Ob(d:o.op=.binOp .quo xt x y yt)(c:ev L x=some (Aa p))(e:ev L y=some (Aa q)){r:Int}(a:0<=p)(i:0<q)(b:p/q=r)(f:p<=9223372036854775807):Ax P C n ds L o (Aa r):=by
 have:=VK (P:=P) (C:=C) (n:=n) (ds:=ds) (L:=L) d c e U;rw[Aes a] at this;have g:0<=p/q:=Int.ediv_nonneg a U;have h:p/q<=p:=Int.ediv_le_self q a;rwa[b,AcT _ U] at this
theorem Oc(c:o.op=.binOp .rem xt x y yt)(b:ev L x=some (.int k p))(d:ev L y=some (.int k q)){r:Int}(e:0<=p)(f:q≠0)(a:p%q=r):Ax P C n ds L o (.int k r):=by
 have:=JJ (P:=P) (C:=C) (n:=n) (ds:=ds) (L:=L) c b d f;rwa[AdQ e,a] at this
theorem VP(c:o.op=.unOp .neg xt x)(b:ev L x=some (.int k p)):Ax P C n ds L o (.int k (k.wrap (0-p))):=λa d w _=>by
 simp only[execOp,c,d.ev b];simp[go_sem]
theorem Od(b:o.op=.unOp .neg xt x)(a:ev L x=some (Aa p)){r:Int}(d: -p=r)(c: -9223372036854775808<=r/\r<=9223372036854775807):Ax P C n ds L o (Aa r):=by
 have:=VP (P:=P) (C:=C) (n:=n) (ds:=ds) (L:=L) b a;rwa[show (0:Int)-p=r from by omega,AcT _ c] at this
theorem HQ{d:TypeId}{b:IntKind}(g:o.op=.convert xt d x)(c:Du P xt d=some b)(e:ev L x=some (.int k p)):Ax P C n ds L o (.int b (b.wrap p)):=λa f w _=>by
 obtain ⟨i,h,c⟩:=EG c;simp only[execOp,g,f.ev e];simp[convert,run_underlying h,run_underlying c,go_sem]
end ints

def JK(P:Program)(t:TypeId):Bool:=match P.underlying t with|some .bool=>true|_=>false
theorem K6{t:TypeId}(h:JK P t=true):P.underlying t=some .bool:=by
 unfold JK at h;split at h
 ·assumption
 cases h
theorem JL{xt:TypeId}{x:Operand}(e:o.op=.unOp .not xt x){b:Bool}(c:ev L x=some (.bool b)):Ax P C n ds L o (.bool !b):=λa d w _=>by
 simp only[execOp,e,d.ev c];simp[go_sem]
theorem AW{xt:TypeId}{x:Operand}(d:o.op=.unOp .not xt x){p:Prop}[Decidable p](b:ev L x=some (.bool (decide p))):Ax P C n ds L o (.bool (decide (¬p))):=λa c w _=>by
 simp only[execOp,d,c.ev b];simp[go_sem]
theorem QF{xt yt:TypeId}{x y:Operand}(g:o.op=.binOp .eql xt x y yt){b c:Bool}(d:JK P xt=true)(f:ev L x=some (.bool b))(h:ev L y=some (.bool c)):Ax P C n ds L o (.bool (decide (b=c))):=λa e w _=>by
 have d:=K6 d;simp only[execOp,g,e.ev f,e.ev h];simp[d,go_sem];cases b<;>cases c<;>rfl
theorem QG{xt yt:TypeId}{x y:Operand}(g:o.op=.binOp .neq xt x y yt){b c:Bool}(d:JK P xt=true)(f:ev L x=some (.bool b))(h:ev L y=some (.bool c)):Ax P C n ds L o (.bool (decide (b≠c))):=λa e w _=>by
 have d:=K6 d;simp only[execOp,g,e.ev f,e.ev h];simp[d,go_sem];cases b<;>cases c<;>rfl

def Ge(P:Program)(t:TypeId):Bool:=match P.underlying t with
 | some (.struct _)=>false
 | some (.array _ _)=>false
 | some _=>true
 | none=>false
theorem Gf{t:TypeId}(h:Ge P t=true)(w:World):(isAgg t).run P w=.ok false w:=by
 unfold Ge at h;unfold isAgg
 cases hu:P.underlying t with
 | none=>rw[hu] at h;cases h
 | some d=>rw[hu] at h;simp[run_underlying hu,go_sem];cases d<;>simp at h ⊢
theorem AY{t:TypeId}{x:Operand}{b p:Nat}(e:o.op=.load t x)(c:ev L x=some (.pointer (some ⟨b,p,none⟩)))(h:Ge P t=true)(f:∀w,C w->E6 b p v w):Ax P C n ds L o v:=λa d w g=>by
 have:=f w g;unfold E6 at this;simp only[execOp,e,d.ev c];simp[Instr.loadAt,Instr.sureAddr,loadVar,Gf h,go_sem,this]
theorem Bt{t:TypeId}{x:Operand}{b p:Nat}{vs:List Value}(g:o.op=.load t x)(l:ev L x=some (.pointer (some ⟨b,p,none⟩)))
  (r:Hh P t=some vs.length)(h:∀w,C w->∀j u,vs[j]?=some u->E6 b (p+j) u w):Ax P C n ds L o (.agg vs.toArray):=λa m w q=>by
 have f:=run_loadCells_list (P:=P) w ⟨b,p,none⟩ vs (λj u k=>by
  have:=h w q j u k;have e:(Addr.add ⟨b,p,none⟩ j)=⟨b,p+j,none⟩:=by
   unfold Addr.add;split
   ·rename_i i;simp[i]
   rfl
  rw[e];exact this)
 obtain ⟨c,d⟩:=L3 r w;simp only[execOp,g,m.ev l,Instr.loadAt,Instr.sureAddr,loadVar,AbW,Ab2,AbS,c,if_true,d,f]
theorem Blk.part{b:Nat}{cs:List Value}{ty:TypeId}{w:World}(h:Blk b cs ty w)(p k:Nat)(vs:List Value)(c:vs=(cs.drop p).take k):∀j u,vs[j]?=some u->E6 b (p+j) u w:=λj u a=>by
 subst c;refine h.cel _ ?_;rw[Acn] at a;split at a
 ·rw[AcH] at a;exact a
 cases a
def GB(P:Program)(t:TypeId):Bool:=match P.underlying t with|some .string=>true|_=>false
theorem Gg{t:TypeId}(h:GB P t=true):P.underlying t=some .string:=by
 unfold GB at h;split at h
 ·assumption
 cases h

theorem EC{x:Operand}{t z:TypeId}{h:Option Addr}{l c:Nat}(d:o.op=.call {callee:=.builtin .len,args:= #[x],argTypes:= #[t]})(b:CY P t=some z)(f:ev L x=some (.slice h l c)):Ax P C n ds L o (Aa l):=λa g w _=>by
 obtain ⟨e,i,b,_,_⟩:=EQ b;simp only[execOp,d,g.ev f,resolve,Ach,Aca,AcP];simp[invoke,builtin,Builtin.len_,run_underlying b,goInt,go_sem]
theorem YS{x:Operand}{t:TypeId}{s:ByteArray}(e:o.op=.call {callee:=.builtin .len,args:= #[x],argTypes:= #[t]})(b:GB P t=true)(c:ev L x=some (.string s)):Ax P C n ds L o (Aa s.size):=λa d w _=>by
 have b:=Gg b;simp only[execOp,e,d.ev c,resolve,Ach,Aca,AcP];simp[invoke,builtin,Builtin.len_,run_underlying b,goInt,go_sem]
theorem VQ{x y:Operand}{t u:TypeId}{k e:IntKind}{p q:Int}(d:o.op=.call {callee:=.builtin .max,args:= #[x,y],argTypes:= #[t,u]})(c:ev L x=some (.int k p))(f:ev L y=some (.int e q)):Ax P C n ds L o (.int k (max p q)):=λa b w _=>by
 simp only[execOp,d,b.ev c,b.ev f,resolve,Ach,Aca,AcP];simp[invoke,builtin,Builtin.max_,Builtin.max2,go_sem];omega
theorem LR{x y:Operand}{t u:TypeId}{k e:IntKind}{p q:Int}(d:o.op=.call {callee:=.builtin .min,args:= #[x,y],argTypes:= #[t,u]})(c:ev L x=some (.int k p))(f:ev L y=some (.int e q)):Ax P C n ds L o (.int k (min p q)):=λa b w _=>by
 simp only[execOp,d,b.ev c,b.ev f,resolve,Ach,Aca,AcP];simp[invoke,builtin,Builtin.min_,Builtin.min2,go_sem];omega
theorem Kn{s:TypeId}{x:Operand}{f:Nat}{b p k r:Nat}(g:o.op=.fieldAddr s x f)(hs:DW P s f=some k)(i:ev L x=some (.pointer (some ⟨b,p,none⟩)))(m:p+k=r):Ax P C n ds L o (.pointer (some ⟨b,r,none⟩)):=λa j w _=>by
 obtain ⟨q,l,u,hs,h,d,c,v⟩:=NQ hs;have e:(Addr.add ⟨b,p,none⟩ l.offset)=⟨b,r,none⟩:=by
  unfold Addr.add;split
  ·rename_i t;simp only[Aet,true_and,and_true];omega
  simp only[Aet,true_and,and_true];omega
 simp only[execOp,g,j.ev i];simp[Instr.fieldAt,run_underlying hs,h,Instr.sureAddr,fieldPlace,sizeOf,typeInfo,d,c,e,go_sem]
theorem Oe{t:TypeId}{x y:Operand}{b p l c j z:Nat}{i:Int}{k:IntKind}(v:o.op=.indexAddr t x y)(f:CY P t=some z)
  (hx:ev L x=some (.slice (some ⟨b,p,none⟩) l c))(m:ev L y=some (.int k i))(d:i=j)(s:j<l){r:Nat}(h:p+j*z=r):Ax P C n ds L o (.pointer (some ⟨b,r,none⟩)):=λa g w _=>by
 obtain ⟨e,i0,f,u,q⟩:=EQ f;subst d;have h1:(0:Int)<=(j:Int)/\(j:Int)<(l:Int):=by omega
 simp only[execOp,v,g.ev hx,g.ev m];simp[Instr.indexAt,run_underlying f,sizeOf,typeInfo,u,q,h1,s,h,go_sem,asIntOf]
def At(ao:Option Addr)(k:Nat)(v:Value)(w:World):Prop:=∃b p,ao=some ⟨b,p,none⟩/\E6 b (p+k) v w
def FQ(ao:Option Addr)(k:Nat):Value:=.pointer (ao.map λa=>⟨a.block,a.off+k,none⟩)
theorem Az{t:TypeId}{x y:Operand}{f:Option Addr}{l c j z:Nat}{i:Int}{k:IntKind}{u:Value}{v:World}{q:Nat}(ho:o.op=.indexAddr t x y)(d:CY P t=some z)
  (hx:ev L x=some (.slice f l c))(hy:ev L y=some (.int k i))(h:i=j)(hl:j<l)(g:At f q u v){r:Nat}(s:j*z=r):Ax P C n ds L o (FQ f r):=λa m w _=>by
 obtain ⟨e,i0,d,hi,hz⟩:=EQ d;obtain ⟨b,p,rfl,_⟩:=g;subst h;have h1:(0:Int)<=(j:Int)/\(j:Int)<(l:Int):=by omega
 simp only[execOp,ho,m.ev hx,m.ev hy];simp[Instr.indexAt,run_underlying d,sizeOf,typeInfo,hi,hz,h1,hl,s,FQ,go_sem,asIntOf]
theorem BN{s:TypeId}{x:Operand}{f:Nat}{d:Option Addr}{p k r q:Nat}{u:Value}{h:World}(e:o.op=.fieldAddr s x f)(hs:DW P s f=some k)(g:ev L x=some (FQ d p))(c:At d q u h)(l:p+k=r):Ax P C n ds L o (FQ d r):=λa i w j=>by
 obtain ⟨b,p',rfl,_⟩:=c;have:=Kn (P:=P) (C:=C) (r:=p'+r) e hs (show ev L x=some (.pointer (some ⟨b,p'+p,none⟩)) from g) U a i w j;simpa [FQ] using this
theorem AM{t:TypeId}{x:Operand}{c:Option Addr}{k:Nat}(f:o.op=.load t x)(d:ev L x=some (FQ c k))(j:Ge P t=true)(g:∀w,C w->At c k v w):Ax P C n ds L o v:=λa e w i=>by
 obtain ⟨b,p,rfl,h⟩:=g w i;exact AY (P:=P) (C:=(· =w)) f d j (AB h) a e w Z
theorem BU{t:TypeId}{x:Operand}{g:Option Addr}{k:Nat}{vs:List Value}(i:o.op=.load t x)(m:ev L x=some (FQ g k))
  (r:Hh P t=some vs.length)(c:vs≠[])(d:∀w,C w->∀j u,vs[j]?=some u->At g (k+j) u w):Ax P C n ds L o (.agg vs.toArray):=λa q w f=>by
 cases vs with
 | nil=>exact absurd Z c
 | cons u us=>
  obtain ⟨b,p,rfl,_⟩:=d w f 0 u Z;refine Bt (P:=P) (C:=(· =w)) i m r (AB λj x l=>?_) a q w Z;obtain ⟨s,p',e,h⟩:=d w f j x l;simp only[AbL,Aet,and_true] at e;obtain ⟨rfl,rfl⟩:=e;rw[Ac8];exact h
theorem I5{t:TypeId}{x y:Operand}{b p l j z:Nat}{i:Int}{k:IntKind}(u:o.op=.indexAddr t x y)(d:Hf P t=some (l,z))
  (hx:ev L x=some (.pointer (some ⟨b,p,none⟩)))(h:ev L y=some (.int k i))(c:i=j)(q:j<l){r:Nat}(g:p+j*z=r):Ax P C n ds L o (.pointer (some ⟨b,r,none⟩)):=λa f w _=>by
 obtain ⟨e,i0,d,s,m⟩:=Hg d;subst c;have v:(0:Int)<=(j:Int)/\(j:Int)<(l:Int):=by omega
 simp only[execOp,u,f.ev hx,f.ev h];simp[Instr.indexAt,run_underlying d,Instr.sureAddr,sizeOf,typeInfo,s,m,v,q,g,go_sem,asIntOf]
theorem ER{x:Operand}{i:Nat}{vs:List Value}(e:o.op=.extract x i)(b:ev L x=some (.tuple vs.toArray))(c:vs[i]?=some v):Ax P C n ds L o v:=λa d w _=>by
 simp only[execOp,e,d.ev b];simp[Instr.extract,c,go_sem]
theorem JM{x:Operand}{b:Addr}(e:o.op=.nilCheck x)(c:ev L x=some (.pointer (some b))):Ax P C n ds L o (.pointer (some b)):=λa d w _=>by
 simp only[execOp,e,d.ev c];simp[go_sem]
theorem Ko{t:TypeId}{x:Operand}{lo hi:Option Operand}{v:Option Addr}{l c p q z:Nat}(r:o.op=.slice t x lo hi none)(h:CY P t=some z)
  (s:ev L x=some (.slice v l c))(a0:(lo=none/\p=0)\/∃y k i,lo=some y/\ev L y=some (.int k i)/\i=(p:Int))(u:(hi=none/\q=l)\/∃y k i,hi=some y/\ev L y=some (.int k i)/\i=(q:Int))(b:p<=q)(d:q<=c):
  Ax P C n ds L o (.slice (if c=p then v else v.map (·.add (p*z))) (q-p) (c-p)):=λa g w _=>by
 obtain ⟨e,i0,h,f,m⟩:=EQ h;have h1:(0:Int)<=(p:Int)/\(p:Int)<=(q:Int):=by omega
 have h2:(0:Int)<=(q:Int)/\(q:Int)<=(c:Int):=by omega
 rcases a0 with ⟨rfl,rfl⟩|⟨y,k,i,rfl,hy,rfl⟩<;>rcases u with ⟨rfl,rfl⟩|⟨y',k',i',rfl,j,rfl⟩
 ·simp only[execOp,r,Acf,AcM,g.ev s];simp[Instr.sliceAt,Instr.slice,run_underlying h,Instr.sliceBounds,sizeOf,typeInfo,f,m,b,d,go_sem]<;>(try (intro;omega))
 ·simp only[execOp,r,Acf,AcM,g.ev s,g.ev j];simp[Instr.sliceAt,Instr.slice,run_underlying h,Instr.sliceBounds,Instr.sliceBound,asIntOf,h2,sizeOf,typeInfo,f,m,b,d,go_sem]<;>(try (intro;omega))
 ·simp only[execOp,r,Acf,AcM,g.ev s,g.ev hy];simp[Instr.sliceAt,Instr.slice,run_underlying h,Instr.sliceBounds,Instr.sliceBound,asIntOf,h1,sizeOf,typeInfo,f,m,b,d,go_sem]<;>(try (intro;omega))
 simp only[execOp,r,Acf,AcM,g.ev s,g.ev hy,g.ev j];simp[Instr.sliceAt,Instr.slice,run_underlying h,Instr.sliceBounds,Instr.sliceBound,asIntOf,h1,h2,sizeOf,typeInfo,f,m,b,d,go_sem]<;>(try (intro;omega))
end
end
section
def Elt(P:Program)(e:TypeId)(z:Value)(sz by_:Nat):Prop:=∃i,P.info? e=some i/\i.zero=some z/\i.size=sz/\i.bytes=by_/\z.cells.size=sz/\0<sz/\0<by_
theorem Elt.mk{P:Program}{e:TypeId}{z:Value}{sz by_:Nat}(h:(P.info? e).map (λi=>(i.zero,i.size,i.bytes))=some (some z,sz,by_))(c:z.cells.size=sz)(a:0<sz)(b:0<by_):Elt P e z sz by_:=by
 cases hi:P.info? e with
 | none=>rw[hi] at h;cases h
 | some i=>
  rw[hi] at h;simp only[Acf,AbL,Aer] at h;exact ⟨i,hi,h.1,h.2.1,h.2.2,c,a,b⟩
def Rd(sz:Nat)(v:Value)(n:Nat)(xs:List Value)(w:World):Prop:=
 ∃ao c,v=.slice ao n c/\n<=c/\c<=9223372036854775807/\xs.length=n*sz/\∀j u,xs[j]?=some u->At ao j u w
def VR(B:Nat)(e:TypeId)(sz:Nat)(v:Value)(n:Nat)(xs:List Value)(w:World):Prop:=w.ownsRow B e sz v n xs
theorem Rd.nil(sz:Nat)(w:World):Rd sz (.slice none 0 0) 0 [] w:=⟨none,0,Z,AbV _,by omega,by simp,λj u h=>by simp at h⟩
section
variable{P:Program}{o:Oper}{a:Act}{w:World}{n:Nat}{ds:List Deferred}{L:List (Nat×Value)}
def L4(cs:List Value)(ty:TypeId)(w:World)(v:Value)(w':World):Prop:=∃b,v=.pointer (some ⟨b,0,none⟩)/\w.heap.size=b/\w'.heap.size=b+1/\Blk b cs ty w'/\Ext No w w'
def QH(cs:List Value)(ty:TypeId)(len:Nat)(w:World)(v:Value)(w':World):Prop:=∃b,v=.slice (some ⟨b,0,none⟩) len len/\w.heap.size=b/\w'.heap.size=b+1/\Blk b cs ty w'/\Ext No w w'
theorem CZ(w:World)(o:Obj):Ext No w {w with heap:=w.heap.push o} :=⟨Z,Z,Z,by simp,λk a _=>by
 show (w.heap.push o)[k]?=_;rw[Ael,if_neg U]⟩
theorem Of(w:World)(cs:List Value)(ty:TypeId):L4 cs ty w (.pointer (some ⟨w.heap.size,0,none⟩)) {w with heap:=w.heap.push (.cells cs.toArray ty)} :=
 ⟨_,Z,Z,by simp,by show (w.heap.push _)[w.heap.size]?=_;simp,CZ w _⟩
theorem Wt(w:World)(cs:List Value)(ty:TypeId)(a:Nat):QH cs ty a w (.slice (some ⟨w.heap.size,0,none⟩) a a) {w with heap:=w.heap.push (.cells cs.toArray ty)} :=
 ⟨_,Z,Z,by simp,by show (w.heap.push _)[w.heap.size]?=_;simp,CZ w _⟩
def zeroCells(P:Program)(e:TypeId):Option (Array Value):=((P.info? e).bind (·.zero)).map Value.cells
theorem Wu{e:TypeId}{zs:List Value}(c:o.op=.alloc e)(b:zeroCells P e=some zs.toArray):BX P n ds L o w (L4 zs e w):=by
 intro a d;refine ⟨_,_,?_,Of w zs e⟩;unfold zeroCells at b
 cases hi:P.info? e with
 | none=>rw[hi] at b;cases b
 | some i0=>
  rw[hi] at b;simp only[Ad8] at b
  cases hq:i0.zero with
  | none=>rw[hq] at b;cases b
  | some z=>
   rw[hq] at b;simp only[Acf,AbL] at b;simp only[execOp,c];simp[Instr.alloc,zeroValue,typeInfo,hi,hq,newVar,newRow,newObj,go_sem,Sem.run];rw[<-b];rfl
theorem NR{ty:TypeId}{b p:Nat}{cs vs:List Value}{t:TypeId}(h:Hh P ty=some vs.length)(d:Blk b cs t w)(g:vs=(cs.drop p).take vs.length):(loadVar ty ⟨b,p,none⟩).run P w=.ok (.agg vs.toArray) w:=by
 have k:=run_loadCells_list (P:=P) w ⟨b,p,none⟩ vs (λj u f=>by
  have:=d.part p vs.length vs g j u f;have e:(Addr.add ⟨b,p,none⟩ j)=⟨b,p+j,none⟩:=by
   unfold Addr.add;split
   ·rename_i i;simp[i]
   rfl
  rw[e];exact this)
 obtain ⟨a,c⟩:=L3 h w;simp only[loadVar,AbW,Ab2,AbS,a,if_true,c,k]
theorem AaG{e:TypeId}{x:Operand}{v:Value}{cs:List Value}(d:o.op=.box e x)(b:ev L x=some v)(f:v.cells=cs.toArray):BX P n ds L o w (L4 cs e w):=by
 intro a c;refine ⟨_,_,?_,Of w cs e⟩;simp only[execOp,d,c.ev b];simp[Instr.box,newVar,newRow,newObj,go_sem,Sem.run];rw[<-f];rfl
theorem AX{C:World->Prop}{t:TypeId}{parts:List (Nat×Operand)}{vs:List (Nat×Value)}{out:List Value}(d:o.op=.build t parts.toArray)
  (b:(evs L (parts.map (·.2))).map (List.zip (parts.map (·.1)))=some vs)(c:P.built t vs=some out.toArray):Ax P C n ds L o (.agg out.toArray):=λa g w _=>by
 cases he:evs L (parts.map (·.2)) with
 | none=>rw[he] at b;cases b
 | some us=>
  rw[he] at b;simp only[Acf,AbL] at b;have e:=g.evs he;have:(parts.map λx=>(x.1,a.eval x.2))=vs:=by
   rw[<-b,<-e,Ac7];clear b he e c d
   induction parts with
   | nil=>rfl
   | cons x xs ih=>simp[ih]
  have f:=run_build (P:=P) w t vs.toArray out.toArray (by simpa using c);simp only[execOp,d,Ach];rw[show (List.map (λx=>match x with|(i,x)=>(i,a.eval x)) parts)=vs from this];simp only[AbW,f,AbS,Ab2]
theorem SV{x y:Operand}{t e:TypeId}{z:Value}{sz by_ B k m:Nat}{v u:Value}{xs news:List Value}(ho:o.op=.call {callee:=.builtin .append,args:= #[x,y],argTypes:= #[t,t]})
  (ht:P.underlying t=some (.slice e))(hE:Elt P e z sz by_)(hx:ev L x=some v)(hy:ev L y=some u)(f:VR B e sz v k xs w)(a1:Rd sz u m news w)(h1:∀c∈news,c.oneCell'=true)(hB:B<=w.heap.size)(a5:(k+m)*by_<=140737488355328):
  BX P n ds L o w λd w'=>VR B e sz d (k+m) (xs++news) w'/\Ext (λi=>v.ownBlock=some i) w w'/\(d.ownBlock=v.ownBlock\/d.ownBlock=some w.heap.size):=by
 intro a hF;obtain ⟨i,hi,hz,hs,hb,a7,a9,a8⟩:=hE;obtain ⟨ao,c,rfl,b2,_,hl,a2⟩:=a1;have l:∀r w',(Builtin.append_ #[t,t] o.type #[v,.slice ao m c]).run P w=.ok r w'->(execOp a.eval o).run P w=.ok (.value r) w':=λr w' h=>by
  simp only[execOp,ho,resolve,invoke,builtin,AbW,Ab2,AbS,Ach,Aca,AcP,hF.ev hx,hF.ev hy,h]
 have a3:k+m<=maxLen:=by
  have:(k+m)*1<=(k+m)*by_:=AdA _ a8;unfold maxLen;omega
 have s:news=[]->∀d,d=v->VR B e sz d (k+m) (xs++news) w/\Ext (λi=>v.ownBlock=some i) w w/\(d.ownBlock=v.ownBlock\/d.ownBlock=some w.heap.size):=by
  intro hn d a6;subst a6;have hm:m=0:=by
   rw[hn] at hl;simp only[AbO] at hl;rcases AeI.1 hl.symm with h|h<;>omega
  subst hm;rw[hn,Acw];exact ⟨f,Ext.refl _ _,.inl Z⟩
 cases ao with
 | none=>
  have hn:news=[]:=by
   cases news with
   | nil=>rfl
   | cons q qs=>obtain ⟨b,p,hh,_⟩:=a2 0 q Z;cases hh
  have hm:m=0:=by
   rw[hn] at hl;simp only[AbO] at hl;rcases AeI.1 hl.symm with h|h<;>omega
  subst hm;refine ⟨v,w,l _ _ ?_,s hn v Z⟩;rcases f.2 with ⟨rfl,rfl⟩|⟨g,b1,b0,rfl,_,_,a4,_⟩
  ·simp[Builtin.append_,run_underlying ht,sizeOf,typeInfo,hi,Builtin.lenOf,Builtin.firstCells]
  simp[Builtin.append_,run_underlying ht,sizeOf,typeInfo,hi,Builtin.lenOf,Builtin.firstCells,a4,storeCells]
 | some ad=>
  have a0:∀j q,news[j]?=some q->w.cell? (ad.add j)=some q:=λj q hj=>by
   obtain ⟨b,p,hh,hc⟩:=a2 j q hj;simp only[AbL] at hh;subst hh;have e:(Addr.add ⟨b,p,none⟩ j)=⟨b,p+j,none⟩:=by
    unfold Addr.add;split
    ·rename_i h0;simp[h0]
    rfl
   rw[e];exact hc
  obtain ⟨d,w',hr,h2,h3,_,h5⟩:=run_append_own_at (P:=P) w B t o.type e i z sz by_ ht hi hz hs hb a7 a9 v k xs f ad m c news hl a0 h1 a3 a5 hB;exact ⟨d,w',l _ _ hr,h2,(Ext.of_grown h3).mono (λ_ _ q=>q.symm),h5⟩
theorem Og{x y:Operand}{t ty:TypeId}{b p:Nat}{cs vs:List Value}{v:Value}(h:o.op=.store t x y)(q:ev L x=some (.pointer (some ⟨b,p,none⟩)))(g:ev L y=some v)(j:v.cells=vs.toArray)(l:∀u∈vs,u.oneCell'=true)
  (hs:(P.info? t).map (·.size)=some vs.length)(e:Blk b cs ty w)(hp:p+vs.length<=cs.length){out:List Value}(d:cs.take p++vs++cs.drop (p+vs.length)=out):
  Dt P n ds L o w λw'=>Blk b out ty w'/\Ext (· =b) w w'/\w'.heap.size=w.heap.size:=by
 intro a f;have c:=run_storeCells_at P b p ty vs 0 cs.toArray w e (by simpa using hp) l;simp only[Aee,Ac6] at c;rw[d] at c;refine ⟨_,?_,setRow_heap w b _ _ ty (0,0) e,⟨Z,Z,Z,by simp,λk _ m=>setRow_other w b k _ m⟩,by simp⟩
 cases hq:P.info? t with
 | none=>rw[hq] at hs;cases hs
 | some i=>
  rw[hq] at hs;simp only[Acf,AbL] at hs;simp only[execOp,h,f.ev q,f.ev g,Instr.storeAt,Instr.sureAddr,storeVar,sizeOf,typeInfo,AbW,Ab2,AbS,j];simp[hq,hs,go_sem,c]
end
end
section
abbrev Hp:=Nat->Option Obj
abbrev Ah:=Hp->Prop
def Hp.part(h:Hp)(own:Nat->Nat)(i:Nat):Hp:=λk=>if own k=i then h k else none
def seps(Γ:List Ah):Ah:=λh=>∃own:Nat->Nat,∀(i:Nat) (A:Ah),Γ[i]?=some A->A (h.part own i)
def hp(w:World):Hp:=λk=>w.heap[k]?
structure Sep(z:World)(Γ:List Ah)(w:World):Prop where
 os:w.os=z.os
 tape:w.tape=z.tape
 output:w.output=z.output
 own:seps Γ (hp w)
def bk(b:Nat)(o:Obj):Ah:=λh=>h b=some o
def blk(b:Nat)(cs:List Value)(ty:TypeId):Ah:=bk b (.cells cs.toArray ty (0,0))
def base(z:World):Ah:=λh=>∀k,k<z.heap.size->h k=z.heap[k]?
def emp:Ah:=λ_=>True
theorem CK{h h':Hp}{own own':Nat->Nat}{i j:Nat}(e:∀k,own k=i↔own' k=j)(b:∀k,own k=i->h k=h' k):h.part own i=h'.part own' j:=by
 funext k;unfold Hp.part;by_cases q:own k=i
 ·rw[if_pos q,if_pos ((e k).1 q),b k q]
 rw[if_neg q,if_neg (λa=>q ((e k).2 a))]
theorem ES{h:Hp}{own:Nat->Nat}{i k:Nat}{o:Obj}(e:h.part own i k=some o):own k=i/\h k=some o:=by
 unfold Hp.part at e;split at e
 ·exact ⟨by assumption,e⟩
 cases e

def pos:List Nat->Nat->Option Nat
 | [],_=>none
 | x::xs,y=>if y=x then some 0 else (pos xs y).map (· +1)
theorem I6:∀(is:List Nat) (y j:Nat),pos is y=some j->is[j]?=some y
 | [],_,_,h=>by simp[pos] at h
 | x::xs,y,j,h=>by
  unfold pos at h;split at h
  ·rename_i e;simp at h;subst h;simp[e]
  cases hp:pos xs y with
  | none=>rw[hp] at h;cases h
  | some q=>rw[hp] at h;simp at h;subst h;simpa using I6 xs y q hp
theorem YT(a:List Nat)(y j:Nat)(h:pos a y=some j):j<a.length:=(AbE.1 (I6 a y j h)).1
def Gh(n:Nat)(is:List Nat):Bool:=(List.range is.length).all λj=>match is[j]? with
 | some y=>Nat.blt y n&&(match pos is y with|some q=>Nat.beq q j|none=>false)
 | none=>false
theorem QI{n:Nat}{b:List Nat}(h:Gh n b=true)(j y:Nat)(e:b[j]?=some y):y<n/\pos b y=some j:=by
 unfold Gh at h;rw[Ad9] at h;have:=h j (by have:=(AbE.1 e).1;simpa using this);rw[e] at this;simp only[Ab8] at this;obtain ⟨c,a⟩:=this;refine ⟨by simpa using c,?_⟩
 cases hq:pos b y with
 | none=>rw[hq] at a;cases a
 | some q=>rw[hq] at a;simp at a;rw[a]
def Dv(Γ:List Ah):List Nat->List Ah
 | []=>[]
 | i::is=>(match Γ[i]? with|some A=>A|none=>emp)::Dv Γ is
theorem K7(Γ:List Ah):∀(a:List Nat) (j:Nat) (A:Ah),(Dv Γ a)[j]?=some A->∃i,a[j]?=some i/\(Γ[i]?=some A\/A=emp)
 | [],_,_,h=>by simp[Dv] at h
 | i::a,0,A,h=>by
  simp only[Dv,Aci,AbL] at h;refine ⟨i,Z,?_⟩
  cases hi:Γ[i]? with
  | none=>rw[hi] at h;exact .inr h.symm
  | some B=>rw[hi] at h;exact .inl (congrArg some h)
 | i::a,j+1,A,h=>by
  simp only[Dv,Ab4] at h;obtain ⟨q,hq,hA⟩:=K7 Γ a j A h;exact ⟨q,by simpa using hq,hA⟩
theorem picks_len(Γ:List Ah):∀is:List Nat,(Dv Γ is).length=is.length
 | []=>rfl
 | _::is=>by simp[Dv,picks_len Γ is]
theorem K8{Γ:List Ah}{h:Hp}(hs:seps Γ h)(n:Nat)(a:List Nat)(f:Gh n a=true):seps (Dv Γ a++Γ.drop n) h:=by
 obtain ⟨own,c⟩:=hs;refine ⟨λk=>if own k<n then (match pos a (own k) with|some j=>j|none=>a.length+Γ.length) else a.length+(own k-n),λj A b=>?_⟩;rcases AbX j a.length with g|g
 ·rw[AbU (by rw[picks_len];exact g)] at b
  obtain ⟨i,m,b⟩:=K7 Γ a j A b;obtain ⟨d,l⟩:=QI f j i m;rcases b with b|rfl
  ·have:=c i A b
   rw[CK (h':=h) (own':=λk=>if own k<n then (match pos a (own k) with|some j=>j|none=>a.length+Γ.length) else a.length+(own k-n)) (j:=j) (λk=>?_) (λ_ _=>rfl)] at this
   ·exact this
   constructor
   ·intro e;subst e;simp[d,l]
   intro e;split at e
   ·cases hp:pos a (own k) with
    | none=>rw[hp] at e;simp at e;omega
    | some q=>rw[hp] at e;simp at e;subst e;have:=I6 _ _ _ hp;rw[m] at this;simpa using this.symm
   omega
  trivial
 rw[AbT (by rw[picks_len];exact g),picks_len,AcH] at b;have:=c _ A b;have o:=(AbE.1 b).1;rw[CK (h':=h) (own':=λk=>if own k<n then (match pos a (own k) with|some j=>j|none=>a.length+Γ.length) else a.length+(own k-n)) (j:=j) (λk=>?_) (λ_ _=>rfl)] at this
 ·exact this
 constructor
 ·intro e;rw[if_neg U];omega
 intro e;split at e
 ·cases hp:pos a (own k) with
  | none=>rw[hp] at e;simp at e;omega
  | some q=>rw[hp] at e;simp at e;have:=YT _ _ _ hp;omega
 omega
theorem GC{As Γ:List Ah}{h:Hp}(hs:seps (seps As::Γ) h):seps (As++Γ) h:=by
 obtain ⟨own,b⟩:=hs;obtain ⟨a,g⟩:=b 0 _ Z;refine ⟨λk=>if own k=0 then (if a k<As.length then a k else As.length+Γ.length) else As.length+(own k-1),λj A c=>?_⟩;rcases AbX j As.length with d|d
 ·rw[AbU d] at c
  have:=g j A c;have e:(h.part own 0).part a j=h.part (λk=>if own k=0 then (if a k<As.length then a k else As.length+Γ.length) else As.length+(own k-1)) j:=by
   funext k;unfold Hp.part;dsimp only;by_cases q:own k=0
   ·by_cases q':a k=j
    ·simp[q,q',d]
    have:¬(if a k<As.length then a k else As.length+Γ.length)=j:=by split<;>omega
    simp[q,q',this]
   have:¬As.length+(own k-1)=j:=by omega
   simp[q,this]
  rwa[e] at this
 rw[AbT d] at c;have f:=(AbE.1 c).1;have:=b (j-As.length+1) A (by simpa using c);rw[CK (h':=h) (own':=λk=>if own k=0 then (if a k<As.length then a k else As.length+Γ.length) else As.length+(own k-1)) (j:=j) (λk=>?_) (λ_ _=>rfl)] at this
 ·exact this
 constructor
 ·intro e;rw[if_neg U];omega
 intro e;split at e
 ·split at e<;>omega
 omega
theorem HR{As Γ:List Ah}{h:Hp}(hs:seps (As++Γ) h):seps (seps As::Γ) h:=by
 obtain ⟨own,a⟩:=hs;refine ⟨λk=>if own k<As.length then 0 else own k-As.length+1,λj A c=>?_⟩
 cases j with
 | zero=>
  simp only[Aci,AbL] at c;subst c;refine ⟨own,λi A d=>?_⟩;have b:=(AbE.1 d).1;have:=a i A (by rw[AbU b];exact d);have e:h.part own i=(h.part (λk=>if own k<As.length then 0 else own k-As.length+1) 0).part own i:=by
   funext k;unfold Hp.part;dsimp only;by_cases q:own k=i
   ·simp[q,b]
   simp[q]
  rwa[e] at this
 | succ j=>
  simp only[Ab4] at c;have:=a (As.length+j) A (by rw[AbT U];simpa using c);rw[CK (h':=h) (own':=λk=>if own k<As.length then 0 else own k-As.length+1) (j:=j+1) (λk=>?_) (λ_ _=>rfl)] at this
  ·exact this
  constructor
  ·intro e;rw[if_neg U];omega
  intro e;split at e<;>omega
theorem CF{As Bs:List Ah}{h:Hp}(hs:seps (As++Bs) h):seps (Bs++As) h:=by
 obtain ⟨own,a⟩:=hs;refine ⟨λk=>if own k<As.length then own k+Bs.length else if own k<As.length+Bs.length then own k-As.length else own k,λj A b=>?_⟩;rcases AbX j Bs.length with d|d
 ·rw[AbU d] at b
  have:=a (As.length+j) A (by rw[AbT U];simpa using b);rw[CK (h':=h) (own':=λk=>if own k<As.length then own k+Bs.length else if own k<As.length+Bs.length then own k-As.length else own k) (j:=j) (λk=>?_) (λ_ _=>rfl)] at this
  ·exact this
  constructor
  ·intro e;rw[if_neg U,if_pos U];omega
  intro e;split at e
  ·omega
  split at e<;>omega
 rw[AbT d] at b;have c:=(AbE.1 b).1;have:=a (j-Bs.length) A (by rw[AbU c];exact b);rw[CK (h':=h) (own':=λk=>if own k<As.length then own k+Bs.length else if own k<As.length+Bs.length then own k-As.length else own k) (j:=j) (λk=>?_) (λ_ _=>rfl)] at this
 ·exact this
 constructor
 ·intro e;rw[if_pos U];omega
 intro e;split at e
 ·omega
 split at e<;>omega
theorem Wv{Γ:List Ah}{h:Hp}(hs:seps Γ h)(i:Nat){A:Ah}(f:Γ[i]?=some A){σ:Type}{B:σ->Ah}(c:∀h',(∀k o,h' k=some o->h k=some o)->A h'->∃x,B x h'):∃x,seps (Γ.set i (B x)) h:=by
 obtain ⟨own,a⟩:=hs;obtain ⟨x,d⟩:=c _ (λk o e=>(ES e).2) (a i A f);refine ⟨x,own,λj C b=>?_⟩;rw[AcE] at b;split at b
 ·rename_i e;subst e
  split at b
  ·cases b;exact d
  cases b
 exact a j C b

section
variable{z w:World}{Γ:List Ah}
theorem Sep.same{w':World}(H:Sep z Γ w)(d:w'.os=w.os)(a:w'.tape=w.tape)(b:w'.output=w.output)(c:∀k:Nat,w'.heap[k]?=w.heap[k]?):Sep z Γ w':=
 ⟨d.trans H.os,a.trans H.tape,b.trans H.output,(show hp w'=hp w from funext c)▸H.own⟩
theorem Sep.drew(H:Sep z Γ w):Sep z Γ w.drew:=H.same Z Z Z λ_=>rfl
theorem Sep.pick(n:Nat)(b:List Nat)(H:Sep z Γ w)(a:Gh n b=true):Sep z (Dv Γ b++Γ.drop n) w:=⟨H.os,H.tape,H.output,K8 H.own n b a⟩
theorem Sep.perm(n:Nat)(b:List Nat){Γ':List Ah}(H:Sep z Γ w)(a:Gh n b=true)(e:Dv Γ b++Γ.drop n=Γ'):Sep z Γ' w:=e▸H.pick n b a
theorem Sep.opened{As:List Ah}(H:Sep z (seps As::Γ) w):Sep z (As++Γ) w:=⟨H.os,H.tape,H.output,GC H.own⟩
theorem Sep.shut{As:List Ah}(H:Sep z (As++Γ) w):Sep z (seps As::Γ) w:=⟨H.os,H.tape,H.output,HR H.own⟩
theorem Sep.swap{As Bs:List Ah}(H:Sep z (As++Bs) w):Sep z (Bs++As) w:=⟨H.os,H.tape,H.output,CF H.own⟩
theorem Sep.front{As Bs:List Ah}(H:Sep z (As++Bs) w):Sep z As w:=by
 have d:=H.swap;have:seps As (hp w):=by
  obtain ⟨own,c⟩:=d.own;refine ⟨λk=>if own k<Bs.length then As.length else own k-Bs.length,λj A a=>?_⟩;have b:=(AbE.1 a).1;have:=c (Bs.length+j) A (by rw[AbT U];simpa using a);rwa[CK (h':=hp w) (own':=λk=>if own k<Bs.length then As.length else own k-Bs.length) (j:=j) (λk=>⟨λe=>by rw[if_neg U];omega,λe=>by split at e<;>omega⟩) (λ_ _=>rfl)] at this
 exact ⟨H.os,H.tape,H.output,this⟩
theorem Sep.ex(i:Nat){A:Ah}{σ:Type}{B:σ->Ah}(H:Sep z Γ w)(c:Γ[i]?=some A)(b:∀h,A h->∃x,B x h):∃x,Sep z (Γ.set i (B x)) w:=by
 obtain ⟨x,a⟩:=Wv H.own i c (λh _ q=>b h q);exact ⟨x,H.os,H.tape,H.output,a⟩
theorem Sep.mono(i:Nat){A B:Ah}(H:Sep z Γ w)(c:Γ[i]?=some A)(a:∀h,A h->B h):Sep z (Γ.set i B) w:=by
 obtain ⟨_,b⟩:=H.ex i (σ:=Unit) (B:=λ_=>B) c (λh q=>⟨(),a h q⟩);exact b
theorem Sep.exAt(i:Nat){A:Ah}{σ:Type}{p:σ->Prop}{B:σ->Ah}(H:Sep z Γ w)(d:Γ[i]?=some A)(c:∀h,A h->∃x,p x/\B x h):∃x,p x/\Sep z (Γ.set i (B x)) w:=by
 obtain ⟨⟨x,hp⟩,a⟩:=H.ex i (σ:= {x:σ // p x}) (B:=λx=>B x.1) d (λh q=>by obtain ⟨x,e,b⟩:=c h q;exact ⟨⟨x,e⟩,b⟩);exact ⟨x,hp,a⟩
theorem Sep.into{σ:Type}{A:Ah}{p:σ->Prop}{As:σ->List Ah}(H:Sep z (A::Γ) w)(c:∀h,A h->∃x,p x/\seps (As x) h):∃x,p x/\Sep z (As x++Γ) w:=by
 obtain ⟨⟨x,hp⟩,a⟩:=H.ex 0 (σ:= {x:σ // p x}) (B:=λx=>seps (As x.1)) Z (λh q=>by obtain ⟨x,d,b⟩:=c h q;exact ⟨⟨x,d⟩,b⟩);exact ⟨x,hp,a.opened⟩
theorem Sep.made(n:Nat){A:Ah}(H:Sep z Γ w)(a:∀h,seps (Γ.take n) h->A h):Sep z (A::Γ.drop n) w:=by
 have:Sep z (Γ.take n++Γ.drop n) w:=by rw[AcC];exact H
 exact this.shut.mono 0 Z a
theorem Sep.get(i:Nat){A:Ah}(H:Sep z Γ w)(b:Γ[i]?=some A):∃h,A h/\∀k o,h k=some o->w.heap[k]?=some o:=by
 obtain ⟨own,a⟩:=H.own;exact ⟨_,a i A b,λk o e=>(ES e).2⟩
theorem Sep.bk(i:Nat){b:Nat}{o:Obj}(H:Sep z Γ w)(c:Γ[i]?=some (bk b o)):w.heap[b]?=some o:=by
 obtain ⟨h,d,a⟩:=H.get i c;exact a _ _ d
theorem Sep.blk(i:Nat){b:Nat}{cs:List Value}{ty:TypeId}(H:Sep z Γ w)(a:Γ[i]?=some (blk b cs ty)):Blk b cs ty w:=H.bk i a
theorem Sep.cel(i:Nat){b:Nat}{cs:List Value}{ty:TypeId}(H:Sep z Γ w)(c:Γ[i]?=some (YthbbejpbkglmlaaGreatDoor.blk b cs ty))(o:Nat){v:Value}(a:cs[o]?=some v):E6 b o v w:=(H.blk i c).cel o a
theorem Sep.write(i:Nat){b:Nat}{o o':Obj}{w':World}(H:Sep z Γ w)(r:Γ[i]?=some (YthbbejpbkglmlaaGreatDoor.bk b o))(m:w'.os=w.os)(g:w'.tape=w.tape)(l:w'.output=w.output)
  (p:w'.heap[b]?=some o')(n:∀k,k≠b->w'.heap[k]?=w.heap[k]?):Sep z (Γ.set i (YthbbejpbkglmlaaGreatDoor.bk b o')) w':=by
 refine ⟨m.trans H.os,g.trans H.tape,l.trans H.output,?_⟩;obtain ⟨own,a⟩:=H.own;have d:=(ES (a i _ r)).1;refine ⟨own,λj C c=>?_⟩;rw[AcE] at c;split at c
 ·rename_i e;subst e
  split at c
  ·cases c
   unfold YthbbejpbkglmlaaGreatDoor.bk Hp.part hp;rw[if_pos d,p]
  cases c
 rename_i e;have:=a j C c;have h:(hp w).part own j=(hp w').part own j:=CK (λ_=>Iff.rfl) (λk f=>(n k (λq=>e (by rw[<-f,q,d]))).symm);rwa[h] at this
theorem Sep.grow{A:Ah}{w':World}(H:Sep z Γ w)(x:Ext No w w')(c:A (λk=>if k<w.heap.size then none else w'.heap[k]?)):Sep z (A::Γ) w':=by
 refine ⟨x.os.trans H.os,x.tape.trans H.tape,x.output.trans H.output,?_⟩;obtain ⟨own,a⟩:=H.own;refine ⟨λk=>if k<w.heap.size then own k+1 else 0,λj C b=>?_⟩
 cases j with
 | zero=>
  simp only[Aci,AbL] at b;subst b;have e:(hp w').part (λk=>if k<w.heap.size then own k+1 else 0) 0=λk=>if k<w.heap.size then none else w'.heap[k]? :=by
   funext k;unfold Hp.part hp;dsimp only;by_cases q:k<w.heap.size
   ·simp[q]
   simp[q]
  rw[e];exact c
 | succ j=>
  simp only[Ab4] at b;have:=a j C b;have e:(hp w').part (λk=>if k<w.heap.size then own k+1 else 0) (j+1)=(hp w).part own j:=by
   funext k;unfold Hp.part hp;dsimp only;by_cases q:k<w.heap.size
   ·simp only[q,if_true,Nat.add_right_cancel_iff]
    by_cases q':own k=j
    ·simp only[q',if_true];exact x.block k q (λr=>r)
    simp[q']
   have:w.heap[k]?=none:=Acj U;simp[q,this]
  rwa[e]
theorem Sep.ext0{w':World}(H:Sep z Γ w)(x:Ext No w w'):Sep z Γ w':=by
 have:=H.grow (A:=emp) x trivial;have:=this.perm 1 [] (Γ':=Γ) Z Z;exact this
theorem A4{K:World->Prop}(H:Sep z Γ w)(h:∀w,Sep z Γ w->K w):∀w',Ext No w w'->w'.heap.size=w.heap.size->K w':=λw' x _=>h w' (H.ext0 x)
theorem Sep.new{b:Nat}{o:Obj}{w':World}(H:Sep z Γ w)(x:Ext No w w')(c:w.heap.size<=b)(a:w'.heap[b]?=some o):Sep z (YthbbejpbkglmlaaGreatDoor.bk b o::Γ) w':=
 H.grow x (show (if b<w.heap.size then none else w'.heap[b]?)=some o by rw[if_neg U];exact a)
theorem Sep.done(i:Nat)(H:Sep z Γ w)(d:Γ[i]?=some (base z)):Ext No z w:=by
 obtain ⟨h,f,c⟩:=H.get i d;have a:∀k,k<z.heap.size->w.heap[k]?=z.heap[k]? :=λk b=>by
  have e:z.heap[k]?=some z.heap[k]:=AdT b;rw[e];exact c k _ ((f k b).trans e)
 refine ⟨H.os,H.tape,H.output,?_,λk b _=>a k b⟩;rcases AbX w.heap.size z.heap.size with q|q
 ·have:=a w.heap.size q
  rw[Acj (Ab9 _),AdT q] at this;cases this
 exact q
end

section
variable{z w:World}{Γ:List Ah}{a0 a1 a2 a3 a4 a5 a6 a7 a8 a9 a10 a11 a12 a13 a14 a15 a16 a17 a18 a19 a20 a21 a22 a23 a24 a25 a26:Ah}
theorem Sep.l1(H:Sep z (a0::Γ) w):Sep z (a0::Γ) w:=H
theorem Sep.l2(H:Sep z (a0::a1::Γ) w):Sep z (a0::a1::Γ) w:=H
theorem Sep.l3(H:Sep z (a0::a1::a2::Γ) w):Sep z (a0::a1::a2::Γ) w:=H
theorem Sep.l4(H:Sep z (a0::a1::a2::a3::Γ) w):Sep z (a0::a1::a2::a3::Γ) w:=H
theorem Sep.l5(H:Sep z (a0::a1::a2::a3::a4::Γ) w):Sep z (a0::a1::a2::a3::a4::Γ) w:=H
theorem Sep.l6(H:Sep z (a0::a1::a2::a3::a4::a5::Γ) w):Sep z (a0::a1::a2::a3::a4::a5::Γ) w:=H
theorem Sep.l7(H:Sep z (a0::a1::a2::a3::a4::a5::a6::Γ) w):Sep z (a0::a1::a2::a3::a4::a5::a6::Γ) w:=H
theorem Sep.l8(H:Sep z (a0::a1::a2::a3::a4::a5::a6::a7::Γ) w):Sep z (a0::a1::a2::a3::a4::a5::a6::a7::Γ) w:=H
theorem Sep.l9(H:Sep z (a0::a1::a2::a3::a4::a5::a6::a7::a8::Γ) w):Sep z (a0::a1::a2::a3::a4::a5::a6::a7::a8::Γ) w:=H
theorem Sep.l10(H:Sep z (a0::a1::a2::a3::a4::a5::a6::a7::a8::a9::Γ) w):Sep z (a0::a1::a2::a3::a4::a5::a6::a7::a8::a9::Γ) w:=H
theorem Sep.l11(H:Sep z (a0::a1::a2::a3::a4::a5::a6::a7::a8::a9::a10::Γ) w):Sep z (a0::a1::a2::a3::a4::a5::a6::a7::a8::a9::a10::Γ) w:=H
theorem Sep.l12(H:Sep z (a0::a1::a2::a3::a4::a5::a6::a7::a8::a9::a10::a11::Γ) w):Sep z (a0::a1::a2::a3::a4::a5::a6::a7::a8::a9::a10::a11::Γ) w:=H
theorem Sep.l13(H:Sep z (a0::a1::a2::a3::a4::a5::a6::a7::a8::a9::a10::a11::a12::Γ) w):Sep z (a0::a1::a2::a3::a4::a5::a6::a7::a8::a9::a10::a11::a12::Γ) w:=H
theorem Sep.l14(H:Sep z (a0::a1::a2::a3::a4::a5::a6::a7::a8::a9::a10::a11::a12::a13::Γ) w):Sep z (a0::a1::a2::a3::a4::a5::a6::a7::a8::a9::a10::a11::a12::a13::Γ) w:=H
theorem Sep.f1(H:Sep z (a0::a1::Γ) w):Sep z (a1::a0::Γ) w:=H.pick 2 [1,0] Z
theorem Sep.f2(H:Sep z (a0::a1::a2::Γ) w):Sep z (a2::a0::a1::Γ) w:=H.pick 3 [2,0,1] Z
theorem Sep.f3(H:Sep z (a0::a1::a2::a3::Γ) w):Sep z (a3::a0::a1::a2::Γ) w:=H.pick 4 [3,0,1,2] Z
theorem Sep.f4(H:Sep z (a0::a1::a2::a3::a4::Γ) w):Sep z (a4::a0::a1::a2::a3::Γ) w:=H.pick 5 [4,0,1,2,3] Z
theorem Sep.f5(H:Sep z (a0::a1::a2::a3::a4::a5::Γ) w):Sep z (a5::a0::a1::a2::a3::a4::Γ) w:=H.pick 6 [5,0,1,2,3,4] Z
theorem Sep.f6(H:Sep z (a0::a1::a2::a3::a4::a5::a6::Γ) w):Sep z (a6::a0::a1::a2::a3::a4::a5::Γ) w:=H.pick 7 [6,0,1,2,3,4,5] Z
theorem Sep.f7(H:Sep z (a0::a1::a2::a3::a4::a5::a6::a7::Γ) w):Sep z (a7::a0::a1::a2::a3::a4::a5::a6::Γ) w:=H.pick 8 [7,0,1,2,3,4,5,6] Z
theorem Sep.f8(H:Sep z (a0::a1::a2::a3::a4::a5::a6::a7::a8::Γ) w):Sep z (a8::a0::a1::a2::a3::a4::a5::a6::a7::Γ) w:=H.pick 9 [8,0,1,2,3,4,5,6,7] Z
theorem Sep.f9(H:Sep z (a0::a1::a2::a3::a4::a5::a6::a7::a8::a9::Γ) w):Sep z (a9::a0::a1::a2::a3::a4::a5::a6::a7::a8::Γ) w:=H.pick 10 [9,0,1,2,3,4,5,6,7,8] Z
theorem Sep.f10(H:Sep z (a0::a1::a2::a3::a4::a5::a6::a7::a8::a9::a10::Γ) w):Sep z (a10::a0::a1::a2::a3::a4::a5::a6::a7::a8::a9::Γ) w:=H.pick 11 [10,0,1,2,3,4,5,6,7,8,9] Z
theorem Sep.l0(H:Sep z Γ w):Sep z Γ w:=H
theorem Sep.d(H:Sep z (a0::Γ) w):Sep z Γ w:=H.pick 1 [] Z
end

def Cn(P:Program)(f:FuncId)(args:List Value)(pre:List Ah)(post:Value->List Ah->Prop):Prop:=
 ∀z R w,Sep z (pre++R) w->Calls P f args.toArray w (Ret λv w'=>∃Γ',post v Γ'/\Sep z (Γ'++R) w')
abbrev Aj:=Cn prog
theorem Cn.mono{P:Program}{f:FuncId}{args:List Value}{pre:List Ah}{post a:Value->List Ah->Prop}(h:Cn P f args pre post)(hp:∀v Γ,post v Γ->a v Γ):Cn P f args pre a:=
 λz R w H=>Ret.mono (h z R w H) λ_ _ ⟨Γ',q,b⟩=>⟨Γ',hp _ _ q,b⟩
theorem k_updA{n:Nat}{ds:List Deferred}{L:List (Nat×Value)}{K:Act->Prop}(t:Nat){v u:Value}(c:Cf L t=some u)(e:u=v)(h:∀a,Fr n ds ((t,v)::L) a->K a):∀a,Fr n ds L a->K a:=λa b=>h a (b.upd t c e)
theorem YU{n:Nat}{ds:List Deferred}{L:List (Nat×Value)}{K:Act->Prop}(t:Nat){p:Prop}{b:Decidable p}(c:Cf L t=some (.bool (@decide p b)))(e: @decide p b=true)(h:∀a,Fr n ds ((t,.bool true)::L) a->K a):∀a,Fr n ds L a->K a:=k_updA t c (congrArg _ e) h
theorem Pk{n:Nat}{ds:List Deferred}{L:List (Nat×Value)}{K:Act->Prop}(t:Nat){p:Prop}{b:Decidable p}(c:Cf L t=some (.bool (@decide p b)))(e: @decide p b=false)(h:∀a,Fr n ds ((t,.bool false)::L) a->K a):∀a,Fr n ds L a->K a:=k_updA t c (congrArg _ e) h
end
section
section more
variable{P:Program}{o:Oper}{a:Act}{w:World}{n:Nat}{ds:List Deferred}{L:List (Nat×Value)}
theorem L5{t:TypeId}{e:TypeId}{z:Value}{b sz by_:Nat}{parts:List (Nat×Operand)}{vs:List (Nat×Value)}{out:List Value}(l:o.op=.buildSlice t b parts.toArray)(ht:P.underlying t=some (.slice e))(s:Elt P e z sz by_)
  (c:(evs L (parts.map (·.2))).map (List.zip (parts.map (·.1)))=some vs)(u:b*sz<=16777216)(hl:0<b)(m:Instr.fill (λi=>some (i*sz,sz)) ((Array.range (b*sz)).map (z.cells[· % z.cells.size]!)) vs=some out.toArray):BX P n ds L o w (QH out e b w):=by
 intro a hF;obtain ⟨i,k,q,hs,hb,a0,v,r⟩:=s;refine ⟨_,_,?_,Wt w out e b⟩
 cases he:evs L (parts.map (·.2)) with
 | none=>rw[he] at c;cases c
 | some us=>
  rw[he] at c;simp only[Acf,AbL] at c;have p:=hF.evs he;have:(parts.map λx=>(x.1,a.eval x.2))=vs:=by
   rw[<-c,<-p,Ac7];clear c he p m l
   induction parts with
   | nil=>rfl
   | cons x xs ih=>simp[ih]
  simp only[execOp,l,Ach];rw[show (List.map (λx=>match x with|(i,x)=>(i,a.eval x)) parts)=vs from this];have f:b*sz≠0:=by
   intro y;rcases AeI.1 y with h|h<;>omega
  have d:¬b*sz > 2^24:=by omega
  have g:∀w,(zeroValue e).run P w=.ok z w:=λw=>by simp[zeroValue,typeInfo,k,q,go_sem]
  have j:∀w,(sizeOf e).run P w=.ok sz w:=λw=>by simp[sizeOf,typeInfo,k,hs,go_sem]
  simp only[Instr.buildSlice,AbW,run_underlying ht,AbS,j,if_neg d,Ab2,if_neg f,g,m,newRow,newObj,Sem.run]
end more
section tail
variable{P:Program}{ops:List Oper}{Q:Act->Prop}{a:Act}{w:World}{rest:List Oper}{o:Oper}{n d:Nat}{ds:List Deferred}{L:List (Nat×Value)}{v:Value}
theorem Cj(h:BJ ops L o.guard=true)(f:o.dst=some d)(b:Nat.blt d n=true)(e:Ax P (· =w) n ds L o v)(K:∀a',Fr n ds ((d,v)::L) a'->wpStill P ops.toArray w Q rest a'):∀a,Fr n ds L a->wpStill P ops.toArray w Q (o::rest) a:=λa c=>
 wpStill_step λK' g=>by
  rw[if_pos (wantL_ok c h)];unfold Oper.still;rw[e a c w Z,Oper.stillUpon_value,f];exact g _ (K _ (c.put d v b))
theorem QJ(g:EB ops L o.guard=true)(e:o.dst=some d)(b:Nat.blt d n=true)(K:∀a',Fr n ds ((d,undef)::L) a'->wpStill P ops.toArray w Q rest a'):∀a,Fr n ds L a->wpStill P ops.toArray w Q (o::rest) a:=λa c=>
 wpStill_step λK' f=>by
  rw[if_neg (by rw[skipL_ok c g];exact AdY),e];exact f _ (K _ (c.put d undef b))
theorem BY(h:∀a,Fr n ds L a->Q a):∀a,Fr n ds L a->wpStill P ops.toArray w Q [] a:=h
theorem Bh{id:Nat}{N R:Act->World->Prop}{X:Nat->Act->World->Prop}(k:Nat)(c:P.follows .mixedOrders=true)(b:Region.lexTailB .any ops.toArray k=true)
  (h:∀w',Ext No w w'->w'.heap.size=w.heap.size->∀a,Fr n ds L a->wpStill P ops.toArray w' (λa'=>wpList P ops.toArray (Qp N X R) (ops.drop k) a' w') (ops.take k) a):∀a,Fr n ds L a->(Code.region id ops.toArray true).wp P (Qp N X R) a w:=λa d=>
 wp_region_still_tail k c b (h _ (Ext.drawn No w) Z a d)
end tail
section held
variable{P:Program}{ops:List Oper}{N R:Act->World->Prop}{X:Nat->Act->World->Prop}{S:World->Prop}{a:Act}{w:World}{fuel:Nat}{listed:Array Bool}{n d i:Nat}{ds:List Deferred}{L:List (Nat×Value)}{v:Value}{o:Oper}
theorem BV{id:Nat}(S:World->Prop)(k:Nat)(b:ops.length=k)(c:P.follows .mixedOrders=true)
  (h:∀w',Ext No w w'->w'.heap.size=w.heap.size->∀a,Fr n ds L a->wpAnyH P .any ops.toArray (Qp N X R) S k (Array.replicate k false) a w'):∀a,Fr n ds L a->(Code.region id ops.toArray true).wp P (Qp N X R) a w:=λa d=>
 wp_region_held (S:=S) c (by have:=h _ (Ext.drawn No w) Z a d;simpa [b] using this)
theorem I7(i:Nat)(g:ops[i]?=some o)(hs:Region.noSelect ops.toArray=true)(k:Region.free .any ops.toArray listed i=true)(f:(Region.ready .any ops.toArray listed).contains i=true)
  (m:BJ ops L o.guard=true)(l:o.dst=some d)(b:Nat.blt d n=true)(e:Ax P S n ds L o v)(j:S w)
  (K:∀a',Fr n ds ((d,v)::L) a'->wpAnyH P .any ops.toArray (Qp N X R) S fuel (listed.setIfInBounds i true) a' w):∀a,Fr n ds L a->wpAnyH P .any ops.toArray (Qp N X R) S (fuel+1) listed a w:=λa c=>
 wpAnyH_take (i:=i) (oi:=o) (v:=v) (by simpa using g) hs k f (λ_ _ _ h=>h.elim) (.inl ⟨wantL_ok c m,λw' h=>e a c w' h⟩) j (by rw[l];exact K _ (c.put d v b))
theorem QK(i:Nat)(j:ops[i]?=some o)(hs:Region.noSelect ops.toArray=true)(g:Region.free .any ops.toArray listed i=true)(e:(Region.ready .any ops.toArray listed).contains i=true)
  (l:EB ops L o.guard=true)(f:o.dst=some d)(b:Nat.blt d n=true)(k:S w)
  (K:∀a',Fr n ds ((d,undef)::L) a'->wpAnyH P .any ops.toArray (Qp N X R) S fuel (listed.setIfInBounds i true) a' w):∀a,Fr n ds L a->wpAnyH P .any ops.toArray (Qp N X R) S (fuel+1) listed a w:=λa c=>
 wpAnyH_take (i:=i) (oi:=o) (v:=undef) (by simpa using j) hs g e (λ_ _ _ h=>h.elim) (.inr ⟨skipL_ok c l,Z⟩) k (by rw[f];exact K _ (c.put d undef b))
theorem Cs(rs:List Nat)(c:Region.ready .any ops.toArray listed=rs)(b:rs≠[])
  (h:∀i∈rs,∀a,Fr n ds L a->wpOp P ops.toArray (Qp N X R) i (λa' w'=>S w'/\wpAnyH P .any ops.toArray (Qp N X R) S fuel (listed.setIfInBounds i true) a' w') a w):∀a,Fr n ds L a->wpAnyH P .any ops.toArray (Qp N X R) S (fuel+1) listed a w:=λa e=>
 wpAnyH_all c b (λi d=>h i d a e)
theorem Ar{p:Nat->Prop}{i:Nat}(h:p i):∀j∈[i],p j:=λj a=>by simp at a;subst a;exact h
theorem Pl{p:Nat->Prop}{i k:Nat}(h:p i)(h':p k):∀j∈[i,k],p j:=λj a=>by
 simp at a;rcases a with rfl|rfl
 ·exact h
 exact h'
theorem a_done{fuel:Nat}(b:Region.ready .any ops.toArray listed=[])(h:∀a,Fr n ds L a->N a w):∀a,Fr n ds L a->wpAnyH P .any ops.toArray (Qp N X R) S fuel listed a w:=λa c=>wpAnyH_done b (h a c) _
theorem BZ{Z_:Act->World->Prop}(b:S w)(h:∀a,Fr n ds L a->Z_ a w):∀a,Fr n ds L a->S w/\Z_ a w:=λa c=>⟨b,h a c⟩
theorem Ck{K:Act->World->Prop}{Rr:Value->World->Prop}(g:ops[i]?=some o)(j:BJ ops L o.guard=true)(f:o.dst=some d)(b:Nat.blt d n=true)(h:BX P n ds L o w Rr)(l:∀v w',Rr v w'->∀a',Fr n ds ((d,v)::L) a'->K a' w'):∀a,Fr n ds L a->wpOp P ops.toArray (Qp N X R) i K a w:=by
 intro a c;obtain ⟨v,w',e,k⟩:=h a c;unfold wpOp;rw[AcA,g];simp only;rw[if_pos (wantL_ok c j)];left;unfold Oper.wp;rw[e,AdS,f];exact l v w' k _ (c.put d v b)
theorem B6{K:Act->World->Prop}{Rr:World->Prop}(e:ops[i]?=some o)(f:BJ ops L o.guard=true)(d:o.dst=none)(h:Dt P n ds L o w Rr)(j:∀w',Rr w'->∀a,Fr n ds L a->K a w'):∀a,Fr n ds L a->wpOp P ops.toArray (Qp N X R) i K a w:=by
 intro a b;obtain ⟨w',c,g⟩:=h a b;unfold wpOp;rw[AcA,e];simp only;rw[if_pos (wantL_ok b f)];left;unfold Oper.wp;rw[c,Oper.upon_skip,d];exact j w' g a b
theorem YV{K:Act->World->Prop}{Rr:Value->World->Prop}{f:FuncId}{args:List Operand}{vs:List Value}{tys:Array TypeId}(m:ops[i]?=some o)(s:BJ ops L o.guard=true)(r:o.dst=some d)(j:Nat.blt d n=true)
  (p:o.op=.call {callee:=.value (.func f),args:=args.toArray,argTypes:=tys})(b:evs L args=some vs)(l:∀w,(callFunc f vs.toArray).run P w=.ok (.enter f vs.toArray) w)(h:Calls P f vs.toArray w (Ret Rr))
  (t:∀v w',Rr v w'->∀a',Fr n ds ((d,v)::L) a'->K a' w'):∀a,Fr n ds L a->wpOp P ops.toArray (Qp N X R) i K a w:=by
 intro a k;have g:(execOp a.eval o).run P w=.ok (.enter f vs.toArray) w:=by
  unfold execOp;have e:=k.evs b;simp only[p,resolve,Act.eval,Deferred.ofValue,invoke];simp only[go_sem,Ach,e,Ab3,Acw,l];simpa using l w
 unfold wpOp;rw[AcA,m];simp only;rw[if_pos (wantL_ok k s)];left;unfold Oper.wp;rw[g,AeH];exact Aed h λe w' q=>by
  cases e with
  | returned v=>simp only[r];exact t v w' q _ (k.put d v j)
  | panicked c=>exact q.elim
  | outgrown=>exact q.elim
end held

section last
variable{P:Program}{ops:Array Oper}{Q:Exit->Act->World->Prop}{S:World->Prop}
def Dc(ops:Array Oper)(listed:Array Bool):Prop:=∀k o,ops[k]?=some o->listed.getD k true=true->k<listed.size->∀e∈o.after,Region.binds .any e=true->listed.getD e.on false=true
theorem Dc.start(ops:Array Oper)(k:Nat):Dc ops (Array.replicate k false):=λj o _ h a=>by
 simp at a;simp[Array.getD,a] at h
theorem Dc.next{listed:Array Bool}{i:Nat}(h:Dc ops listed)(l:i∈Region.ready .any ops listed):Dc ops (listed.setIfInBounds i true):=λk o g d m e j f=>by
 have c:k<listed.size:=by simpa using m
 by_cases hki:k=i
 ·subst hki
  obtain ⟨_,o',a,b⟩:=mem_ready.1 l;rw[g] at a;cases a;have:=b e j f;by_cases hei:e.on=k
  ·rw[hei];simp[c]
  rw[getD_set_ne false (Ada hei)];exact this
 rw[getD_set_ne true (Ada hki)] at d;have:=h k o g d c e j f;by_cases hei:e.on=i
 ·rw[hei]
  rcases AbX i listed.size with h'|h'
  ·simp[h']
  rw[hei] at this;simp[Acj h'] at this
 rw[getD_set_ne false (Ada hei)];exact this
def Hi(ops:Array Oper):Bool:=(List.range (ops.size-1)).all λk=>(List.range ops.size).any λj=>k<j&&(match ops[j]? with|some o=>o.after.any λe=>Region.binds .any e&&e.on==k|none=>false)
theorem Pm(h:Hi ops=true)(k:Nat)(d:k+1<ops.size):∃j o,k<j/\ops[j]?=some o/\∃e∈o.after,Region.binds .any e=true/\e.on=k:=by
 simp only[Hi,Ad9,AcL] at h;have:=h k U;simp only[AeA,AcL,Ab8,decide_eq_true_eq] at this;obtain ⟨j,_,b,a⟩:=this
 cases ho:ops[j]? with
 | none=>rw[ho] at a;cases a
 | some o=>
  rw[ho] at a;simp only[Array.any_eq_true] at a;obtain ⟨q,hq,c⟩:=a;simp only[Ab8,beq_iff_eq] at c;exact ⟨j,o,b,ho,_,Array.getElem_mem hq,c.1,c.2⟩
theorem Pn(h:Hi ops=true){listed:Array Bool}(p:Dc ops listed)(hs:listed.size=ops.size)(r:ops.size-1∈Region.ready .any ops listed):∀n k,ops.size-k<=n->k+1<ops.size->listed.getD k false=true:=by
 intro n
 induction n with
 | zero=>intro k m d;omega
 | succ n ih=>
  intro k m d;obtain ⟨j,o,l,f,e,g,i,b⟩:=Pm h k d;have s:j<ops.size:=(Acv.1 f).1;by_cases hjl:j=ops.size-1
  ·subst hjl
   obtain ⟨_,o',a,c⟩:=mem_ready.1 r;rw[f] at a;cases a;rw[<-b];exact c e g i
  have:=ih j U U;rw[<-b];exact p j o f (by
   have q:j<listed.size:=by omega
   simp[q] at this ⊢;exact this) U e g i
def GR(P:Program)(ops:Array Oper)(Q:Exit->Act->World->Prop)(S:World->Prop):Nat->Array Bool->Act->World->Prop
 | 0,listed,a,w=>Region.ready .any ops listed=[]/\Q .normal a w
 | fuel+1,listed,a,w=>
  (Region.ready .any ops listed=[]->Q .normal a w)/\
  ∀i∈Region.ready .any ops listed,wpOp P ops Q i (λa' w'=>(i≠ops.size-1->S w')/\GR P ops Q S fuel (listed.setIfInBounds i true) a' w') a w
theorem Hj:∀(fuel:Nat) (listed:Array Bool) (a:Act) (w:World),GR P ops Q S fuel listed a w->wpAny P .any ops Q fuel listed a w
 | 0,_,_,_,h=>h
 | fuel+1,_,_,_,h=>⟨h.1,λi hi=>wpOp_mono (λa' w' h'=>Hj fuel _ a' w' h'.2) (h.2 i hi)⟩
theorem L6(n:Hi ops=true){i:Nat}{oi:Oper}{v:Value}(hi:ops[i]?=some oi)(a6:i≠ops.size-1)(l:∀(j:Nat) (o:Oper) cs b,ops[j]?=some o->o.op≠ .select cs b)
  (hQ:∀c a w,Q (.panic c) (a.put oi.dst v) w->Q (.panic c) a w):
  ∀(fuel:Nat) (listed:Array Bool) (a:Act) (w:World),Dc ops listed->listed.size=ops.size->
   (∀j p,ops[j]?=some p->j≠i->listed.getD j true=false->(∀e∈p.after,Region.binds .any e=true->e.on≠i)->oi.apart ops p=true)->
   i∈Region.ready .any ops listed->YieldsIf P ops S oi v a->S w->
   GR P ops Q S fuel (listed.setIfInBounds i true) (a.put oi.dst v) w->GR P ops Q S (fuel+1) listed a w:=by
 have a7:i<ops.size:=(Acv.1 hi).1;intro fuel
 induction fuel with
 | zero=>
  intro listed a w hd q _ g hy z H;refine ⟨λh=>(by rw[h] at g;cases g),λj t=>?_⟩;by_cases hji:j=i
  ·subst hji;exact hy.wpOp hi z ⟨λ_=>z,H⟩
  have:=ready_mono t hji;rw[H.1] at this;cases this
 | succ fuel ih=>
  intro listed a w hd q d g hy z H;refine ⟨λh=>(by rw[h] at g;cases g),λj t=>?_⟩;by_cases hji:j=i
  ·subst hji;exact hy.wpOp hi z ⟨λ_=>z,H⟩
  have r:=H.2 j (ready_mono t hji);have x:j≠ops.size-1:=λe=>by
   subst e;have:=Pn n hd q t (ops.size-i) i (Ab9 _) U;have u:=(mem_ready.1 g).1;have hh:i<listed.size:=by omega
   simp[hh] at this u;rw[this] at u;cases u
  obtain ⟨m,p,s,a1⟩:=mem_ready.1 t;have a0:∀e∈p.after,Region.binds .any e=true->e.on≠i:=λe he hb a3=>by
   have r:=a1 e he hb;have u:=(mem_ready.1 g).1;rw[a3] at r;rcases AbX i listed.size with h'|h'
   ·simp[h'] at u r;rw[u] at r;cases r
   simp[Acj h'] at r
  have h2:=wpOp_putIf s (d j p s hji m a0) (λcs b=>l i oi cs b hi) (λcs b=>l j p cs b s) hQ hy r;have f:∀k y,ops[k]?=some y->k≠i->(listed.setIfInBounds j true).getD k true=false->
    (∀e∈y.after,Region.binds .any e=true->e.on≠i)->oi.apart ops y=true:=λk y hk a5 a2 a4=>by
   refine d k y hk a5 ?_ a4;by_cases hjk:j=k
   ·subst hjk;exact m
   rw[getD_set_ne true hjk] at a2;exact a2
  refine wpOp_mono (λa' w' h3=>⟨λ_=>h3.2.1 x,ih (listed.setIfInBounds j true) a' w' (hd.next t) (by simpa using q) f (ready_mono g (Ada hji)) h3.1 (h3.2.1 x) ?_⟩) h2;rw[Array.setIfInBounds_comm _ _ hji];exact h3.2.2
theorem NS{listed:Array Bool}{a:Act}{w:World}(hr:Region.ready .any ops listed=[])(h:Q .normal a w):∀fuel,GR P ops Q S fuel listed a w
 | 0=>⟨hr,h⟩
 | _+1=>⟨λ_=>h,by rw[hr];simp⟩
end last
section last2
variable{P:Program}{ops:List Oper}{N R:Act->World->Prop}{X:Nat->Act->World->Prop}{S:World->Prop}{a:Act}{w:World}{fuel:Nat}{listed:Array Bool}{n d i:Nat}{ds:List Deferred}{L:List (Nat×Value)}{v:Value}{o:Oper}
def Gi(P:Program)(ops:List Oper)(Q:Exit->Act->World->Prop)(S:World->Prop)(fuel:Nat)(listed:Array Bool)(a:Act)(w:World):Prop:=Dc ops.toArray listed->listed.size=ops.length->GR P ops.toArray Q S fuel listed a w
theorem AK{id:Nat}(S:World->Prop)(k:Nat)(b:ops.length=k)(c:P.follows .mixedOrders=true)
  (h:∀w',Ext No w w'->w'.heap.size=w.heap.size->∀a,Fr n ds L a->Gi P ops (Qp N X R) S k (Array.replicate k false) a w'):∀a,Fr n ds L a->(Code.region id ops.toArray true).wp P (Qp N X R) a w:=λa d=>
 wp_region_any c (Hj (S:=S) _ _ _ _ (by have:=h _ (Ext.drawn No w) Z a d (Dc.start _ _) (by simp[b]);simpa [b] using this))
theorem AR(i:Nat)(b:Hi ops.toArray=true)(q:ops[i]?=some o)(j:Nat.beq i (ops.length-1)=false)(hs:Region.noSelect ops.toArray=true)(s:Region.free .any ops.toArray listed i=true)(p:(Region.ready .any ops.toArray listed).contains i=true)
  (u:BJ ops L o.guard=true)(t:o.dst=some d)(k:Nat.blt d n=true)(m:Ax P S n ds L o v)(r:S w)
  (K:∀a',Fr n ds ((d,v)::L) a'->Gi P ops (Qp N X R) S fuel (listed.setIfInBounds i true) a' w):∀a,Fr n ds L a->Gi P ops (Qp N X R) S (fuel+1) listed a w:=λa l c g=>
 have e:ops.toArray[i]?=some o:=by simpa using q
 have f:i∈Region.ready .any ops.toArray listed:=by simpa using p
 L6 b (i:=i) (oi:=o) (v:=v) e (by simpa using AdF j) (Region.noSelect_spec hs) (λ_ _ _ h=>h.elim) fuel listed a w c (by simpa using g) (Region.free_spec e s) f (.inl ⟨wantL_ok l u,λw' h=>m a l w' h⟩) r
  (by rw[t];exact K _ (l.put d v k) (c.next f) (by simpa using g))
theorem An(rs:List Nat)(f:Region.ready .any ops.toArray listed=rs)(c:rs≠[])
  (h:∀i∈rs,∀a,Fr n ds L a->wpOp P ops.toArray (Qp N X R) i (λa' w'=>(i≠ops.length-1->S w')/\Gi P ops (Qp N X R) S fuel (listed.setIfInBounds i true) a' w') a w):∀a,Fr n ds L a->Gi P ops (Qp N X R) S (fuel+1) listed a w:=λa j b d=>
 ⟨λe=>absurd (f▸e) c,λi g=>wpOp_mono (λa' w' q=>⟨by simpa using q.1,q.2 (b.next g) (by simpa using d)⟩) (h i (f▸g) a j)⟩
theorem AT{fuel:Nat}(b:Region.ready .any ops.toArray listed=[])(h:∀a,Fr n ds L a->N a w):∀a,Fr n ds L a->Gi P ops (Qp N X R) S fuel listed a w:=λa c _ _=>NS b (h a c) _
theorem Am{q:Prop}{Z_:Act->World->Prop}(b:q->S w)(h:∀a,Fr n ds L a->Z_ a w):∀a,Fr n ds L a->(q->S w)/\Z_ a w:=λa c=>⟨b,h a c⟩
end last2
end
section
def u8(b:UInt8):Value:=.int .u8 b.toNat
def u32(b:UInt32):Value:=.int .u32 b.toNat
def Fi(x:Int):UInt8:=UInt8.ofNat (x%256).toNat
def DS(x:Int):UInt32:=UInt32.ofNat (x%4294967296).toNat
theorem AaH(x:Int):IntKind.u8.wrap x=(Fi x).toNat:=by
 simp[Fi,IntKind.wrap,IntKind.bits,IntKind.signed];omega
theorem Ww(x:Int):IntKind.u32.wrap x=(DS x).toNat:=by
 simp[DS,IntKind.wrap,IntKind.bits,IntKind.signed];omega
theorem YW(b:UInt32):DS b.toNat=b:=by
 apply Adn.1;have:=b.toNat_lt;simp[DS];omega
theorem Wx(x:Int):Value.int .u8 (IntKind.u8.wrap x)=u8 (Fi x):=congrArg _ (AaH x)
theorem SW(x:Int):Value.int .u32 (IntKind.u32.wrap x)=u32 (DS x):=congrArg _ (Ww x)
theorem Aby{a b:UInt8}(h:u8 a=u8 b):a=b:=by
 simp only[u8,Value.int.injEq,true_and] at h;exact AdU.1 U
section
variable{P:Program}{C:World->Prop}{o:Oper}{a:Act}{w z:World}{Γ:List Ah}{n:Nat}{ds:List Deferred}{L:List (Nat×Value)}{v:Value}{x y:Operand}{xt yt:TypeId}
theorem YX{p q:UInt8}(d:o.op=.binOp .xor xt x y yt)(c:ev L x=some (u8 p))(e:ev L y=some (u8 q)):Ax P C n ds L o (u8 (p ^^^ q)):=λa b w _=>by
 simp only[execOp,d,b.ev c,b.ev e,u8];simp[go_sem,Op.intBits,IntKind.wrap,IntKind.bits,IntKind.signed];have:=(p ^^^ q).toNat_lt;rw[<-UInt8.toNat_xor];show (((p ^^^ q).toNat:Int))%256=((p ^^^ q).toNat:Int);omega
theorem QL{p q:UInt8}(e:o.op=.binOp .eql xt x y yt){k:IntKind}(f:Du P xt xt=some k)(c:ev L x=some (u8 p))(g:ev L y=some (u8 q)):Ax P C n ds L o (.bool (decide (p=q))):=λa b w _=>by
 obtain ⟨d,j,i⟩:=EG f;simp only[execOp,e,b.ev c,b.ev g,u8];simp[i,go_sem];rw[Ab0];simp;exact ⟨λh=>AdU.1 U,λh=>by rw[h]⟩
theorem YY{p q:UInt8}(g:o.op=.binOp .neq xt x y yt){k:IntKind}(i:Du P xt xt=some k)(c:ev L x=some (u8 p))(f:ev L y=some (u8 q)):Ax P C n ds L o (.bool (decide (p≠q))):=λa b w _=>by
 obtain ⟨d,l,j⟩:=EG i;simp only[execOp,g,b.ev c,b.ev f,u8];simp[j,go_sem];rw[Ab0];simp;exact ⟨λh e=>h (by rw[e]),λh e=>h (AdU.1 U)⟩
theorem Wy{p q:UInt32}(e:o.op=.binOp .eql xt x y yt){k:IntKind}(f:Du P xt xt=some k)(c:ev L x=some (u32 p))(g:ev L y=some (u32 q)):Ax P C n ds L o (.bool (decide (p=q))):=λa b w _=>by
 obtain ⟨d,j,i⟩:=EG f;simp only[execOp,e,b.ev c,b.ev g,u32];simp[i,go_sem];rw[Ab0];simp;exact ⟨λh=>Adn.1 U,λh=>by rw[h]⟩
theorem Oh{p q:UInt32}(g:o.op=.binOp .neq xt x y yt){k:IntKind}(i:Du P xt xt=some k)(c:ev L x=some (u32 p))(f:ev L y=some (u32 q)):Ax P C n ds L o (.bool (decide (p≠q))):=λa b w _=>by
 obtain ⟨d,l,j⟩:=EG i;simp only[execOp,g,b.ev c,b.ev f,u32];simp[j,go_sem];rw[Ab0];simp;exact ⟨λh e=>h (by rw[e]),λh e=>h (Adn.1 U)⟩
theorem Ix{p q:UInt32}(d:o.op=.binOp .xor xt x y yt)(c:ev L x=some (u32 p))(e:ev L y=some (u32 q)):Ax P C n ds L o (u32 (p ^^^ q)):=λa b w _=>by
 simp only[execOp,d,b.ev c,b.ev e,u32];simp[go_sem,Op.intBits,IntKind.wrap,IntKind.bits,IntKind.signed];have:=(p ^^^ q).toNat_lt;rw[<-UInt32.toNat_xor];show (((p ^^^ q).toNat:Int))%4294967296=((p ^^^ q).toNat:Int);omega
theorem Wz{p q:UInt32}(d:o.op=.binOp .and xt x y yt)(c:ev L x=some (u32 p))(e:ev L y=some (u32 q)):Ax P C n ds L o (u32 (p&&&q)):=λa b w _=>by
 simp only[execOp,d,b.ev c,b.ev e,u32];simp[go_sem,Op.intBits,IntKind.wrap,IntKind.bits,IntKind.signed];have:=(p&&&q).toNat_lt;rw[<-AeB];show (((p&&&q).toNat:Int))%4294967296=((p&&&q).toNat:Int);omega
theorem WA{p q:UInt32}(d:o.op=.binOp .mul xt x y yt)(c:ev L x=some (u32 p))(e:ev L y=some (u32 q)):Ax P C n ds L o (u32 (p*q)):=λa b w _=>by
 simp only[execOp,d,b.ev c,b.ev e,u32];simp[go_sem,IntKind.wrap,IntKind.bits,IntKind.signed,UInt32.toNat_mul]
theorem F5{p:UInt32}{k:IntKind}{m:Int}{n':UInt32}(g:o.op=.binOp .shr xt x y yt)(e:ev L x=some (u32 p))(h:ev L y=some (.int k m))(f:0<=m/\m<32/\n'=UInt32.ofNat m.toNat):Ax P C n ds L o (u32 (p>>>n')):=λa c w _=>by
 obtain ⟨i,l,rfl⟩:=f;obtain ⟨j,rfl⟩:=AdC i;simp only[execOp,g,c.ev e,c.ev h,u32];have d:¬((j:Int)<0):=by omega
 have b:min j 32=j:=by omega
 simp[go_sem,Op.shift,IntKind.bits,d,b,UInt32.toNat_shiftRight];rw[Aex];simp;rw[AcN U]
theorem Iy{p:UInt32}(c:o.op=.unOp .xor xt x)(b:ev L x=some (u32 p)):Ax P C n ds L o (u32 (4294967295 ^^^ p)):=λa d w _=>by
 simp only[execOp,c,d.ev b,u32];simp[go_sem,Op.intBits,IntKind.max,IntKind.wrap,IntKind.bits,IntKind.signed];have:=(4294967295 ^^^ p).toNat_lt;have e:(4294967295 ^^^ p).toNat=4294967295 ^^^ p.toNat:=UInt32.toNat_xor _ _;rw[<-e];show (((4294967295 ^^^ p).toNat:Int))%4294967296=((4294967295 ^^^ p).toNat:Int);omega

theorem LS{a:TypeId}{k:IntKind}{p:Int}(c:o.op=.convert xt a x)(d:Du P xt a=some .u8)(b:ev L x=some (.int k p)):Ax P C n ds L o (u8 (Fi p)):=by
 have:=HQ (P:=P) (C:=C) (n:=n) (ds:=ds) (L:=L) c d b;rwa[Wx] at this
theorem HS{a:TypeId}{k:IntKind}{p:Int}(c:o.op=.convert xt a x)(d:Du P xt a=some .u32)(b:ev L x=some (.int k p)):Ax P C n ds L o (u32 (DS p)):=by
 have:=HQ (P:=P) (C:=C) (n:=n) (ds:=ds) (L:=L) c d b;rwa[SW] at this
theorem LT{a:TypeId}{p:UInt8}(c:o.op=.convert xt a x)(d:Du P xt a=some .i64)(b:ev L x=some (u8 p)):Ax P C n ds L o (Aa p.toNat):=by
 have:=HQ (P:=P) (C:=C) (n:=n) (ds:=ds) (L:=L) c d b;have hp:=p.toNat_lt;rwa[AcT _ U] at this
theorem QM{a:TypeId}{p:UInt32}(c:o.op=.convert xt a x)(d:Du P xt a=some .i64)(b:ev L x=some (u32 p)):Ax P C n ds L o (Aa p.toNat):=by
 have:=HQ (P:=P) (C:=C) (n:=n) (ds:=ds) (L:=L) c d b;have hp:=p.toNat_lt;rwa[AcT _ U] at this
theorem F6{a:TypeId}{p:UInt32}(c:o.op=.convert xt a x)(d:Du P xt a=some .u8)(b:ev L x=some (u32 p)):Ax P C n ds L o (u8 p.toUInt8):=by
 have:=LS (P:=P) (C:=C) (n:=n) (ds:=ds) (L:=L) c d b;have e:Fi p.toNat=p.toUInt8:=by
  apply AdU.1;simp[Fi];omega
 rwa[e] at this
theorem WB{a:TypeId}{p:UInt8}(c:o.op=.convert xt a x)(d:Du P xt a=some .u32)(b:ev L x=some (u8 p)):Ax P C n ds L o (u32 p.toUInt32):=by
 have:=HS (P:=P) (C:=C) (n:=n) (ds:=ds) (L:=L) c d b;have hp:=p.toNat_lt;have e:DS p.toNat=p.toUInt32:=by
  apply Adn.1;simp[DS];omega
 rwa[e] at this

def FD(P:Program)(t:TypeId):Bool:=match P.underlying t with|some (.pointer _)=>true|_=>false
theorem Hk{t:TypeId}(h:FD P t=true):∃e,P.underlying t=some (.pointer e):=by
 unfold FD at h;split at h
 ·exact ⟨_,by assumption⟩
 cases h
def SX(P:Program)(t:TypeId):Bool:=match P.underlying t with|some (.slice _)=>true|_=>false
theorem WC{t:TypeId}(h:SX P t=true):∃e,P.underlying t=some (.slice e):=by
 unfold SX at h;split at h
 ·exact ⟨_,by assumption⟩
 cases h
theorem L7{g:Addr}(h:o.op=.binOp .eql xt x y yt)(b:FD P xt=true)(d:ev L x=some (.pointer (some g)))(f:ev L y=some (.pointer none)):Ax P C n ds L o (.bool false):=λa c w _=>by
 obtain ⟨e,b⟩:=Hk b;simp only[execOp,h,c.ev d,c.ev f];simp[b,go_sem]
theorem SY{g:Addr}(h:o.op=.binOp .neq xt x y yt)(b:FD P xt=true)(d:ev L x=some (.pointer (some g)))(f:ev L y=some (.pointer none)):Ax P C n ds L o (.bool true):=λa c w _=>by
 obtain ⟨e,b⟩:=Hk b;simp only[execOp,h,c.ev d,c.ev f];simp[b,go_sem]
theorem SZ(g:o.op=.binOp .eql xt x y yt)(b:FD P xt=true)(d:ev L x=some (.pointer none))(f:ev L y=some (.pointer none)):Ax P C n ds L o (.bool true):=λa c w _=>by
 obtain ⟨e,b⟩:=Hk b;simp only[execOp,g,c.ev d,c.ev f];simp[b,go_sem]
theorem S0(g:o.op=.binOp .neq xt x y yt)(b:FD P xt=true)(d:ev L x=some (.pointer none))(f:ev L y=some (.pointer none)):Ax P C n ds L o (.bool false):=λa c w _=>by
 obtain ⟨e,b⟩:=Hk b;simp only[execOp,g,c.ev d,c.ev f];simp[b,go_sem]
theorem L8{h:Addr}{l c:Nat}(i:o.op=.binOp .eql xt x y yt)(b:SX P xt=true)(f:ev L x=some (.slice (some h) l c))(g:ev L y=some (.slice none 0 0)):Ax P C n ds L o (.bool false):=λa d w _=>by
 obtain ⟨e,b⟩:=WC b;simp only[execOp,i,d.ev f,d.ev g];simp[Lib.run_eql_slice_nil _ _ e _ _ _ _ _ b,go_sem]
theorem FZ{f:Fn}{bs cs:List Operand}{c vs:List Value}(g:o.op=.makeFunc f bs.toArray cs.toArray)(d:evs L bs=some c)(h:evs L cs=some vs):Ax P C n ds L o (.func f c.toArray vs.toArray):=λa b w _=>by
 have i:=b.evs d;have e:=b.evs h;simp only[execOp,g,Ach,i,e];rfl

def L9(P:Program)(t:TypeId):Option (Nat×Nat):=match P.underlying t with
 | some (.pointer a)=>Hf P a
 | _=>none
theorem QN{t:TypeId}{l z:Nat}(h:L9 P t=some (l,z)):∃a e i,P.underlying t=some (.pointer a)/\P.underlying a=some (.array l e)/\P.info? e=some i/\i.size=z:=by
 unfold L9 at h;split at h
 ·rename_i a c
  obtain ⟨e,i,b,d,f⟩:=Hg h;exact ⟨a,e,i,c,b,d,f⟩
 cases h
theorem Bj{t:TypeId}{lo g:Option Operand}{b off l c p q z o' l' c':Nat}(s:o.op=.slice t x lo g none)(ht:CY P t=some z)
  (hx:ev L x=some (.slice (some ⟨b,off,none⟩) l c))(m:(lo=none/\p=0)\/∃y k i,lo=some y/\ev L y=some (.int k i)/\i=(p:Int))(d:(g=none/\q=l)\/∃y k i,g=some y/\ev L y=some (.int k i)/\i=(q:Int))(f:p<=q)(j:q<=c)
  (w:off+p*z=o')(r:q-p=l')(u:c-p=c')(a:p<c\/p*z=0):Ax P C n ds L o (.slice (some ⟨b,o',none⟩) l' c'):=by
 have:=Ko (P:=P) (C:=C) (n:=n) (ds:=ds) (L:=L) s ht hx m d f j;rw[r,u] at this;have e:(if c=p then (some ⟨b,off,none⟩:Option Addr) else (some ⟨b,off,none⟩:Option Addr).map (·.add (p*z)))=some ⟨b,o',none⟩:=by
  subst w;split
  ·rename_i h;rcases a with a|a
   ·omega
   simp[a]
  simp only[Acf,AbL];unfold Addr.add;split
  ·rename_i v;simp[v]
  rfl
 rwa[e] at this
theorem Abm{t:TypeId}{lo hi:Option Operand}{b off n' p q z o' l' c':Nat}(ho:o.op=.slice t x lo hi none)(ht:L9 P t=some (n',z))
  (hx:ev L x=some (.pointer (some ⟨b,off,none⟩)))(a1:(lo=none/\p=0)\/∃y k i,lo=some y/\ev L y=some (.int k i)/\i=(p:Int))(a0:(hi=none/\q=n')\/∃y k i,hi=some y/\ev L y=some (.int k i)/\i=(q:Int))(c:p<=q)(d:q<=n')
  (h1:off+p*z=o')(s:q-p=l')(u:n'-p=c')(h4:p<n'\/p*z=0):Ax P C n ds L o (.slice (some ⟨b,o',none⟩) l' c'):=λa m w _=>by
 obtain ⟨ar,e,i0,j,g,l,v⟩:=QN ht;have g1:(0:Int)<=(p:Int)/\(p:Int)<=(q:Int):=by omega
 have g2:(0:Int)<=(q:Int)/\(q:Int)<=(n':Int):=by omega
 have f:((if n'=p then (⟨b,off,none⟩:Addr) else (⟨b,off,none⟩:Addr).add (p*z)))=⟨b,o',none⟩:=by
  subst h1;split
  ·rename_i h;rcases h4 with h4|h4
   ·omega
   simp[h4]
  unfold Addr.add;split
  ·rename_i h0;simp[h0]
  rfl
 rcases a1 with ⟨rfl,rfl⟩|⟨y,k,i,rfl,hy,rfl⟩<;>rcases a0 with ⟨rfl,rfl⟩|⟨y',k',i',rfl,r,rfl⟩
 ·simp only[execOp,ho,Acf,AcM,m.ev hx];simp[Instr.sliceAt,Instr.slice,run_underlying j,run_underlying g,Instr.sureAddr,Instr.sliceBounds,sizeOf,typeInfo,l,v,c,d,go_sem,f,s,u]<;>(try simp_all)<;>(try omega)
 ·simp only[execOp,ho,Acf,AcM,m.ev hx,m.ev r];simp[Instr.sliceAt,Instr.slice,run_underlying j,run_underlying g,Instr.sureAddr,Instr.sliceBounds,Instr.sliceBound,asIntOf,g2,sizeOf,typeInfo,l,v,c,d,go_sem,f,s,u]<;>(try simp_all)<;>(try omega)
 ·simp only[execOp,ho,Acf,AcM,m.ev hx,m.ev hy];simp[Instr.sliceAt,Instr.slice,run_underlying j,run_underlying g,Instr.sureAddr,Instr.sliceBounds,Instr.sliceBound,asIntOf,g1,sizeOf,typeInfo,l,v,c,d,go_sem,f,s,u]<;>(try simp_all)<;>(try omega)
 simp only[execOp,ho,Acf,AcM,m.ev hx,m.ev hy,m.ev r];simp[Instr.sliceAt,Instr.slice,run_underlying j,run_underlying g,Instr.sureAddr,Instr.sliceBounds,Instr.sliceBound,asIntOf,g1,g2,sizeOf,typeInfo,l,v,c,d,go_sem,f,s,u]<;>(try simp_all)<;>(try omega)
theorem Gj{t:TypeId}{lo hi:Option Operand}{b off n' p q z o' l' c':Nat}(v:o.op=.slice t x lo hi none)(ht:Hf P t=some (n',z))
  (hx:ev L x=some (.pointer (some ⟨b,off,none⟩)))(a1:(lo=none/\p=0)\/∃y k i,lo=some y/\ev L y=some (.int k i)/\i=(p:Int))(a0:(hi=none/\q=n')\/∃y k i,hi=some y/\ev L y=some (.int k i)/\i=(q:Int))(c:p<=q)(d:q<=n')
  (h1:off+p*z=o')(r:q-p=l')(s:n'-p=c')(h4:p<n'\/p*z=0):Ax P C n ds L o (.slice (some ⟨b,o',none⟩) l' c'):=λa l w _=>by
 obtain ⟨e,i0,g,j,u⟩:=Hg ht;have g1:(0:Int)<=(p:Int)/\(p:Int)<=(q:Int):=by omega
 have g2:(0:Int)<=(q:Int)/\(q:Int)<=(n':Int):=by omega
 have f:((if n'=p then (⟨b,off,none⟩:Addr) else (⟨b,off,none⟩:Addr).add (p*z)))=⟨b,o',none⟩:=by
  subst h1;split
  ·rename_i h;rcases h4 with h4|h4
   ·omega
   simp[h4]
  unfold Addr.add;split
  ·rename_i h0;simp[h0]
  rfl
 rcases a1 with ⟨rfl,rfl⟩|⟨y,k,i,rfl,hy,rfl⟩<;>rcases a0 with ⟨rfl,rfl⟩|⟨y',k',i',rfl,m,rfl⟩
 ·simp only[execOp,v,Acf,AcM,l.ev hx];simp[Instr.sliceAt,Instr.slice,run_underlying g,Instr.sureAddr,Instr.sliceBounds,sizeOf,typeInfo,j,u,c,d,go_sem,f,r,s]<;>(try simp_all)<;>(try omega)
 ·simp only[execOp,v,Acf,AcM,l.ev hx,l.ev m];simp[Instr.sliceAt,Instr.slice,run_underlying g,Instr.sureAddr,Instr.sliceBounds,Instr.sliceBound,asIntOf,g2,sizeOf,typeInfo,j,u,c,d,go_sem,f,r,s]<;>(try simp_all)<;>(try omega)
 ·simp only[execOp,v,Acf,AcM,l.ev hx,l.ev hy];simp[Instr.sliceAt,Instr.slice,run_underlying g,Instr.sureAddr,Instr.sliceBounds,Instr.sliceBound,asIntOf,g1,sizeOf,typeInfo,j,u,c,d,go_sem,f,r,s]<;>(try simp_all)<;>(try omega)
 simp only[execOp,v,Acf,AcM,l.ev hx,l.ev hy,l.ev m];simp[Instr.sliceAt,Instr.slice,run_underlying g,Instr.sureAddr,Instr.sliceBounds,Instr.sliceBound,asIntOf,g1,g2,sizeOf,typeInfo,j,u,c,d,go_sem,f,r,s]<;>(try simp_all)<;>(try omega)

theorem Bz(H:Sep z Γ w){e:TypeId}{zs:List Value}(i:o.op=.alloc e)(g:zeroCells P e=some zs.toArray):BX P n ds L o w (λv w'=>∃b,v=V b/\Sep z (blk b zs e::Γ) w'):=λa h=>by
 obtain ⟨v,w',c,b,rfl,hs,_,d,f⟩:=Wu (w:=w) i g a h;exact ⟨_,w',c,b,Z,H.new f U d⟩
theorem FE(H:Sep z Γ w){e:TypeId}{cs:List Value}(h:o.op=.box e x)(c:ev L x=some v)(i:v.cells=cs.toArray):BX P n ds L o w (λv w'=>∃b,v=V b/\Sep z (blk b cs e::Γ) w'):=λa g=>by
 obtain ⟨v,w',d,b,rfl,hs,_,f,c⟩:=AaG (P:=P) (w:=w) h c i a g;exact ⟨_,w',d,b,Z,H.new c U f⟩
theorem AD(i:Nat)(H:Sep z Γ w){t ty:TypeId}{b p:Nat}{cs vs:List Value}(e:Γ[i]?=some (blk b cs ty))(g:o.op=.store t x y)(c:ev L x=some (.pointer (some ⟨b,p,none⟩)))(s:ev L y=some v)(h:v.cells=vs.toArray)(j:∀u∈vs,u.oneCell'=true)
  (hs:(P.info? t).map (·.size)=some vs.length)(hp:p+vs.length<=cs.length){out:List Value}(d:cs.take p++vs++cs.drop (p+vs.length)=out):
  Dt P n ds L o w (λw'=>Sep z (Γ.set i (blk b out ty)) w'):=λa r=>by
 obtain ⟨w',f,l,c,_⟩:=Og g c s h j hs (H.blk i e) hp d a r;refine ⟨w',f,H.write i e c.os c.tape c.output l (λk m=>?_)⟩;rcases AbX k w.heap.size with q|q
 ·exact c.block k q m
 rw[Acj q,Acj U]
theorem Po(i:Nat)(H:Sep z Γ w){t ty:TypeId}{b:Nat}{f:Value}{xs:List Value}(d:Γ[i]?=some (blk b (f::xs) ty))(e:o.op=.store t x y)(a:ev L x=some (V b))(c:ev L y=some v)(g:v.cells= #[v])(h:v.oneCell'=true)(hs:(P.info? t).map (·.size)=some 1):Dt P n ds L o w (λw'=>Sep z (Γ.set i (blk b (v::xs) ty)) w'):=
 AD i H d e a c (vs:=[v]) g (by simp[h]) hs O Z
theorem Abn(i:Nat)(H:Sep z Γ w){t ty:TypeId}{b:Nat}{a h:Value}{xs:List Value}(e:Γ[i]?=some (blk b (a::h::xs) ty))(f:o.op=.store t x y)(c:ev L x=some (.pointer (some ⟨b,1,none⟩)))(d:ev L y=some v)(g:v.cells= #[v])(j:v.oneCell'=true)(hs:(P.info? t).map (·.size)=some 1):Dt P n ds L o w (λw'=>Sep z (Γ.set i (blk b (a::v::xs) ty)) w'):=
 AD i H e f c d (vs:=[v]) g (by simp[j]) hs O Z
theorem Kp(i:Nat)(H:Sep z Γ w){t ty:TypeId}{b:Nat}{a c x2:Value}{xs:List Value}(d:Γ[i]?=some (blk b (a::c::x2::xs) ty))(e:o.op=.store t x y)(h:ev L x=some (.pointer (some ⟨b,2,none⟩)))(j:ev L y=some v)(f:v.cells= #[v])(g:v.oneCell'=true)(hs:(P.info? t).map (·.size)=some 1):Dt P n ds L o w (λw'=>Sep z (Γ.set i (blk b (a::c::v::xs) ty)) w'):=
 AD i H d e h j (vs:=[v]) f (by simp[g]) hs O Z
theorem Abo(i:Nat)(H:Sep z Γ w){t ty:TypeId}{b:Nat}{e f x2 a d c g l:Value}{xs:List Value}(h:Γ[i]?=some (blk b (e::f::x2::a::d::c::g::l::xs) ty))(j:o.op=.store t x y)(p:ev L x=some (.pointer (some ⟨b,7,none⟩)))(q:ev L y=some v)(k:v.cells= #[v])(m:v.oneCell'=true)(hs:(P.info? t).map (·.size)=some 1):Dt P n ds L o w (λw'=>Sep z (Γ.set i (blk b (e::f::x2::a::d::c::g::v::xs) ty)) w'):=
 AD i H h j p q (vs:=[v]) k (by simp[m]) hs O Z
theorem Ma(i:Nat)(H:Sep z Γ w){t ty:TypeId}{b:Nat}{g h x2 a f e j d c l:Value}{xs:List Value}(m:Γ[i]?=some (blk b (g::h::x2::a::f::e::j::d::c::l::xs) ty))(p:o.op=.store t x y)(s:ev L x=some (.pointer (some ⟨b,9,none⟩)))(k:ev L y=some v)(q:v.cells= #[v])(r:v.oneCell'=true)(hs:(P.info? t).map (·.size)=some 1):Dt P n ds L o w (λw'=>Sep z (Γ.set i (blk b (g::h::x2::a::f::e::j::d::c::v::xs) ty)) w'):=
 AD i H m p s k (vs:=[v]) q (by simp[r]) hs O Z
theorem Pp(i:Nat)(H:Sep z Γ w){t ty:TypeId}{b:Nat}{k l x2 d j h m f g e a c:Value}{xs:List Value}(q:Γ[i]?=some (blk b (k::l::x2::d::j::h::m::f::g::e::a::c::xs) ty))(r:o.op=.store t x y)(hx:ev L x=some (.pointer (some ⟨b,11,none⟩)))(p:ev L y=some v)(s:v.cells= #[v])(u:v.oneCell'=true)(hs:(P.info? t).map (·.size)=some 1):Dt P n ds L o w (λw'=>Sep z (Γ.set i (blk b (k::l::x2::d::j::h::m::f::g::e::a::v::xs) ty)) w'):=
 AD i H q r hx p (vs:=[v]) s (by simp[u]) hs O Z
theorem AaI(i:Nat)(H:Sep z Γ w){t ty:TypeId}{b:Nat}{l m x2 e k j p g h f c a d:Value}{xs:List Value}(r:Γ[i]?=some (blk b (l::m::x2::e::k::j::p::g::h::f::c::a::d::xs) ty))(s:o.op=.store t x y)(hx:ev L x=some (.pointer (some ⟨b,12,none⟩)))(q:ev L y=some v)(u:v.cells= #[v])(h1:v.oneCell'=true)(hs:(P.info? t).map (·.size)=some 1):Dt P n ds L o w (λw'=>Sep z (Γ.set i (blk b (l::m::x2::e::k::j::p::g::h::f::c::a::v::xs) ty)) w'):=
 AD i H r s hx q (vs:=[v]) u (by simp[h1]) hs O Z
end

section calls
variable{P:Program}{ops:List Oper}{Q:Exit->Act->World->Prop}{a:Act}{w z:World}{rest:List Oper}{o:Oper}{n d:Nat}{ds:List Deferred}{L:List (Nat×Value)}{v:Value}{Γ pre R':List Ah}{post:Value->List Ah->Prop}{f:FuncId}{args:List Operand}{vs:List Value}{tys:Array TypeId}
theorem Cn.or{A B:Ah}(c:Cn P f vs (A::pre) post)(a:Cn P f vs (B::pre) post):Cn P f vs ((λh=>A h\/B h)::pre) post:=λz R w H=>by
 obtain ⟨b,H⟩:=H.ex 0 (σ:=Bool) (B:=λb=>bif b then A else B) Z (λh q=>by rcases q with q|q;exact ⟨true,q⟩;exact ⟨false,q⟩)
 cases b with
 | true=>exact c z R w H
 | false=>exact a z R w H
theorem Cn.at(c:Cn P f vs pre post)(H:Sep z Γ w)(k:Nat)(b:List Nat)(a:Gh k b=true)(e:Dv Γ b++Γ.drop k=pre++R'):Calls P f vs.toArray w (Ret λv w'=>∃Γ',post v Γ'/\Sep z (Γ'++R') w'):=
 c z R' w (H.perm k b a e)
theorem Abx(p:BJ ops L o.guard=true)(m:o.dst=some d)(g:Nat.blt d n=true)(j:o.op=.call {callee:=.value (.func f),args:=args.toArray,argTypes:=tys})(b:evs L args=some vs)(i:∀w,(callFunc f vs.toArray).run P w=.ok (.enter f vs.toArray) w)
  (r:Cn P f vs pre post)(H:Sep z Γ w)(k:Nat)(h:List Nat)(c:Gh k h=true)(e:Dv Γ h++Γ.drop k=pre++R')
  (K:∀v w' Γ',post v Γ'->Sep z (Γ'++R') w'->∀a',Fr n ds ((d,v)::L) a'->wpList P ops.toArray Q rest a' w'):∀a,Fr n ds L a->wpList P ops.toArray Q (o::rest) a w:=
 QD p m g j b i (r.at H k h c e) λv w' ⟨Γ',q,l⟩=>K v w' Γ' q l
theorem Cn.use(a:Cn P f vs pre post)(H:Sep z (pre++R') w):Calls P f vs.toArray w (Ret λv w'=>∃Γ',post v Γ'/\Sep z (Γ'++R') w'):=a z R' w H
theorem Fj(k:BJ ops L o.guard=true)(j:o.dst=some d)(c:Nat.blt d n=true)(h:o.op=.call {callee:=.value (.func f),args:=args.toArray,argTypes:=tys})(b:evs L args=some vs)(g:∀w,(callFunc f vs.toArray).run P w=.ok (.enter f vs.toArray) w)
  (l:Cn P f vs pre post)(H:Sep z Γ w)(e:Γ=pre++R')
  (K:∀v w' Γ',post v Γ'->Sep z (Γ'++R') w'->∀a',Fr n ds ((d,v)::L) a'->wpList P ops.toArray Q rest a' w'):∀a,Fr n ds L a->wpList P ops.toArray Q (o::rest) a w:=
 QD k j c h b g (l.use (e▸H)) λv w' ⟨Γ',q,i⟩=>K v w' Γ' q i
theorem cq(i:Cn P f vs pre post)(hq:∀u Γ',post u Γ'->u=v/\Γ'=pre)(k:Nat)(d a:List Nat)(c:Gh k d=true)(e:Dv Γ d++Γ.drop k=pre++R')(b:Gh k a=true)(h:Dv (pre++R') a++(pre++R').drop k=Γ):
  ∀w,Sep z Γ w->Calls P f vs.toArray w (Ret λu w'=>u=v/\Sep z Γ w'):=λw H=>
 Ret.mono (i.at H k d c e) λu w' ⟨Γ',q,g⟩=>by
  obtain ⟨rfl,rfl⟩:=hq u Γ' q;exact ⟨Z,g.perm k a b h⟩
theorem VS{Rr:Value->World->Prop}(e:BJ ops L o.guard=true)(d:o.dst=none)(h:BX P n ds L o w Rr)(K:∀v w',Rr v w'->∀a,Fr n ds L a->wpList P ops.toArray Q rest a w'):∀a,Fr n ds L a->wpList P ops.toArray Q (o::rest) a w:=by
 intro a b;obtain ⟨v,w',c,f⟩:=h a b;unfold wpList;rw[if_pos (wantL_ok b e)];left;unfold Oper.wp;rw[c,AdS,d];exact K v w' f a b
end calls
section callsH
variable{P:Program}{ops:List Oper}{N R:Act->World->Prop}{X:Nat->Act->World->Prop}{a:Act}{w z:World}{n d i:Nat}{ds:List Deferred}{L:List (Nat×Value)}{v:Value}{o:Oper}{Γ pre R':List Ah}{post:Value->List Ah->Prop}{f:FuncId}{args:List Operand}{vs:List Value}{tys:Array TypeId}{K:Act->World->Prop}
theorem Ba(h:ops[i]?=some o)(m:BJ ops L o.guard=true)(l:o.dst=some d)(c:Nat.blt d n=true)(j:o.op=.call {callee:=.value (.func f),args:=args.toArray,argTypes:=tys})(b:evs L args=some vs)(g:∀w,(callFunc f vs.toArray).run P w=.ok (.enter f vs.toArray) w)
  (r:Cn P f vs pre post)(H:Sep z Γ w)(e:Γ=pre++R')
  (p:∀v w' Γ',post v Γ'->Sep z (Γ'++R') w'->∀a',Fr n ds ((d,v)::L) a'->K a' w'):∀a,Fr n ds L a->wpOp P ops.toArray (Qp N X R) i K a w:=
 YV h m l c j b g (r.use (e▸H)) λv w' ⟨Γ',q,k⟩=>p v w' Γ' q k
theorem B5(g:ops[i]?=some o)(j:BJ ops L o.guard=true)(e:o.dst=some d)(b:Nat.blt d n=true)(c:Ax P (· =w) n ds L o v)(k:∀a',Fr n ds ((d,v)::L) a'->K a' w):∀a,Fr n ds L a->wpOp P ops.toArray (Qp N X R) i K a w:=
 Ck g j e b (Rr:=λu w'=>u=v/\w'=w) (λa h=>⟨v,w,c a h w Z,Z,Z⟩) λ_ _ ⟨l,f⟩=>by subst l;subst f;exact k
theorem AaJ{Rr:Value->World->Prop}(e:ops[i]?=some o)(f:BJ ops L o.guard=true)(d:o.dst=none)(h:BX P n ds L o w Rr)(j:∀v w',Rr v w'->∀a,Fr n ds L a->K a w'):∀a,Fr n ds L a->wpOp P ops.toArray (Qp N X R) i K a w:=by
 intro a b;obtain ⟨v,w',c,g⟩:=h a b;unfold wpOp;rw[AcA,e];simp only;rw[if_pos (wantL_ok b f)];left;unfold Oper.wp;rw[c,AdS,d];exact j v w' g a b
end callsH
end
section
def La:IntKind->IntKind->Bool
 | .i64,.i64=>true
 | .u8,.u8=>true
 | .u32,.u32=>true
 | .u64,.u64=>true
 | .i32,.i32=>true
 | .u16,.u16=>true
 | _,_=>false
theorem GS{k a:IntKind}(h:La k a=true):k=a:=by unfold La at h;split at h<;>first|rfl|cases h
def icmp(b:BinOp)(p q:Int):Option Value:=match b with
 | .lss=>some (.bool (decide (p<q)))
 | .leq=>some (.bool (decide (p<=q)))
 | .gtr=>some (.bool (decide (q<p)))
 | .geq=>some (.bool (decide (q<=p)))
 | .eql=>some (.bool (decide (p=q)))
 | .neq=>some (.bool (decide (p≠q)))
 | _=>none
def noq(n:Option Nat)(p r:Nat):Bool:=match n with
 | some k=>Nat.beq (p+k) r
 | none=>false
abbrev Mm:=List (Nat×List Value×TypeId)
def MemL(w:World):Mm->Prop
 | []=>True
 | e::M=>Blk e.1 e.2.1 e.2.2 w/\MemL w M
theorem AJ{w:World}:MemL w []:=trivial
theorem AQ{w:World}{b:Nat}{cs:List Value}{t:TypeId}{M:Mm}(h:Blk b cs t w)(g:MemL w M):MemL w ((b,cs,t)::M):=⟨h,g⟩
theorem MemL.get{w:World}:∀{M:Mm} {j:Nat} {e:Nat×List Value×TypeId},MemL w M->M[j]?=some e->Blk e.1 e.2.1 e.2.2 w
 | [],_,_,_,h=>by simp at h
 | _::_,0,_,g,h=>by simp at h;subst h;exact g.1
 | _::_,j+1,_,g,h=>MemL.get (j:=j) g.2 (by simpa using h)
structure Qv where
 v:Value
 hs:List Nat
 ok:Bool
 a:List (Nat×Nat)
def Pq(P:Program)(M:Mm)(L:List (Nat×Value))(hs:List Nat):Op->Option Qv
 | .move x=>match ev L x with|some v=>some ⟨v,hs,true,[]⟩|none=>none
 | .assign x=>match ev L x with|some v=>some ⟨v,hs,true,[]⟩|none=>none
 | .pick c x y=>match ev L c with
  | some (.bool true)=>(match ev L x with|some v=>some ⟨v,hs,true,[]⟩|none=>none)
  | some (.bool false)=>(match ev L y with|some v=>some ⟨v,hs,true,[]⟩|none=>none)
  | _=>none
 | .extract x i=>match ev L x with
  | some (.tuple vs)=>(match vs.toList[i]? with|some v=>some ⟨v,hs,true,[]⟩|none=>none)
  | _=>none
 | .nilCheck x=>match ev L x with
  | some (.pointer (some ad))=>some ⟨.pointer (some ad),hs,true,[]⟩
  | _=>none
 | .unOp b _ x=>match b with
  | .not=>(match ev L x with|some (.bool c)=>some ⟨.bool !c,hs,true,[]⟩|_=>none)
  | _=>none
 | .binOp b _ x y _=>match ev L x with
  | some (.int k p)=>(match ev L y with
   | some (.int k' q)=>(match icmp b p q with|some v=>some ⟨v,hs,La k k',[]⟩|none=>none)
   | _=>none)
  | _=>none
 | .fieldAddr s x f=>match hs with
  | r::hs=>(match ev L x with
   | some (.pointer (some ⟨b,p,none⟩))=>some ⟨.pointer (some ⟨b,r,none⟩),hs,noq (DW P s f) p r,[]⟩
   | _=>none)
  | []=>none
 | .load t x=>match hs with
  | j::hs=>(match ev L x with
   | some (.pointer (some ⟨b,p,none⟩))=>(match M[j]? with
    | some e=>(match e.2.1[p]? with
     | some v=>some ⟨v,hs,Ge P t,[(b,e.1)]⟩
     | none=>none)
    | none=>none)
   | _=>none)
  | []=>none
 | _=>none
def BK:List (Nat×Nat)->Prop
 | []=>True
 | e::l=>e.1=e.2/\BK l
theorem B4:∀{l m:List (Nat×Nat)},BK (l++m)->BK l/\BK m
 | [],_,h=>⟨trivial,h⟩
 | _::_,_,h=>⟨⟨h.1,(B4 h.2).1⟩,(B4 h.2).2⟩
section
variable{P:Program}{M:Mm}{L:List (Nat×Value)}{n:Nat}{ds:List Deferred}{w:World}
theorem GT{C:World->Prop}{o:Oper}{hs:List Nat}{q:Qv}(hM:∀w,C w->MemL w M)(h:Pq P M L hs o.op=some q)(i:q.ok=true)(u:BK q.a):Ax P C n ds L o q.v:=by
 unfold Pq at h;split at h
 ·rename_i d
  split at h
  ·rename_i c;cases h;exact CX d c
  cases h
 ·rename_i d
  split at h
  ·rename_i c;cases h;exact AS d c
  cases h
 ·rename_i d
  split at h
  ·rename_i l
   split at h
   ·rename_i c;cases h;exact L0 d l c
   cases h
  ·rename_i l
   split at h
   ·rename_i c;cases h;exact L2 d l c
   cases h
  cases h
 ·rename_i d
  split at h
  ·rename_i vs c
   split at h
   ·rename_i g;cases h
    exact ER (vs:=vs.toList) d (by simpa using c) g
   cases h
  cases h
 ·rename_i d
  split at h
  ·rename_i c;cases h;exact JM d c
  cases h
 ·rename_i d
  split at h
  ·split at h
   ·rename_i c;cases h;exact JL d c
   cases h
  cases h
 ·rename_i b _ x y _ d
  split at h
  ·rename_i k p c
   split at h
   ·rename_i k' r j
    split at h
    ·rename_i v g
     cases h
     obtain rfl:=GS i;unfold icmp at g;split at g<;>first|(cases g;first|exact Pi d c j|exact VL d c j|exact VM d c j|exact VN d c j|exact VO d c j|exact Pj d c j)|cases g
    cases h
   cases h
  cases h
 ·rename_i s x f d
  split at h
  ·split at h
   ·rename_i b p c
    cases h
    dsimp only at i
    cases hf:DW P s f with
    | none=>rw[hf] at i;cases i
    | some k=>
     rw[hf] at i;exact Kn d hf c (AcS i)
   cases h
  cases h
 ·rename_i t x d
  split at h
  ·split at h
   ·rename_i b p c
    split at h
    ·rename_i e m
     split at h
     ·rename_i v g
      cases h
      have e1:b=e.1:=u.1;exact AY d c i (λw z=>by rw[e1];exact ((hM w z).get m).cel p g)
     cases h
    cases h
   cases h
  cases h
 cases h
structure Qs where
 L:List (Nat×Value)
 os:List Oper
 ok:Bool
 a:List (Nat×Nat)
def quiet(P:Program)(M:Mm)(ops:List Oper)(n:Nat):Nat->List Nat->Bool->List (Nat×Nat)->List (Nat×Value)->List Oper->Option Qs
 | 0,_,ok,a,L,os=>some ⟨L,os,ok,a⟩
 | _+1,_,_,_,_,[]=>none
 | k+1,hs,ok,a,L,o::os=>match o.dst with
  | none=>none
  | some d=>match Nat.blt d n with
   | false=>none
   | true=>match BJ ops L o.guard with
    | true=>(match Pq P M L hs o.op with
     | some q=>quiet P M ops n k q.hs (q.ok&&ok) (q.a++a) ((d,q.v)::L) os
     | none=>none)
    | false=>(match EB ops L o.guard with
     | true=>quiet P M ops n k hs ok a ((d,undef)::L) os
     | false=>none)
theorem Hl{ops:List Oper}:∀{k:Nat} {hs:List Nat} {e:Bool} {a:List (Nat×Nat)} {L:List (Nat×Value)} {b:List Oper} {q:Qs},quiet P M ops n k hs e a L b=some q->q.ok=true->BK q.a->e=true/\BK a:=by
 intro k
 induction k with
 | zero=>intro hs e a L b q h c d;simp only[quiet,AbL] at h;subst h;exact ⟨c,d⟩
 | succ k ih=>
  intro hs e a L b q h c d
  cases b with
  | nil=>simp[quiet] at h
  | cons o b=>
   simp only[quiet] at h;split at h
   ·cases h
   split at h
   ·cases h
   split at h
   ·split at h
    ·obtain ⟨f,g⟩:=ih h c d
     exact ⟨by simp at f;exact f.2,(B4 g).2⟩
    cases h
   split at h
   ·exact ih h c d
   cases h
theorem YZ{ops:List Oper}{Q:Exit->Act->World->Prop}(s:MemL w M):∀(k:Nat) (hs:List Nat) {g:Bool} {a:List (Nat×Nat)} {L L':List (Nat×Value)} {c b:List Oper} {ok':Bool} {a':List (Nat×Nat)},quiet P M ops n k hs g a L c=some ⟨L',b,ok',a'⟩->ok'=true->BK a'->
  (∀x,Fr n ds L' x->wpList P ops.toArray Q b x w)->∀x,Fr n ds L x->wpList P ops.toArray Q c x w:=by
 intro k
 induction k with
 | zero=>
  intro hs g a L L' c b ok' a' h _ _ K;simp only[quiet,AbL,Qs.mk.injEq] at h;obtain ⟨rfl,rfl,_,_⟩:=h;exact K
 | succ k ih=>
  intro hs g a L L' c b ok' a' h i j K
  cases c with
  | nil=>simp[quiet] at h
  | cons o c=>
   simp only[quiet] at h;split at h
   ·cases h
   rename_i d m;split at h
   ·cases h
   rename_i f;split at h
   ·rename_i t
    split at h
    ·rename_i q hq
     obtain ⟨l,p⟩:=Hl h i j;simp at l;exact s_do t m f (GT (λ_ e=>e▸s) hq l.1 (B4 p).1) (ih _ h i j K)
    cases h
   split at h
   ·rename_i r
    exact QB r m f (ih _ h i j K)
   cases h
theorem C3:∀{l:List (Nat×Nat)},l.map Prod.fst=l.map Prod.snd->BK l
 | [],_=>trivial
 | _::_,h=>by
  simp only[Aca,AdD] at h;exact ⟨h.1,C3 h.2⟩
theorem Gk{ops:List Oper}{Q:Exit->Act->World->Prop}(k:Nat)(hs:List Nat)(e:MemL w M){L L':List (Nat×Value)}{b a:List Oper}{ok':Bool}{a':List (Nat×Nat)}(h:quiet P M ops n k hs true [] L b=some ⟨L',a,ok',a'⟩)(c:ok'=true)(d:a'.map Prod.fst=a'.map Prod.snd)(K:∀x,Fr n ds L' x->wpList P ops.toArray Q a x w):∀x,Fr n ds L x->wpList P ops.toArray Q b x w:=YZ e k hs h c (C3 d) K
theorem Lb{ops:List Oper}{Q:Exit->Act->World->Prop}(k:Nat)(hs:List Nat){L L':List (Nat×Value)}{b a:List Oper}{ok':Bool}(h:quiet P [] ops n k hs true [] L b=some ⟨L',a,ok',[]⟩)(c:ok'=true)(K:∀x,Fr n ds L' x->wpList P ops.toArray Q a x w):∀x,Fr n ds L x->wpList P ops.toArray Q b x w:=YZ AJ k hs h c trivial K
theorem BQ{ops:List Oper}{Q:Exit->Act->World->Prop}(k:Nat){L L':List (Nat×Value)}{b a:List Oper}{ok':Bool}(h:quiet P [] ops n k [] true [] L b=some ⟨L',a,ok',[]⟩)(c:ok'=true)(K:∀x,Fr n ds L' x->wpList P ops.toArray Q a x w):∀x,Fr n ds L x->wpList P ops.toArray Q b x w:=YZ AJ k [] h c trivial K

theorem q_P{ops:List Oper}{C:World->Prop}{Q:Act->Prop}(r:∀w,C w->MemL w M):∀(k:Nat) (hs:List Nat) {f:Bool} {a:List (Nat×Nat)} {L L':List (Nat×Value)} {c b:List Oper} {ok':Bool} {a':List (Nat×Nat)},quiet P M ops n k hs f a L c=some ⟨L',b,ok',a'⟩->ok'=true->BK a'->
  (∀x,Fr n ds L' x->wpQuiet P ops.toArray C Q b x)->∀x,Fr n ds L x->wpQuiet P ops.toArray C Q c x:=by
 intro k
 induction k with
 | zero=>
  intro hs f a L L' c b ok' a' h _ _ K;simp only[quiet,AbL,Qs.mk.injEq] at h;obtain ⟨rfl,rfl,_,_⟩:=h;exact K
 | succ k ih=>
  intro hs f a L L' c b ok' a' h g i K
  cases c with
  | nil=>simp[quiet] at h
  | cons o c=>
   simp only[quiet] at h;split at h
   ·cases h
   rename_i d l;split at h
   ·cases h
   rename_i e;split at h
   ·rename_i s
    split at h
    ·rename_i q hq
     obtain ⟨j,m⟩:=Hl h g i;simp at j;exact Bn s l e (GT r hq j.1 (B4 m).1) (ih _ h g i K)
    cases h
   split at h
   ·rename_i p
    exact QE p l e (ih _ h g i K)
   cases h
theorem E7{ops:List Oper}{C:World->Prop}{Q:Act->Prop}(k:Nat)(hs:List Nat)(c:∀w,C w->MemL w M){L L':List (Nat×Value)}{b a:List Oper}{ok':Bool}{a':List (Nat×Nat)}(h:quiet P M ops n k hs true [] L b=some ⟨L',a,ok',a'⟩)(d:ok'=true)(e:a'.map Prod.fst=a'.map Prod.snd)(K:∀x,Fr n ds L' x->wpQuiet P ops.toArray C Q a x):∀x,Fr n ds L x->wpQuiet P ops.toArray C Q b x:=q_P c k hs h d (C3 e) K
theorem Cm{ops:List Oper}{C:World->Prop}{Q:Act->Prop}(k:Nat)(hs:List Nat){L L':List (Nat×Value)}{b a:List Oper}{ok':Bool}(h:quiet P [] ops n k hs true [] L b=some ⟨L',a,ok',[]⟩)(c:ok'=true)(K:∀x,Fr n ds L' x->wpQuiet P ops.toArray C Q a x):∀x,Fr n ds L x->wpQuiet P ops.toArray C Q b x:=q_P (λ_ _=>AJ) k hs h c trivial K
theorem t_P{ops:List Oper}{Q:Act->Prop}(s:MemL w M):∀(k:Nat) (hs:List Nat) {g:Bool} {a:List (Nat×Nat)} {L L':List (Nat×Value)} {c b:List Oper} {ok':Bool} {a':List (Nat×Nat)},quiet P M ops n k hs g a L c=some ⟨L',b,ok',a'⟩->ok'=true->BK a'->
  (∀x,Fr n ds L' x->wpStill P ops.toArray w Q b x)->∀x,Fr n ds L x->wpStill P ops.toArray w Q c x:=by
 intro k
 induction k with
 | zero=>
  intro hs g a L L' c b ok' a' h _ _ K;simp only[quiet,AbL,Qs.mk.injEq] at h;obtain ⟨rfl,rfl,_,_⟩:=h;exact K
 | succ k ih=>
  intro hs g a L L' c b ok' a' h i j K
  cases c with
  | nil=>simp[quiet] at h
  | cons o c=>
   simp only[quiet] at h;split at h
   ·cases h
   rename_i d m;split at h
   ·cases h
   rename_i f;split at h
   ·rename_i t
    split at h
    ·rename_i q hq
     obtain ⟨l,p⟩:=Hl h i j;simp at l;exact Cj t m f (GT (λ_ e=>e▸s) hq l.1 (B4 p).1) (ih _ h i j K)
    cases h
   split at h
   ·rename_i r
    exact QJ r m f (ih _ h i j K)
   cases h
theorem Y0{ops:List Oper}{Q:Act->Prop}(k:Nat)(hs:List Nat)(e:MemL w M){L L':List (Nat×Value)}{b a:List Oper}{ok':Bool}{a':List (Nat×Nat)}(h:quiet P M ops n k hs true [] L b=some ⟨L',a,ok',a'⟩)(c:ok'=true)(d:a'.map Prod.fst=a'.map Prod.snd)(K:∀x,Fr n ds L' x->wpStill P ops.toArray w Q a x):∀x,Fr n ds L x->wpStill P ops.toArray w Q b x:=t_P e k hs h c (C3 d) K
theorem VT{ops:List Oper}{Q:Act->Prop}(k:Nat)(hs:List Nat){L L':List (Nat×Value)}{b a:List Oper}{ok':Bool}(h:quiet P [] ops n k hs true [] L b=some ⟨L',a,ok',[]⟩)(c:ok'=true)(K:∀x,Fr n ds L' x->wpStill P ops.toArray w Q a x):∀x,Fr n ds L x->wpStill P ops.toArray w Q b x:=t_P AJ k hs h c trivial K
structure Qa where
 L:List (Nat×Value)
 listed:Array Bool
 ok:Bool
 a:List (Nat×Nat)
def quietA(P:Program)(M:Mm)(ops:List Oper)(n:Nat)(g:Nat->Bool):List Nat->List Nat->Bool->List (Nat×Nat)->List (Nat×Value)->Array Bool->Option Qa
 | [],_,ok,a,L,li=>some ⟨L,li,ok,a⟩
 | i::is,hs,ok,a,L,li=>match ops[i]? with
  | none=>none
  | some o=>match o.dst with
   | none=>none
   | some d=>match Nat.blt d n with
    | false=>none
    | true=>match BJ ops L o.guard with
     | true=>(match Pq P M L hs o.op with
      | some q=>quietA P M ops n g is q.hs (((q.ok&&g i)&&(Region.noSelect ops.toArray&&(Region.free .any ops.toArray li i&&(Region.ready .any ops.toArray li).contains i)))&&ok) (q.a++a) ((d,q.v)::L) (li.setIfInBounds i true)
      | none=>none)
     | false=>(match EB ops L o.guard with
      | true=>quietA P M ops n g is hs ((g i&&(Region.noSelect ops.toArray&&(Region.free .any ops.toArray li i&&(Region.ready .any ops.toArray li).contains i)))&&ok) a ((d,undef)::L) (li.setIfInBounds i true)
      | false=>none)
theorem FF{ops:List Oper}{g:Nat->Bool}:∀{c hs:List Nat} {e:Bool} {a:List (Nat×Nat)} {L:List (Nat×Value)} {k:Array Bool} {q:Qa},quietA P M ops n g c hs e a L k=some q->q.ok=true->BK q.a->e=true/\BK a:=by
 intro c
 induction c with
 | nil=>intro hs e a L k q h b d;simp only[quietA,AbL] at h;subst h;exact ⟨b,d⟩
 | cons i c ih=>
  intro hs e a L k q h b d;simp only[quietA] at h;split at h
  ·cases h
  split at h
  ·cases h
  split at h
  ·cases h
  split at h
  ·split at h
   ·obtain ⟨j,f⟩:=ih h b d
    exact ⟨(Ab8 _ _▸j).2,(B4 f).2⟩
   cases h
  split at h
  ·obtain ⟨j,f⟩:=ih h b d
   exact ⟨(Ab8 _ _▸j).2,f⟩
  cases h
section
variable{ops:List Oper}{N R:Act->World->Prop}{X:Nat->Act->World->Prop}{S:World->Prop}
theorem a_P(u:∀w,S w->MemL w M)(p:S w):∀(e hs:List Nat) {l:Bool} {a:List (Nat×Nat)} {L L':List (Nat×Value)} {j c:Array Bool} {ok':Bool} {a':List (Nat×Nat)} {fuel:Nat},quietA P M ops n (λ_=>true) e hs l a L j=some ⟨L',c,ok',a'⟩->ok'=true->BK a'->
  (∀x,Fr n ds L' x->wpAnyH P .any ops.toArray (Qp N X R) S fuel c x w)->∀x,Fr n ds L x->wpAnyH P .any ops.toArray (Qp N X R) S (fuel+e.length) j x w:=by
 intro e
 induction e with
 | nil=>
  intro hs l a L L' j c ok' a' fuel h _ _ K;simp only[quietA,AbL,Qa.mk.injEq] at h;obtain ⟨rfl,rfl,_,_⟩:=h;exact K
 | cons i e ih=>
  intro hs l a L L' j c ok' a' fuel h g k K;simp only[quietA] at h;split at h
  ·cases h
  rename_i o r;split at h
  ·cases h
  rename_i d s;split at h
  ·cases h
  rename_i f;split at h
  ·rename_i v
   split at h
   ·rename_i q hq
    obtain ⟨b,m⟩:=FF h g k;simp only[Ab8] at b;exact I7 (fuel:=fuel+e.length) i r b.1.2.1 b.1.2.2.1 b.1.2.2.2 v s f (GT u hq b.1.1.1 (B4 m).1) p (ih _ h g k K)
   cases h
  split at h
  ·rename_i t
   obtain ⟨b,m⟩:=FF h g k;simp only[Ab8] at b;exact QK (fuel:=fuel+e.length) i r b.1.2.1 b.1.2.2.1 b.1.2.2.2 t s f p (ih _ h g k K)
  cases h
theorem a_L(b hs:List Nat)(j:∀w,S w->MemL w M)(e:S w){L L':List (Nat×Value)}{d a:Array Bool}{ok':Bool}{a':List (Nat×Nat)}{fuel c:Nat}(h:quietA P M ops n (λ_=>true) b hs true [] L d=some ⟨L',a,ok',a'⟩)(g:ok'=true)(i:a'.map Prod.fst=a'.map Prod.snd)(f:fuel+b.length=c)(K:∀x,Fr n ds L' x->wpAnyH P .any ops.toArray (Qp N X R) S fuel a x w):∀x,Fr n ds L x->wpAnyH P .any ops.toArray (Qp N X R) S c d x w:=f▸a_P j e b hs h g (C3 i) K
def LU(ops:List Oper)(i:Nat):Bool:= !(Nat.beq i (ops.length-1))&&(match ops[i]? with|some o=>o.guard.isNone|none=>false)
theorem l_P(f:Hi ops.toArray=true)(v:∀w,S w->MemL w M)(y:S w):∀(j hs:List Nat) {m:Bool} {a:List (Nat×Nat)} {L L':List (Nat×Value)} {k b:Array Bool} {ok':Bool} {a':List (Nat×Nat)} {fuel:Nat},quietA P M ops n (LU ops) j hs m a L k=some ⟨L',b,ok',a'⟩->ok'=true->BK a'->
  (∀x,Fr n ds L' x->Gi P ops (Qp N X R) S fuel b x w)->∀x,Fr n ds L x->Gi P ops (Qp N X R) S (fuel+j.length) k x w:=by
 intro j
 induction j with
 | nil=>
  intro hs m a L L' k b ok' a' fuel h _ _ K;simp only[quietA,AbL,Qa.mk.injEq] at h;obtain ⟨rfl,rfl,_,_⟩:=h;exact K
 | cons i j ih=>
  intro hs m a L L' k b ok' a' fuel h r s K;simp only[quietA] at h;split at h
  ·cases h
  rename_i o u;split at h
  ·cases h
  rename_i d z;split at h
  ·cases h
  rename_i p;split at h
  ·rename_i l
   split at h
   ·rename_i q hq
    obtain ⟨c,t⟩:=FF h r s;simp only[Ab8] at c;exact AR (fuel:=fuel+j.length) i f u (by have:=c.1.1.2;unfold LU at this;simp only[Ab8] at this;simpa using this.1) c.1.2.1 c.1.2.2.1 c.1.2.2.2 l z p (GT v hq c.1.1.1 (B4 t).1) y (ih _ h r s K)
   cases h
  rename_i l;split at h
  ·obtain ⟨c,t⟩:=FF h r s
   simp only[Ab8] at c;exfalso;have e:=c.1.1;unfold LU at e;rw[u] at e;simp only[Ab8] at e
   cases hgd:o.guard with
   | none=>rw[hgd] at l;simp[BJ] at l
   | some g=>have:=e.2;rw[hgd] at this;cases this
  cases h
theorem A6(c hs:List Nat)(a:Hi ops.toArray=true)(k:∀w,S w->MemL w M)(f:S w){L L':List (Nat×Value)}{e b:Array Bool}{ok':Bool}{a':List (Nat×Nat)}{fuel d:Nat}(h:quietA P M ops n (LU ops) c hs true [] L e=some ⟨L',b,ok',a'⟩)(i:ok'=true)(j:a'.map Prod.fst=a'.map Prod.snd)(g:fuel+c.length=d)(K:∀x,Fr n ds L' x->Gi P ops (Qp N X R) S fuel b x w):∀x,Fr n ds L x->Gi P ops (Qp N X R) S d e x w:=g▸l_P a k f c hs h i (C3 j) K
end
end
end
section
inductive Pt where
 | b (b:Nat) (cs:List Value) (ty:TypeId)
 | a (A:Ah)
def Dl:List Pt->List Ah->List Ah
 | [],R=>R
 | .b b cs ty::G,R=>blk b cs ty::Dl G R
 | .a A::G,R=>A::Dl G R
class Rf(Γ:List Ah)(G:outParam (List Pt))(R:outParam (List Ah)):Prop where
 e:Γ=Dl G R
instance rf0 {R:List Ah}:Rf R [] R:=⟨Z⟩
instance rf1 {A:Ah}{Γ R:List Ah}{G:List Pt}[h:Rf Γ G R]:Rf (A::Γ) (.a A::G) R:=⟨congrArg (A:: ·) h.e⟩
instance rf2 {b:Nat}{cs:List Value}{ty:TypeId}{Γ R:List Ah}{G:List Pt}[h:Rf Γ G R]:Rf (blk b cs ty::Γ) (.b b cs ty::G) R:=⟨congrArg (blk b cs ty:: ·) h.e⟩
instance rf3 {Γ R:List Ah}{G:List Pt}[h:Rf Γ G R]:Rf ([]++Γ) G R:=h
instance rf4 {A:Ah}{Γ Γ' R:List Ah}{G:List Pt}[h:Rf (Γ++Γ') G R]:Rf ((A::Γ)++Γ') (.a A::G) R:=⟨congrArg (A:: ·) h.e⟩
instance rf5 {b:Nat}{cs:List Value}{ty:TypeId}{Γ Γ' R:List Ah}{G:List Pt}[h:Rf (Γ++Γ') G R]:Rf ((blk b cs ty::Γ)++Γ') (.b b cs ty::G) R:=⟨congrArg (blk b cs ty:: ·) h.e⟩
theorem CP{R:List Ah}:∀{G:List Pt} {j b:Nat} {cs:List Value} {ty:TypeId},G[j]?=some (.b b cs ty)->(Dl G R)[j]?=some (blk b cs ty)
 | [],_,_,_,_,h=>by simp at h
 | .b b' cs' ty'::G,0,b,cs,ty,h=>by simp at h;obtain ⟨rfl,rfl,rfl⟩:=h;rfl
 | .a A::G,0,b,cs,ty,h=>by simp at h
 | .b b' cs' ty'::G,j+1,b,cs,ty,h=>by simpa [Dl] using CP (j:=j) (by simpa using h)
 | .a A::G,j+1,b,cs,ty,h=>by simpa [Dl] using CP (j:=j) (by simpa using h)
theorem I8{R:List Ah}:∀{G:List Pt} {j b:Nat} {cs:List Value} {ty:TypeId},j<G.length->(Dl G R).set j (blk b cs ty)=Dl (G.set j (.b b cs ty)) R
 | [],_,_,_,_,h=>by simp at h
 | .b b' cs' ty'::G,0,b,cs,ty,h=>rfl
 | .a A::G,0,b,cs,ty,h=>rfl
 | .b b' cs' ty'::G,j+1,b,cs,ty,h=>by simp[Dl,I8 (j:=j) (by simpa using h)]
 | .a A::G,j+1,b,cs,ty,h=>by simp[Dl,I8 (j:=j) (by simpa using h)]

inductive Kd where
 | fin
 | seq (c:Code) (k:Kd)
 | blk (i:Nat) (k:Kd)
inductive Pos where
 | c (c:Code) (k:Kd)
 | o (ops os:List Oper) (k:Kd)
 | n (k:Kd)
 | x (i:Nat) (k:Kd)
 | r
section
variable(P:Program)(N:Act->World->Prop)(X:Nat->Act->World->Prop)(R:Act->World->Prop)
def kQ:Kd->(Act->World->Prop)×(Nat->Act->World->Prop)
 | .fin=>(N,X)
 | .seq c k=>(λa w=>c.wp P (Qp (kQ k).1 (kQ k).2 R) a w,(kQ k).2)
 | .blk i k=>((kQ k).1,upd (kQ k).2 i (kQ k).1)
def BH:Pos->Act->World->Prop
 | .c c k=>c.wp P (Qp (kQ P N X R k).1 (kQ P N X R k).2 R)
 | .o ops os k=>wpList P ops.toArray (Qp (kQ P N X R k).1 (kQ P N X R k).2 R) os
 | .n k=>(kQ P N X R k).1
 | .x i k=>(kQ P N X R k).2 i
 | .r=>R
end
def VU(L:List (Nat×Value))(k:Kd):Code->Option Pos
 | .seq x y=>some (.c x (.seq y k))
 | .skip=>some (.n k)
 | .ret=>some .r
 | .exit i=>some (.x i k)
 | .block i c=>some (.c c (.blk i k))
 | .cond o x y=>match ev L o with
  | some (.bool true)=>some (.c x k)
  | some (.bool false)=>some (.c y k)
  | _=>none
 | .region _ ops false=>some (.o ops.toList ops.toList k)
 | _=>none
def Pr(L:List (Nat×Value)):Pos->Option Pos
 | .c c k=>VU L k c
 | .n (.seq c k)=>some (.c c k)
 | .n (.blk _ k)=>some (.n k)
 | .x i (.seq _ k)=>some (.x i k)
 | .x i (.blk j k)=>bif Nat.beq i j then some (.n k) else some (.x i k)
 | .o _ [] k=>some (.n k)
 | _=>none
theorem pstep_ok{P:Program}{N R:Act->World->Prop}{X:Nat->Act->World->Prop}{n:Nat}{ds:List Deferred}{L:List (Nat×Value)}{w:World}{p p':Pos}(h:Pr L p=some p')(K:∀x,Fr n ds L x->BH P N X R p' x w):∀x,Fr n ds L x->BH P N X R p x w:=by
 unfold Pr at h;split at h
 ·rename_i c k
  unfold VU at h;split at h
  ·cases h;exact AV K
  ·cases h;exact Dw K
  ·cases h;exact EA K
  ·cases h;exact Qw K
  ·cases h;exact Fm K
  ·split at h
   ·rename_i a;cases h;exact Qx a K
   ·rename_i a;cases h;exact EP a K
   cases h
  ·rename_i id ops;cases h
   have:=AI (id:=id) (ops:=ops.toList) (P:=P) (N:=(kQ P N X R k).1) (X:=(kQ P N X R k).2) (R:=R) K;simp only[Array.toArray_toList] at this;exact this
  cases h
 ·cases h;exact K
 ·cases h;exact K
 ·cases h;exact K
 ·rename_i i j k
  cases hb:Nat.beq i j with
  | true=>rw[hb] at h;cases h;rw[AcS hb];exact HP K
  | false=>rw[hb] at h;cases h;exact AaD hb K
 ·cases h;exact K
 cases h

def Fk:Option Prop->Prop
 | none=>True
 | some p=>p
def cj:Option Prop->Option Prop->Option Prop
 | none,q=>q
 | some p,none=>some p
 | some p,some q=>some (p/\q)
theorem Hn{p q:Option Prop}(h:Fk (cj p q)):Fk p/\Fk q:=by
 cases p<;>cases q<;>simp[cj,Fk] at h ⊢ <;>exact h

def GD{α β:Type}:List α->(List α->β)->β
 | [],k=>k []
 | x::xs,k=>GD xs λys=>k (x::ys)
theorem EH{α β:Type}:∀(l:List α) (k:List α->β),GD l k=k l
 | [],_=>rfl
 | x::xs,k=>EH xs λys=>k (x::ys)
def QO{β:Type}(v:Value)(k:Value->β):β:=match v with
 | .bool b=>k (.bool b)
 | .int i n=>k (.int i n)
 | .pointer a=>k (.pointer a)
 | .slice a l c=>k (.slice a l c)
 | .map r=>k (.map r)
 | .agg cs=>k (.agg cs)
 | v=>k v
theorem QP{β:Type}(v:Value)(k:Value->β):QO v k=k v:=by cases v<;>rfl
def Iz{β:Type}:List Value->(List Value->β)->β
 | [],k=>k []
 | x::xs,k=>QO x λy=>Iz xs λys=>k (y::ys)
theorem JN{β:Type}:∀(l:List Value) (k:List Value->β),Iz l k=k l
 | [],_=>rfl
 | x::xs,k=>by rw[Iz,QP,JN xs]
structure OvR where
 v:Value
 hs:List Nat
 zs:List Int
 ok:Bool
 a:List (Nat×Nat)
 ob:Option Prop
def Y2(b:BinOp)(p q:Int):Option Prop:=match b with
 | .lss=>some (p<q)
 | .leq=>some (p<=q)
 | .gtr=>some (q<p)
 | .geq=>some (q<=p)
 | .eql=>some (p=q)
 | .neq=>some (p≠q)
 | _=>none
theorem QQ{b:BinOp}{p q:Int}{a:Prop}(h:Y2 b p q=some a):(a->icmp b p q=some (.bool true))/\(¬a->icmp b p q=some (.bool false)):=by
 unfold Y2 at h;split at h<;>first|cases h|skip
 all_goals (constructor<;>intro hp<;>simp only[icmp,AbL,Value.bool.injEq]<;>first|exact decide_eq_true hp|exact decide_eq_false hp)
def iar(b:BinOp)(p q r:Int):Option Prop:=match b with
 | .add=>some (p+q=r/\ -9223372036854775808<=r/\r<=9223372036854775807)
 | .sub=>some (p-q=r/\ -9223372036854775808<=r/\r<=9223372036854775807)
 | .mul=>some (p*q=r/\ -9223372036854775808<=r/\r<=9223372036854775807)
 | .quo=>some (0<=p/\0<q/\p/q=r/\p<=9223372036854775807)
 | .rem=>some (0<=p/\q≠0/\p%q=r)
 | _=>none
def i64:IntKind->Bool
 | .i64=>true
 | _=>false
theorem QR{k:IntKind}(h:i64 k=true):k=.i64:=by cases k<;>first|rfl|cases h
def S4(P:Program)(b:BinOp)(xt:TypeId)(u v:Value)(hs:List Nat)(zs:List Int):Option OvR:=match u,v with
 | .int k p,.int k' q=>match Y2 b p q with
  | some pr=>match hs with
   | 0::hs=>match icmp b p q with
    | some c=>some ⟨c,hs,zs,La k k',[],none⟩
    | none=>none
   | 1::hs=>some ⟨.bool true,hs,zs,La k k',[],some pr⟩
   | 2::hs=>some ⟨.bool false,hs,zs,La k k',[],some (¬pr)⟩
   | 3::hs=>match icmp b p q with
    | some (.bool c)=>some ⟨.bool true,hs,zs,c&&La k k',[],none⟩
    | _=>none
   | 4::hs=>match icmp b p q with
    | some (.bool c)=>some ⟨.bool false,hs,zs,!c&&La k k',[],none⟩
    | _=>none
   | _=>none
  | none=>match zs with
   | r::zs=>match iar b p q r with
    | some pr=>some ⟨.int .i64 r,hs,zs,i64 k&&i64 k',[],some pr⟩
    | none=>none
   | []=>none
 | .pointer (some _),.pointer none=>match b with
  | .eql=>some ⟨.bool false,hs,zs,FD P xt,[],none⟩
  | .neq=>some ⟨.bool true,hs,zs,FD P xt,[],none⟩
  | _=>none
 | .pointer none,.pointer none=>match b with
  | .eql=>some ⟨.bool true,hs,zs,FD P xt,[],none⟩
  | .neq=>some ⟨.bool false,hs,zs,FD P xt,[],none⟩
  | _=>none
 | _,_=>none
def QS:Option Nat->Nat->Bool
 | some x,z=>Nat.beq x z
 | none,_=>false
theorem JO{x:Option Nat}{z:Nat}(h:QS x z=true):x=some z:=by
 cases x with
 | none=>cases h
 | some y=>rw[AcS (n:=y) (m:=z) h]
def S5:Option (Nat×Nat)->Nat->Nat->Bool
 | some x,l,z=>Nat.beq x.1 l&&Nat.beq x.2 z
 | none,_,_=>false
theorem WD{x:Option (Nat×Nat)}{l z:Nat}(h:S5 x l z=true):x=some (l,z):=by
 cases x with
 | none=>cases h
 | some y=>
  simp only[S5,Ab8] at h;rw[<-AcS h.1,<-AcS h.2]
def S6(P:Program)(G:List Pt)(L:List (Nat×Value))(hs:List Nat)(zs:List Int):Op->Option OvR
 | .move x=>match ev L x with|some v=>some ⟨v,hs,zs,true,[],none⟩|none=>none
 | .assign x=>match ev L x with|some v=>some ⟨v,hs,zs,true,[],none⟩|none=>none
 | .pick c x y=>match ev L c with
  | some (.bool true)=>(match ev L x with|some v=>some ⟨v,hs,zs,true,[],none⟩|none=>none)
  | some (.bool false)=>(match ev L y with|some v=>some ⟨v,hs,zs,true,[],none⟩|none=>none)
  | _=>none
 | .extract x i=>match ev L x with
  | some (.tuple vs)=>(match vs.toList[i]? with|some v=>some ⟨v,hs,zs,true,[],none⟩|none=>none)
  | _=>none
 | .nilCheck x=>match ev L x with
  | some (.pointer (some ad))=>some ⟨.pointer (some ad),hs,zs,true,[],none⟩
  | _=>none
 | .unOp b _ x=>match b with
  | .not=>(match ev L x with|some (.bool c)=>some ⟨.bool !c,hs,zs,true,[],none⟩|_=>none)
  | _=>none
 | .binOp b xt x y _=>match ev L x with
  | some u=>(match ev L y with|some v=>S4 P b xt u v hs zs|none=>none)
  | none=>none
 | .fieldAddr s x f=>match hs with
  | r::hs=>(match ev L x with
   | some (.pointer (some ⟨b,p,none⟩))=>some ⟨.pointer (some ⟨b,r,none⟩),hs,zs,noq (DW P s f) p r,[],none⟩
   | _=>none)
  | []=>none
 | .load t x=>match hs with
  | j::0::hs=>(match ev L x with
   | some (.pointer (some ⟨b,p,none⟩))=>(match G[j]? with
    | some (.b b' cs _)=>(match cs[p]? with
     | some v=>some ⟨v,hs,zs,Ge P t,[(b,b')],none⟩
     | none=>none)
    | _=>none)
   | _=>none)
  | j::m::hs=>(match ev L x with
   | some (.pointer (some ⟨b,p,none⟩))=>(match G[j]? with
    | some (.b b' cs _)=>GD ((cs.drop p).take m) λvs=>some ⟨.agg vs.toArray,hs,zs,QS (Hh P t) m&&Nat.beq vs.length m,[(b,b')],none⟩
    | _=>none)
   | _=>none)
  | _=>none
 | .indexAddr t x y=>match ev L x with
  | some (.slice (some ⟨b,p,none⟩) l _)=>(match ev L y with
   | some (.int _ i)=>(match hs with
    | z::j::r::hs=>some ⟨.pointer (some ⟨b,r,none⟩),hs,zs,QS (CY P t) z,[],some (i=(j:Int)/\j<l/\p+j*z=r)⟩
    | _=>none)
   | _=>none)
  | some (.pointer (some ⟨b,p,none⟩))=>(match ev L y with
   | some (.int _ i)=>(match hs with
    | l::z::j::r::hs=>some ⟨.pointer (some ⟨b,r,none⟩),hs,zs,S5 (Hf P t) l z,[],some (i=(j:Int)/\j<l/\p+j*z=r)⟩
    | _=>none)
   | _=>none)
  | _=>none
 | .call ⟨.builtin .len,⟨[x]⟩,⟨[t]⟩⟩=>match ev L x with
  | some (.slice _ l _)=>some ⟨.int .i64 l,hs,zs,(CY P t).isSome,[],none⟩
  | _=>none
 | .build t ⟨ps⟩=>match (evs L (ps.map (·.2))).map (List.zip (ps.map (·.1))) with
  | some us=>match P.built t us with
   | some cs=>Iz cs.toList λcs=>some ⟨.agg cs.toArray,hs,zs,true,[],none⟩
   | none=>none
  | none=>none
 | _=>none
section
variable{P:Program}{G:List Pt}{L:List (Nat×Value)}{n:Nat}{ds:List Deferred}{w:World}{C:World->Prop}{o:Oper}{hs:List Nat}{zs:List Int}{q:OvR}
theorem WE{b:BinOp}{xt yt:TypeId}{x y:Operand}{u v:Value}(f:o.op=.binOp b xt x y yt)(a:ev L x=some u)(d:ev L y=some v)(h:S4 P b xt u v hs zs=some q)(e:q.ok=true)(hq:Fk q.ob):Ax P C n ds L o q.v:=by
 have i:∀{k:IntKind} {p r:Int} {c:Value},ev L x=some (.int k p)->ev L y=some (.int k r)->icmp b p r=some c->Ax P C n ds L o c:=by
  intro k p r c a d l;unfold icmp at l;split at l<;>first|(cases l;first|exact Pi f a d|exact VL f a d|exact VM f a d|exact VN f a d|exact VO f a d|exact Pj f a d)|cases l
 unfold S4 at h;split at h
 ·rename_i k p s r
  split at h
  ·rename_i m g
   split at h
   ·split at h
    ·rename_i j;cases h;obtain rfl:=GS e;exact i a d j
    cases h
   ·cases h;obtain rfl:=GS e;exact i a d ((QQ g).1 hq)
   ·cases h;obtain rfl:=GS e;exact i a d ((QQ g).2 hq)
   ·split at h
    ·rename_i c j;cases h;simp only[Ab8] at e;obtain rfl:=GS e.2;rw[e.1] at j;exact i a d j
    cases h
   ·split at h
    ·rename_i c j;cases h;simp only[Ab8,Bool.not_eq_true'] at e;obtain rfl:=GS e.2;rw[e.1] at j;exact i a d j
    cases h
   cases h
  split at h
  ·split at h
   ·rename_i m g
    cases h
    simp only[Ab8] at e;obtain rfl:=QR e.1;obtain rfl:=QR e.2;unfold iar at g;split at g<;>first|cases g|skip
    ·exact CA f a d hq.1 hq.2
    ·exact Km f a d hq.1 hq.2
    ·exact GQ f a d hq.1 hq.2
    ·exact Ob f a d hq.1 hq.2.1 hq.2.2.1 hq.2.2.2
    exact Oc f a d hq.1 hq.2.1 hq.2.2
   cases h
  cases h
 ·split at h
  ·cases h;exact L7 f e a d
  ·cases h;exact SY f e a d
  cases h
 ·split at h
  ·cases h;exact SZ f e a d
  ·cases h;exact S0 f e a d
  cases h
 cases h
theorem oval_ok(hM:∀w,C w->∀(j b:Nat) (cs:List Value) (ty:TypeId),G[j]?=some (Pt.b b cs ty)->Blk b cs ty w)(h:S6 P G L hs zs o.op=some q)(e:q.ok=true)(ha:BK q.a)(hq:Fk q.ob):Ax P C n ds L o q.v:=by
 unfold S6 at h;split at h
 ·rename_i d
  split at h
  ·rename_i c;cases h;exact CX d c
  cases h
 ·rename_i d
  split at h
  ·rename_i c;cases h;exact AS d c
  cases h
 ·rename_i d
  split at h
  ·rename_i hc
   split at h
   ·rename_i c;cases h;exact L0 d hc c
   cases h
  ·rename_i hc
   split at h
   ·rename_i c;cases h;exact L2 d hc c
   cases h
  cases h
 ·rename_i d
  split at h
  ·rename_i vs c
   split at h
   ·rename_i i;cases h
    exact ER (vs:=vs.toList) d (by simpa using c) i
   cases h
  cases h
 ·rename_i d
  split at h
  ·rename_i c;cases h;exact JM d c
  cases h
 ·rename_i d
  split at h
  ·split at h
   ·rename_i c;cases h;exact JL d c
   cases h
  cases h
 ·rename_i b xt x y _ d
  split at h
  ·rename_i u c
   split at h
   ·rename_i v g;exact WE d c g h e hq
   cases h
  cases h
 ·rename_i s x f d
  split at h
  ·split at h
   ·rename_i b p c
    cases h
    dsimp only at e
    cases m:DW P s f with
    | none=>rw[m] at e;cases e
    | some k=>
     rw[m] at e;exact Kn d m c (AcS e)
   cases h
  cases h
 ·rename_i t x d
  split at h
  ·split at h
   ·rename_i b p c
    split at h
    ·rename_i b' cs ty r
     split at h
     ·rename_i v i
      cases h
      have e1:b=b':=ha.1;exact AY d c e (λw hw=>by rw[e1];exact (hM w hw _ _ _ _ r).cel p i)
     cases h
    cases h
   cases h
  ·split at h
   ·rename_i b p c
    split at h
    ·rename_i b' cs ty r
     rw[EH] at h;cases h;have e1:b=b':=ha.1;simp only[Ab8] at e;have hl:=AcS e.2;refine Bt d c (by rw[JO e.1,hl]) (λw hw=>?_);rw[e1];exact (hM w hw _ _ _ _ r).part p _ _ Z
    cases h
   cases h
  cases h
 ·rename_i t x y d
  split at h
  ·rename_i b p l _ c
   split at h
   ·rename_i g
    split at h
    ·cases h
     exact Oe d (JO e) c g hq.1 hq.2.1 hq.2.2
    cases h
   cases h
  ·rename_i b p c
   split at h
   ·rename_i g
    split at h
    ·cases h
     exact I5 d (WD e) c g hq.1 hq.2.1 hq.2.2
    cases h
   cases h
  cases h
 ·rename_i x t d
  split at h
  ·rename_i l _ c
   cases h
   dsimp only at e
   cases hz:CY P t with
   | none=>rw[hz] at e;cases e
   | some z=>exact EC d hz c
  cases h
 ·rename_i t ps d
  split at h
  ·rename_i us i
   split at h
   ·rename_i cs m
    rw[JN] at h;cases h;exact AX (parts:=ps) d i (by simpa using m)
   cases h
  cases h
 cases h
end

def HT:Value->List Value
 | .agg cs=>cs.toList
 | v=>[v]
theorem Oi(v:Value):v.cells=(HT v).toArray:=by cases v<;>simp[HT,Value.cells]
def I9:List Value->Nat->List Value->List Value
 | cs,_,[]=>cs
 | [],_,_::_=>[]
 | _::cs,0,v::vs=>v::I9 cs 0 vs
 | c::cs,p+1,v::vs=>c::I9 cs p (v::vs)
theorem Kq:∀(cs:List Value) (p:Nat) (vs:List Value),p+vs.length<=cs.length->cs.take p++vs++cs.drop (p+vs.length)=I9 cs p vs
 | cs,p,[],h=>by simp[I9]
 | [],p,v::vs,h=>by simp at h
 | c::cs,0,v::vs,h=>by
  have:=Kq cs 0 vs (by simp at h ⊢;omega);simp only[Ac3,Ab3,AcW] at this;simp[I9,this]
 | c::cs,p+1,v::vs,h=>by
  have:=Kq cs p (v::vs) (by simp at h ⊢;omega);simp only[I9,Acy,Ac9];rw[<-this];simp only[AbI,Ac9];rw[show p+1+(vs.length+1)=(p+(vs.length+1))+1 from by omega,Acx]
structure OtR where
 G:List Pt
 hs:List Nat
 ok:Bool
 a:List (Nat×Nat)
def Y3(P:Program)(G:List Pt)(L:List (Nat×Value))(hs:List Nat):Op->Option OtR
 | .store t x y=>match hs with
  | j::hs=>(match ev L x with
   | some (.pointer (some ⟨b,p,none⟩))=>(match ev L y with
    | some v=>(match G[j]? with
     | some (.b b' cs ty)=>GD (I9 cs p (HT v)) λcs'=>GD (G.set j (.b b' cs' ty)) λG=>some ⟨G,hs,(QS ((P.info? t).map (·.size)) (HT v).length&&Nat.ble (p+(HT v).length) cs.length)&&(HT v).all (·.oneCell'),[(b,b')]⟩
     | _=>none)
    | none=>none)
   | _=>none)
  | []=>none
 | _=>none
structure Mo(wr:Bool)(S:List Pt->World->Prop):Prop where
 ld:∀{G:List Pt} {w:World} {j b:Nat} {cs:List Value} {ty:TypeId},S G w->G[j]?=some (.b b cs ty)->Blk b cs ty w
 st:wr=true->∀{G:List Pt} {w w':World} {j b:Nat} {cs cs':List Value} {ty:TypeId},S G w->G[j]?=some (.b b cs ty)->w'.os=w.os->w'.tape=w.tape->w'.output=w.output->Blk b cs' ty w'->(∀k:Nat,k≠b->w'.heap[k]?=w.heap[k]?)->S (G.set j (.b b cs' ty)) w'
section
variable{P:Program}{G:List Pt}{L:List (Nat×Value)}{n:Nat}{ds:List Deferred}{o:Oper}{hs:List Nat}{zs:List Int}{S:List Pt->World->Prop}{wr:Bool}
theorem Y4(f:Mo true S){q:OtR}(h:Y3 P G L hs o.op=some q)(g:q.ok=true)(ha:BK q.a){w:World}(j:S G w):Dt P n ds L o w (λw'=>S q.G w'):=by
 unfold Y3 at h;split at h
 ·rename_i t x y m
  split at h
  ·split at h
   ·rename_i b p z
    split at h
    ·rename_i v hy
     split at h
     ·rename_i b' cs ty i
      rw[EH,EH] at h;cases h;have e:b=b':=ha.1;subst e;simp only[Ab8] at g;obtain ⟨⟨s,d⟩,r⟩:=g;have d:p+(HT v).length<=cs.length:=Nat.le_of_ble_eq_true d;intro a hF;obtain ⟨w',l,u,c,_⟩:=Og (w:=w) m z hy (Oi v) (by simpa using r) (JO s) (f.ld j i) d (Kq cs p _ d) a hF;refine ⟨w',l,f.st Z j i c.os c.tape c.output u (λk hk=>?_)⟩;rcases AbX k w.heap.size with q|q
      ·exact c.block k q hk
      rw[Acj q,Acj U]
     cases h
    cases h
   cases h
  cases h
 cases h

structure OsR where
 L:List (Nat×Value)
 G:List Pt
 hs:List Nat
 zs:List Int
 ok:Bool
 a:List (Nat×Nat)
 ob:Option Prop
def ostep(P:Program)(wr:Bool)(n:Nat)(ops:List Oper)(o:Oper)(hs:List Nat)(zs:List Int)(L:List (Nat×Value))(G:List Pt):Option OsR:=match o.dst with
 | some d=>(match BJ ops L o.guard with
  | true=>(match S6 P G L hs zs o.op with
   | some ⟨v,hs,zs,ok,a,ob⟩=>some ⟨(d,v)::L,G,hs,zs,Nat.blt d n&&ok,a,ob⟩
   | none=>none)
  | false=>(match EB ops L o.guard with
   | true=>some ⟨(d,undef)::L,G,hs,zs,Nat.blt d n,[],none⟩
   | false=>none))
 | none=>(match BJ ops L o.guard with
  | true=>(match wr with
   | true=>(match Y3 P G L hs o.op with
    | some ⟨G,hs,ok,a⟩=>some ⟨L,G,hs,zs,ok,a,none⟩
    | none=>none)
   | false=>none)
  | false=>(match EB ops L o.guard with
   | true=>some ⟨L,G,hs,zs,true,[],none⟩
   | false=>none))
theorem S7(l:Mo wr S){Q:Exit->Act->World->Prop}{ops k:List Oper}{q:OsR}(h:ostep P wr n ops o hs zs L G=some q)(c:q.ok=true)(m:BK q.a)(hq:Fk q.ob)(K:∀w,S q.G w->∀x,Fr n ds q.L x->wpList P ops.toArray Q k x w):∀w,S G w->∀x,Fr n ds L x->wpList P ops.toArray Q (o::k) x w:=by
 intro w f;unfold ostep at h;split at h
 ·rename_i d b
  split at h
  ·rename_i j
   split at h
   ·rename_i g
    cases h
    simp only[Ab8] at c;exact s_do j b c.1 (oval_ok (λw' p _ _ _ _ e=>by subst p;exact l.ld f e) g c.2 m hq) (K w f)
   cases h
  split at h
  ·rename_i i;cases h;exact QB i b c (K w f)
  cases h
 rename_i b;split at h
 ·rename_i j
  split at h
  ·split at h
   ·rename_i g
    cases h
    exact FC j b (Y4 l g c m f) K
   cases h
  cases h
 split at h
 ·rename_i i;cases h;exact Ws i b (K w f)
 cases h
def VV:Pos->Option (List Oper×Oper×List Oper×Kd)
 | .o ops (o::os) k=>some (ops,o,os,k)
 | _=>none
theorem QT{p:Pos}{ops a:List Oper}{o:Oper}{k:Kd}(h:VV p=some (ops,o,a,k)):p=.o ops (o::a) k:=by
 unfold VV at h;split at h<;>cases h;rfl
structure GsR where
 L:List (Nat×Value)
 G:List Pt
 p:Pos
 ok:Bool
 a:List (Nat×Nat)
 ob:Option Prop
def go(P:Program)(wr:Bool)(n:Nat):Nat->List Nat->List Int->List (Nat×Value)->List Pt->Pos->Bool->List (Nat×Nat)->Option Prop->Option GsR
 | 0,_,_,L,G,p,ok,a,ob=>some ⟨L,G,p,ok,a,ob⟩
 | k+1,hs,zs,L,G,p,ok,a,ob=>match VV p with
  | some (ops,o,os,kk)=>(match ostep P wr n ops o hs zs L G with
   | some ⟨L,G,hs,zs,ok',a',ob'⟩=>go P wr n k hs zs L G (.o ops os kk) (ok'&&ok) (a'++a) (cj ob' ob)
   | none=>none)
  | none=>(match Pr L p with
   | some p=>go P wr n k hs zs L G p ok a ob
   | none=>none)
theorem WF:∀{k:Nat} {hs:List Nat} {zs:List Int} {L:List (Nat×Value)} {G:List Pt} {p:Pos} {d:Bool} {a:List (Nat×Nat)} {ob:Option Prop} {q:GsR},go P wr n k hs zs L G p d a ob=some q->q.ok=true->BK q.a->Fk q.ob->d=true/\BK a/\Fk ob:=by
 intro k
 induction k with
 | zero=>intro hs zs L G p d a ob q h b c hq;simp only[go,AbL] at h;subst h;exact ⟨b,c,hq⟩
 | succ k ih=>
  intro hs zs L G p d a ob q h b c hq;simp only[go] at h;split at h
  ·split at h
   ·obtain ⟨e,f,g⟩:=ih h b c hq
    simp only[Ab8] at e;exact ⟨e.2,(B4 f).2,(Hn g).2⟩
   cases h
  split at h
  ·exact ih h b c hq
  cases h
theorem Ho{N R:Act->World->Prop}{X:Nat->Act->World->Prop}(j:Mo wr S):∀(k:Nat) {hs:List Nat} {zs:List Int} {L:List (Nat×Value)} {G:List Pt} {p:Pos} {d:Bool} {a:List (Nat×Nat)} {ob:Option Prop} {q:GsR},go P wr n k hs zs L G p d a ob=some q->q.ok=true->BK q.a->Fk q.ob->(∀w,S q.G w->∀x,Fr n ds q.L x->BH P N X R q.p x w)->∀w,S G w->∀x,Fr n ds L x->BH P N X R p x w:=by
 intro k
 induction k with
 | zero=>intro hs zs L G p d a ob q h b c hq K;simp only[go,AbL] at h;subst h;exact K
 | succ k ih=>
  intro hs zs L G p d a ob q h b c hq K;simp only[go] at h;split at h
  ·rename_i i
   obtain rfl:=QT i;split at h
   ·rename_i l
    obtain ⟨e,f,g⟩:=WF h b c hq;simp only[Ab8] at e;exact S7 j l e.1 (B4 f).1 (Hn g).1 (ih h b c hq K)
   cases h
  split at h
  ·rename_i hp
   intro w m;exact pstep_ok hp (ih h b c hq K w m)
  cases h
end

section
variable{P:Program}{G:List Pt}{L:List (Nat×Value)}{n:Nat}{ds:List Deferred}{o:Oper}{hs:List Nat}{zs:List Int}
theorem Kr{C:World->Prop}{ops:List Oper}{q:OsR}(g:∀w,C w->∀(j b:Nat) (cs:List Value) (ty:TypeId),G[j]?=some (Pt.b b cs ty)->Blk b cs ty w){d:Nat}(f:o.dst=some d)(h:ostep P false n ops o hs zs L G=some q)(e:q.ok=true)(l:BK q.a)(hq:Fk q.ob):
  ∃v,q.L=(d,v)::L/\Nat.blt d n=true/\((BJ ops L o.guard=true/\Ax P C n ds L o v)\/(EB ops L o.guard=true/\v=undef)):=by
 unfold ostep at h;split at h
 ·rename_i p c
  rw[f] at c;cases c;split at h
  ·rename_i m
   split at h
   ·rename_i i
    cases h
    simp only[Ab8] at e;exact ⟨_,Z,e.1,.inl ⟨m,oval_ok g i e.2 l hq⟩⟩
   cases h
  split at h
  ·rename_i k;cases h;exact ⟨_,Z,e,.inr ⟨k,Z⟩⟩
  cases h
 rename_i c;rw[f] at c;cases c
structure QrR where
 L:List (Nat×Value)
 os:List Oper
 ok:Bool
 a:List (Nat×Nat)
 ob:Option Prop
def DX(P:Program)(G:List Pt)(ops:List Oper)(n:Nat):Nat->List Nat->List Int->List (Nat×Value)->List Oper->Bool->List (Nat×Nat)->Option Prop->Option QrR
 | 0,_,_,L,os,ok,a,ob=>some ⟨L,os,ok,a,ob⟩
 | _+1,_,_,_,[],_,_,_=>none
 | k+1,hs,zs,L,o::os,ok,a,ob=>match o.dst with
  | some _=>(match ostep P false n ops o hs zs L G with
   | some ⟨L,_,hs,zs,ok',a',ob'⟩=>DX P G ops n k hs zs L os (ok'&&ok) (a'++a) (cj ob' ob)
   | none=>none)
  | none=>none
theorem Lc{ops:List Oper}:∀{k:Nat} {hs:List Nat} {zs:List Int} {L:List (Nat×Value)} {b:List Oper} {c:Bool} {a:List (Nat×Nat)} {ob:Option Prop} {q:QrR},DX P G ops n k hs zs L b c a ob=some q->q.ok=true->BK q.a->Fk q.ob->c=true/\BK a/\Fk ob:=by
 intro k
 induction k with
 | zero=>intro hs zs L b c a ob q h d e hq;simp only[DX,AbL] at h;subst h;exact ⟨d,e,hq⟩
 | succ k ih=>
  intro hs zs L b c a ob q h d e hq
  cases b with
  | nil=>simp[DX] at h
  | cons o b=>
   simp only[DX] at h;split at h
   ·split at h
    ·obtain ⟨f,g,i⟩:=ih h d e hq
     simp only[Ab8] at f;exact ⟨f.2,(B4 g).2,(Hn i).2⟩
    cases h
   cases h
theorem VW{ops:List Oper}{C:World->Prop}{Q:Act->Prop}(y:∀w,C w->∀(j b:Nat) (cs:List Value) (ty:TypeId),G[j]?=some (Pt.b b cs ty)->Blk b cs ty w):∀(k:Nat) {hs:List Nat} {zs:List Int} {L:List (Nat×Value)} {c:List Oper} {i:Bool} {a:List (Nat×Nat)} {ob:Option Prop} {q:QrR},DX P G ops n k hs zs L c i a ob=some q->q.ok=true->BK q.a->Fk q.ob->(∀x,Fr n ds q.L x->wpQuiet P ops.toArray C Q q.os x)->∀x,Fr n ds L x->wpQuiet P ops.toArray C Q c x:=by
 intro k
 induction k with
 | zero=>intro hs zs L c i a ob q h l p hq K;simp only[DX,AbL] at h;subst h;exact K
 | succ k ih=>
  intro hs zs L c i a ob q h l p hq K
  cases c with
  | nil=>simp[DX] at h
  | cons o c=>
   simp only[DX] at h;split at h
   ·rename_i d m
    split at h
    ·rename_i z
     obtain ⟨r,s,t⟩:=Lc h l p hq;simp only[Ab8] at r;obtain ⟨v,e,f,hx⟩:=Kr (ds:=ds) y m z r.1 (B4 s).1 (Hn t).1;dsimp only at e;subst e;have K':=ih h l p hq K;rcases hx with ⟨hw,g⟩|⟨u,rfl⟩
     ·exact Bn hw m f g K'
     exact QE u m f K'
    cases h
   cases h
theorem VX{ops:List Oper}{w:World}{Q:Act->Prop}(y:∀(j b:Nat) (cs:List Value) (ty:TypeId),G[j]?=some (Pt.b b cs ty)->Blk b cs ty w):∀(k:Nat) {hs:List Nat} {zs:List Int} {L:List (Nat×Value)} {c:List Oper} {i:Bool} {a:List (Nat×Nat)} {ob:Option Prop} {q:QrR},DX P G ops n k hs zs L c i a ob=some q->q.ok=true->BK q.a->Fk q.ob->(∀x,Fr n ds q.L x->wpStill P ops.toArray w Q q.os x)->∀x,Fr n ds L x->wpStill P ops.toArray w Q c x:=by
 intro k
 induction k with
 | zero=>intro hs zs L c i a ob q h l p hq K;simp only[DX,AbL] at h;subst h;exact K
 | succ k ih=>
  intro hs zs L c i a ob q h l p hq K
  cases c with
  | nil=>simp[DX] at h
  | cons o c=>
   simp only[DX] at h;split at h
   ·rename_i d m
    split at h
    ·rename_i z
     obtain ⟨r,s,t⟩:=Lc h l p hq;simp only[Ab8] at r;obtain ⟨v,e,f,hx⟩:=Kr (C:=(· =w)) (ds:=ds) (λw' e=>by subst e;exact y) m z r.1 (B4 s).1 (Hn t).1;dsimp only at e;subst e;have K':=ih h l p hq K;rcases hx with ⟨hw,g⟩|⟨u,rfl⟩
     ·exact Cj hw m f g K'
     exact QJ u m f K'
    cases h
   cases h
structure ArR where
 L:List (Nat×Value)
 li:Array Bool
 ok:Bool
 a:List (Nat×Nat)
 ob:Option Prop
def arun(P:Program)(G:List Pt)(ops:List Oper)(n:Nat)(g:Nat->Bool):List Nat->List Nat->List Int->List (Nat×Value)->Array Bool->Bool->List (Nat×Nat)->Option Prop->Option ArR
 | [],_,_,L,li,ok,a,ob=>some ⟨L,li,ok,a,ob⟩
 | i::is,hs,zs,L,li,ok,a,ob=>match ops[i]? with
  | some o=>(match o.dst with
   | some _=>(match ostep P false n ops o hs zs L G with
    | some ⟨L,_,hs,zs,ok',a',ob'⟩=>arun P G ops n g is hs zs L (li.setIfInBounds i true) ((ok'&&(g i&&(Region.noSelect ops.toArray&&(Region.free .any ops.toArray li i&&(Region.ready .any ops.toArray li).contains i))))&&ok) (a'++a) (cj ob' ob)
    | none=>none)
   | none=>none)
  | none=>none
theorem QU{ops:List Oper}{g:Nat->Bool}:∀{b hs:List Nat} {zs:List Int} {L:List (Nat×Value)} {e:Array Bool} {c:Bool} {a:List (Nat×Nat)} {ob:Option Prop} {q:ArR},arun P G ops n g b hs zs L e c a ob=some q->q.ok=true->BK q.a->Fk q.ob->c=true/\BK a/\Fk ob:=by
 intro b
 induction b with
 | nil=>intro hs zs L e c a ob q h d f hq;simp only[arun,AbL] at h;subst h;exact ⟨d,f,hq⟩
 | cons i b ih=>
  intro hs zs L e c a ob q h d f hq;simp only[arun] at h;split at h
  ·split at h
   ·split at h
    ·obtain ⟨j,k,l⟩:=ih h d f hq
     simp only[Ab8] at j;exact ⟨j.2,(B4 k).2,(Hn l).2⟩
    cases h
   cases h
  cases h
theorem VY{ops:List Oper}{N R:Act->World->Prop}{X:Nat->Act->World->Prop}{S:World->Prop}{w:World}(hM:∀w,S w->∀(j b:Nat) (cs:List Value) (ty:TypeId),G[j]?=some (Pt.b b cs ty)->Blk b cs ty w)(t:S w):∀(f:List Nat) {hs:List Nat} {zs:List Int} {L:List (Nat×Value)} {k:Array Bool} {m:Bool} {a:List (Nat×Nat)} {ob:Option Prop} {q:ArR} {fuel:Nat},arun P G ops n (λ_=>true) f hs zs L k m a ob=some q->q.ok=true->BK q.a->Fk q.ob->
  (∀x,Fr n ds q.L x->wpAnyH P .any ops.toArray (Qp N X R) S fuel q.li x w)->∀x,Fr n ds L x->wpAnyH P .any ops.toArray (Qp N X R) S (fuel+f.length) k x w:=by
 intro f
 induction f with
 | nil=>intro hs zs L k m a ob q fuel h p s hq K;simp only[arun,AbL] at h;subst h;exact K
 | cons i f ih=>
  intro hs zs L k m a ob q fuel h p s hq K;simp only[arun] at h;split at h
  ·rename_i o u
   split at h
   ·rename_i d r
    split at h
    ·rename_i hv
     obtain ⟨c,y,z⟩:=QU h p s hq;simp only[Ab8] at c;obtain ⟨v,e,g,hx⟩:=Kr (ds:=ds) hM r hv c.1.1 (B4 y).1 (Hn z).1;dsimp only at e;subst e;have K':=ih h p s hq K;rcases hx with ⟨hw,l⟩|⟨hk,rfl⟩
     ·exact I7 (fuel:=fuel+f.length) i u c.1.2.2.1 c.1.2.2.2.1 c.1.2.2.2.2 hw r g l t K'
     exact QK (fuel:=fuel+f.length) i u c.1.2.2.1 c.1.2.2.2.1 c.1.2.2.2.2 hk r g t K'
    cases h
   cases h
  cases h
section
variable{ops:List Oper}{L':List (Nat×Value)}{ok':Bool}{a':List (Nat×Nat)}{ob:Prop}{z w:World}{Γ F:List Ah}
theorem Db(h:(ok',a'.map Prod.fst)=(true,a'.map Prod.snd)):ok'=true/\BK a':=⟨congrArg Prod.fst h,C3 (congrArg Prod.snd h)⟩
theorem JP{Q:Act->Prop}(k:Nat)(hs:List Nat)(zs:List Int)[e:Rf Γ G F]{c a:List Oper}(h:DX P G ops n k hs zs L c true [] none=some ⟨L',a,ok',a',none⟩)(b:(ok',a'.map Prod.fst)=(true,a'.map Prod.snd))(K:∀x,Fr n ds L' x->wpQuiet P ops.toArray (Sep z Γ) Q a x):∀x,Fr n ds L x->wpQuiet P ops.toArray (Sep z Γ) Q c x:=
 VW (λ_ H _ _ _ _ q=>(show Sep z (Dl G F) _ from e.e▸H).blk _ (CP q)) k h (Db b).1 (Db b).2 trivial K
theorem Ld{Q:Act->Prop}(k:Nat)(hs:List Nat)(zs:List Int)(H:Sep z Γ w)[e:Rf Γ G F]{c a:List Oper}(h:DX P G ops n k hs zs L c true [] none=some ⟨L',a,ok',a',none⟩)(b:(ok',a'.map Prod.fst)=(true,a'.map Prod.snd))(K:∀x,Fr n ds L' x->wpStill P ops.toArray w Q a x):∀x,Fr n ds L x->wpStill P ops.toArray w Q c x:=
 VX (λ_ _ _ _ q=>(show Sep z (Dl G F) _ from e.e▸H).blk _ (CP q)) k h (Db b).1 (Db b).2 trivial K
theorem CG{N R:Act->World->Prop}{X:Nat->Act->World->Prop}(b hs:List Nat)(zs:List Int)(H:Sep z Γ w)[e:Rf Γ G F]{d a:Array Bool}{fuel c:Nat}(h:arun P G ops n (λ_=>true) b hs zs L d true [] none=some ⟨L',a,ok',a',none⟩)(f:(ok',a'.map Prod.fst)=(true,a'.map Prod.snd))(g:fuel+b.length=c)(K:∀x,Fr n ds L' x->wpAnyH P .any ops.toArray (Qp N X R) (Sep z Γ) fuel a x w):∀x,Fr n ds L x->wpAnyH P .any ops.toArray (Qp N X R) (Sep z Γ) c d x w:=
 g▸VY (S:=Sep z Γ) (λ_ H _ _ _ _ q=>(show Sep z (Dl G F) _ from e.e▸H).blk _ (CP q)) H b h (Db f).1 (Db f).2 trivial K
theorem FT{Q:Act->Prop}(k:Nat)(hs:List Nat)(zs:List Int)[e:Rf Γ G F]{c a:List Oper}(h:DX P G ops n k hs zs L c true [] none=some ⟨L',a,ok',a',some ob⟩)(b:(ok',a'.map Prod.fst)=(true,a'.map Prod.snd))(hq:ob)(K:∀x,Fr n ds L' x->wpQuiet P ops.toArray (Sep z Γ) Q a x):∀x,Fr n ds L x->wpQuiet P ops.toArray (Sep z Γ) Q c x:=
 VW (λ_ H _ _ _ _ q=>(show Sep z (Dl G F) _ from e.e▸H).blk _ (CP q)) k h (Db b).1 (Db b).2 hq K
theorem CL{Q:Act->Prop}(k:Nat)(hs:List Nat)(zs:List Int)(H:Sep z Γ w)[e:Rf Γ G F]{c a:List Oper}(h:DX P G ops n k hs zs L c true [] none=some ⟨L',a,ok',a',some ob⟩)(b:(ok',a'.map Prod.fst)=(true,a'.map Prod.snd))(hq:ob)(K:∀x,Fr n ds L' x->wpStill P ops.toArray w Q a x):∀x,Fr n ds L x->wpStill P ops.toArray w Q c x:=
 VX (λ_ _ _ _ q=>(show Sep z (Dl G F) _ from e.e▸H).blk _ (CP q)) k h (Db b).1 (Db b).2 hq K
theorem Oj{N R:Act->World->Prop}{X:Nat->Act->World->Prop}(b hs:List Nat)(zs:List Int)(H:Sep z Γ w)[e:Rf Γ G F]{d a:Array Bool}{fuel c:Nat}(h:arun P G ops n (λ_=>true) b hs zs L d true [] none=some ⟨L',a,ok',a',some ob⟩)(f:(ok',a'.map Prod.fst)=(true,a'.map Prod.snd))(hq:ob)(g:fuel+b.length=c)(K:∀x,Fr n ds L' x->wpAnyH P .any ops.toArray (Qp N X R) (Sep z Γ) fuel a x w):∀x,Fr n ds L x->wpAnyH P .any ops.toArray (Qp N X R) (Sep z Γ) c d x w:=
 g▸VY (S:=Sep z Γ) (λ_ H _ _ _ _ q=>(show Sep z (Dl G F) _ from e.e▸H).blk _ (CP q)) H b h (Db f).1 (Db f).2 hq K
end
end

structure FiR where
 L:List (Nat×Value)
 G:List Pt
 p:Pos
 a:List Nat
 b:List Nat
 ob:Option Prop
def fin:Option GsR->Option FiR
 | some ⟨L,G,p,true,a,ob⟩=>some ⟨L,G,p,a.map Prod.fst,a.map Prod.snd,ob⟩
 | _=>none
def LV{β:Type}:List Pt->List Ah->(List Ah->β)->β
 | [],R,k=>k R
 | .b b cs ty::G,R,k=>LV G R λΓ=>k (blk b cs ty::Γ)
 | .a A::G,R,k=>LV G R λΓ=>k (A::Γ)
theorem S8{β:Type}{R:List Ah}(G:List Pt):∀(k:List Ah->β),LV G R k=k (Dl G R):=by
 induction G with
 | nil=>intro k;rfl
 | cons x G ih=>intro k;cases x<;>exact ih _
structure FwR where
 L:List (Nat×Value)
 Γ:List Ah
 p:Pos
 a:List Nat
 b:List Nat
 ob:Option Prop
def QV(F:List Ah):Option GsR->Option FwR
 | some ⟨L,G,p,true,a,ob⟩=>LV G F λΓ=>some ⟨L,Γ,p,a.map Prod.fst,a.map Prod.snd,ob⟩
 | _=>none
theorem Mb{F Γ:List Ah}{q:Option GsR}{L:List (Nat×Value)}{p:Pos}{al:List Nat}{ob:Option Prop}(h:QV F q=some ⟨L,Γ,p,al,al,ob⟩):∃a G,q=some ⟨L,G,p,true,a,ob⟩/\BK a/\Dl G F=Γ:=by
 unfold QV at h;split at h
 ·rename_i a _
  rw[S8] at h;simp only[AbL,FwR.mk.injEq] at h;obtain ⟨rfl,c,rfl,d,b,rfl⟩:=h;exact ⟨_,_,Z,C3 (d.trans b.symm),c⟩
 cases h
theorem JQ{q:Option GsR}{L:List (Nat×Value)}{G:List Pt}{p:Pos}{al:List Nat}{ob:Option Prop}(h:fin q=some ⟨L,G,p,al,al,ob⟩):∃a,q=some ⟨L,G,p,true,a,ob⟩/\BK a:=by
 unfold fin at h;split at h
 ·rename_i a _
  simp only[AbL,FiR.mk.injEq] at h;obtain ⟨rfl,rfl,rfl,c,b,rfl⟩:=h;exact ⟨_,Z,C3 (c.trans b.symm)⟩
 cases h
section
variable{P:Program}{N R:Act->World->Prop}{X:Nat->Act->World->Prop}{n:Nat}{ds:List Deferred}{L L':List (Nat×Value)}{w z:World}{p p':Pos}{al:List Nat}{G G':List Pt}{Γ F:List Ah}
theorem Y5(w:World):Mo false (λG w'=>G=[]/\w'=w):=⟨λh e=>by rw[h.1] at e;simp at e,λh=>by cases h⟩
theorem Y6(z:World)(F:List Ah)(w:World):Mo false (λG w'=>Sep z (Dl G F) w'/\w'=w):=⟨λH e=>H.1.blk _ (CP e),λh=>by cases h⟩
theorem S9(z:World)(F:List Ah):Mo true (λG w=>Sep z (Dl G F) w):=⟨λH e=>H.blk _ (CP e),λ_ {G w w' j b cs a ty} H e f c d g h=>by
 have:=H.write j (CP e) f c d g h;have i:j<G.length:=(AbE.1 e).1;exact (I8 (R:=F) (b:=b) (cs:=a) (ty:=ty) i)▸this⟩
theorem Z0(k:Nat)(hs:List Nat)(h:fin (go P false n k hs [] L [] p true [] none)=some ⟨L',[],p',[],[],none⟩)(K:∀x,Fr n ds L' x->BH P N X R p' x w):∀x,Fr n ds L x->BH P N X R p x w:=by
 obtain ⟨a,h,b⟩:=JQ h;exact Ho (Y5 w) k h Z b trivial (λ_ c=>c.2▸K) w ⟨Z,Z⟩
theorem Zc(k:Nat)(h:fin (go P false n k [] [] L [] p true [] none)=some ⟨L',[],p',[],[],none⟩)(K:∀x,Fr n ds L' x->BH P N X R p' x w):∀x,Fr n ds L x->BH P N X R p x w:=Z0 k [] h K
theorem Z1(k:Nat)(hs:List Nat)(zs:List Int){ob:Prop}(h:fin (go P false n k hs zs L [] p true [] none)=some ⟨L',[],p',[],[],some ob⟩)(hq:ob)(K:∀x,Fr n ds L' x->BH P N X R p' x w):∀x,Fr n ds L x->BH P N X R p x w:=by
 obtain ⟨a,h,b⟩:=JQ h;exact Ho (Y5 w) k h Z b hq (λ_ c=>c.2▸K) w ⟨Z,Z⟩
theorem Z2(k:Nat)(hs:List Nat)(H:Sep z Γ w)[e:Rf Γ G F](h:fin (go P false n k hs [] L G p true [] none)=some ⟨L',G',p',al,al,none⟩)(K:∀x,Fr n ds L' x->BH P N X R p' x w):∀x,Fr n ds L x->BH P N X R p x w:=by
 obtain ⟨a,h,b⟩:=JQ h;exact Ho (Y6 z F w) k h Z b trivial (λ_ c=>c.2▸K) w ⟨e.e▸H,Z⟩
theorem Z3(k:Nat)(hs:List Nat)(zs:List Int)(H:Sep z Γ w)[e:Rf Γ G F]{ob:Prop}(h:fin (go P false n k hs zs L G p true [] none)=some ⟨L',G',p',al,al,some ob⟩)(hq:ob)(K:∀x,Fr n ds L' x->BH P N X R p' x w):∀x,Fr n ds L x->BH P N X R p x w:=by
 obtain ⟨a,h,b⟩:=JQ h;exact Ho (Y6 z F w) k h Z b hq (λ_ c=>c.2▸K) w ⟨e.e▸H,Z⟩
theorem Z4(k:Nat)(hs:List Nat)(H:Sep z Γ w)[e:Rf Γ G F]{Γ':List Ah}(h:QV F (go P true n k hs [] L G p true [] none)=some ⟨L',Γ',p',al,al,none⟩)(K:∀w,Sep z Γ' w->∀x,Fr n ds L' x->BH P N X R p' x w):∀x,Fr n ds L x->BH P N X R p x w:=by
 obtain ⟨a,G',c,b,rfl⟩:=Mb h;exact Ho (S9 z F) k c Z b trivial K w (e.e▸H)
theorem Z5(k:Nat)(hs:List Nat)(zs:List Int)(H:Sep z Γ w)[e:Rf Γ G F]{Γ':List Ah}{ob:Prop}(h:QV F (go P true n k hs zs L G p true [] none)=some ⟨L',Γ',p',al,al,some ob⟩)(hq:ob)(K:∀w,Sep z Γ' w->∀x,Fr n ds L' x->BH P N X R p' x w):∀x,Fr n ds L x->BH P N X R p x w:=by
 obtain ⟨a,G',c,b,rfl⟩:=Mb h;exact Ho (S9 z F) k c Z b hq K w (e.e▸H)
end

section
variable{P:Program}{N R:Act->World->Prop}{X:Nat->Act->World->Prop}{n d:Nat}{ds:List Deferred}{L:List (Nat×Value)}{w z:World}{k:Kd}{ops rest:List Oper}{o:Oper}{v:Value}
theorem Ac{f:FuncId}{d:Func}{c:Code}{args:List Value}{R:Value->World->Prop}(i:P.funcs[f]?=some d)(e:d.body=some c)(g:d.ntmps=n)(b:Nat.ble args.length n=true)
  (h:∀a,Fr n [] (first 0 args) a->BH P (FP P d R) HL (FP P d R) (.c c .fin) a w):Calls P f args.toArray w (Ret R):=enter i e n g b h
theorem gf(K:∀x,Fr n ds L x->N x w):∀x,Fr n ds L x->BH P N X R (.n .fin) x w:=K
theorem gx{a R':Act->World->Prop}{i:Nat}(K:∀x,Fr n ds L x->BH P N X R (.x i k) x w):∀x,Fr n ds L x->BH P a (kQ P N X R k).2 R' (.x i .fin) x w:=K
theorem gn(K:∀x,Fr n ds L x->BH P N X R (.n k) x w):∀x,Fr n ds L x->(kQ P N X R k).1 x w:=K
theorem gw(K:∀x,Fr n ds L x->BH P N X R (.o ops rest k) x w):∀x,Fr n ds L x->wpList P ops.toArray (Qp (kQ P N X R k).1 (kQ P N X R k).2 R) rest x w:=K
theorem DP{c:Operand}{x y:Code}{b:Bool}(d:ev L c=some (.bool b))(e:b=true->∀a,Fr n ds L a->BH P N X R (.c x k) a w)(f:b=false->∀a,Fr n ds L a->BH P N X R (.c y k) a w):∀a,Fr n ds L a->BH P N X R (.c (.cond c x y) k) a w:=Qy d e f
theorem Ag{c:Operand}{x y:Code}{p:Prop}[hp:Decidable p](e:ev L c=some (.bool (decide p)))(b:p->∀a,Fr n ds L a->BH P N X R (.c x k) a w)(d:¬p->∀a,Fr n ds L a->BH P N X R (.c y k) a w):∀a,Fr n ds L a->BH P N X R (.c (.cond c x y) k) a w:=FY e b d
theorem Ay{c:Code}{σ:Type}(d:σ->List (Nat×Value))(G:σ->World->Prop)(m:σ->Nat)(e:σ)
  (h₀:∀a,Fr n ds L a->Fr n ds (d e) a)(g:G e w)
  (b:∀s w,G s w->∀a,Fr n ds (d s) a->BH P (λa' w'=>∃f,Fr n ds (d f) a'/\G f w'/\m f<m s) (kQ P N X R k).2 R (.c c .fin) a w):∀a,Fr n ds L a->BH P N X R (.c (.loop c) k) a w:=Qz d G m e h₀ g b
def Ja(ops:List Oper)(L:List (Nat×Value))(n:Nat)(o:Oper):Option Nat:=match o.dst with
 | some d=>match BJ ops L o.guard with
  | true=>bif Nat.blt d n then some d else none
  | false=>none
 | none=>none
theorem Ea(h:Ja ops L n o=some d):BJ ops L o.guard=true/\o.dst=some d/\Nat.blt d n=true:=by
 unfold Ja at h;split at h
 ·rename_i c a
  split at h
  ·rename_i b
   cases hb:Nat.blt c n with
   | true=>rw[hb] at h;simp at h;subst h;exact ⟨b,a,hb⟩
   | false=>rw[hb] at h;cases h
  cases h
 cases h
theorem Ad(h:Ja ops L n o=some d)(b:Ax P (· =w) n ds L o v)(K:∀a',Fr n ds ((d,v)::L) a'->BH P N X R (.o ops rest k) a' w):∀a,Fr n ds L a->BH P N X R (.o ops (o::rest) k) a w:=s_do (Ea h).1 (Ea h).2.1 (Ea h).2.2 b K
theorem AG{Rr:Value->World->Prop}(h:Ja ops L n o=some d)(b:BX P n ds L o w Rr)(K:∀v w',Rr v w'->∀a',Fr n ds ((d,v)::L) a'->BH P N X R (.o ops rest k) a' w'):∀a,Fr n ds L a->BH P N X R (.o ops (o::rest) k) a w:=EF (Ea h).1 (Ea h).2.1 (Ea h).2.2 b K
theorem JR{Rr:Value->World->Prop}(c:BJ ops L o.guard=true)(b:o.dst=none)(h:BX P n ds L o w Rr)(K:∀v w',Rr v w'->∀a,Fr n ds L a->BH P N X R (.o ops rest k) a w'):∀a,Fr n ds L a->BH P N X R (.o ops (o::rest) k) a w:=VS c b h K
theorem A9{Rr:World->Prop}(c:BJ ops L o.guard=true)(b:o.dst=none)(h:Dt P n ds L o w Rr)(K:∀w',Rr w'->∀a,Fr n ds L a->BH P N X R (.o ops rest k) a w'):∀a,Fr n ds L a->BH P N X R (.o ops (o::rest) k) a w:=FC c b h K
theorem Ak{p:Prop}[Decidable p](t:Nat)(d:Cf L t=some (.bool (decide p)))(b:p->∀a,Fr n ds ((t,.bool true)::L) a->BH P N X R (.o ops (o::rest) k) a w)(c:¬p->∀a,Fr n ds ((t,.bool false)::L) a->BH P N X R (.o ops (o::rest) k) a w):∀a,Fr n ds L a->BH P N X R (.o ops (o::rest) k) a w:=QC t d b c
theorem Mc{b:Bool}(t:Nat)(e:Cf L t=some (.bool b))(c:b=true->∀a,Fr n ds ((t,.bool true)::L) a->BH P N X R (.o ops (o::rest) k) a w)(d:b=false->∀a,Fr n ds ((t,.bool false)::L) a->BH P N X R (.o ops (o::rest) k) a w):∀a,Fr n ds L a->BH P N X R (.o ops (o::rest) k) a w:=SS t e c d
variable{Γ pre R':List Ah}{post:Value->List Ah->Prop}{f:FuncId}{vs:List Value}
def LW(ops:List Oper)(L:List (Nat×Value))(n:Nat)(o:Oper):Option (Nat×FuncId×List Value):=match Ja ops L n o with
 | some d=>match o.op with
  | .call ⟨.value (.func f),⟨xs⟩,_⟩=>match evs L xs with
   | some vs=>some (d,f,vs)
   | none=>none
  | _=>none
 | none=>none
theorem Ta(h:LW ops L n o=some (d,f,vs)):Ja ops L n o=some d/\∃xs tys,o.op=.call {callee:=.value (.func f),args:=(xs:List Operand).toArray,argTypes:=tys} /\evs L xs=some vs:=by
 unfold LW at h;split at h
 ·rename_i i a
  split at h
  ·rename_i g xs tys c
   split at h
   ·rename_i b e
    simp only[AbL,Aer] at h;obtain ⟨rfl,rfl,rfl⟩:=h;exact ⟨a,xs,tys,c,e⟩
   cases h
  cases h
 cases h
theorem AA(h:LW ops L n o=some (d,f,vs))(c:∀w,(callFunc f vs.toArray).run P w=.ok (.enter f vs.toArray) w)(i:Cn P f vs pre post)(H:Sep z (pre++R') w)
  (K:∀v w' Γ',post v Γ'->Sep z (Γ'++R') w'->∀a',Fr n ds ((d,v)::L) a'->BH P N X R (.o ops rest k) a' w'):∀a,Fr n ds L a->BH P N X R (.o ops (o::rest) k) a w:=by
 obtain ⟨b,xs,tys,e,g⟩:=Ta h;exact Fj (Ea b).1 (Ea b).2.1 (Ea b).2.2 e g c i H Z K
theorem Ai{V_:Value}{G:List Ah}(h:LW ops L n o=some (d,f,vs))(b:∀w,(callFunc f vs.toArray).run P w=.ok (.enter f vs.toArray) w)(c:Cn P f vs pre (λv X=>v=V_/\X=G))(H:Sep z (pre++R') w)
  (K:∀w',Sep z (G++R') w'->∀a',Fr n ds ((d,V_)::L) a'->BH P N X R (.o ops rest k) a' w'):∀a,Fr n ds L a->BH P N X R (.o ops (o::rest) k) a w:=
 AA h b c H λv w' Γ' e=>by obtain ⟨rfl,rfl⟩:=e;exact K w'
def Ks(L:List (Nat×Value)):List ResultVar->Option (List Value)
 | []=>some []
 | .tmp t::rs=>match Cf L t with
  | some v=>match Ks L rs with
   | some vs=>some (v::vs)
   | none=>none
  | none=>none
 | _::_=>none
theorem Kt{L:List (Nat×Value)}:∀{rs:List ResultVar} {vs:List Value},Ks L rs=some vs->Eq P L w rs vs
 | [],vs,h=>by simp only[Ks,AbL] at h;subst h;trivial
 | .tmp t::rs,vs,h=>by
  simp only[Ks] at h;split at h
  ·rename_i v hv
   split at h
   ·rename_i us hu;cases h;exact ⟨hv,Kt hu⟩
   cases h
  cases h
 | .cell _ _::_,_,h=>by simp[Ks] at h
def Ps(L:List (Nat×Value))(rs:List ResultVar):Option Value:=match Ks L rs with
 | some [v]=>some v
 | some vs=>some (.tuple vs.toArray)
 | none=>none
theorem Ol{rs:List ResultVar}(h:Ps L rs=some v):∃vs,Eq P L w rs vs/\Gz vs=v:=by
 unfold Ps at h;split at h
 ·rename_i u a;cases h;exact ⟨_,Kt a,Z⟩
 ·rename_i vs b a;cases h;exact ⟨_,Kt a,by cases vs with
   | nil=>rfl
   | cons x xs=>cases xs with
    | nil=>exact (b x Z).elim
    | cons y ys=>rfl⟩
 cases h
theorem Zr{b:Func}{R:Value->World->Prop}(h:Ps L b.results.toList=some v)(q:R v w):∀a,Fr n [] L a->BH P N X (FP P b R) .r a w:=by
 obtain ⟨vs,d,c⟩:=Ol (P:=P) (w:=w) h;exact GA O vs d c q
theorem Zf{b:Func}{R':Act->World->Prop}{R:Value->World->Prop}(h:Ps L b.results.toList=some v)(q:R v w):∀a,Fr n [] L a->BH P (FP P b R) X R' (.n .fin) a w:=by
 obtain ⟨vs,d,c⟩:=Ol (P:=P) (w:=w) h;exact GA O vs d c q

structure RmR where
 vs:List Value
 ok:Bool
 a:List (Nat×Nat)
def Hq(P:Program)(L:List (Nat×Value))(G:List Pt):List Nat->List ResultVar->Option RmR
 | _,[]=>some ⟨[],true,[]⟩
 | hs,.tmp t::rs=>match Cf L t with
  | some v=>match Hq P L G hs rs with
   | some ⟨vs,ok,a⟩=>some ⟨v::vs,ok,a⟩
   | none=>none
  | none=>none
 | j::m::hs,.cell t ty::rs=>match Cf L t with
  | some (.pointer (some ⟨b,p,none⟩))=>match G[j]? with
   | some (.b b' cs _)=>match Hq P L G hs rs with
    | some ⟨us,ok,a⟩=>GD ((cs.drop p).take m) λvs=>some ⟨.agg vs.toArray::us,QS (Hh P ty) vs.length&&ok,(b,b')::a⟩
    | none=>none
   | _=>none
  | _=>none
 | _,_=>none
theorem Ku{G:List Pt}(c:∀(j b:Nat) (cs:List Value) (ty:TypeId),G[j]?=some (Pt.b b cs ty)->Blk b cs ty w):∀{rs:List ResultVar} {hs:List Nat} {q:RmR},Hq P L G hs rs=some q->q.ok=true->BK q.a->Eq P L w rs q.vs
 | [],hs,q,h,_,_=>by simp only[Hq,AbL] at h;subst h;trivial
 | .tmp t::rs,hs,q,h,hb,ha=>by
  simp only[Hq] at h;split at h
  ·rename_i v hv
   split at h
   ·rename_i hu;cases h;exact ⟨hv,Ku c hu hb ha⟩
   cases h
  cases h
 | .cell t ty::rs,j::m::hs,q,h,hb,ha=>by
  simp only[Hq] at h;split at h
  ·rename_i b p hv
   split at h
   ·rename_i b' cs ty' hG
    split at h
    ·rename_i hu
     rw[EH] at h;cases h;simp only[Ab8] at hb;have e:b=b':=ha.1;subst e;exact ⟨⟨b,p,hv,NR (JO hb.1) (c _ _ _ _ hG) (by rw[AbM,List.take_eq_take_iff];simp)⟩,Ku c hu hb.2 ha.2⟩
    cases h
   cases h
  cases h
 | .cell t ty::rs,[],q,h,_,_=>by simp[Hq] at h
 | .cell t ty::rs,[_],q,h,_,_=>by simp[Hq] at h
structure RvR where
 v:Value
 a:List Nat
 b:List Nat
def Tc:Option RmR->Option RvR
 | some ⟨[v],true,a⟩=>some ⟨v,a.map Prod.fst,a.map Prod.snd⟩
 | some ⟨vs,true,a⟩=>some ⟨.tuple vs.toArray,a.map Prod.fst,a.map Prod.snd⟩
 | _=>none
theorem WG{q:Option RmR}{al:List Nat}(h:Tc q=some ⟨v,al,al⟩):∃vs a,q=some ⟨vs,true,a⟩/\BK a/\Gz vs=v:=by
 unfold Tc at h;split at h
 ·simp only[AbL,RvR.mk.injEq] at h
  obtain ⟨rfl,c,b⟩:=h;exact ⟨_,_,Z,C3 (c.trans b.symm),Z⟩
 ·rename_i vs a d
  simp only[AbL,RvR.mk.injEq] at h;obtain ⟨rfl,c,b⟩:=h;refine ⟨_,_,Z,C3 (c.trans b.symm),?_⟩
  cases vs with
  | nil=>rfl
  | cons x xs=>cases xs with
   | nil=>exact (d x Z).elim
   | cons y ys=>rfl
 cases h
theorem Zl(hs:List Nat){G:List Pt}{F:List Ah}{al:List Nat}(H:Sep z Γ w)[e:Rf Γ G F]{b:Func}{R:Value->World->Prop}(h:Tc (Hq P L G hs b.results.toList)=some ⟨v,al,al⟩)(q:R v w):∀a,Fr n [] L a->BH P N X (FP P b R) .r a w:=by
 obtain ⟨vs,a,f,c,d⟩:=WG h;have H:Sep z (Dl G F) w:=e.e▸H;exact GA O vs (Ku (λ_ _ _ _ e=>H.blk _ (CP e)) f Z c) d q
structure AlR where
 L:List (Nat×Value)
 Γ:List Ah
 ops:List Oper
 os:List Oper
 k:Kd
 d:Nat
 zs:List Value
 e:TypeId
 ob:Option Prop
 a:List Nat
 b:List Nat
def Y7(P:Program)(n:Nat):Option FwR->Option AlR
 | some ⟨L,G,p,a,b,ob⟩=>match VV p with
  | some (ops,o,os,k)=>match Ja ops L n o with
   | some d=>match o.op with
    | .alloc e=>match zeroCells P e with
     | some zs=>GD zs.toList λzs=>some ⟨L,G,ops,os,k,d,zs,e,ob,a,b⟩
     | none=>none
    | .box e x=>match ev L x with
     | some v=>GD (HT v) λzs=>some ⟨L,G,ops,os,k,d,zs,e,ob,a,b⟩
     | none=>none
    | _=>none
   | none=>none
  | none=>none
 | none=>none
theorem Y9{q:Option FwR}{L':List (Nat×Value)}{G':List Ah}{j:List Oper}{zs:List Value}{e:TypeId}{ob:Option Prop}{al:List Nat}(h:Y7 P n q=some ⟨L',G',ops,j,k,d,zs,e,ob,al,al⟩)(K:∀b w,Sep z (blk b zs e::G') w->∀x,Fr n ds ((d,V b)::L') x->BH P N X R (.o ops j k) x w):
  ∃p',q=some ⟨L',G',p',al,al,ob⟩/\∀w,Sep z G' w->∀x,Fr n ds L' x->BH P N X R p' x w:=by
 unfold Y7 at h;split at h
 ·rename_i L1 G1 p a b r
  split at h
  ·rename_i i o m y s
   obtain rfl:=QT s;split at h
   ·rename_i d1 l
    split at h
    ·rename_i t g
     split at h
     ·rename_i f u
      rw[EH] at h;simp only[AbL,AlR.mk.injEq] at h;obtain ⟨rfl,rfl,rfl,rfl,rfl,rfl,rfl,rfl,rfl,rfl,rfl⟩:=h;refine ⟨_,Z,λw H=>AG l (Bz H g (zs:=f.toList) (by simpa using u)) ?_⟩;rintro _ w' ⟨b,rfl,c⟩;exact K b w' c
     cases h
    ·rename_i t x1 g
     split at h
     ·rename_i v1 v
      rw[EH] at h;simp only[AbL,AlR.mk.injEq] at h;obtain ⟨rfl,rfl,rfl,rfl,rfl,rfl,rfl,rfl,rfl,rfl,rfl⟩:=h;refine ⟨_,Z,λw H=>AG l (FE H g v (Oi _)) ?_⟩;rintro _ w' ⟨b,rfl,c⟩;exact K b w' c
     cases h
    cases h
   cases h
  cases h
 cases h
theorem Za(m:Nat)(hs:List Nat){L':List (Nat×Value)}{G:List Pt}{G':List Ah}{p:Pos}{c:List Oper}{zs:List Value}{e:TypeId}{al:List Nat}{F:List Ah}(H:Sep z Γ w)[r:Rf Γ G F](h:Y7 P n (QV F (go P true n m hs [] L G p true [] none))=some ⟨L',G',ops,c,k,d,zs,e,none,al,al⟩)
  (K:∀b w,Sep z (blk b zs e::G') w->∀x,Fr n ds ((d,V b)::L') x->BH P N X R (.o ops c k) x w):∀x,Fr n ds L x->BH P N X R p x w:=by
 obtain ⟨p',i,f⟩:=Y9 h K;obtain ⟨a,G1,g,j,rfl⟩:=Mb i;exact Ho (S9 z F) m g Z j trivial f w (r.e▸H)
theorem gr(K:∀x,Fr n ds L x->R x w):∀x,Fr n ds L x->BH P N X R .r x w:=K
end
end
section
def celH(h:Hp)(b o:Nat)(v:Value):Prop:=∃cs ty fr,h b=some (.cells cs ty fr)/\cs[o]?=some v
def BA(h h':Hp):Prop:=∀k o,h k=some o->h' k=some o
theorem celH.le{h h':Hp}{b o:Nat}{v:Value}(c:celH h b o v)(s:BA h h'):celH h' b o v:=by
 obtain ⟨cs,ty,a,e,d⟩:=c;exact ⟨cs,ty,a,s _ _ e,d⟩
theorem celH.cel{h:Hp}{b o:Nat}{v:Value}{w:World}(c:celH h b o v)(s:BA h (hp w)):E6 b o v w:=by
 obtain ⟨cs,ty,d,f,e⟩:=c.le s;have a:w.heap[b]?=some (.cells cs ty d):=f;unfold E6 World.cell?;simp[a,e]
def rdH(sz:Nat)(v:Value)(n:Nat)(xs:List Value)(h:Hp):Prop:=
 ∃ao c,v=.slice ao n c/\n<=c/\c<=9223372036854775807/\xs.length=n*sz/\∀(j:Nat) (u:Value),xs[j]?=some u->∃b p,ao=some ⟨b,p,none⟩/\celH h b (p+j) u
theorem rdH.le{sz:Nat}{v:Value}{n:Nat}{xs:List Value}{h h':Hp}(r:rdH sz v n xs h)(s:BA h h'):rdH sz v n xs h':=by
 obtain ⟨k,c,e,g,a,d,f⟩:=r;exact ⟨k,c,e,g,a,d,λj u i=>by obtain ⟨b,p,e,l⟩:=f j u i;exact ⟨b,p,e,l.le s⟩⟩
theorem rdH.rd{sz:Nat}{v:Value}{n:Nat}{xs:List Value}{h:Hp}{w:World}(r:rdH sz v n xs h)(s:BA h (hp w)):Rd sz v n xs w:=by
 obtain ⟨k,c,e,g,a,d,f⟩:=r;exact ⟨k,c,e,g,a,d,λj u i=>by obtain ⟨b,p,e,l⟩:=f j u i;exact ⟨b,p,e,l.cel s⟩⟩
theorem rdH.small{sz:Nat}{v:Value}{n:Nat}{xs:List Value}{h:Hp}(r:rdH sz v n xs h):n<=9223372036854775807:=by
 obtain ⟨b,c,e,d,a,_⟩:=r;omega
theorem rdH.nil(sz:Nat)(h:Hp):rdH sz (.slice none 0 0) 0 [] h:=⟨none,0,Z,Ab9 _,by omega,by simp,λj u a=>by simp at a⟩
theorem blk.celH{b:Nat}{cs:List Value}{ty:TypeId}{h:Hp}(a:blk b cs ty h)(o:Nat){v:Value}(c:cs[o]?=some v):celH h b o v:=⟨_,_,_,a,by simpa using c⟩
theorem blk.rd{b off l c sz:Nat}{cs xs:List Value}{ty:TypeId}{h:Hp}(g:blk b cs ty h)(d:l<=c)(e:c<=9223372036854775807)(i:off+l*sz<=cs.length)(f:(cs.drop off).take (l*sz)=xs):rdH sz (.slice (some ⟨b,off,none⟩) l c) l xs h:=by
 subst f;refine ⟨_,_,Z,d,e,by simp;omega,λj u a=>⟨b,off,Z,g.celH _ ?_⟩⟩;rw[Acn] at a;split at a
 ·rw[AcH] at a;exact a
 cases a
section
variable{P:Program}{C:World->Prop}{o:Oper}{a:Act}{w z:World}{Γ:List Ah}{n:Nat}{ds:List Deferred}{L:List (Nat×Value)}{v:Value}{x y:Operand}{xt yt:TypeId}{A:Ah}
theorem Sep.get'(i:Nat)(H:Sep z Γ w)(a:Γ[i]?=some A):∃h,A h/\BA h (hp w):=H.get i a
def Kv:List Ah->Nat->Ah
 | [],_=>λ_=>True
 | a::_,0=>a
 | _::l,i+1=>Kv l i
theorem VZ:∀(Γ:List Ah) (i:Nat),Γ[i]?=none/\(∀h,Kv Γ i h)\/Γ[i]?=some (Kv Γ i)
 | [],_=>.inl ⟨Z,λ_=>trivial⟩
 | _::_,0=>.inr Z
 | _::l,i+1=>VZ l i
theorem V0{Γ:List Ah}{z w:World}(i:Nat)(H:Sep z Γ w):∃h,Kv Γ i h/\BA h (hp w):=(VZ Γ i).elim (λq=>⟨_,q.2 _,λ_ _ e=>e⟩) (λq=>H.get' i q)
theorem Sep.rd(i:Nat)(H:Sep z Γ w)(c:Γ[i]?=some A){sz m:Nat}{u:Value}{xs:List Value}(a:∀h,A h->rdH sz u m xs h):Rd sz u m xs w:=by
 obtain ⟨h,d,b⟩:=H.get' i c;exact (a h d).rd b
theorem Sep.rv{Γ:List Ah}{z w:World}(i:Nat)(H:Sep z Γ w){sz m:Nat}{u:Value}{xs:List Value}(r:∀{h},Kv Γ i h->rdH sz u m xs h):Rd sz u m xs w:=by
 obtain ⟨_,q,e⟩:=V0 i H;exact (r q).rd e
theorem Sep.cell(i:Nat)(H:Sep z Γ w)(d:Γ[i]?=some A){b p:Nat}{u:Value}(a:∀h,A h->celH h b p u):E6 b p u w:=by
 obtain ⟨h,e,c⟩:=H.get' i d;exact (a h e).cel c
theorem Sep.says(i:Nat)(H:Sep z Γ w)(b:Γ[i]?=some A){p:Prop}(a:∀h,A h->p):p:=by
 obtain ⟨h,c,_⟩:=H.get' i b;exact a h c

theorem Sep.sy{Γ:List Ah}{z w:World}(i:Nat)(H:Sep z Γ w){p:Prop}(r:∀{h},Kv Γ i h->p):p:=by
 obtain ⟨_,q,_⟩:=V0 i H;exact r q
def grow(e:TypeId)(sz:Nat)(v:Value)(n:Nat)(xs:List Value):Ah:=λh=>xs.length=n*sz/\
 ((v=.slice none 0 0/\n=0)\/∃g cap cur,v=.slice (some ⟨g,0,none⟩) n cap/\h g=some (.cells cur e (0,0))/\n<=cap/\cap<=maxLen/\cur.size=cap*sz/\cur.toList.take (n*sz)=xs)
theorem grow.form{e:TypeId}{sz m:Nat}{u:Value}{xs:List Value}{h:Hp}(g:grow e sz u m xs h):(u=.slice none 0 0/\m=0)\/∃b c,u=.slice (some ⟨b,0,none⟩) m c/\m<=c:=by
 rcases g.2 with g|⟨b,c,a,d,_,f,_⟩
 ·exact .inl g
 exact .inr ⟨b,c,d,f⟩
theorem grow.len{e:TypeId}{sz m:Nat}{u:Value}{xs:List Value}{h:Hp}(g:grow e sz u m xs h):xs.length=m*sz:=g.1
theorem grow.nil(e:TypeId)(sz:Nat)(h:Hp):grow e sz (.slice none 0 0) 0 [] h:=⟨by simp,.inl ⟨Z,Z⟩⟩
theorem grow.rd{e:TypeId}{sz m:Nat}{u:Value}{xs:List Value}{h:Hp}(g:grow e sz u m xs h):rdH sz u m xs h:=by
 have d:=g.1;rcases g.2 with ⟨rfl,rfl⟩|⟨b,c,f,rfl,k,n,i,hs,l⟩
 ·have:xs=[]:=by simpa using d
  subst this;exact rdH.nil sz h
 refine ⟨_,c,Z,n,(by unfold maxLen at i;omega),d,λj u a=>⟨b,0,Z,_,_,_,k,?_⟩⟩;rw[<-l] at a;rw[Acn] at a;split at a
 ·simpa using a
 cases a
theorem grow.own{e:TypeId}{sz m:Nat}{u:Value}{xs:List Value}{h:Hp}(g:grow e sz u m xs h)(s:BA h (hp w)):VR 0 e sz u m xs w:=by
 refine ⟨g.1,?_⟩;rcases g.2 with g|⟨b,a,c,d,f,r⟩
 ·exact .inl g
 exact .inr ⟨b,a,c,d,AbV _,s _ _ f,r⟩
theorem Sep.void{B:Ah}(H:Sep z Γ w)(a:∀h,B h):Sep z (B::Γ) w:=H.grow (Ext.refl No w) (a _)
theorem Sep.nilg(H:Sep z Γ w)(e:TypeId)(sz:Nat):Sep z (YthbbejpbkglmlaaGreatDoor.grow e sz (.slice none 0 0) 0 []::Γ) w:=H.void λh=>grow.nil e sz h
theorem blk.grow{b k c sz:Nat}{cs xs:List Value}{ty:TypeId}{h:Hp}(f:blk b cs ty h)(a:k<=c)(g:c<=9223372036854775807)(e:cs.length=c*sz)(d:cs.take (k*sz)=xs):grow ty sz (.slice (some ⟨b,0,none⟩) k c) k xs h:=by
 refine ⟨?_,.inr ⟨b,c,cs.toArray,Z,f,a,(by unfold maxLen;omega),by simpa using e,by simpa using d⟩⟩;rw[<-d,AbM,e];exact Acm (Ade _ a)
theorem AO(i:Nat){t e:TypeId}{zv:Value}{sz by_ k m:Nat}{u:Value}{xs news:List Value}(H:Sep z Γ w)(hi:Γ[i]?=some (grow e sz v k xs))(ho:o.op=.call {callee:=.builtin .append,args:= #[x,y],argTypes:= #[t,t]})
  (ht:P.underlying t=some (.slice e))(hE:Elt P e zv sz by_)(hx:ev L x=some v)(hy:ev L y=some u)(p:Rd sz u m news w)(h1:∀c∈news,c.oneCell'=true)(a5:(k+m)*by_<=140737488355328):
  BX P n ds L o w (λv' w'=>Sep z (Γ.set i (grow e sz v' (k+m) (xs++news))) w'):=λa hF=>by
 obtain ⟨own,f⟩:=H.own;have hg:=f i _ hi;have a1:BA ((hp w).part own i) (hp w):=λq o' e=>(ES e).2;have hO:=hg.own a1;obtain ⟨v',w',hr,a2,d,a8⟩:=SV (B:=0) ho ht hE hx hy hO p h1 (AbV _) a5 a hF;refine ⟨v',w',hr,d.os.trans H.os,d.tape.trans H.tape,d.output.trans H.output,λq=>if q<w.heap.size then own q else i,λj B l=>?_⟩;have a3:∀q,v.ownBlock=some q->own q=i:=λq hq=>by
  rcases hg.2 with ⟨rfl,_⟩|⟨b,a4,a0,rfl,a7,_⟩
  ·simp[Value.ownBlock] at hq
  simp[Value.ownBlock] at hq;subst hq;exact (ES a7).1
 rw[AcE] at l;split at l
 ·rename_i e;subst e
  split at l
  ·cases l
   refine ⟨a2.1,?_⟩;rcases a2.2 with q|⟨g,a4,a0,h,_,a6,r⟩
   ·exact .inl q
   refine .inr ⟨g,a4,a0,h,?_,r⟩;unfold Hp.part hp;have b0:(if g<w.heap.size then own g else i)=i:=by
    split
    ·rename_i b1
     rcases a8 with q|q
     ·exact a3 g (by rw[<-q,h];rfl)
     rw[h] at q;simp[Value.ownBlock] at q;omega
    rfl
   rw[if_pos b0];exact a6
  cases l
 rename_i s;have:=f j B l;have e:(hp w').part (λq=>if q<w.heap.size then own q else i) j=(hp w).part own j:=by
  funext q;unfold Hp.part hp;dsimp only;by_cases hq:q<w.heap.size
  ·simp only[hq,if_true]
   by_cases hqj:own q=j
   ·simp only[hqj,if_true]
    exact d.block q hq (λa9=>s ((a3 q a9).symm.trans hqj))
   simp[hqj]
  have:w.heap[q]?=none:=Acj U;simp[hq,this,s]
 rwa[e]
theorem AL(H:Sep z Γ w){t e:TypeId}{zv:Value}{c sz by_:Nat}{parts:List (Nat×Operand)}{vs:List (Nat×Value)}{out:List Value}(h:o.op=.buildSlice t c parts.toArray)(r:P.underlying t=some (.slice e))(j:Elt P e zv sz by_)
  (k:(evs L (parts.map (·.2))).map (List.zip (parts.map (·.1)))=some vs)(d:c*sz<=16777216)(g:0<c)(l:Instr.fill (λi=>some (i*sz,sz)) ((Array.range (c*sz)).map (zv.cells[· % zv.cells.size]!)) vs=some out.toArray):
  BX P n ds L o w (λv w'=>∃b,v=.slice (some ⟨b,0,none⟩) c c/\Sep z (blk b out e::Γ) w'):=λa q=>by
 obtain ⟨v,w',f,b,rfl,hs,_,m,p⟩:=L5 (w:=w) h r j k d g l a q;exact ⟨_,w',f,b,Z,H.new p U m⟩
theorem HM(H:Sep z Γ w){t e:TypeId}{zv:Value}{sz by_:Nat}(g:o.op=.buildSlice t 0 #[])(l:P.underlying t=some (.slice e))(h:Elt P e zv sz by_):
  BX P n ds L o w (λv w'=>∃b,v=.slice (some ⟨b,0,none⟩) 0 0/\Sep z (blk b [] e::Γ) w'):=λa q=>by
 obtain ⟨i,d,m,hs,p,k,j,f⟩:=h;refine ⟨_,_,?_,w.heap.size,Z,H.new (CZ w (.cells #[] e)) (Ab9 _) (by show (w.heap.push _)[w.heap.size]?=_;simp)⟩;simp only[execOp,g,Ach];have c:∀w,(sizeOf e).run P w=.ok sz w:=λw=>by simp[sizeOf,typeInfo,d,hs,go_sem]
 simp[Instr.buildSlice,run_underlying l,c,newRow,newObj,go_sem,Sem.run,Instr.fill]
end
end
section
def Fl(l:List UInt8):Value:=.string ⟨l.toArray⟩
def Pu(P:Program)(t:TypeId):Bool:=match P.underlying t with
 | some (.slice e)=>(match P.underlying e with|some (.int .u8)=>(match P.info? e with|some i=>Nat.beq i.size 1|none=>false)|_=>false)
 | _=>false
theorem Om{P:Program}{t:TypeId}(h:Pu P t=true):∃e i,P.underlying t=some (.slice e)/\P.underlying e=some (.int .u8)/\P.info? e=some i/\i.size=1:=by
 unfold Pu at h;split at h
 ·rename_i e c
  split at h
  ·rename_i a
   split at h
   ·rename_i i b;exact ⟨e,i,c,a,b,by simpa using h⟩
   cases h
  cases h
 cases h
section
variable{P:Program}{C:World->Prop}{o:Oper}{a:Act}{w z:World}{Γ:List Ah}{n:Nat}{ds:List Deferred}{L:List (Nat×Value)}{v:Value}{x y:Operand}{xt yt:TypeId}{A:Ah}

theorem DI{f:TypeId}{l:List UInt8}{u:Value}(z:o.op=.convert xt f x)(h1:Pu P xt=true)(y:GB P f=true)(hx:ev L x=some u)(v:∀w,C w->Rd 1 u l.length (l.map u8) w):Ax P C n ds L o (Fl l):=λa hF w hw=>by
 obtain ⟨e,i,r,h,_,_⟩:=Om h1;have k:=Gg y;obtain ⟨s,c,rfl,a0,_,_,t⟩:=v w hw;have g:(convert xt f (.slice s l.length c)).run P w=.ok (Fl l) w:=by
  cases s with
  | none=>
   have:l=[]:=by
    cases l with
    | nil=>rfl
    | cons p q=>obtain ⟨b,p',e,_⟩:=t 0 (u8 p) O;cases e
   subst this;exact run_convert_bytes_nil _ xt e r h _ _ f k
  | some ad=>
   refine run_convert_bytes_back w xt f e ad c l r h k λj hj=>?_;obtain ⟨b,p,m,d⟩:=t j (u8 l[j]) (by simp[hj]);simp only[AbL] at m;subst m;have e3:(Addr.add ⟨b,p,none⟩ j)=⟨b,p+j,none⟩:=by
    unfold Addr.add;split
    ·rename_i h0;simp[h0]
    rfl
   rw[e3];exact d
 simp only[execOp,z,hF.ev hx,AbW,g,AbS,Ab2]
theorem Md{l m:List UInt8}(e:o.op=.binOp .eql xt x y yt)(b:GB P xt=true)(d:ev L x=some (Fl l))(f:ev L y=some (Fl m)):Ax P C n ds L o (.bool (decide (l=m))):=λa c w _=>by
 have b:=Gg b;simp only[execOp,e,c.ev d,c.ev f,Fl];simp[b,go_sem]
 first |(rw[Ab0];simp;done)|skip
theorem Zb{l m:List UInt8}(e:o.op=.binOp .neq xt x y yt)(b:GB P xt=true)(d:ev L x=some (Fl l))(f:ev L y=some (Fl m)):Ax P C n ds L o (.bool (decide (l≠m))):=λa c w _=>by
 have b:=Gg b;simp only[execOp,e,c.ev d,c.ev f,Fl];simp[b,go_sem]
 first |(rw[Ab0];simp;done)|skip
theorem Td{t:TypeId}{l:List UInt8}(b:o.op=.call {callee:=.builtin .len,args:= #[x],argTypes:= #[t]})(c:GB P t=true)(a:ev L x=some (Fl l)):Ax P C n ds L o (Aa l.length):=YS b c a

theorem IX{dT sT ty:TypeId}{b off a dc m:Nat}{v:TypeId}{cs news:List Value}{u:Value}(hd:∃e i,P.underlying dT=some (.slice e)/\P.info? e=some i/\i.size=1)(d:(Rd 1 u m news w)\/(∃l,u=Fl l/\news=l.map u8/\m=l.length))(h1:∀c∈news,c.oneCell'=true)(hb:Blk b cs v w)(y:off+min m a<=cs.length):
  ∃w',(Builtin.copy_ #[dT,sT] ty #[.slice (some ⟨b,off,none⟩) a dc,u]).run P w=.ok (Aa (min m a:Nat)) w'/\Blk b (cs.take off++news.take (min m a)++cs.drop (off+min m a)) v w'/\Ext (· =b) w w'/\w'.heap.size=w.heap.size:=by
 obtain ⟨e,i,ht,hi,hs⟩:=hd;have a0:∀w,(sizeOf e).run P w=.ok 1 w:=λw=>by simp[sizeOf,typeInfo,hi,hs,go_sem]
 have f:(news.take (min m a)).length=min m a:=by
  have:news.length=m:=by
   rcases d with ⟨_,_,_,_,_,y,_⟩|⟨l,_,rfl,rfl⟩
   ·simpa using y
   simp
  rw[AbM,this];omega
 have g:=run_storeCells_at P b off v (news.take (min m a)) 0 cs.toArray w hb (by rw[f];simpa using y) (λc hc=>h1 c (Acr hc));rw[f] at g;simp only[Aee,Ac6] at g;refine ⟨_,?_,setRow_heap w b _ _ v (0,0) hb,⟨Z,Z,Z,by simp,λk _ hk=>setRow_other w b k _ hk⟩,by simp⟩;have r:(Builtin.lenOf u).run P w=.ok m w:=by
  rcases d with ⟨ao,c,rfl,_⟩|⟨l,rfl,rfl,rfl⟩
  ·rfl
  rfl
 have h:m.min a=min m a:=rfl;have z:(Builtin.firstCells 1 (min m a) u).run P w=.ok (news.take (min m a)).toArray w:=by
  rcases d with ⟨ao,c,rfl,a2,_,a1,n⟩|⟨l,rfl,rfl,rfl⟩
  ·cases ao with
   | none=>
    have hn:news=[]:=by
     cases news with
     | nil=>rfl
     | cons q qs=>obtain ⟨b',p',s,_⟩:=n 0 q Z;cases s
    subst hn;simp[Builtin.firstCells,Ab2]
   | some ad=>
    have:=run_loadCells_list (P:=P) w ad (news.take (min m a)) (λj q t=>by
     have x:news[j]?=some q:=by
      rw[Acn] at t;split at t
      ·exact t
      cases t
     obtain ⟨b',p,s,o⟩:=n j q x;simp only[AbL] at s;subst s;have e3:(Addr.add ⟨b',p,none⟩ j)=⟨b',p+j,none⟩:=by
      unfold Addr.add;split
      ·rename_i h0;simp[h0]
      rfl
     rw[e3];exact o)
    rw[f] at this;simp only[Builtin.firstCells,AcD];exact this
  have e:((({data:=l.toArray} :ByteArray).extract 0 (min l.length a)).data.map λb=>Value.int .u8 b.toNat)=((l.map u8).take (min l.length a)).toArray:=by
   apply Array.ext';rw[Array.toList_map,Lib.extract_data];simp[u8,Adt];rfl
  simp only[Fl,Builtin.firstCells,Ab2,e]
 simp only[Builtin.copy_,AcA,Aci,Ab4,AbW,run_underlying ht,AbS,r,a0,h,z,g,Ab2,goInt]
theorem HU(i:Nat){t s:TypeId}{b off p dc m:Nat}{ct:TypeId}{cs news:List Value}{u:Value}(H:Sep z Γ w)(j:Γ[i]?=some (blk b cs ct))(ho:o.op=.call {callee:=.builtin .copy,args:= #[x,y],argTypes:= #[t,s]})(hd:Pu P t=true)(hx:ev L x=some (.slice (some ⟨b,off,none⟩) p dc))(hy:ev L y=some u)
  (g:(Rd 1 u m news w)\/(∃l,u=Fl l/\news=l.map u8/\m=l.length))(h1:∀c∈news,c.oneCell'=true)(hl:off+min m p<=cs.length){k:Nat}(hk:min m p=k){out:List Value}(h:cs.take off++news.take k++cs.drop (off+k)=out):
  BX P n ds L o w (λv w'=>v=Aa k/\Sep z (Γ.set i (blk b out ct)) w'):=λa hF=>by
 obtain ⟨w',r,hB,d,_⟩:=IX (P:=P) (sT:=s) (ty:=o.type) (dc:=dc) (by obtain ⟨e,i,ht,_,j,hs⟩:=Om hd;exact ⟨e,i,ht,j,hs⟩) g h1 (H.blk i j) hl;rw[hk,h] at hB;rw[hk] at r;refine ⟨_,w',?_,Z,H.write i j d.os d.tape d.output hB (λq hq=>?_)⟩
 ·simp only[execOp,ho,resolve,invoke,builtin,AbW,Ab2,AbS,Ach,Aca,AcP,hF.ev hx,hF.ev hy,r]
 rcases AbX q w.heap.size with f|f
 ·exact d.block q f hq
 rw[Acj f,Acj U]
theorem WH(i:Nat){t s:TypeId}{b off j dc m:Nat}{ct:TypeId}{cs news:List Value}{u:Value}(H:Sep z Γ w)(hi:Γ[i]?=some (blk b cs ct))(ho:o.op=.call {callee:=.builtin .copy,args:= #[x,y],argTypes:= #[t,s]})(hd:CY P t=some 1)(hx:ev L x=some (.slice (some ⟨b,off,none⟩) j dc))(hy:ev L y=some u)
  (g:(Rd 1 u m news w)\/(∃l,u=Fl l/\news=l.map u8/\m=l.length))(p:∀c∈news,c.oneCell'=true)(hl:off+min m j<=cs.length){k:Nat}(hk:min m j=k){out:List Value}(h:cs.take off++news.take k++cs.drop (off+k)=out):
  BX P n ds L o w (λv w'=>v=Aa k/\Sep z (Γ.set i (blk b out ct)) w'):=λa hF=>by
 obtain ⟨w',r,hB,d,_⟩:=IX (P:=P) (sT:=s) (ty:=o.type) (dc:=dc) (by obtain ⟨e,i0,p,h2,h3⟩:=EQ hd;exact ⟨e,i0,p,h2,h3⟩) g p (H.blk i hi) hl;rw[hk,h] at hB;rw[hk] at r;refine ⟨_,w',?_,Z,H.write i hi d.os d.tape d.output hB (λq hq=>?_)⟩
 ·simp only[execOp,ho,resolve,invoke,builtin,AbW,Ab2,AbS,Ach,Aca,AcP,hF.ev hx,hF.ev hy,r]
 rcases AbX q w.heap.size with f|f
 ·exact d.block q f hq
 rw[Acj f,Acj U]
theorem Dx{t e:TypeId}{k:Nat}(H:Sep z Γ w)(m:o.op=.makeSlice t x y)(ht:P.underlying t=some (.slice e)){zv:Value}{by_:Nat}(p:Elt P e zv 1 by_)(r:zv.cells= #[zv])(s:ev L x=some (Aa k))(hy:ev L y=some (Aa k))(hk:by_*k<=140737488355328):
  BX P n ds L o w (λv w'=>∃b,v=.slice (some ⟨b,0,none⟩) k k/\Sep z (blk b (List.replicate k zv) e::Γ) w'):=λa g=>by
 obtain ⟨i,l,h,hs,u,a0,q,c⟩:=p;have d:(i.bytes:Int)*(k:Int)<=281474976710656:=by
  rw[u,<-Int.natCast_mul];omega
 have f:=run_make (P:=P) (w:=w) t e i zv ht l h .i64 .i64 (k:Int) (k:Int) U (Int.le_refl _) d (by
  have:1*k<=by_*k:=Ade _ c;omega)
 have e1:madeCells zv.cells (((k:Int)).toNat*i.size)=(List.replicate k zv).toArray:=by
  apply Array.ext';simp only[madeCells,hs,r,Acg,AcD];rw[Ac6];apply Aea
  ·simp
  intro j h1 h2;simp[Nat.mod_one]
 rw[e1] at f;refine ⟨_,_,?_,w.heap.size,Z,H.new (CZ w (.cells (List.replicate k zv).toArray e)) (Ab9 _) (by show (w.heap.push _)[w.heap.size]?=_;simp)⟩;simp only[execOp,m,g.ev s,g.ev hy,AbW,f,AbS,Ab2,Acg];rfl

abbrev IE:=Int×Value×Nat
def Cg(p:IE):MapEntry:=⟨.int .i64 p.1,p.2.1,p.2.2⟩
def AE(m:Nat)(l:List IE)(clk:Nat):Ah:=bk m (.map (l.map Cg).toArray clk)
def fnd:List IE->Int->Nat->Option (Nat×Value)
 | [],_,_=>none
 | p::l,k,i=>if k=p.1 then some (i,p.2.1) else fnd l k (i+1)
def Cw:List IE->Int->Option Value
 | [],_=>none
 | p::l,k=>if k=p.1 then some p.2.1 else Cw l k
def Cq(l:List IE)(k:Int):Bool:=(Cw l k).isSome
def updM:List IE->Int->Value->List IE
 | [],_,_=>[]
 | p::l,k,v=>if k=p.1 then (k,v,p.2.2)::l else p::updM l k v
def delM:List IE->Int->List IE
 | [],_=>[]
 | p::l,k=>if k=p.1 then l else p::delM l k
def EI(l:List IE)(k:Int)(v:Value)(clk:Nat):List IE:=if Cq l k then updM l k v else l++[(k,v,clk)]
def putC(l:List IE)(k:Int)(clk:Nat):Nat:=if Cq l k then clk else clk+1
theorem IA(l:List IE)(k:Int):∀i,(fnd l k i).map (·.2)=Cw l k:=by
 induction l with
 | nil=>intro i;rfl
 | cons p l ih=>intro i;simp only[fnd,Cw];split<;>simp[ih]
theorem QW(l:List IE)(k:Int):∀i j u,fnd l k i=some (j,u)->i<=j:=by
 induction l with
 | nil=>intro i j u h;simp[fnd] at h
 | cons p l ih=>
  intro i j u h;simp only[fnd] at h;split at h
  ·simp at h;omega
  have:=ih _ _ _ h;omega
theorem WI(l:List IE)(k:Int)(v:Value):∀i j u,fnd l k i=some (j,u)->(l.map Cg).modify (j-i) (λe=> {e with key:=Aa k,val:=v})=(updM l k v).map Cg/\((l.map Cg)[j-i]?).map (·.key)=some (Aa k):=by
 induction l with
 | nil=>intro i j u h;simp[fnd] at h
 | cons p l ih=>
  intro i j u h;simp only[fnd] at h;simp only[updM];split at h
  ·rename_i e
   simp at h;obtain ⟨rfl,_⟩:=h;simp[e,Cg]
  rename_i e;have c:=QW _ _ _ _ _ h;obtain ⟨a,b⟩:=ih _ _ _ h;obtain ⟨q,rfl⟩:∃q,j=i+1+q:=⟨j-(i+1),by omega⟩;rw[show i+1+q-(i+1)=q from by omega] at a b;rw[show i+1+q-i=q+1 from by omega];refine ⟨by simp[e,a],?_⟩;rw[Aca,Ab4];exact b
theorem WJ(l:List IE)(k:Int):∀i j u,fnd l k i=some (j,u)->(l.map Cg).eraseIdx (j-i)=(delM l k).map Cg/\j-i<l.length:=by
 induction l with
 | nil=>intro i j u h;simp[fnd] at h
 | cons p l ih=>
  intro i j u h;simp only[fnd] at h;simp only[delM];split at h
  ·rename_i e
   simp at h;obtain ⟨rfl,_⟩:=h;simp[e]
  rename_i e;have c:=QW _ _ _ _ _ h;obtain ⟨a,b⟩:=ih _ _ _ h;obtain ⟨q,rfl⟩:∃q,j=i+1+q:=⟨j-(i+1),by omega⟩;rw[show i+1+q-(i+1)=q from by omega] at a b;rw[show i+1+q-i=q+1 from by omega];simp[e,a];omega
theorem Me(l:List IE)(k:Int)(h:Cw l k=none):delM l k=l:=by
 induction l with
 | nil=>rfl
 | cons p l ih=>
  simp only[Cw] at h;simp only[delM];split at h
  ·cases h
  rename_i e;rw[if_neg e,ih h]
def Er(P:Program)(t:TypeId):Option TypeId:=match P.underlying t with
 | some (.map k e)=>(match P.underlying k with|some (.int _)=>some e|_=>none)
 | _=>none
theorem DD{t e:TypeId}(h:Er P t=some e):∃k a,P.underlying t=some (.map k e)/\P.underlying k=some (.int a):=by
 unfold Er at h;split at h
 ·rename_i k d c
  split at h
  ·rename_i a b;simp only[AbL] at h;subst h;exact ⟨k,a,c,b⟩
  cases h
 cases h
theorem Es{c:TypeId}{b:IntKind}(d:P.underlying c=some (.int b))(l:List IE)(k:Int)(w:World):(Instr.findKey c (Aa k) (l.map Cg)).run P w=.ok (fnd l k 0) w:=by
 have a:∀(l:List IE) (i:Nat),Instr.findNow (.int b) (Aa k) (l.map Cg) i=some (fnd l k i):=by
  intro l
  induction l with
  | nil=>intro i;rfl
  | cons p l ih=>
   intro i;simp only[Aca,Instr.findNow,Cg,Instr.sameNow,if_true,fnd];by_cases e:k=p.1
   ·simp[e]
   have:(k==p.1)=false:=by simpa using e
   rw[this,if_neg e];exact ih _
 simp only[Instr.findKey,AbW,run_underlying d,AbS,a,Ab2]
theorem DY{a:TypeId}{d:IntKind}(c:P.underlying a=some (.int d))(b:Bool)(k:Int)(w:World):(Instr.checkKey b 10000 a (Aa k)).run P w=.ok () w:=by
 unfold Instr.checkKey;simp only[AbW,run_underlying c,AbS,Ab2]
theorem Fo{t e:TypeId}{m clk:Nat}{l:List IE}{k:Int}{zv:Value}(h:o.op=.lookup t x y false)(v:Er P t=some e)(c:(P.info? e).bind (·.zero)=some zv)(p:ev L x=some (.map (some m)))(z:ev L y=some (Aa k))
  (r:∀w,C w->w.heap[m]?=some (.map (l.map Cg).toArray clk)):Ax P C n ds L o ((Cw l k).getD zv):=λa g w s=>by
 obtain ⟨kt,ik,j,f⟩:=DD v;have d:(zeroValue e).run P w=.ok zv w:=by
  cases hi:P.info? e with
  | none=>rw[hi] at c;cases c
  | some i=>rw[hi] at c;simp[zeroValue,typeInfo,hi,show i.zero=some zv from c,go_sem]
 have u:(getObj m).run P w=.ok (.map (l.map Cg).toArray clk) w:=by simp[getObj,Sem.run,r w s]
 have b:=IA l k 0;simp only[execOp,h,g.ev p,g.ev z,Instr.lookup,AbW,run_underlying j,AbS,u,Ab2,DY f,Ac6,Es f]
 cases hf:fnd l k 0 with
 | none=>rw[hf] at b;rw[<-b];simp[d,AbW,Ab2]
 | some q=>rw[hf] at b;rw[<-b];simp[Ab2]
theorem Dn(i:Nat){t e:TypeId}{m clk:Nat}{l:List IE}{k:Int}{xo y vo:Operand}(H:Sep z Γ w)(hi:Γ[i]?=some (AE m l clk))(ho:o.op=.mapUpdate t xo y vo)(ht:Er P t=some e)(hx:ev L xo=some (.map (some m)))(hk:ev L y=some (Aa k))(hv:ev L vo=some v):
  Dt P n ds L o w (λw'=>Sep z (Γ.set i (AE m (EI l k v clk) (putC l k clk))) w'):=λa h=>by
 obtain ⟨kt,ik,h1,x⟩:=DD ht;have d:w.heap[m]?=some (.map (l.map Cg).toArray clk):=H.bk i hi;have hg:(getObj m).run P w=.ok (.map (l.map Cg).toArray clk) w:=by simp[getObj,Sem.run,d]
 have c:∀ob,(setObj m ob).run P w=.ok () {w with heap:=w.heap.setIfInBounds m ob} :=λob=>by simp[setObj,Sem.run,d]
 have r:m<w.heap.size:=(Acv.1 d).1;have fin:∀ob,Sep z (Γ.set i (bk m ob)) {w with heap:=w.heap.setIfInBounds m ob} :=λob=>
  H.write i hi Z Z Z (by show (w.heap.setIfInBounds m ob)[m]?=_;simp[r]) (λq hq=>by show (w.heap.setIfInBounds m ob)[q]?=_;rw[AcX (Ada hq)])
 have b:=IA l k 0;have f:(Instr.mapUpdate t (.map (some m)) (Aa k) v).run P w=.ok () {w with heap:=w.heap.setIfInBounds m (.map ((EI l k v clk).map Cg).toArray (putC l k clk))} :=by
  simp only[Instr.mapUpdate,AbW,run_underlying h1,AbS,hg,Ab2,DY x,Ac6,Es x]
  cases hf:fnd l k 0 with
  | none=>
   rw[hf] at b;have s:Cq l k=false:=by simp[Cq,<-b]
   simp only[EI,putC,s,if_false,AcI,c];simp[Cg]
  | some q=>
   obtain ⟨j,u⟩:=q;rw[hf] at b;have s:Cq l k=true:=by simp[Cq,<-b]
   obtain ⟨f1,f2⟩:=WI l k v 0 j u hf;simp only[Nat.sub_zero] at f1 f2;have g:((((l.map Cg).toArray)[j]?).map (·.key)).getD (Aa k)=Aa k:=by
    rw[AcA,f2];rfl
   simp only[EI,putC,s,if_true,g];have p:(Instr.keyThatStays (Aa k) (Aa k)).run P w=.ok (Aa k) w:=by
    simp[Instr.keyThatStays,Instr.sameBits,Ab2]
   simp only[p,AbW,AbS];rw[<-f1];have:((l.map Cg).toArray.modify j λe=> {e with key:=Aa k,val:=v})=((l.map Cg).modify j λe=> {e with key:=Aa k,val:=v}).toArray:=by simp
   rw[this];exact c _
 refine ⟨_,?_,fin _⟩;simp only[execOp,ho,h.ev hx,h.ev hk,h.ev hv,AbW,f,AbS,Ab2]
theorem Mf(i:Nat){t e f:TypeId}{m clk:Nat}{l:List IE}{k:Int}(H:Sep z Γ w)(r:Γ[i]?=some (AE m l clk))(ho:o.op=.call {callee:=.builtin .delete,args:= #[x,y],argTypes:= #[t,f]})(ht:Er P t=some e)(hx:ev L x=some (.map (some m)))(hk:ev L y=some (Aa k)):
  BX P n ds L o w (λv w'=>v=.tuple #[]/\Sep z (Γ.set i (AE m (delM l k) clk)) w'):=λa hF=>by
 obtain ⟨kt,ik,h1,p⟩:=DD ht;have c:w.heap[m]?=some (.map (l.map Cg).toArray clk):=H.bk i r;have hg:(getObj m).run P w=.ok (.map (l.map Cg).toArray clk) w:=by simp[getObj,Sem.run,c]
 have b:∀ob,(setObj m ob).run P w=.ok () {w with heap:=w.heap.setIfInBounds m ob} :=λob=>by simp[setObj,Sem.run,c]
 have h:m<w.heap.size:=(Acv.1 c).1;have fin:∀ob,Sep z (Γ.set i (bk m ob)) {w with heap:=w.heap.setIfInBounds m ob} :=λob=>
  H.write i r Z Z Z (by show (w.heap.setIfInBounds m ob)[m]?=_;simp[h]) (λq hq=>by show (w.heap.setIfInBounds m ob)[q]?=_;rw[AcX (Ada hq)])
 have d:=IA l k 0;have g:(Builtin.delete_ #[t,f] o.type #[.map (some m),Aa k]).run P w=.ok (.tuple #[]) {w with heap:=w.heap.setIfInBounds m (.map ((delM l k).map Cg).toArray clk)} :=by
  simp only[Builtin.delete_,AcA,Aci,Ab4,AbW,run_underlying h1,AbS,hg,Ab2,DY p,Es p]
  cases hf:fnd l k 0 with
  | none=>
   rw[hf] at d;simp only[AbW,b,AbS,Me l k d.symm,Ab2]
  | some q=>
   obtain ⟨j,u⟩:=q;obtain ⟨s,f2⟩:=WJ l k 0 j u hf;simp only[Nat.sub_zero] at s f2;have:((l.map Cg).toArray.eraseIdxIfInBounds j)=((delM l k).map Cg).toArray:=by
    rw[<-s];simp
   simp only[this,AbW,b,AbS,Ab2]
 refine ⟨_,_,?_,Z,fin _⟩;simp only[execOp,ho,resolve,invoke,builtin,AbW,Ab2,AbS,Ach,Aca,AcP,hF.ev hx,hF.ev hk,g]
theorem FI{t:TypeId}(H:Sep z Γ w)(b:o.op=.makeMap t none):BX P n ds L o w (λv w'=>∃m,v=.map (some m)/\Sep z (AE m [] 0::Γ) w'):=λa c=>by
 refine ⟨_,_,?_,w.heap.size,Z,H.new (CZ w (.map #[] 0)) (Ab9 _) (by show (w.heap.push _)[w.heap.size]?=_;simp)⟩;simp[execOp,b,Instr.makeMap,newObj,go_sem,Sem.run]
def IB(P:Program)(t:TypeId):Option Nat:=match P.underlying t with
 | some (.array l e)=>(match P.info? e with|some i=>if Nat.beq i.size 1&&Ge P e then some l else none|none=>none)
 | _=>none
theorem JS{t:TypeId}{l:Nat}(h:IB P t=some l):∃e i,P.underlying t=some (.array l e)/\P.info? e=some i/\i.size=1/\Ge P e=true:=by
 unfold IB at h;split at h
 ·rename_i l' e c
  split at h
  ·rename_i i b
   split at h
   ·rename_i a
    simp only[Ab8] at a;simp only[AbL] at h;subst h;exact ⟨e,i,c,b,by simpa using a.1,a.2⟩
   cases h
  cases h
 cases h
theorem Mg{t:TypeId}{vs:List Value}{l:List Int}{i:Int}{k:IntKind}{j m:Nat}{u:Int}(v:o.op=.index t x y)(d:IB P t=some m)(hx:ev L x=some (.agg vs.toArray))(r:vs=l.map Aa)(hm:l.length=m)(p:ev L y=some (.int k i))(c:i=j)(g:l[j]?=some u):Ax P C n ds L o (Aa u):=λa h w _=>by
 obtain ⟨e,i0,d,s,q,hf⟩:=JS d;subst c;have hj:j<l.length:=(AbE.1 g).1;have h1:(0:Int)<=(j:Int)/\(j:Int)<(m:Int):=by omega
 have z:vs[j]?=some (Aa u):=by rw[r,AbY,g];rfl
 have b:(part e vs.toArray (j*1)).run P w=.ok (Aa u) w:=by
  simp only[part,AbW,Gf hf,AbS,if_false,AcI,AcD,AcA,z,Ab2]
 have f:(sizeOf e).run P w=.ok 1 w:=by simp[sizeOf,typeInfo,s,q,go_sem]
 simp only[execOp,v,h.ev hx,h.ev p,Instr.index,asIntOf,AbW,Ab2,AbS,run_underlying d,if_pos h1,Acg,f,b]

def Slc(v:Value)(l:Nat):Prop:=∃ao c,v=.slice ao l c
theorem grow.slc{e:TypeId}{sz m:Nat}{u:Value}{xs:List Value}{h:Hp}(g:grow e sz u m xs h):Slc u m:=by
 rcases g.form with ⟨rfl,rfl⟩|⟨b,c,rfl,_⟩
 ·exact ⟨_,_,Z⟩
 exact ⟨_,_,Z⟩
theorem rdH.slc{sz m:Nat}{u:Value}{xs:List Value}{h:Hp}(g:rdH sz u m xs h):Slc u m:=by
 obtain ⟨a,c,rfl,_⟩:=g;exact ⟨_,_,Z⟩
theorem JT{t:TypeId}{sz l:Nat}{u:Value}(d:o.op=.call {callee:=.builtin .len,args:= #[x],argTypes:= #[t]})(e:CY P t=some sz)(a:ev L x=some u)(b:Slc u l):Ax P C n ds L o (Aa l):=by
 obtain ⟨f,c,rfl⟩:=b;exact EC d e a
theorem Sep.ungrow(i:Nat){e:TypeId}{sz m:Nat}{u:Value}{xs:List Value}(H:Sep z Γ w)(f:Γ[i]?=some (YthbbejpbkglmlaaGreatDoor.grow e sz u m xs))(r:0<m):
  ∃g a rest,u=.slice (some ⟨g,0,none⟩) m a/\m<=a/\a<=9223372036854775807/\rest.length=(a-m)*sz/\Sep z (Γ.set i (YthbbejpbkglmlaaGreatDoor.blk g (xs++rest) e)) w:=by
 obtain ⟨⟨g,a,rest⟩,⟨a1,a2,a3,a4⟩,l⟩:=H.exAt i (σ:=Nat×Nat×List Value) (p:=λq=>u=.slice (some ⟨q.1,0,none⟩) m q.2.1/\m<=q.2.1/\q.2.1<=9223372036854775807/\q.2.2.length=(q.2.1-m)*sz) (B:=λq=>YthbbejpbkglmlaaGreatDoor.blk q.1 (xs++q.2.2) e) f (λh g=>by
  rcases g.2 with ⟨_,rfl⟩|⟨b,a,c,j,k,o,d,hs,n⟩
  ·omega
  refine ⟨⟨b,a,c.toList.drop (m*sz)⟩,⟨j,o,by unfold maxLen at d;omega,?_⟩,?_⟩
  ·simp[hs,Nat.sub_mul]
  rw[<-n,AcC];simpa [YthbbejpbkglmlaaGreatDoor.blk,YthbbejpbkglmlaaGreatDoor.bk] using k)
 exact ⟨g,a,rest,a1,a2,a3,a4,l⟩
theorem Te{t:TypeId}{lo z mx:Operand}{b off l c p q sz o' l':Nat}{k1 k2 k3:IntKind}{y u v:Int}(ho:o.op=.slice t x (some lo) (some z) (some mx))(i:CY P t=some sz)(hx:ev L x=some (.slice (some ⟨b,off,none⟩) l c))
  (s:ev L lo=some (.int k1 y))(f:ev L z=some (.int k2 u))(m:ev L mx=some (.int k3 v))(e1:y=(p:Int))(e2:u=(q:Int))(e3:v=(q:Int))(a0:p<q)(h:q<=c)(h1:off+p*sz=o')(h2:q-p=l'):Ax P C n ds L o (.slice (some ⟨b,o',none⟩) l' l'):=λa d w _=>by
 obtain ⟨e,i0,i,r,hz⟩:=EQ i;subst e1;subst e2;subst e3;have g1:(0:Int)<=(p:Int)/\(p:Int)<=(q:Int):=by omega
 have g2:(0:Int)<=(q:Int)/\(q:Int)<=(c:Int):=by omega
 have g3:(0:Int)<=(q:Int)/\(q:Int)<=(q:Int):=by omega
 have j:((⟨b,off,none⟩:Addr).add (p*sz))=⟨b,o',none⟩:=by
  subst h1;unfold Addr.add;split
  ·rename_i h0;simp[h0]
  rfl
 have g:¬q=p:=by omega
 have k:p<=q:=by omega
 simp only[execOp,ho,Acf,d.ev hx,d.ev s,d.ev f,d.ev m];simp[Instr.sliceAt,Instr.slice,run_underlying i,Instr.sliceBounds,Instr.sliceBound,asIntOf,g1,g2,g3,sizeOf,typeInfo,r,hz,k,h,g,go_sem,j,h2]
end
end
structure Sup where
 gen:Int
 epoch:Int
 pages:Int
 start:Int
 len:Int
 head:Int
 seq:Int
def Sup.list(s:Sup):List Int:=[s.gen,s.epoch,s.pages,s.start,s.len,s.head,s.seq]
def Sup.cells(s:Sup):List Value:=[.int .i64 s.gen,.int .i64 s.epoch,.int .i64 s.pages,.int .i64 s.start,.int .i64 s.len,.int .i64 s.head,.int .i64 s.seq]
def Sup.Ok(s:Sup)(n:Int):Prop:=(∀x∈s.list,0<=x/\x<=1099511627776)/\16<=s.pages/\s.pages<=1024/\2+s.pages<=s.start/\64<=s.len/\s.start<=n-s.len/\s.len<=n/\s.head<s.len
instance(s:Sup)(n:Int):Decidable (s.Ok n):=by unfold Sup.Ok;exact inferInstance
theorem Sup.get{s:Sup}{n:Int}(h:s.Ok n):(0<=s.gen/\s.gen<=1099511627776)/\(0<=s.epoch/\s.epoch<=1099511627776)/\(0<=s.pages/\s.pages<=1099511627776)/\(0<=s.start/\s.start<=1099511627776)/\(0<=s.len/\s.len<=1099511627776)/\(0<=s.head/\s.head<=1099511627776)/\(0<=s.seq/\s.seq<=1099511627776):=by
 have:=h.1;simpa [Sup.list] using this

structure Dsk where
 n:Nat
 dur:Nat->List UInt8
 ver:Nat->List (List UInt8)
 f1:Int
 f2:Int
 f3:Int
 cut:Bool
 left:Int
def Dsk.cont(D:Dsk)(i:Nat):List UInt8:=(D.ver i).getLast?.getD (D.dur i)
def AZ(f:Int):Int:=if f=0 then 0 else f-1
structure Ent where
 key:Nat
 v:Value
 pvs:List Value
 ps:List (List UInt8)
 born:Nat
def Ent.ie(e:Ent):IE:=((e.key:Int),e.v,e.born)
def Ent.row(e:Ent):Ah:=grow 38 1 e.v e.pvs.length e.pvs
def Ent.Ok(hq:Hp)(e:Ent):Prop:=e.pvs.length=e.ps.length/\e.ps≠[]/\∀(j:Nat) (pv:Value) (p:List UInt8),e.pvs[j]?=some pv->e.ps[j]?=some p->p.length=256/\rdH 1 pv 256 (p.map u8) hq
def poolA(hq:Hp):Ah:=λh=>BA hq h
structure Dsk.Ok(D:Dsk):Prop where
 n1:1<=D.n
 n2:D.n<=4096
 dur:∀i,i<D.n->(D.dur i).length=256
 ver:∀i,i<D.n->∀p∈D.ver i,p.length=256
 f1:0<=D.f1/\D.f1<=1099511627776
 f2:0<=D.f2/\D.f2<=1099511627776
 f3:0<=D.f3/\D.f3<=1099511627776
 left:0<=D.left/\D.left<=1099511627776
structure Dsk.In(D:Dsk)(bs:List UInt8)(es:List Ent)(clk:Nat)(hq:Hp):Prop where
 len:bs.length=D.n*256
 own:∀i,i<D.n->(bs.drop (i*256)).take 256=D.dur i
 ent:∀e∈es,e.key<D.n/\e.ps=D.ver e.key/\e.Ok hq
 all:∀i,i<D.n->D.ver i≠[]->∃e∈es,e.key=i
 nodup:(es.map Ent.key).Nodup
 born:(es.map Ent.born).Nodup
 clk:∀e∈es,e.born<clk
def ED(pd bd m:Nat)(D:Dsk)(f0:Int)(bs:List UInt8)(es:List Ent)(clk:Nat)(hq:Hp):List Ah:=
  [blk pd [.slice (some ⟨bd,0,none⟩) (D.n*256) (D.n*256),.map (some m),.int .i64 f0,.int .i64 D.f1,.int .i64 D.f2,.int .i64 D.f3,.bool D.cut,.int .i64 D.left] 106,
   blk bd (bs.map u8) 5,AE m (es.map Ent.ie) clk,poolA hq,seps (es.map Ent.row)]
def diskA(pd:Nat)(D:Dsk):Ah:=λh=>∃(bd m:Nat) (f0:Int) (bs:List UInt8) (es:List Ent) (clk:Nat) (hq:Hp),(D.Ok/\D.In bs es clk hq)/\seps (ED pd bd m D f0 bs es clk hq) h
theorem diskA.ok{pd:Nat}{D:Dsk}{h:Hp}(a:diskA pd D h):D.Ok:=by
 obtain ⟨_,_,_,_,_,_,_,hp,_⟩:=a;exact hp.1
structure DskX where
 bd:Nat
 m:Nat
 f0:Int
 bs:List UInt8
 es:List Ent
 clk:Nat
 hq:Hp
theorem Sep.disk{z w:World}{Γ:List Ah}{pd:Nat}{D:Dsk}(H:Sep z (diskA pd D::Γ) w):∃bd m f0 bs es clk hq,D.Ok/\D.In bs es clk hq/\Sep z (ED pd bd m D f0 bs es clk hq++Γ) w:=by
 obtain ⟨x,⟨c,b⟩,H⟩:=H.into (σ:=DskX) (p:=λx=>D.Ok/\D.In x.bs x.es x.clk x.hq) (As:=λx=>ED pd x.bd x.m D x.f0 x.bs x.es x.clk x.hq)
  (λh a=>by obtain ⟨bd,m,f0,bs,es,clk,hq,hp,hs⟩:=a;exact ⟨⟨bd,m,f0,bs,es,clk,hq⟩,hp,hs⟩)
 exact ⟨_,_,_,_,_,_,_,c,b,H⟩
theorem Sep.toDisk{z w:World}{Γ:List Ah}{pd bd m:Nat}{D:Dsk}{f0:Int}{bs:List UInt8}{es:List Ent}{clk:Nat}{hq:Hp}(H:Sep z (ED pd bd m D f0 bs es clk hq++Γ) w)(c:D.Ok)(b:D.In bs es clk hq):Sep z (diskA pd D::Γ) w:=
 H.shut.mono 0 Z (λh a=>⟨_,_,_,_,_,_,_,⟨c,b⟩,a⟩)
theorem get_ent:∀(es:List Ent) (k:Nat),(es.map Ent.key).Nodup->(Cw (es.map Ent.ie) (k:Int)=none/\∀e∈es,e.key≠k)\/∃(i:Nat) (e:Ent),es[i]?=some e/\e.key=k/\Cw (es.map Ent.ie) (k:Int)=some e.v
 | [],k,_=>.inl ⟨Z,λe h=>by cases h⟩
 | e::es,k,hn=>by
  simp only[Aca,AcZ] at hn;simp only[Aca,Cw,Ent.ie];by_cases q:(k:Int)=(e.key:Int)
  ·exact .inr ⟨0,e,Z,by omega,by rw[if_pos q]⟩
  rw[if_neg q];rcases get_ent es k hn.2 with ⟨h1,h2⟩|⟨i,e',h1,h2,h3⟩
  ·exact .inl ⟨h1,λe' h=>by
    rcases Acb.1 h with rfl|h
    ·intro q';exact q (by rw[q'])
    exact h2 e' h⟩
  exact .inr ⟨i+1,e',by simpa using h1,h2,h3⟩
theorem Rd.at{sz:Nat}{a:Option Addr}{n c:Nat}{xs:List Value}{w:World}{u:Value}{j:Nat}(r:Rd sz (.slice a n c) n xs w)(h:xs[j]?=some u):At a j u w:=by
 obtain ⟨b,c',e,_,_,_,d⟩:=r;cases e;exact d j u h
theorem DZ{As:List Ah}{h:Hp}(hs:seps As h){i:Nat}{A:Ah}(a:As[i]?=some A):∃h',A h'/\BA h' h:=by
 obtain ⟨own,b⟩:=hs;exact ⟨_,b i A a,λk o e=>(ES e).2⟩
theorem Zd{D:Dsk}{bs:List UInt8}{es:List Ent}{clk:Nat}{hq:Hp}(d:D.In bs es clk hq){k:Nat}(w:k<D.n):
  ∃v a,(Cw (es.map Ent.ie) (k:Int)).getD (.slice none 0 0)=v/\a.length=(D.ver k).length/\(∀h,seps (es.map Ent.row) h->rdH 1 v a.length a h)/\
   (∀(j:Nat) (b:Value) (p:List UInt8),a[j]?=some b->(D.ver k)[j]?=some p->∀h,poolA hq h->rdH 1 b 256 (p.map u8) h):=by
 rcases get_ent es k d.nodup with ⟨g,q⟩|⟨i,e,o,f,g⟩
 ·have r:D.ver k=[]:=by
   cases hvk:D.ver k with
   | nil=>rfl
   | cons p ps=>
    obtain ⟨e,f,l⟩:=d.all k w (by rw[hvk];simp);exact absurd l (q e f)
  exact ⟨.slice none 0 0,[],by simp[g],by rw[r];rfl,λh _=>rdH.nil 1 h,λj b p h=>by simp at h⟩
 obtain ⟨_,m,s,z,t⟩:=d.ent e (AbG o);subst f;refine ⟨e.v,e.pvs,by simp[g],s.trans (congrArg _ m),λh hs=>?_,λj b p u hp h y=>((t j b p u (by rw[m];exact hp)).2).le y⟩;obtain ⟨h',x,c⟩:=DZ hs (i:=i) (A:=e.row) (by rw[AbY,o];rfl);exact (grow.rd x).le c
def HV(D:Dsk)(k:Nat):Nat->List UInt8
 | 0=>D.dur k
 | _+1=>D.cont k
theorem Jb{D:Dsk}{k:Nat}(h:D.ver k=[]):D.cont k=D.dur k:=by simp[Dsk.cont,h]
theorem Le{D:Dsk}{k n:Nat}{p:List UInt8}(a:n=(D.ver k).length)(h:(D.ver k)[n-1]?=some p):D.cont k=p:=by
 subst a;simp[Dsk.cont,Aey,h]
theorem Dsk.In.f{D:Dsk}{bs:List UInt8}{es:List Ent}{clk:Nat}{hq:Hp}(h:D.In bs es clk hq)(a b c:Int)(d:Bool)(e:Int):Dsk.In {D with f1:=a,f2:=b,f3:=c,cut:=d,left:=e} bs es clk hq:=
 ⟨h.len,h.own,h.ent,h.all,h.nodup,h.born,h.clk⟩
theorem Dsk.Ok.f{D:Dsk}(h:D.Ok){a b c e:Int}{d:Bool}(i:0<=a/\a<=1099511627776)(g:0<=b/\b<=1099511627776)(j:0<=c/\c<=1099511627776)(k:0<=e/\e<=1099511627776):Dsk.Ok {D with f1:=a,f2:=b,f3:=c,cut:=d,left:=e} :=
 ⟨h.n1,h.n2,h.dur,h.ver,i,g,j,k⟩
theorem ET{f:Int}(h:0<=f/\f<=1099511627776):0<=AZ f/\AZ f<=1099511627776:=by unfold AZ;split<;>omega
theorem Dsk.cont_len{D:Dsk}(h:D.Ok){i:Nat}(a:i<D.n):(D.cont i).length=256:=by
 unfold Dsk.cont
 cases hl:(D.ver i).getLast? with
 | none=>exact h.dur i a
 | some p=>exact h.ver i a p (List.mem_of_getLast? hl)
def BE{α:Type}(f:Nat->α)(i:Nat)(x:α):Nat->α:=λk=>if k=i then x else f k
theorem Do{α:Type}(f:Nat->α)(i:Nat)(x:α):BE f i x i=x:=by simp[BE]
theorem upf_other{α:Type}(f:Nat->α){i k:Nat}(x:α)(h:k≠i):BE f i x k=f k:=by simp[BE,h]
def Dsk.w1(D:Dsk)(fua:Bool)(i:Nat)(p:List UInt8):Dsk:=
 if fua then {D with dur:=BE D.dur i p,ver:=BE D.ver i []} else {D with ver:=BE D.ver i (D.ver i++[p])}
def Dsk.ws(D:Dsk)(fua:Bool)(i:Nat):List (List UInt8)->Dsk
 | []=>D
 | p::ps=>(D.w1 fua i p).ws fua (i+1) ps
theorem Dsk.w1_n(D:Dsk)(a:Bool)(i:Nat)(p:List UInt8):(D.w1 a i p).n=D.n:=by cases a<;>rfl
theorem Dsk.w1_f(D:Dsk)(a:Bool)(i:Nat)(p:List UInt8):(D.w1 a i p).f1=D.f1/\(D.w1 a i p).f2=D.f2/\(D.w1 a i p).f3=D.f3/\(D.w1 a i p).cut=D.cut/\(D.w1 a i p).left=D.left:=by cases a<;>exact ⟨Z,Z,Z,Z,Z⟩
theorem Dsk.ws_snoc(a:Bool)(ps:List (List UInt8))(p:List UInt8):∀(D:Dsk) (i:Nat),D.ws a i (ps++[p])=(D.ws a i ps).w1 a (i+ps.length) p:=by
 induction ps with
 | nil=>intro D i;rfl
 | cons q qs ih=>intro D i;simp only[Ac9,Dsk.ws,ih,AbI];rw[show i+1+qs.length=i+(qs.length+1) from by omega]
theorem Dsk.ws_n(a:Bool)(ps:List (List UInt8)):∀(D:Dsk) (i:Nat),(D.ws a i ps).n=D.n:=by
 induction ps with
 | nil=>intro D i;rfl
 | cons q qs ih=>intro D i;simp only[Dsk.ws,ih,Dsk.w1_n]
theorem Dsk.ws_f(a:Bool)(ps:List (List UInt8)):∀(D:Dsk) (i:Nat),(D.ws a i ps).f1=D.f1/\(D.ws a i ps).f2=D.f2/\(D.ws a i ps).f3=D.f3/\(D.ws a i ps).cut=D.cut/\(D.ws a i ps).left=D.left:=by
 induction ps with
 | nil=>intro D i;exact ⟨Z,Z,Z,Z,Z⟩
 | cons q qs ih=>intro D i;simp only[Dsk.ws];rw[(ih _ _).1,(ih _ _).2.1,(ih _ _).2.2.1,(ih _ _).2.2.2.1,(ih _ _).2.2.2.2];exact Dsk.w1_f D a i q
theorem Dsk.Ok.w1{D:Dsk}(h:D.Ok){c:Bool}{i:Nat}{p:List UInt8}(hp:p.length=256):(D.w1 c i p).Ok:=by
 cases c with
 | true=>
  refine ⟨h.n1,h.n2,λj b=>?_,λj b q hq=>?_,h.f1,h.f2,h.f3,h.left⟩
  ·show (BE D.dur i p j).length=256
   unfold BE;split
   ·exact hp
   exact h.dur j b
  have a:q∈BE D.ver i [] j:=hq;unfold BE at a;split at a
  ·cases a
  exact h.ver j b q a
 | false=>
  refine ⟨h.n1,h.n2,h.dur,λj b q hq=>?_,h.f1,h.f2,h.f3,h.left⟩;have a:q∈BE D.ver i (D.ver i++[p]) j:=hq;unfold BE at a;split at a
  ·rename_i e;subst e
   rcases Acd.1 a with h'|h'
   ·exact h.ver j b q h'
   rw[Acu.1 h'];exact hp
  exact h.ver j b q a
theorem Ent.Ok.le{hq a:Hp}{e:Ent}(h:e.Ok hq)(s:BA hq a):e.Ok a:=⟨h.1,h.2.1,λj c p d b=>⟨(h.2.2 j c p d b).1,(h.2.2 j c p d b).2.le s⟩⟩
theorem Dsk.In.le{D:Dsk}{bs:List UInt8}{es:List Ent}{clk:Nat}{hq a:Hp}(h:D.In bs es clk hq)(s:BA hq a):D.In bs es clk a:=
 ⟨h.len,h.own,λe b=>⟨(h.ent e b).1,(h.ent e b).2.1,(h.ent e b).2.2.le s⟩,h.all,h.nodup,h.born,h.clk⟩

theorem Hr{As:List Ah}{h:Hp}(hs:seps As h)(i:Nat){A:Ah}(c:As[i]?=some A):seps (A::As.eraseIdx i) h:=by
 obtain ⟨own,b⟩:=hs;refine ⟨λk=>if own k=i then 0 else if own k<i then own k+1 else own k,λj B a=>?_⟩
 cases j with
 | zero=>
  simp only[Aci,AbL] at a;subst a;have:=b i A c;rwa[CK (h':=h) (own':=λk=>if own k=i then 0 else if own k<i then own k+1 else own k) (j:=0) (λk=>⟨λe=>by rw[if_pos e],λe=>by
   split at e
   ·assumption
   split at e<;>omega⟩) (λ_ _=>rfl)] at this
 | succ j=>
  simp only[Ab4] at a;rw[Adp] at a;split at a
  ·rename_i d
   have:=b j B a;rwa[CK (h':=h) (own':=λk=>if own k=i then 0 else if own k<i then own k+1 else own k) (j:=j+1) (λk=>⟨λe=>by rw[if_neg U,if_pos U];omega,λe=>by
    split at e
    ·omega
    split at e<;>omega⟩) (λ_ _=>rfl)] at this
  rename_i g;have:=b (j+1) B a;rwa[CK (h':=h) (own':=λk=>if own k=i then 0 else if own k<i then own k+1 else own k) (j:=j+1) (λk=>⟨λe=>by rw[if_neg U,if_neg U];omega,λe=>by
   split at e
   ·omega
   split at e<;>omega⟩) (λ_ _=>rfl)] at this
theorem Lf{As:List Ah}{h:Hp}(i:Nat){A:Ah}(d:i<As.length)(hs:seps (A::As.eraseIdx i) h):seps (As.set i A) h:=by
 obtain ⟨own,b⟩:=hs;have f:(As.eraseIdx i).length=As.length-1:=List.length_eraseIdx_of_lt d;refine ⟨λk=>if own k=0 then i else if own k<=i then own k-1 else own k,λj B a=>?_⟩;by_cases e:j=i
 ·subst e
  rw[AcJ d] at a;simp only[AbL] at a;subst a;have:=b 0 A Z;rwa[CK (h':=h) (own':=λk=>if own k=0 then j else if own k<=j then own k-1 else own k) (j:=j) (λk=>⟨λe=>by rw[if_pos e],λe=>by
   split at e
   ·assumption
   split at e<;>omega⟩) (λ_ _=>rfl)] at this
 rw[Aef (Ada e)] at a;have g:=(AbE.1 a).1;rcases AbX j i with c|hge
 ·have:=b (j+1) B (by rw[Ab4,Adp,if_pos c];exact a)
  rwa[CK (h':=h) (own':=λk=>if own k=0 then i else if own k<=i then own k-1 else own k) (j:=j) (λk=>⟨λe=>by rw[if_neg U,if_pos U];omega,λe=>by
   split at e
   ·omega
   split at e<;>omega⟩) (λ_ _=>rfl)] at this
 obtain ⟨q,rfl⟩:∃q,j=q+1:=⟨j-1,by omega⟩;have:=b (q+1) B (by rw[Ab4,Adp,if_neg U];exact a);rwa[CK (h':=h) (own':=λk=>if own k=0 then i else if own k<=i then own k-1 else own k) (j:=q+1) (λk=>⟨λe=>by rw[if_neg U,if_neg U];omega,λe=>by
  split at e
  ·omega
  split at e<;>omega⟩) (λ_ _=>rfl)] at this
theorem HW{As:List Ah}{A:Ah}{h:Hp}(hs:seps (A::As) h):seps (As++[A]) h:=CF (As:=[A]) (Bs:=As) hs
theorem QX{As:List Ah}{A:Ah}{h:Hp}(hs:seps (A::As) h):seps As h:=by
 have:=K8 hs 1 [] Z;exact this
theorem WK(es:List Ent)(k:Nat)(g:Value)(f:Ent->Ent)(j:∀e,(f e).key=e.key/\(f e).v=g/\(f e).born=e.born):∀(i:Nat) (e:Ent),(es.map Ent.key).Nodup->es[i]?=some e->e.key=k->updM (es.map Ent.ie) (k:Int) g=(es.set i (f e)).map Ent.ie:=by
 induction es with
 | nil=>intro i e _ h;simp at h
 | cons x xs ih=>
  intro i e b a d;simp only[Aca,AcZ] at b
  cases i with
  | zero=>
   simp only[Aci,AbL] at a;subst a;subst d;simp[updM,Ent.ie,j]
  | succ i=>
   simp only[Ab4] at a;have c:¬(k:Int)=(x.key:Int):=by
    intro q;have:x.key=e.key:=by omega
    exact b.1 (this▸Acz (AbG a))
   simp only[Aca,updM,List.set_cons_succ];rw[if_neg (by simpa [Ent.ie] using c),ih i e b.2 a d]
theorem WL(es:List Ent)(k:Nat):∀(i:Nat) (e:Ent),(es.map Ent.key).Nodup->es[i]?=some e->e.key=k->delM (es.map Ent.ie) (k:Int)=(es.eraseIdx i).map Ent.ie:=by
 induction es with
 | nil=>intro i e _ h;simp at h
 | cons x xs ih=>
  intro i e b a d;simp only[Aca,AcZ] at b
  cases i with
  | zero=>
   simp only[Aci,AbL] at a;subst a;subst d;simp[delM,Ent.ie]
  | succ i=>
   simp only[Ab4] at a;have c:¬(k:Int)=(x.key:Int):=by
    intro q;have:x.key=e.key:=by omega
    exact b.1 (this▸Acz (AbG a))
   simp only[Aca,delM,List.eraseIdx_cons_succ];rw[if_neg (by simpa [Ent.ie] using c),ih i e b.2 a d]
theorem FJ{α β:Type}{f:α->β}{l:List α}(h:(l.map f).Nodup){i j:Nat}{a b:α}(d:l[i]?=some a)(c:l[j]?=some b)(e:f a=f b):i=j:=by
 have k:=(AbE.1 d).1;have g:=(AbE.1 c).1;refine (List.getElem_inj (xs:=l.map f) (h₀:=by simpa using k) (h₁:=by simpa using g) h).1 ?_;simp only[AeC];rw[(AbE.1 d).2,(AbE.1 c).2,e]
theorem QY{z w:World}{Γ:List Ah}{D:Dsk}{bs:List UInt8}{es:List Ent}{clk:Nat}{hq:Hp}(d:D.In bs es clk hq){k:Nat}(hk:k<D.n)(H:Sep z (seps (es.map Ent.row)::Γ) w):
  ∃(v:Value) (pvs:List Value) (a0:List Ah),(Cw (es.map Ent.ie) (k:Int)).getD (.slice none 0 0)=v/\pvs.length=(D.ver k).length/\Sep z (grow 38 1 v pvs.length pvs::seps a0::Γ) w/\
   ∀(l o:Value) (p:List UInt8),p.length=256->rdH 1 o 256 (p.map u8) hq->∃a4,(D.w1 false k p).In bs a4 (putC (es.map Ent.ie) k clk) hq/\EI (es.map Ent.ie) k l clk=a4.map Ent.ie/\
    ∀h,seps (grow 38 1 l (pvs.length+1) (pvs++[o])::[seps a0]) h->seps (a4.map Ent.row) h:=by
 rcases get_ent es k d.nodup with ⟨hg,hn⟩|⟨i,e,u,f,hg⟩
 ·have hv:D.ver k=[]:=by
   cases hvk:D.ver k with
   | nil=>rfl
   | cons p ps=>
    obtain ⟨e,f,r⟩:=d.all k hk (by rw[hvk];simp);exact absurd r (hn e f)
  refine ⟨.slice none 0 0,[],es.map Ent.row,by simp[hg],by rw[hv];rfl,H.void λh=>grow.nil _ _ h,λl o p hp hr=>?_⟩;have hh:Cq (es.map Ent.ie) (k:Int)=false:=by simp[Cq,hg]
  refine ⟨es++[⟨k,l,[o],[p],clk⟩],⟨d.len,d.own,?_,?_,?_,?_,?_⟩,?_,λh hs=>?_⟩
  ·intro e f
   rcases Acd.1 f with f|f
   ·obtain ⟨y,t,h3⟩:=d.ent e f
    exact ⟨y,t.trans (upf_other D.ver _ (hn e f)).symm,h3⟩
   rw[Acu.1 f];refine ⟨hk,?_,Z,by simp,λj a6 p' y t=>?_⟩
   ·show [p]=BE D.ver k (D.ver k++[p]) k
    rw[Do,hv];rfl
   have:j=0:=by have:=(AbE.1 y).1;simpa using this
   subst this;simp at y t;subst y;subst t;exact ⟨hp,hr⟩
  ·intro j g a5
   by_cases e:j=k
   ·exact ⟨_,List.mem_append_right _ (Acu.2 Z),e.symm⟩
   have:D.ver j≠[]:=by
    have h':BE D.ver k (D.ver k++[p]) j≠[]:=a5;rwa[upf_other _ _ e] at h'
   obtain ⟨s,c,r⟩:=d.all j g this;exact ⟨s,List.mem_append_left _ c,r⟩
  ·rw[Ab7]
   refine AcY.2 ⟨d.nodup,by simp,λa ha b hb=>?_⟩;simp at hb;subst hb;obtain ⟨s,c,rfl⟩:=AbP.1 ha;exact hn s c
  ·rw[Ab7]
   refine AcY.2 ⟨d.born,by simp,λa ha b hb=>?_⟩;simp at hb;subst hb;obtain ⟨s,c,rfl⟩:=AbP.1 ha;have:=d.clk s c;omega
  ·intro e f
   simp only[putC,hh,if_false,AcI];rcases Acd.1 f with f|f
   ·have:=d.clk e f;omega
   rw[Acu.1 f];show clk<clk+1;omega
  ·simp[EI,hh,Ent.ie]
  rw[Ab7];refine HW ?_;have t:=CF (As:=[grow 38 1 l 1 [o]]) (Bs:=[seps (es.map Ent.row)]) hs;have h3:=GC t;exact CF (As:=es.map Ent.row) (Bs:=[grow 38 1 l 1 [o]]) h3
 obtain ⟨_,t,h3,h4,h5⟩:=d.ent e (AbG u);subst f;have m:=(AbE.1 u).1;have hh:Cq (es.map Ent.ie) (e.key:Int)=true:=by simp[Cq,hg]
 refine ⟨e.v,e.pvs,(es.map Ent.row).eraseIdx i,by simp[hg],h3.trans (congrArg _ t),?_,λl o p hp hr=>?_⟩
 ·have H1:=H.mono 0 (B:=seps (e.row::[seps ((es.map Ent.row).eraseIdx i)])) Z (λh hs=>by
   have y:=Hr hs i (A:=e.row) (by rw[AbY,u];rfl);have a7:seps ((es.map Ent.row).eraseIdx i++[e.row]) h:=CF (As:=[e.row]) (Bs:=(es.map Ent.row).eraseIdx i) y;have a3:=HR a7;exact CF (As:=[seps ((es.map Ent.row).eraseIdx i)]) (Bs:=[e.row]) a3)
  exact Sep.opened (As:=[e.row,seps ((es.map Ent.row).eraseIdx i)]) H1
 refine ⟨es.set i {e with v:=l,pvs:=e.pvs++[o],ps:=e.ps++[p]},⟨d.len,d.own,?_,?_,?_,?_,?_⟩,?_,λh hs=>?_⟩
 ·intro s c
  obtain ⟨j,g⟩:=Ack c;rw[AcE] at g;split at g
  ·rename_i q
   subst q;simp only[m,if_true,AbL] at g;subst g;refine ⟨hk,?_,by simp[h3],by simp,λj' a6 p' q1 q2=>?_⟩
   ·show e.ps++[p]=BE D.ver e.key (D.ver e.key++[p]) e.key
    rw[Do,t]
   rcases AbX j' e.pvs.length with q|q
   ·rw[AbU q] at q1
    rw[AbU U] at q2;exact h5 j' a6 p' q1 q2
   rw[AbT q] at q1;rw[AbT U] at q2;have:j'-e.pvs.length=0:=by have:=(AbE.1 q1).1;simpa using this
   rw[this] at q1;rw[show j'-e.ps.length=0 from by omega] at q2;simp at q1 q2;subst q1;subst q2;exact ⟨hp,hr⟩
  rename_i q;obtain ⟨y,a3,a8⟩:=d.ent s (AbG g);have a1:s.key≠e.key:=λq'=>by
   exact q (FJ d.nodup u g q'.symm)
  exact ⟨y,a3.trans (upf_other D.ver _ a1).symm,a8⟩
 ·intro j g a5
  by_cases q:j=e.key
  ·exact ⟨_,AbG (AcJ m),q.symm⟩
  have:D.ver j≠[]:=by
   have h':BE D.ver e.key (D.ver e.key++[p]) j≠[]:=a5;rwa[upf_other _ _ q] at h'
  obtain ⟨s,c,r⟩:=d.all j g this;obtain ⟨j',a2⟩:=Ack c;have a1:i≠j':=λq'=>by
   subst q';rw[u] at a2;cases a2;exact q r.symm
  exact ⟨s,AbG (by rw[Aef a1];exact a2),r⟩
 ·rw[AeD]
  have:(es.map Ent.key).set i e.key=es.map Ent.key:=AcF λj=>by
   rw[AcE];split
   ·rename_i q;subst q;simp[m,(AbE.1 u).2]
   rfl
  exact (show ((es.map Ent.key).set i e.key).Nodup by rw[this];exact d.nodup)
 ·rw[AeD]
  have:(es.map Ent.born).set i e.born=es.map Ent.born:=AcF λj=>by
   rw[AcE];split
   ·rename_i q;subst q;simp[m,(AbE.1 u).2]
   rfl
  exact (show ((es.map Ent.born).set i e.born).Nodup by rw[this];exact d.born)
 ·intro s c
  simp only[putC,hh,if_true];obtain ⟨j,g⟩:=Ack c;rw[AcE] at g;split at g
  ·simp only[m,if_true,AbL] at g
   subst g;exact d.clk e (AbG u)
  exact d.clk s (AbG g)
 ·simp only[EI,hh,if_true]
  exact WK es e.key l (λx=> {x with v:=l,pvs:=x.pvs++[o],ps:=x.ps++[p]}) (λx=>⟨Z,Z,Z⟩) i e d.nodup u Z
 rw[AeD];refine Lf i (by simpa using m) ?_;have t:=CF (As:=[grow 38 1 l (e.pvs.length+1) (e.pvs++[o])]) (Bs:=[seps ((es.map Ent.row).eraseIdx i)]) hs;have h3:=GC t;have h4:=CF (As:=(es.map Ent.row).eraseIdx i) (Bs:=[grow 38 1 l (e.pvs.length+1) (e.pvs++[o])]) h3;have e1:grow 38 1 l (e.pvs.length+1) (e.pvs++[o])=Ent.row {e with v:=l,pvs:=e.pvs++[o],ps:=e.ps++[p]} :=by simp[Ent.row]
 rw[<-e1];exact h4
theorem QZ{D:Dsk}{bs bs':List UInt8}{es:List Ent}{clk:Nat}{hq:Hp}(b:D.In bs es clk hq){k:Nat}(hk:k<D.n){p:List UInt8}(hp:p.length=256)(y:bs'=bs.take (k*256)++p++bs.drop (k*256+256)):
  ∃s,(D.w1 true k p).In bs' s clk hq/\delM (es.map Ent.ie) k=s.map Ent.ie/\∀h,seps (es.map Ent.row) h->seps (s.map Ent.row) h:=by
 have hn:D.n*256=bs.length:=b.len.symm;have a2:k*256+256<=bs.length:=by omega
 have m:bs'.length=D.n*256:=by subst y;simp[hp];omega
 have o:∀i,i<D.n->(bs'.drop (i*256)).take 256=(D.w1 true k p).dur i:=λi l=>by
  show _=BE D.dur k p i;subst y;have e0:(bs.take (k*256)).length=k*256:=by rw[AbM];omega
  rcases Adj i k with h|h|h
  ·rw[upf_other _ _ U,<-b.own i l]
   rw[AbK,Ace U,AbR (by rw[Acc,e0];omega)];rw[AdI,Acq];rw[show min 256 (k*256-i*256)=256 from by omega]
  ·subst h
   rw[Do,AbK,Ace U,Ab6 U,Ab3];rw[AbR U,AbJ U]
  rw[upf_other _ _ U,<-b.own i l];rw[Aco,Ab6 (by simp[hp];omega),Ab3,List.drop_drop];congr 2;simp[hp];omega
 rcases get_ent es k b.nodup with ⟨hg,a0⟩|⟨i,e,l,he,hg⟩
 ·refine ⟨es,⟨m,o,λe he=>?_,λj g t=>?_,b.nodup,b.born,b.clk⟩,Me _ _ hg,λh hs=>hs⟩
  ·obtain ⟨h1,v,h3⟩:=b.ent e he
   exact ⟨h1,v.trans (upf_other D.ver _ (a0 e he)).symm,h3⟩
  have h':BE D.ver k [] j≠[]:=t;by_cases q:j=k
  ·subst q;rw[Do] at h';exact absurd Z h'
  rw[upf_other _ _ q] at h';exact b.all j g h'
 subst he;have a1:=(AbE.1 l).1;have c:(es.eraseIdx i).Sublist es:=List.eraseIdx_sublist es i;have x:∀f∈es.eraseIdx i,f.key≠e.key:=λf a q=>by
  obtain ⟨j,g⟩:=Ack a;rw[Adp] at g;have z:∀u,u≠i->es[u]?=some f->False:=λu r d=>by
   exact r (FJ b.nodup d l q)
  split at g
  ·exact z j U g
  exact z (j+1) U g
 refine ⟨es.eraseIdx i,⟨m,o,λf a=>?_,λj g t=>?_,(c.map Ent.key).nodup b.nodup,(c.map Ent.born).nodup b.born,λf a=>b.clk f (c.subset a)⟩,WL es e.key i e b.nodup l Z,λh hs=>?_⟩
 ·obtain ⟨h1,v,h3⟩:=b.ent f (c.subset a)
  exact ⟨h1,v.trans (upf_other D.ver _ (x f a)).symm,h3⟩
 ·have h':BE D.ver e.key [] j≠[]:=t
  by_cases q:j=e.key
  ·subst q;rw[Do] at h';exact absurd Z h'
  rw[upf_other _ _ q] at h';obtain ⟨f,a,w⟩:=b.all j g h';refine ⟨f,?_,w⟩;obtain ⟨u,d⟩:=Ack a;have r:u≠i:=λq'=>by subst q';rw[l] at d;cases d;exact q w.symm
  rw[List.mem_eraseIdx_iff_getElem?];exact ⟨u,r,d⟩
 have h1:=Hr hs i (A:=e.row) (by rw[AbY,l];rfl);have v:=QX h1;have e0:(es.map Ent.row).eraseIdx i=(es.eraseIdx i).map Ent.row:=by
  apply AcF;intro j;simp only[Adp,AbY];split<;>rfl
 rwa[e0] at v
theorem Tf{z w:World}{Γ:List Ah}{hq:Hp}{b:Nat}{cs:List Value}{t:TypeId}(H:Sep z (poolA hq::blk b cs t::Γ) w):∃a,(BA hq a/\blk b cs t a)/\Sep z (poolA a::Γ) w:=by
 have H1:Sep z (seps [poolA hq,blk b cs t]::Γ) w:=Sep.shut (As:=[poolA hq,blk b cs t]) H;exact H1.exAt 0 (σ:=Hp) (p:=λa=>BA hq a/\blk b cs t a) (B:=λa=>poolA a) Z (λh hs=>by
  refine ⟨h,⟨λk o e=>?_,?_⟩,λk o e=>e⟩
  ·obtain ⟨h',d,c⟩:=DZ hs (i:=0) Z
   exact c _ _ (d _ _ e)
  obtain ⟨h',d,c⟩:=DZ hs (i:=1) Z;exact c _ _ d)

def diskQ(pd:Nat)(D:Dsk)(hq:Hp):Ah:=λh=>∃(bd m:Nat) (f0:Int) (bs:List UInt8) (es:List Ent) (clk:Nat),(D.Ok/\D.In bs es clk hq)/\seps (ED pd bd m D f0 bs es clk hq) h
structure DskY where
 bd:Nat
 m:Nat
 f0:Int
 bs:List UInt8
 es:List Ent
 clk:Nat
theorem Sep.diskQ{z w:World}{Γ:List Ah}{pd:Nat}{D:Dsk}{hq:Hp}(H:Sep z (YthbbejpbkglmlaaGreatDoor.diskQ pd D hq::Γ) w):∃bd m f0 bs es clk,D.Ok/\D.In bs es clk hq/\Sep z (ED pd bd m D f0 bs es clk hq++Γ) w:=by
 obtain ⟨x,⟨c,b⟩,H⟩:=H.into (σ:=DskY) (p:=λx=>D.Ok/\D.In x.bs x.es x.clk hq) (As:=λx=>ED pd x.bd x.m D x.f0 x.bs x.es x.clk hq)
  (λh a=>by obtain ⟨bd,m,f0,bs,es,clk,hp,hs⟩:=a;exact ⟨⟨bd,m,f0,bs,es,clk⟩,hp,hs⟩)
 exact ⟨_,_,_,_,_,_,c,b,H⟩
theorem Sep.toDiskQ{z w:World}{Γ:List Ah}{pd bd m:Nat}{D:Dsk}{f0:Int}{bs:List UInt8}{es:List Ent}{clk:Nat}{hq:Hp}(H:Sep z (ED pd bd m D f0 bs es clk hq++Γ) w)(c:D.Ok)(b:D.In bs es clk hq):Sep z (YthbbejpbkglmlaaGreatDoor.diskQ pd D hq::Γ) w:=
 H.shut.mono 0 Z (λh a=>⟨_,_,_,_,_,_,⟨c,b⟩,a⟩)
theorem Dsk.w1_ver(D:Dsk)(a:Bool){i j:Nat}(p:List UInt8)(h:j≠i):(D.w1 a i p).ver j=D.ver j:=by
 cases a
 ·exact upf_other D.ver _ h
 exact upf_other D.ver _ h
theorem Dsk.ws_ver(a:Bool)(ps:List (List UInt8)):∀(D:Dsk) (i j:Nat),j<i\/i+ps.length<=j->(D.ws a i ps).ver j=D.ver j:=by
 induction ps with
 | nil=>intro D i j _;rfl
 | cons q qs ih=>
  intro D i j h;simp only[AbI] at h;simp only[Dsk.ws];rw[ih _ _ _ U,Dsk.w1_ver _ _ _ U]
theorem Dsk.ws_take{D:Dsk}{a:Bool}{k i:Nat}{ps:List (List UInt8)}{p:List UInt8}(h:ps[i]?=some p):D.ws a k (ps.take (i+1))=(D.ws a k (ps.take i)).w1 a (k+i) p:=by
 rw[AbZ,h];have b:=(AbE.1 h).1;rw[show (some p).toList=[p] from Z,Dsk.ws_snoc,AbM,Acm U]
theorem Th{g:Nat}{hq:Hp}{t:TypeId}{ps:List (List UInt8)}{rest:List Value}(j:blk g (ps.flatten.map u8++rest) t hq)(c:∀p∈ps,p.length=256){i:Nat}{p:List UInt8}(h:ps[i]?=some p):rdH 1 (.slice (some ⟨g,0+i*256,none⟩) 256 256) 256 (p.map u8) hq:=by
 have d:∀(ps:List (List UInt8)) (i:Nat) (p:List UInt8),(∀p∈ps,p.length=256)->ps[i]?=some p->(ps.flatten.drop (i*256)).take 256=p/\i*256+256<=ps.flatten.length:=by
  intro ps
  induction ps with
  | nil=>intro i p _ h;simp at h
  | cons q qs ih=>
   intro i p b h;have a:=b q O
   cases i with
   | zero=>
    simp only[Aci,AbL] at h;subst h;simp[AbR,a]
   | succ i=>
    simp only[Ab4] at h;obtain ⟨e,f⟩:=ih i p (λp hp=>b p (by simp[hp])) h;rw[Adk,show (i+1)*256=q.length+i*256 from by omega,Aco];refine ⟨?_,by rw[AbH];omega⟩;rw[Ab6 U,Ab3];rw[show q.length+i*256-q.length=i*256 from by omega];exact e
 obtain ⟨e,f⟩:=d ps i p c h;have b:(ps.flatten.map u8).length=ps.flatten.length:=AbN u8;refine j.rd U U (by rw[AbH,b];omega) ?_;rw[AcW,AcD,Ace (by rw[b];omega),AbR (by rw[Acc,b];omega),<-Aeu,<-Adt,e]
def De(c:UInt32):UInt32:=(c>>>1) ^^^ ((c&&&1)*2197175160)
def Cy:Nat->UInt32->UInt32
 | 0,c=>c
 | k+1,c=>De (Cy k c)
def crcTab:List UInt32:=(List.range 256).map λi:Nat=>Cy 8 (DS (i:Int))
theorem Hs:crcTab.length=256:=by simp[crcTab]
theorem Ht{i:Nat}(h:i<256):crcTab[i]?=some (Cy 8 (DS (i:Int))):=by simp[crcTab,h]
def Dy(c:UInt32)(b:UInt8):UInt32:=(c>>>8) ^^^ (crcTab[(c.toUInt8 ^^^ b).toNat]?.getD 0)
def Dz(c:UInt32)(bs:List UInt8):UInt32:=4294967295 ^^^ (bs.foldl Dy (4294967295 ^^^ c))
def AC(bs:List UInt8):UInt32:=Dz 0 bs
theorem Kw(c:UInt32)(a b:List UInt8):Dz (Dz c a) b=Dz c (a++b):=by
 unfold Dz;rw[<-Adx,AeJ,AeK,Ac4]
def z32:Value:=.int .u32 0
def BB(x0 x1 x2:Value)(i:Nat):List Value:=[x0,x1,x2]++((crcTab.take i).map u32++List.replicate (256-i) z32)
theorem Ti(a b x2:Value){i:Nat}(h:i<=256):(BB a b x2 i).length=259:=by simp[BB,Hs];omega
theorem Q0(a b x2:Value){i:Nat}(h:i<256):(BB a b x2 i).take (3+i)++[u32 (Cy 8 (DS (i:Int)))]++(BB a b x2 i).drop (3+i+1)=BB a b x2 (i+1):=by
 have c:([a,b,x2]++(crcTab.take i).map u32).length=3+i:=by simp[Hs];omega
 have d:BB a b x2 i=([a,b,x2]++(crcTab.take i).map u32)++List.replicate (256-i) z32:=by simp[BB]
 rw[d,AbR U,AbJ U,Aco,Ab6 U,Ab3,c];rw[show 3+i+1-(3+i)=1 from by omega,AdB];unfold BB;rw[AbZ,Ht h];simp;omega
def Abp(pt:Nat):Ah:=blk pt (BB (.int .u32 0) (.int .i32 0) (.int .u32 0) 0) 185
def Abq(pt:Nat):Ah:=blk pt (BB (.int .u32 1) (.int .i32 0) (.int .u32 0) 256) 185
def tblA(pt:Nat):Ah:=λh=>Abp pt h\/Abq pt h
theorem Q1(a c x2:Value)(b:UInt8):(BB a c x2 256)[3+b.toNat]?=some (u32 (crcTab[b.toNat]?.getD 0)):=by
 have e:=b.toNat_lt;have d:=Hs;simp only[BB];rw[AbT O];simp only[AbI,AbO];rw[show 3+b.toNat-(0+1+1+1)=b.toNat from by omega];rw[AbU (by simp[d];omega),AbY,AbJ U,Ht U];rfl
def Af(k:Nat)(x:Int):List UInt8:=(List.range k).map λi:Nat=>Fi (x/2^(8*(k-1-i)))
theorem Ae(k:Nat)(x:Int):(Af k x).length=k:=by simp[Af]
theorem beN_get{k i:Nat}(x:Int)(h:i<k):(Af k x)[i]?=some (Fi (x/2^(8*(k-1-i)))):=by simp[Af,h]
def FU(bs T:List UInt8)(a i:Nat):List UInt8:=bs.take a++T.take i++bs.drop (a+i)
def BD(bs T:List UInt8)(a:Nat):List UInt8:=bs.take a++T++bs.drop (a+T.length)
theorem WM{bs T:List UInt8}{a i:Nat}(h:a+i<=bs.length)(b:i<=T.length):(FU bs T a i).length=bs.length:=by simp[FU];omega
theorem Tj(bs T:List UInt8)(a:Nat):FU bs T a 0=bs:=by simp[FU]
theorem WN(bs T:List UInt8)(a:Nat){i:Nat}(h:i=T.length):FU bs T a i=BD bs T a:=by subst h;simp[FU,BD]
theorem DE{bs T:List UInt8}{a:Nat}(h:a+T.length<=bs.length):(BD bs T a).length=bs.length:=by simp[BD];omega
theorem Tl{bs T:List UInt8}{a i:Nat}{b:UInt8}(c:List Value)(h:a+T.length<=bs.length)(d:T[i]?=some b):
  ((FU bs T a i).map u8++c).take (a+i)++[u8 b]++((FU bs T a i).map u8++c).drop (a+i+1)=(FU bs T a (i+1)).map u8++c:=by
 have g:=(AbE.1 d).1;have f:(bs.take a++T.take i).length=a+i:=by simp;omega
 have e:bs.drop (a+i)=bs[a+i]'U::bs.drop (a+i+1):=Add U;unfold FU;rw[AbZ,d,e];simp only[Ab7,Aca,AbK];rw[<-AbK (List.map u8 (bs.take a)),<-Ab7];rw[AbR (by simp;omega),AbJ (by simp;omega),Aco,Ab6 (by simp;omega)];rw[show a+i+1-(List.map u8 (bs.take a++T.take i)).length=1 from by rw[AbN,f];omega];simp[Ac8]
def Dp(s:UInt32):List UInt8:=[s.toUInt8,(s>>>8).toUInt8,(s>>>16).toUInt8,(s>>>24).toUInt8]
def Eb(l:List UInt8):Nat:=l.foldl (λn b=>256*n+b.toNat) 0
theorem JU(l:List UInt8)(b:UInt8):Eb (l++[b])=256*Eb l+b.toNat:=by simp[Eb,Ac4]
theorem HX:∀(l:List UInt8) (a:Nat),l.foldl (λn b=>256*n+b.toNat) a<(a+1)*256^l.length
 | [],a=>by simp
 | b::l,a=>by
  have h:=HX l (256*a+b.toNat);have c:=b.toNat_lt;simp only[List.foldl_cons,AbI,Nat.pow_succ];have d:(256*a+b.toNat+1)*256^l.length<=(256*(a+1))*256^l.length:=Ade _ U;have e:256*(a+1)*256^l.length=(a+1)*(256^l.length*256):=by
   rw[Nat.mul_comm 256 (a+1),Nat.mul_assoc,Nat.mul_comm 256]
  omega
theorem Tm(l:List UInt8):Eb l<256^l.length:=by have:=HX l 0;simpa [Eb] using this
def Be(l:List UInt8):Int:=IntKind.i64.wrap (Eb l)
theorem Pv{l:List UInt8}(h:l.length<=7):Be l=Eb l:=by
 have b:=Tm l;have a:256^l.length<=256^7:=Nat.pow_le_pow_right U h;exact AcT _ U
theorem GE(x:Int):∃q,IntKind.i64.wrap x=x+q*18446744073709551616/\ -9223372036854775808<=IntKind.i64.wrap x/\IntKind.i64.wrap x<=9223372036854775807:=by
 have a:IntKind.i64.wrap x=if 9223372036854775808<=x%18446744073709551616 then x%18446744073709551616-18446744073709551616 else x%18446744073709551616:=by
  show (if (true&&decide (x%(2^64:Int)>=(2^(64-1):Int)))=true then x%(2^64:Int)-(2^64:Int) else x%(2^64:Int))=_;simp only[Bool.true_and,decide_eq_true_eq,show (2:Int)^64=18446744073709551616 from Z,show (2:Int)^(64-1)=9223372036854775808 from Z,ge_iff_le]
 rw[a];by_cases h:9223372036854775808<=x%18446744073709551616
 ·rw[if_pos h];exact ⟨-(x/18446744073709551616)-1,by omega,by omega,by omega⟩
 rw[if_neg h];exact ⟨-(x/18446744073709551616),by omega,by omega,by omega⟩
theorem On(x:Int)(b:UInt8):IntKind.i64.wrap (IntKind.i64.wrap x*256)%256=0/\IntKind.i64.wrap (IntKind.i64.wrap x*256)+b.toNat=IntKind.i64.wrap (256*x+b.toNat):=by
 have d:=b.toNat_lt;obtain ⟨l,n,e,j⟩:=GE x;obtain ⟨c,i,k,a⟩:=GE (IntKind.i64.wrap x*256);obtain ⟨m,h,f,g⟩:=GE (256*x+b.toNat);omega
theorem WO(k:Nat){x:Nat}(h:x<256^k):Eb (Af k (x:Int))=x:=by
 induction k generalizing x with
 | zero=>simp at h;subst h;rfl
 | succ k ih=>
  have e:Af (k+1) (x:Int)=Af k ((x/256:Nat):Int)++[Fi (x:Int)]:=by
   apply AcF;intro i;rcases Adj i k with a|a|a
   ·rw[beN_get _ U,AbU (by rw[Ae];omega),beN_get _ a]
    congr 2;rw[show 8*(k+1-1-i)=8+8*(k-1-i) from by omega,Int.pow_add,<-Int.ediv_ediv_of_nonneg (by decide)];rfl
   ·subst a
    rw[beN_get _ U,AbT (by rw[Ae];omega),Ae];simp
   rw[Ab5 (by rw[Ae];omega),Ab5 (by simp[Ae];omega)]
  rw[e,JU,ih (by rw[Nat.pow_succ] at h;omega)];have:(Fi (x:Int)).toNat=x%256:=by simp[Fi];omega
  rw[this];omega

def Bb(bs:List UInt8)(a:Int):List Value:=bs.map u8++[.int .i64 a]
theorem EU{bs:List UInt8}(a:Int)(h:bs.length=256):(Bb bs a).length=257:=by simp[Bb,h]
theorem Mh{bs:List UInt8}(a:Int)(h:bs.length=256):(Bb bs a)[256]?=some (Aa a):=by simp[Bb,List.getElem?_append,h]
theorem IC{bs:List UInt8}(a a':Int)(h:bs.length=256):(Bb bs a).take 256++[Aa a']++(Bb bs a).drop (256+1)=Bb bs a':=by
 unfold Bb;rw[AbR (by simp[h]),AbJ (by simp[h]),Ab6 (by simp[h]),Acw]
theorem Tn{bs T:List UInt8}{a i:Nat}{b:UInt8}(x:Int)(h:a+T.length<=bs.length)(c:T[i]?=some b):
  (Bb (FU bs T a i) x).take (a+i)++[u8 b]++(Bb (FU bs T a i) x).drop (a+i+1)=Bb (FU bs T a (i+1)) x:=Tl _ h c
theorem Mi{bs T:List UInt8}{a k:Nat}(x:Int)(h:a+T.length<=bs.length)(b:k=T.length):(Bb bs x).take a++(T.map u8).take k++(Bb bs x).drop (a+k)=Bb (BD bs T a) x:=by
 subst b;unfold Bb BD;rw[AbR (by simp;omega),Ace (by simp;omega),AbJ (l:=T.map u8) O];simp
def wrH(pw:Nat)(a:Int):Ah:=λh=>∃bs:List UInt8,bs.length=256/\blk pw (Bb bs a) 204 h
theorem wrH.at{b:Nat}{a:Int}{h:Hp}(w:wrH b a h):celH h b 256 (Aa a):=by
 obtain ⟨bs,d,c⟩:=w;exact c.celH 256 (Mh a d)
theorem HY{b lo n c:Nat}{bs ys:List UInt8}{a:Int}{t:TypeId}{h:Hp}(q:blk b (Bb bs a) t h)(d:bs.length=256)(g:lo+n<=256)(e:n<=c)(i:c<=256)(f:(bs.drop lo).take n=ys):rdH 1 (.slice (some ⟨b,lo,none⟩) n c) n (ys.map u8) h:=by
 subst f;refine q.rd e U (by rw[EU _ d];omega) ?_;unfold Bb;rw[Ace (by simp;omega),AbR (by simp;omega),AcD];simp
def Lg(bs:List UInt8):List UInt8:=BD bs (Dp (AC (bs.take 252))) 252
theorem WP{bs:List UInt8}(h:bs.length=256):(Lg bs).length=256:=by
 unfold Lg;rw[DE (by simp[Dp,h])];exact h

theorem Q3(x:Int):IntKind.i64.wrap (IntKind.i64.wrap x)=IntKind.i64.wrap x:=AcT _ (by obtain ⟨q,c,a,b⟩:=GE x;omega)
theorem Mj(l:List UInt8):IntKind.i64.wrap (Be l*2^8)%256=0:=(On (Eb l) 0).1
theorem HZ{xs:List UInt8}{j:Nat}{b:UInt8}(h:xs[j]?=some b):IntKind.i64.wrap (IntKind.i64.wrap (Be (xs.take j)*2^8)+(b.toNat:Int))=Be (xs.take (j+1)):=by
 rw[AbZ,h];show IntKind.i64.wrap (IntKind.i64.wrap (IntKind.i64.wrap (Eb (xs.take j))*256)+(b.toNat:Int))=IntKind.i64.wrap (Eb (xs.take j++[b]):Nat);rw[(On _ b).2,Q3,JU];congr 1

def rz:List UInt8->Nat
 | []=>0
 | x::xs=>if rz xs=0/\x=0 then 0 else rz xs+1
theorem Pw:∀xs:List UInt8,rz xs<=xs.length
 | []=>Ab9 _
 | x::xs=>by have:=Pw xs;simp only[rz,AbI];split<;>omega
theorem Px:∀(xs:List UInt8) (j:Nat) (b:UInt8),rz xs<=j->xs[j]?=some b->b=0
 | [],j,b,_,h=>by simp at h
 | x::xs,0,b,h1,h=>by
  simp only[rz] at h1;split at h1
  ·rename_i q;simp at h;exact h▸q.2
  omega
 | x::xs,j+1,b,h1,h=>by
  simp only[rz] at h1;refine Px xs j b ?_ (by simpa using h);split at h1<;>omega
theorem Kx:∀(xs:List UInt8) (m:Nat),rz xs=m+1->∃b,xs[m]?=some b/\b≠0
 | [],m,h=>by simp[rz] at h
 | x::xs,m,h=>by
  simp only[rz] at h;split at h
  ·omega
  rename_i q
  cases m with
  | zero=>exact ⟨x,by simp,λe=>q ⟨by omega,e⟩⟩
  | succ m=>obtain ⟨b,h1,h2⟩:=Kx xs m U;exact ⟨b,by simpa using h1,h2⟩
theorem rz_is{xs:List UInt8}{m:Nat}(f:m<=xs.length)(d:∀j b,m<=j->xs[j]?=some b->b=0)(c:m=0\/∃b,xs[m-1]?=some b/\b≠0):m=rz xs:=by
 rcases Adj m (rz xs) with q|q|q
 ·obtain ⟨b,e,a⟩:=Kx xs (rz xs-1) U
  exact absurd (d _ _ U e) a
 ·exact q
 rcases c with c|⟨b,e,a⟩
 ·omega
 exact absurd (Px xs _ _ U e) a
theorem WQ{xs:List UInt8}:rz xs=0↔∀b∈xs,b=0:=by
 constructor
 ·intro h b c
  obtain ⟨j,a,rfl⟩:=Adf.1 c;exact Px xs j _ U (AbF a)
 intro h;exact (rz_is (AbV _) (λj b _ e=>h b (AbG e)) (.inl Z)).symm
def lz:List UInt8->Nat
 | []=>0
 | x::xs=>if x=0 then lz xs+1 else 0
theorem JV:∀{xs:List UInt8} {p:Nat},p<=xs.length->(∀j b,j<p->xs[j]?=some b->b=0)->(p=xs.length\/∃b,xs[p]?=some b/\b≠0)->p=lz xs
 | [],p,hp,_,_=>by simp at hp;subst hp;rfl
 | x::xs,0,_,_,h1=>by
  rcases h1 with h1|⟨b,e,hb⟩
  ·simp at h1
  simp at e;subst e;simp[lz,hb]
 | x::xs,p+1,hp,h0,h1=>by
  have e:=h0 0 x U Z;subst e;have:=JV (xs:=xs) (p:=p) (by simpa using hp) (λj b a e=>h0 (j+1) b U (by simpa using e)) (by simpa using h1);simp[lz,this]
theorem AaK{xs:List UInt8}(h:rz xs≠0):lz (xs.take (rz xs))<rz xs:=by
 obtain ⟨b,e,d⟩:=Kx xs (rz xs-1) U;rcases AbX (lz (xs.take (rz xs))) (rz xs) with q|q
 ·exact q
 have c:∀(ys:List UInt8) j b,j<lz ys->ys[j]?=some b->b=0:=by
  intro ys
  induction ys with
  | nil=>intro j b a;simp[lz] at a
  | cons y ys ih=>
   intro j b a e;simp only[lz] at a;split at a
   ·rename_i q
    cases j with
    | zero=>simp at e;exact e▸q
    | succ j=>exact ih j b U (by simpa using e)
   omega
 exact absurd (c (xs.take (rz xs)) (rz xs-1) b U (by rw[Acn,if_pos U];exact e)) d
def Jc(mag sec:List UInt8):Prop:=sec.drop 252=Dp (AC (sec.take 252))/\sec.take 4=mag
instance(mag sec:List UInt8):Decidable (Jc mag sec):=by unfold Jc;exact inferInstance
theorem Mk{sec:List UInt8}(h:sec.length=256):∃b d a c,sec.drop 252=[b,d,a,c]:=by
 have e:(sec.drop 252).length=4:=by simp[h]
 match hd:sec.drop 252,e with
 | [b,d,a,c],_=>exact ⟨b,d,a,c,Z⟩

def Bc(l:List UInt8):List UInt8:=l++List.replicate (256-l.length) 0
theorem Bl{l:List UInt8}(h:l.length<=256):(Bc l).length=256:=by simp[Bc];omega
theorem Cp{l t:List UInt8}{a:Nat}(b:a=l.length)(h:a+t.length<=256):BD (Bc l) t a=Bc (l++t):=by
 subst b;unfold BD Bc;rw[Acs Z,Aco,Ab6 U,Ab3,AdB,AbH];rw[show 256-l.length-(l.length+t.length-l.length)=256-(l.length+t.length) from by omega]
theorem To{l t:List UInt8}{a:Nat}(b:l.length<=a)(h:a+t.length<=256):BD (Bc l) t a=Bc (l++List.replicate (a-l.length) 0++t):=by
 have:Bc l=Bc (l++List.replicate (a-l.length) 0):=by
  unfold Bc;rw[AbK,AbH,AbQ,List.replicate_append_replicate];congr 2;omega
 rw[this,Cp (by simp;omega) h]
def sect(l:List UInt8):List UInt8:=Lg (Bc l)
theorem sect_len{l:List UInt8}(h:l.length<=252):(sect l).length=256:=WP (Bl U)
theorem Ia{l:List UInt8}(h:l.length<=252):(sect l).take 252=(Bc l).take 252:=by
 unfold sect Lg BD;rw[AbK,AbR (by simp[Bl (show l.length<=256 by omega)]),Acq];simp
theorem Hu{l:List UInt8}(h:l.length<=252):(sect l).drop 252=Dp (AC ((sect l).take 252)):=by
 rw[Ia h];have a:=Bl (show l.length<=256 by omega);unfold sect Lg BD;rw[AbK,Aco,Ab6 (by simp[a])];simp[a,Dp]
theorem BM{l:List UInt8}(h:l.length<=252){p k:Nat}(hp:p+k<=l.length):((sect l).drop p).take k=(l.drop p).take k:=by
 have e:((sect l).drop p).take k=(((sect l).take 252).drop p).take k:=by
  rw[AdI,Acq];congr 1;omega
 rw[e,Ia h,AdI,Acq];rw[show min k (252-p)=k from by omega];unfold Bc;rw[Ace U,AbR (by simp;omega)]
theorem Lh{l:List UInt8}(h:l.length<=252):rz (((sect l).drop l.length).take (252-l.length))=0:=by
 rw[WQ];intro b a;have e:((sect l).drop l.length).take (252-l.length)=(((sect l).take 252).drop l.length):=by rw[AdI]
 rw[e,Ia h,AdI] at a;unfold Bc at a;rw[AdE Z] at a;exact (List.mem_replicate.1 (Acr a)).2

theorem BO(ns:List Int):(ns.flatMap (Af 4)).length=4*ns.length:=by
 induction ns with
 | nil=>rfl
 | cons x ns ih=>simp[Ae,ih];omega
theorem Q4{ns:List Int}{i:Nat}{x:Int}(h:ns[i]?=some x):(ns.take i).flatMap (Af 4)++Af 4 x=(ns.take (i+1)).flatMap (Af 4):=by
 rw[AbZ,h];simp
def Bp(sec:List UInt8):Nat:=(Be ((sec.drop 24).take 2)).toNat
def D4(sec:List UInt8)(j:Nat):Int:=Be ((sec.drop (26+4*j)).take 4)
def hN(sec:List UInt8)(i:Nat):List Value:=(List.range i).map λj=>Value.int .i64 (D4 sec j)
theorem WR(sec:List UInt8)(i:Nat):hN sec i++[Aa (D4 sec i)]=hN sec (i+1):=by simp[hN,Ac5]
def Hv(sec:List UInt8):Prop:=Jc [80,76,79,71] sec/\(0<=Be ((sec.drop 4).take 8)/\Be ((sec.drop 4).take 8)<=1099511627776)/\(0<=Be ((sec.drop 12).take 8)/\Be ((sec.drop 12).take 8)<=1099511627776)/\(1<=Bp sec/\Bp sec<=40)/\(∀j,j<Bp sec->0<=D4 sec j/\D4 sec j<=1023)/\rz ((sec.drop (26+4*Bp sec)).take (252-(26+4*Bp sec)))=0
def Ib(sec:List UInt8):Prop:=sec.drop 252=Dp (AC (sec.take 252))/\(1<=Be (sec.take 1)/\Be (sec.take 1)<=5)/\(0<=Be ((sec.drop 1).take 2)/\Be ((sec.drop 1).take 2)<=1023)
theorem Q5{sec:List UInt8}:∃m:Nat,Be ((sec.drop 24).take 2)=m/\Bp sec=m:=by
 have h:Be ((sec.drop 24).take 2)=Eb ((sec.drop 24).take 2):=Pv (by simp;omega);exact ⟨_,h,by unfold Bp;rw[h];rfl⟩
section
section
variable{P:Program}{C:World->Prop}{o:Oper}{a:Act}{w z:World}{Γ:List Ah}{n:Nat}{ds:List Deferred}{L:List (Nat×Value)}{v:Value}{x y:Operand}{xt yt:TypeId}
theorem Q6{p:Int}{k:IntKind}{q:Int}{m:Nat}(f:o.op=.binOp .shr xt x y yt)(e:ev L x=some (Aa p))(g:ev L y=some (.int k q))(hq:q=m)(h:m<64):Ax P C n ds L o (Aa (p/2^m)):=λa c w _=>by
 subst hq;simp only[execOp,f,c.ev e,c.ev g];have d:¬((m:Int)<0):=by omega
 have b:min m 64=m:=by omega
 simp[go_sem,Op.shift,IntKind.bits,d,b]
theorem Q7{p:Int}{k:IntKind}{q:Int}{m:Nat}(f:o.op=.binOp .shl xt x y yt)(e:ev L x=some (Aa p))(g:ev L y=some (.int k q))(hq:q=m)(h:m<64):Ax P C n ds L o (Aa (IntKind.i64.wrap (p*2^m))):=λa c w _=>by
 subst hq;simp only[execOp,f,c.ev e,c.ev g];have d:¬((m:Int)<0):=by omega
 have b:min m 64=m:=by omega
 simp[go_sem,Op.shift,IntKind.bits,d,b]
theorem Ze{p:Int}{q:Nat}(hp:p%256=0)(hq:q<256):((BitVec.ofInt 64 p|||BitVec.ofInt 64 (q:Int)).toNat:Int)%18446744073709551616=(p+q)%18446744073709551616:=by
 have d:(BitVec.ofInt 64 p).toNat=(p%18446744073709551616).toNat:=by simp[BitVec.toNat_ofInt]
 have b:(BitVec.ofInt 64 (q:Int)).toNat=q:=by simp[BitVec.toNat_ofInt];omega
 have c:∃r,(p%18446744073709551616).toNat=r <<< 8:=⟨(p%18446744073709551616).toNat/256,by rw[Nat.shiftLeft_eq];omega⟩;obtain ⟨r,a⟩:=c;rw[BitVec.toNat_or,d,b,a,<-Nat.shiftLeft_add_eq_or_of_lt (by omega:q<2^8),<-a];omega
theorem V1{p q:Int}(f:o.op=.binOp .or xt x y yt)(e:ev L x=some (Aa p))(g:ev L y=some (Aa q))(hp:p%256=0)(hq:0<=q/\q<256):Ax P C n ds L o (Aa (IntKind.i64.wrap (p+q))):=λa d w _=>by
 obtain ⟨q,rfl⟩:=AdC hq.1;have h:=Ze (p:=p) (q:=q) hp U;have c:IntKind.i64.wrap ((BitVec.ofInt IntKind.i64.bits p|||BitVec.ofInt IntKind.i64.bits (q:Int)).toNat:Int)=IntKind.i64.wrap (p+q):=by
  show (if (true&&decide (((BitVec.ofInt 64 p|||BitVec.ofInt 64 (q:Int)).toNat:Int)%(2^64:Int)>=(2^(64-1):Int)))=true then ((BitVec.ofInt 64 p|||BitVec.ofInt 64 (q:Int)).toNat:Int)%(2^64:Int)-(2^64:Int) else ((BitVec.ofInt 64 p|||BitVec.ofInt 64 (q:Int)).toNat:Int)%(2^64:Int))=(if (true&&decide ((p+q)%(2^64:Int)>=(2^(64-1):Int)))=true then (p+q)%(2^64:Int)-(2^64:Int) else (p+q)%(2^64:Int));simp only[show (2:Int)^64=18446744073709551616 from Z,h]
 have b:IntKind.i64.wrap ((BitVec.ofInt 64 p|||BitVec.ofInt 64 (q:Int)).toNat:Int)=IntKind.i64.wrap (p+q):=c;rw[Aeg] at b;simp only[execOp,f,d.ev e,d.ev g];simp only[binOp,Op.intBits,go_sem,c]
 first |(simp[go_sem,b];done)|(simp only[go_sem];exact congrArg (λv=>Result.ok (Aa v) _) b)|(simp[go_sem];exact b)
theorem Jd{t:TypeId}{l:List UInt8}{i:Int}{k:IntKind}{j:Nat}{b:UInt8}(g:o.op=.index t x y)(d:GB P t=true)(m:ev L x=some (Fl l))(q:ev L y=some (.int k i))(c:i=j)(e:l[j]?=some b):Ax P C n ds L o (u8 b):=λa f w _=>by
 have d:=Gg d;subst c;have h:j<l.length:=(AbE.1 e).1;have p:(⟨l.toArray⟩:ByteArray)[j]?=some b:=by
  have hs:(⟨l.toArray⟩:ByteArray).size=l.length:=by show l.toArray.size=_;simp
  rw[getElem?_pos (⟨l.toArray⟩:ByteArray) j (by rw[hs];exact h)];show some (l.toArray[j]'_)=_;simp[(AbE.1 e).2]
 simp only[execOp,g,f.ev m,f.ev q,Fl,Instr.index,asIntOf,AbW,Ab2,AbS,run_underlying d,if_pos (Int.natCast_nonneg j),Acg,p];rfl
theorem Li{t e:TypeId}{zv:Value}{sz by_ k d m b off:Nat}{u:Value}{xs news:List Value}(H:Sep z Γ w)(ho:o.op=.call {callee:=.builtin .append,args:= #[x,y],argTypes:= #[t,t]})
  (ht:P.underlying t=some (.slice e))(hE:Elt P e zv sz by_)(hx:ev L x=some (.slice (some ⟨b,off,none⟩) k d))(hy:ev L y=some u)(l:Rd sz (.slice (some ⟨b,off,none⟩) k d) k xs w)(h:Rd sz u m news w)(hg:d<k+m)(h1:∀c∈news,c.oneCell'=true)(a3:(k+m)*by_<=140737488355328):
  BX P n ds L o w (λv' w'=>Sep z (grow e sz v' (k+m) (xs++news)::Γ) w'):=λa hF=>by
 obtain ⟨i,hi,hz,hs,hb,a5,a9,a7⟩:=hE;obtain ⟨b3,c1,e1,b0,_,a6,v⟩:=l;cases e1;obtain ⟨ao,c,rfl,b4,_,hl,s⟩:=h;have a0:k+m<=maxLen:=by
  have:(k+m)*1<=(k+m)*by_:=AdA _ a7;unfold maxLen;omega
 have a1:0<news.length:=by
  have:1*1<=m*sz:=Nat.mul_le_mul U U;omega
 obtain ⟨b',p',e2,_⟩:=s 0 news[0] (AbF a1);subst e2;have f:∀(b p j:Nat),(Addr.add ⟨b,p,none⟩ j)=⟨b,p+j,none⟩:=λb p j=>by
  unfold Addr.add;split
  ·rename_i h0;simp[h0]
  rfl
 obtain ⟨v',w',hr,h2,h3⟩:=run_append_arg_grows (P:=P) w t o.type e i zv sz by_ ht hi hz hs hb a5 a9 ⟨b,off,none⟩ k d xs a6 (λj q hj=>by
  obtain ⟨b2,p2,e3,hc⟩:=v j q hj;cases e3;rw[f];exact hc) ⟨b',p',none⟩ m c news hl (λj q hj=>by
  obtain ⟨b2,p2,e3,hc⟩:=s j q hj;cases e3;rw[f];exact hc) hg a0 a3
 have a8:Ext No w w':=(Ext.of_grown h3).mono (λ_ _ q=>by cases q);refine ⟨v',w',?_,H.grow a8 ?_⟩
 ·simp only[execOp,ho,resolve,invoke,builtin,AbW,Ab2,AbS,Ach,Aca,AcP,hF.ev hx,hF.ev hy,hr]
 refine ⟨h2.1,?_⟩;rcases h2.2 with q|⟨g,d,a2,hv,b1,a4,r⟩
 ·exact .inl q
 refine .inr ⟨g,d,a2,hv,?_,r⟩;show (if g<w.heap.size then none else w'.heap[g]?)=_;rw[if_neg U];exact a4
theorem Lj{t:TypeId}{b off l c m:Nat}(p:o.op=.sliceToArrayPointer t x)(d:(match P.underlying t with|some (.array k _)=>Nat.beq k m|_=>false)=true)(g:ev L x=some (.slice (some ⟨b,off,none⟩) l c))(i:m<=l):Ax P C n ds L o (.pointer (some ⟨b,off,none⟩)):=λa j w _=>by
 split at d
 ·rename_i k e h
  have f:k=m:=by simpa using d
  subst f;simp only[execOp,p,j.ev g];simp[Instr.arrayAt,run_underlying h,go_sem,i]
 cases d
theorem Oo{l m b g r c k f:UInt8}(ho:o.op=.binOp .neq xt x y yt)(z:(match P.underlying xt with|some (.array 4 e)=>(match P.underlying e,P.info? e with|some (.int .u8),some i=>Nat.beq i.size 1|_,_=>false)|_=>false)=true)(hg:P.eqGuardType P.depth xt=false)(hx:ev L x=some (.agg #[u8 l,u8 m,u8 b,u8 g]))(hy:ev L y=some (.agg #[u8 r,u8 c,u8 k,u8 f])):Ax P C n ds L o (.bool (decide ([l,m,b,g]≠[r,c,k,f]))):=λa hF w _=>by
 split at z
 ·rename_i e h
  split at z
  ·rename_i i h1 h2
   have hz:i.size=1:=by simpa using z
   have a2:∀w,(sizeOf e).run P w=.ok 1 w:=λw=>by simp[sizeOf,typeInfo,h2,hz,go_sem]
   have a1:∀w,(isAgg e).run P w=.ok false w:=Gf (by simp[Ge,h1]);have hp:∀(cs:Array Value) (j:Nat) (u:Value) w,cs[j]?=some u->(part e cs j).run P w=.ok u w:=λcs j u w hc=>by
    simp only[part,AbW,a1,AbS,if_false,AcI,hc,Ab2]
   have t:∀(d:Nat) (p q:UInt8) w,(Op.equalIn (d+1) e (u8 p) (u8 q)).run P w=.ok (decide (p=q)) w:=λd p q w=>by
    simp only[Op.equalIn,AbW,run_underlying h1,AbS,u8];simp[go_sem];rw[Ab0];simp;exact ⟨λh=>AdU.1 U,λh=>by rw[h]⟩
   have a0:∀d,(Op.equalIn (d+1+1) xt (.agg #[u8 l,u8 m,u8 b,u8 g]) (.agg #[u8 r,u8 c,u8 k,u8 f])).run P w=.ok (decide ([l,m,b,g]=[r,c,k,f])) w:=λd=>by
    have q0:=hp #[u8 l,u8 m,u8 b,u8 g] 0 (u8 l) w Z;have q1:=hp #[u8 l,u8 m,u8 b,u8 g] 1 (u8 m) w Z;have q2:=hp #[u8 l,u8 m,u8 b,u8 g] 2 (u8 b) w Z;have q3:=hp #[u8 l,u8 m,u8 b,u8 g] 3 (u8 g) w Z;have r0:=hp #[u8 r,u8 c,u8 k,u8 f] 0 (u8 r) w Z;have r1:=hp #[u8 r,u8 c,u8 k,u8 f] 1 (u8 c) w Z;have r2:=hp #[u8 r,u8 c,u8 k,u8 f] 2 (u8 k) w Z;have r3:=hp #[u8 r,u8 c,u8 k,u8 f] 3 (u8 f) w Z;rw[Op.equalIn];simp only[AbW,run_underlying h,AbS,a2,Std.Legacy.Range.forIn_eq_forIn_range',Std.Legacy.Range.size];simp[List.range',AbW,q0,q1,q2,q3,r0,r1,r2,r3,t];by_cases g0:l=r<;>by_cases g1:m=c<;>by_cases g2:b=k<;>by_cases g3:g=f<;>simp[g0,g1,g2,g3,q0,q1,q2,q3,r0,r1,r2,r3,t,AbW]
   have v:(Op.equal xt (.agg #[u8 l,u8 m,u8 b,u8 g]) (.agg #[u8 r,u8 c,u8 k,u8 f])).run P w=.ok (decide ([l,m,b,g]=[r,c,k,f])) w:=a0 9998;have s:(eqGuard .neq xt x y (.agg #[u8 l,u8 m,u8 b,u8 g]) (.agg #[u8 r,u8 c,u8 k,u8 f])).run P w=.ok () w:=by
    simp[eqGuard,AbW,program,Sem.run,hg]
   simp only[execOp,ho,hF.ev hx,hF.ev hy];simp only[binOp,AbW,s,v,AbS,Ab2];simp
  cases z
 cases z
end
theorem Slc.cells{v:Value}{n:Nat}(h:Slc v n):v.cells= #[v]:=by obtain ⟨_,_,rfl⟩:=h;rfl
theorem Slc.one{v:Value}{n:Nat}(h:Slc v n):v.oneCell'=true:=by obtain ⟨_,_,rfl⟩:=h;rfl
theorem AN:∀u∈([]:List Value),u.oneCell'=true:=λ_ h=>by cases h
theorem Aq{u:Value}{a:List Value}(h:u.oneCell'=true)(hs:∀u∈a,u.oneCell'=true):∀x∈u::a,x.oneCell'=true:=λx b=>by
 rcases Acb.1 b with rfl|q
 ·exact h
 exact hs x q
theorem rdH.cut{b off n c lo m c':Nat}{xs:List UInt8}{h:Hp}(r:rdH 1 (.slice (some ⟨b,off,none⟩) n c) n (xs.map u8) h)(p:lo+m<=n)(g:m<=c')(o:c'<=c):rdH 1 (.slice (some ⟨b,off+lo,none⟩) m c') m (((xs.drop lo).take m).map u8) h:=by
 obtain ⟨t,s,e,v,l,f,i⟩:=r;cases e;refine ⟨_,_,Z,g,by omega,by simp at f ⊢;omega,λj u a=>?_⟩;have d:(xs.map u8)[lo+j]?=some u:=by
  rw[AbY,Acn] at a;split at a
  ·rw[AcH] at a;rw[AbY];exact a
  cases a
 obtain ⟨q,p',e,k⟩:=i _ _ d;cases e;exact ⟨_,_,Z,by rw[Ac8];exact k⟩
theorem rdH.pre{b off n c m c':Nat}{xs:List UInt8}{h:Hp}(r:rdH 1 (.slice (some ⟨b,off,none⟩) n c) n (xs.map u8) h)(d:m<=n)(a:m<=c'/\c'<=c):rdH 1 (.slice (some ⟨b,off,none⟩) m c') m ((xs.take m).map u8) h:=by
 have:=r.cut (lo:=0) (m:=m) (c':=c') U a.1 a.2;simpa using this
theorem rdH.at{b off n c j:Nat}{xs:List UInt8}{x:UInt8}{h:Hp}(r:rdH 1 (.slice (some ⟨b,off,none⟩) n c) n (xs.map u8) h)(d:xs[j]?=some x):celH h b (off+j) (u8 x):=by
 obtain ⟨o,m,e,p,i,k,f⟩:=r;obtain ⟨l,p',a,g⟩:=f j (u8 x) (by rw[AbY,d];rfl);cases e;cases a;exact g
theorem Sep.cell4{z w:World}{Γ:List Ah}(i:Nat){A:Ah}(H:Sep z Γ w)(d:Γ[i]?=some A){b off c:Nat}{xs:List UInt8}(g:∀h,A h->rdH 1 (.slice (some ⟨b,off,none⟩) 256 c) 256 (xs.map u8) h){ys:List UInt8}(f:xs.drop 252=ys):∀j u,(ys.map u8)[j]?=some u->E6 b (off+252+j) u w:=λj u a=>by
 rw[AbY,Adq] at a;obtain ⟨y,k,rfl⟩:=a;have e:xs[252+j]?=some y:=by rw[<-AcH,f];exact k
 have:=H.cell i d (λh q=>(g h q).at e);rwa[<-Ac8] at this
theorem rdH.cap{b off n c:Nat}{xs:List UInt8}{h:Hp}(r:rdH 1 (.slice (some ⟨b,off,none⟩) n c) n (xs.map u8) h):n<=c/\c<=9223372036854775807:=by
 obtain ⟨_,_,e,d,a,_⟩:=r;cases e;exact ⟨d,a⟩
theorem rdH.len{v:Value}{n:Nat}{xs:List UInt8}{h:Hp}(r:rdH 1 v n (xs.map u8) h):xs.length=n:=by
 obtain ⟨_,_,_,_,_,q,_⟩:=r;simpa using q
end
theorem E9{z w:World}{Γ:List Ah}(H:Sep z Γ w):Sep z (poolA (λ_=>none)::Γ) w:=H.void λh k o e=>by cases e
theorem Je{z w:World}{Γ:List Ah}{hq:Hp}{X:Ah}(H:Sep z (poolA hq::X::Γ) w){M:Ah}(f:∀h,X h->M h)(d:∀h h',M h->BA h h'->M h'):∃a,(BA hq a/\M a)/\Sep z (poolA a::Γ) w:=by
 have H1:Sep z (seps [poolA hq,X]::Γ) w:=Sep.shut (As:=[poolA hq,X]) H;exact H1.exAt 0 (σ:=Hp) (p:=λa=>BA hq a/\M a) (B:=λa=>poolA a) Z (λh hs=>by
  refine ⟨h,⟨λk o e=>?_,?_⟩,λk o e=>e⟩
  ·obtain ⟨h',c,b⟩:=DZ hs (i:=0) Z
   exact b _ _ (c _ _ e)
  obtain ⟨h',c,b⟩:=DZ hs (i:=1) Z;exact d _ _ (f _ c) b)
theorem BG{z w:World}{Γ:List Ah}{hq:Hp}{X:Ah}(H:Sep z (poolA hq::X::Γ) w){sz n:Nat}{v:Value}{xs:List Value}(d:∀h,X h->rdH sz v n xs h):∃c,(BA hq c/\rdH sz v n xs c)/\Sep z (poolA c::Γ) w:=
 Je H d (λ_ _ a b=>a.le b)
structure Img where
 num:Int
 kind:Int
 body:List UInt8
deriving DecidableEq
def Img.Ok(m:Img):Prop:=(0<=m.num/\m.num<=1023)/\(1<=m.kind/\m.kind<=5)/\m.body.length=240
instance(m:Img):Decidable m.Ok:=by unfold Img.Ok;exact inferInstance
abbrev ImE:=Img×Value
def ImE.cells(e:ImE):List Value:=[.int .i64 e.1.num,.int .i64 e.1.kind,e.2]
def Bq(es:List ImE):List Value:=es.flatMap ImE.cells
theorem A7:∀{es:List ImE} {j:Nat} {e:ImE},es[j]?=some e->∀k u,(ImE.cells e)[k]?=some u->(Bq es)[j*3+k]?=some u
 | x::es,0,e,h,k,u,hk=>by
  simp at h;subst h;have hl:=(AbE.1 hk).1;simp only[Bq,Acl];rw[AbU U];simpa using hk
 | x::es,j+1,e,h,k,u,hk=>by
  have:=A7 (es:=es) (j:=j) (by simpa using h) k u hk;simp only[Bq,Acl] at this ⊢;rw[AbT (by simp[ImE.cells];omega)];rw[show (j+1)*3+k-(ImE.cells x).length=j*3+k from by simp[ImE.cells];omega];exact this
theorem Jf(es:List ImE)(e:ImE):Bq es++ImE.cells e=Bq (es++[e]):=by simp[Bq]
def imesOk(es:List ImE)(h:Hp):Prop:=∀e∈es,rdH 1 e.2 e.1.body.length (e.1.body.map u8) h
theorem imesOk.le{es:List ImE}{h h':Hp}(a:imesOk es h)(s:BA h h'):imesOk es h':=λe b=>(a e b).le s
def imgsH(v:Value)(ims:List Img):Ah:=λh=>∃es:List ImE,es.map Prod.fst=ims/\rdH 3 v ims.length (Bq es) h/\imesOk es h
theorem imgsH.le{v:Value}{ims:List Img}{h h':Hp}(a:imgsH v ims h)(s:BA h h'):imgsH v ims h':=by
 obtain ⟨es,d,b,c⟩:=a;exact ⟨es,d,b.le s,c.le s⟩
theorem imgsH.slc{v:Value}{ims:List Img}{h:Hp}(a:imgsH v ims h):∃d c,v=.slice d ims.length c:=by
 obtain ⟨es,f,b,e⟩:=a;exact b.slc
theorem imgsH.small{v:Value}{ims:List Img}{h:Hp}(a:imgsH v ims h):ims.length<=9223372036854775807:=by
 obtain ⟨es,d,b,c⟩:=a;exact b.small

structure Rc where
 seq:Int
 ims:List Img
deriving DecidableEq
abbrev RcE:=Rc×Value
def RcE.cells(e:RcE):List Value:=[.int .i64 e.1.seq,e.2]
def Et(es:List RcE):List Value:=es.flatMap RcE.cells
theorem Ec:∀{es:List RcE} {j:Nat} {e:RcE},es[j]?=some e->∀k u,(RcE.cells e)[k]?=some u->(Et es)[j*2+k]?=some u
 | x::es,0,e,h,k,u,hk=>by
  simp at h;subst h;have hl:=(AbE.1 hk).1;simp only[Et,Acl];rw[AbU U];simpa using hk
 | x::es,j+1,e,h,k,u,hk=>by
  have:=Ec (es:=es) (j:=j) (by simpa using h) k u hk;simp only[Et,Acl] at this ⊢;rw[AbT (by simp[RcE.cells];omega)];rw[show (j+1)*2+k-(RcE.cells x).length=j*2+k from by simp[RcE.cells];omega];exact this
theorem Ml(es:List RcE)(e:RcE):Et es++RcE.cells e=Et (es++[e]):=by simp[Et]
def rcesOk(es:List RcE)(h:Hp):Prop:=∀e∈es,imgsH e.2 e.1.ims h
theorem rcesOk.le{es:List RcE}{h h':Hp}(a:rcesOk es h)(s:BA h h'):rcesOk es h':=λe b=>(a e b).le s
def recsH(v:Value)(rs:List Rc):Ah:=λh=>∃es:List RcE,es.map Prod.fst=rs/\rdH 2 v rs.length (Et es) h/\rcesOk es h
theorem recsH.slc{v:Value}{rs:List Rc}{h:Hp}(a:recsH v rs h):∃d c,v=.slice d rs.length c:=by
 obtain ⟨es,f,b,e⟩:=a;exact b.slc

def B7(sec:List UInt8):Int:=Be ((sec.drop 4).take 8)
def B8(sec:List UInt8):Int:=Be ((sec.drop 12).take 8)
def Di(sec:List UInt8):UInt32:=DS (Be ((sec.drop 20).take 4))
def Fa(sec:List UInt8):Int:=Be ((sec.drop 3).take 4)
def Fb(sec:List UInt8):Int:=Be ((sec.drop 7).take 5)
def B0(sec:List UInt8):Img:=⟨Be ((sec.drop 1).take 2),Be (sec.take 1),(sec.drop 12).take 240⟩
def ringAt(s:Sup)(x:Int):Nat:=(s.start+x%s.len).toNat
def nextP(f:Nat->List UInt8)(e sq room:Int)(ims:List Img):Prop:=
 Hv (f 0)/\B7 (f 0)=e/\B8 (f 0)=sq/\1+(Bp (f 0):Int)<=room/\
 ims=(List.range (Bp (f 0))).map (λj=>B0 (f (1+j)))/\
 (∀j,j<Bp (f 0)->Ib (f (1+j))/\Fa (f (1+j))=e/\Fb (f (1+j))=sq/\(B0 (f (1+j))).num=D4 (f 0) j)/\
 AC ((List.range (Bp (f 0))).flatMap λj=>f (1+j))=Di (f 0)
theorem rdH.sl{sz:Nat}{v:Value}{n:Nat}{xs:List Value}{h:Hp}(r:rdH sz v n xs h)(a:0<xs.length):∃b o c,v=.slice (some ⟨b,o,none⟩) n c:=by
 obtain ⟨g,c,e,_,_,_,d⟩:=r;obtain ⟨b,p,f,_⟩:=d 0 xs[0] (AbF a);subst f;exact ⟨b,p,c,e⟩
theorem Ed{g a:Nat}{sec:List UInt8}{rest:List Value}{t:TypeId}{h:Hp}(q:blk g (sec.map u8++rest) t h){k:Nat}(c:sec.length=k)(b:k<=a/\a<=9223372036854775807/\rest.length=a-k):rdH 1 (.slice (some ⟨g,0,none⟩) k a) k (sec.map u8) h:=by
 refine q.rd b.1 b.2.1 (by simp;omega) ?_;rw[Ab1,AcD,AbR (by simp;omega),AbJ (by simp;omega)]
def DJ(F:Nat->List UInt8)(i:Nat):List UInt8:=(List.range i).flatMap λj=>F (1+j)
theorem Q8(F:Nat->List UInt8)(i:Nat):DJ F i++F (1+i)=DJ F (i+1):=by simp[DJ,Ac5]
theorem Tp(F:Nat->List UInt8)(i:Nat):Dz (AC (DJ F i)) (F (1+i))=AC (DJ F (i+1)):=by
 unfold AC;rw[Kw,Q8]
theorem Abr(F:Nat->List UInt8):Value.int .u32 0=u32 (AC (DJ F 0)):=by
 have:AC (DJ F 0)=0:=by show AC []=0;decide
 rw[this];rfl
def Cd(n:Nat):Dsk:=⟨n,λ_=>List.replicate 256 0,λ_=>[],0,0,0,false,0⟩
theorem WS{n:Nat}(h:1<=n/\n<=4096):(Cd n).Ok:=⟨h.1,h.2,λ_ _=>by simp[Cd],λ_ _ p hp=>by simp[Cd] at hp,by simp[Cd],by simp[Cd],by simp[Cd],by simp[Cd]⟩
theorem WT{n:Nat}:(Cd n).In (List.replicate (n*256) 0) [] 0 (λ_=>none):=by
 refine ⟨by simp[Cd],λi b=>?_,λe a=>absurd a O,λi _ h=>by simp[Cd] at h,by simp,by simp,λe a=>absurd a O⟩;simp only[Cd] at b ⊢;rw[AdB,List.take_replicate];congr 1;omega
theorem diskA.f1{D:Dsk}(h:D.f1=0): {D with f1:=AZ D.f1} =D:=by
 cases D;simp at h;subst h;rfl

theorem Sep.tri{z w:World}{A B C:List Ah}(H:Sep z (A++(B++C)) w):Sep z (A++(C++B)) w:=by
 have m:Sep z ([seps A]++(B++C)) w:=H.shut;have h:Sep z (B++(C++[seps A])) w:=by rw[<-AbK];exact m.swap
 have j:Sep z ([seps B]++(C++[seps A])) w:=h.shut;have k:Sep z (C++([seps A]++[seps B])) w:=by rw[<-AbK];exact j.swap
 have l:Sep z [seps C,seps A,seps B] w:=k.shut;have f:Sep z ([seps B]++[seps A,seps C]) w:=l.pick 3 [2,1,0] Z;have n:Sep z (B++[seps A,seps C]) w:=f.opened;have g:Sep z ([seps A]++([seps C]++B)) w:=n.swap;have i:Sep z (A++([seps C]++B)) w:=g.opened;have b:Sep z ([seps C]++(B++A)) w:=by rw[<-AbK];exact i.swap
 have d:Sep z (C++(B++A)) w:=b.opened;have a:Sep z ((B++A)++C) w:=d.swap;have e:Sep z (B++(A++C)) w:=by rw[<-AbK];exact a
 have c:Sep z ((A++C)++B) w:=e.swap;rwa[AbK] at c
def dkB(pd bd m:Nat)(D:Dsk)(f0:Int):Ah:=blk pd [.slice (some ⟨bd,0,none⟩) (D.n*256) (D.n*256),.map (some m),.int .i64 f0,.int .i64 D.f1,.int .i64 D.f2,.int .i64 D.f3,.bool D.cut,.int .i64 D.left] 106
theorem Cn.onDisk{P:Program}{f:FuncId}{args:List Value}{pre:List Ah}{pd:Nat}{D:Dsk}{post:Value->List Ah->Prop}
  (h:D.Ok->∀bd m f0,Cn P f args (dkB pd bd m D f0::pre) (λv G=>∃Γ',post v Γ'/\G=Γ'++[dkB pd bd m D f0])):
  Cn P f args (diskA pd D::pre) (λv G=>∃Γ',post v Γ'/\G=Γ'++[diskA pd D]):=λz R w H=>by
 have H0:Sep z (diskA pd D::(pre++R)) w:=H;obtain ⟨bd,m,f0,bs,es,clk,hq,b,a,H1⟩:=H0.disk;have H2:Sep z ([dkB pd bd m D f0]++((ED pd bd m D f0 bs es clk hq).drop 1++(pre++R))) w:=H1;have H3:Sep z ((dkB pd bd m D f0::pre)++(R++(ED pd bd m D f0 bs es clk hq).drop 1)) w:=by
  have:=H2.tri;rw[AbK] at this;exact this
 refine Ret.mono (h b bd m f0 z _ w H3) ?_;rintro v w' ⟨Γ,⟨Γ',hp,rfl⟩,H4⟩;refine ⟨Γ'++[diskA pd D],⟨Γ',hp,Z⟩,?_⟩;rw[AbK] at H4;have H5:Sep z ([dkB pd bd m D f0]++(R++((ED pd bd m D f0 bs es clk hq).drop 1++Γ'))) w':=by
  have:=H4.swap;rw[AbK,AbK] at this;exact this
 have H6:Sep z (ED pd bd m D f0 bs es clk hq++(Γ'++R)) w':=by
  have:=H5.tri;rw[AbK] at this;exact this
 have H7:Sep z ([diskA pd D]++(Γ'++R)) w':=Sep.toDisk H6 b a;have H8:Sep z (Γ'++(R++[diskA pd D])) w':=by
  have:=H7.swap;rw[AbK] at this;exact this
 have H9:=H8.tri;rw[<-AbK] at H9;exact H9

def Hw:List Int->Nat->List IE
 | [],_=>[]
 | k::ks,n=>(k,.bool true,n)::Hw ks (n+1)
def seen(ns:List Int):List IE:=Hw ns 0
theorem Ic:∀(ns:List Int) (n:Nat) (k:Int),Cw (Hw ns n) k=if k∈ns then some (.bool true) else none
 | [],n,k=>rfl
 | x::xs,n,k=>by
  simp only[Hw,Cw,Ic xs];by_cases h:k=x
  ·simp[h]
  by_cases h2:k∈xs
  ·simp[h,h2]
  simp[h,h2]
theorem Tq(ns:List Int)(k:Int):(Cw (seen ns) k).getD (.bool false)=.bool (decide (k∈ns)):=by
 unfold seen;rw[Ic];split
 ·rename_i h;simp[h]
 rename_i h;simp[h]
theorem JW:∀(ns:List Int) (n:Nat) (k:Int),Hw (ns++[k]) n=Hw ns n++[(k,.bool true,n+ns.length)]
 | [],n,k=>rfl
 | x::xs,n,k=>by
  simp only[Ac9,Hw,JW xs,AbI];rw[show n+1+xs.length=n+(xs.length+1) from by omega]
theorem Tr{ns:List Int}{k:Int}(h:k∉ns):EI (seen ns) k (.bool true) ns.length=seen (ns++[k])/\putC (seen ns) k ns.length=(ns++[k]).length:=by
 have:Cq (seen ns) k=false:=by unfold Cq seen;rw[Ic,if_neg h];rfl
 constructor
 ·unfold EI;rw[this];unfold seen;rw[JW];simp
 unfold putC;rw[this];simp
def imA(A:Ah)(v:Value)(es:List ImE):Ah:=λh=>A h/\rdH 3 v es.length (Bq es) h/\imesOk es h
theorem Sep.imA{z w:World}{Γ:List Ah}(i:Nat){A:Ah}(H:Sep z Γ w)(c:Γ[i]?=some A){v:Value}{ims:List Img}(f:∀h,A h->imgsH v ims h):∃es:List ImE,es.map Prod.fst=ims/\Sep z (Γ.set i (YthbbejpbkglmlaaGreatDoor.imA A v es)) w:=
 H.exAt i (p:=λes:List ImE=>es.map Prod.fst=ims) (B:=λes=>YthbbejpbkglmlaaGreatDoor.imA A v es) c (λh a=>by
  obtain ⟨es,e,b,d⟩:=f h a;subst e;exact ⟨es,Z,a,by simpa using b,d⟩)
theorem imA.at{A:Ah}{a:Option Addr}{n c:Nat}{es:List ImE}{j:Nat}{e:ImE}{z w:World}{Γ:List Ah}(i:Nat)(H:Sep z Γ w)(d:Γ[i]?=some (imA A (.slice a n c) es))(l:es[j]?=some e):∀k u,(ImE.cells e)[k]?=some u->At a (j*3+k) u w:=λk u o=>by
 have b:=H.rd i d (λh q=>q.2.1);obtain ⟨f,c',g,_,_,_,m⟩:=b;cases g;exact m _ _ (A7 l k u o)
def Fc(ims:List Img):List Value:=ims.map λm=>.int .i64 m.num
theorem Ts{ims:List Img}{i:Nat}{m:Img}(h:ims[i]?=some m):Fc (ims.take i)++[Aa m.num]=Fc (ims.take (i+1)):=by
 rw[AbZ,h];simp[Fc]
theorem WU(ims:List Img):Fc ims=(ims.map Img.num).map Aa:=by simp[Fc]
def Bk(e sq:Int)(m:Img):List UInt8:=Af 1 m.kind++Af 2 m.num++Af 4 e++Af 5 sq++m.body
def AF(e sq:Int)(ims:List Img):List UInt8:=ims.flatMap λm=>sect (Bk e sq m)
theorem FK{e sq:Int}{ims:List Img}{i:Nat}{m:Img}(h:ims[i]?=some m):AF e sq (ims.take i)++sect (Bk e sq m)=AF e sq (ims.take (i+1)):=by
 rw[AbZ,h];simp[AF]
def Bv(e sq:Int)(ims:List Img):List UInt8:=[80,76,79,71]++Af 8 e++Af 8 sq++Af 4 ((AC (AF e sq ims)).toNat:Int)++Af 2 ((ims.map Img.num).length:Int)++(ims.map Img.num).flatMap (Af 4)
theorem C4{e sq:Int}{m:Img}(h:m.body.length=240):(Bk e sq m).length=252:=by simp[Bk,Ae,h]
theorem DK{e sq:Int}:∀{ims:List Img},(∀m∈ims,m.Ok)->(AF e sq ims).length=ims.length*256
 | [],_=>rfl
 | m::ims,h=>by
  have h1:=DK (e:=e) (sq:=sq) (ims:=ims) (λm b=>h m (by simp[b]));have a:=sect_len (l:=Bk e sq m) (by rw[C4 (h m O).2.2];omega);simp only[AF,Acl,AbH,AbI] at h1 ⊢;rw[h1,a];omega
def Bo(e sq:Int)(ims:List Img):List (List UInt8):=sect (Bv e sq ims)::ims.map λm=>sect (Bk e sq m)
theorem Q9(e sq:Int)(ims:List Img):sect (Bv e sq ims)++AF e sq ims=(Bo e sq ims).flatten:=by
 simp[Bo,AF,List.flatMap]
theorem hdL_len(e sq:Int)(ims:List Img):(Bv e sq ims).length=26+4*ims.length:=by
 simp[Bv,Ae,BO,-List.length_flatMap];omega
theorem JX{ims:List Img}{i:Nat}{m:Img}(h:(ims.map Img.num).Nodup)(a:ims[i]?=some m)(b:m.num∈(ims.take i).map Img.num):False:=by
 have c:=(AbE.1 a).1;rw[<-AcC i ims,Ab7,AcY] at h;refine h.2.2 _ b m.num ?_ Z;rw[Add c,(AbE.1 a).2];simp
def Ee(ims:List Img):Prop:=(∀m∈ims,m.Ok)/\(ims.map Img.num).Nodup

def Dsk.wf(D:Dsk):Dsk:= {D with f2:=AZ D.f2}
def Dsk.wr(D:Dsk)(x:Nat)(ps:List (List UInt8)):Dsk:= {Dsk.ws {D with f2:=AZ D.f2} false x ps with left:=max 0 (D.left-1)}
def Dsk.bad(D:Dsk):Prop:=D.f2=1\/(D.cut=true/\D.left=0)
theorem Dsk.wr_n(D:Dsk)(x:Nat)(ps:List (List UInt8)):(D.wr x ps).n=D.n:=Dsk.ws_n _ _ _ _
theorem Dsk.ws_len(ps:List (List UInt8)):∀(D:Dsk) (i j:Nat),((D.ws false i ps).ver j).length<=(D.ver j).length+1:=by
 induction ps with
 | nil=>intro D i j;simp[Dsk.ws]
 | cons q qs ih=>
  intro D i j;rcases AbX i j with h|h
  ·have:=ih (D.w1 false i q) (i+1) j
   rw[Dsk.w1_ver _ _ _ U] at this;exact this
  simp only[Dsk.ws];rw[Dsk.ws_ver _ _ _ _ _ (.inl U)];show ((BE D.ver i (D.ver i++[q])) j).length<=_;unfold BE;split
  ·rename_i e;subst e;simp
  omega
theorem Dsk.wr_len(D:Dsk)(x:Nat)(ps:List (List UInt8))(j:Nat):((D.wr x ps).ver j).length<=(D.ver j).length+1:=Dsk.ws_len ps {D with f2:=AZ D.f2} x j
theorem Ra{ps:List (List UInt8)}(h:∀p∈ps,p.length=256):∀k,(ps.take k).flatten=ps.flatten.take (k*256):=by
 induction ps with
 | nil=>intro k;simp
 | cons q qs ih=>
  intro k
  cases k with
  | zero=>simp
  | succ k=>
   have hq:=h q O;rw[Acy,Adk,Adk,ih (λp hp=>h p (by simp[hp])),AdK,AbJ (l:=q) U];rw[show (k+1)*256-q.length=k*256 from by omega]
theorem Rb{ps:List (List UInt8)}(h:∀p∈ps,p.length=256):∀k,(ps.drop k).flatten=ps.flatten.drop (k*256):=by
 induction ps with
 | nil=>intro k;simp
 | cons q qs ih=>
  intro k
  cases k with
  | zero=>simp
  | succ k=>
   have hq:=h q O;rw[Acx,Adk,ih (λp hp=>h p (by simp[hp])),Aco,Ab6 (l:=q) U,Ab3];rw[show (k+1)*256-q.length=k*256 from by omega]
theorem Tt{ps:List (List UInt8)}(h:∀p∈ps,p.length=256):ps.flatten.length=ps.length*256:=by
 induction ps with
 | nil=>rfl
 | cons q qs ih=>
  have hq:=h q O;rw[Adk,AbH,ih (λp hp=>h p (by simp[hp])),AbI];omega
theorem WV{e sq:Int}{ims:List Img}(h:∀m∈ims,m.Ok)(b:ims.length<=40):(∀p∈Bo e sq ims,p.length=256)/\(Bo e sq ims).length=1+ims.length:=by
 refine ⟨λp hp=>?_,by simp[Bo];omega⟩;rcases Acb.1 hp with rfl|hp
 ·exact sect_len (by rw[hdL_len];omega)
 obtain ⟨m,a,rfl⟩:=AbP.1 hp;exact sect_len (AcO (C4 (h m a).2.2))
theorem grow.rdB{e:TypeId}{b n c:Nat}{xs:List UInt8}{h:Hp}(q:grow e 1 (.slice (some ⟨b,0,none⟩) n c) n (xs.map u8) h):rdH 1 (.slice (some ⟨b,0,none⟩) n c) n (xs.map u8) h:=q.rd
theorem grow.sl{e:TypeId}{sz n:Nat}{v:Value}{xs:List Value}{h:Hp}(q:grow e sz v n xs h)(f:0<n):∃b c,v=.slice (some ⟨b,0,none⟩) n c/\n<=c/\c<=9223372036854775807:=by
 have a:=q.rd;rcases q.form with ⟨_,rfl⟩|⟨b,c,rfl,h⟩
 ·omega
 obtain ⟨_,_,e,_,d,_⟩:=a;cases e;exact ⟨b,c,Z,h,d⟩

def CM(D:Dsk)(s:Sup)(a:Int):Nat->List UInt8:=λj=>D.cont (ringAt s (a+j))
inductive Runs(D:Dsk)(s:Sup):Int->Int->Int->List Rc->Int->Int->Int->Prop
 | nil (a q u:Int):Runs D s a q u [] a q u
 | snoc {a q u a' q' u':Int} {rs:List Rc} {ims:List Img} :Runs D s a q u rs a' q' u'->u'<s.len->nextP (CM D s a') s.epoch q' (s.len-u') ims->Runs D s a q u (rs++[⟨q',ims⟩]) ((a'+(1+(ims.length:Int)))%s.len) (q'+1) (u'+(1+(ims.length:Int)))
theorem nextP.len{f:Nat->List UInt8}{e sq a:Int}{ims:List Img}(h:nextP f e sq a ims):1<=ims.length/\ims.length<=40/\1+(ims.length:Int)<=a:=by
 obtain ⟨b,_,_,d,c,_⟩:=h;have g:=b.2.2.2.1;have:ims.length=Bp (f 0):=by rw[c];simp
 omega
section
theorem CT{k:Nat}{x:Int}(c:0<=x)(d:x<9223372036854775808)(a:x<256^k):Be (Af k x)=x:=by
 obtain ⟨n,rfl⟩:=AdC c;have b:Eb (Af k (n:Int))=n:=WO k (by exact_mod_cast a);unfold Be;rw[b];exact AcT _ U
theorem HN(a b c:List UInt8){p k:Nat}(hp:p=a.length)(d:k=b.length):((a++b++c).drop p).take k=b:=by
 subst hp d;rw[AbK,AdE Z,Acs Z]
theorem Tu(ns:List Int):∀{j:Nat} {x:Int},ns[j]?=some x->((ns.flatMap (Af 4)).drop (4*j)).take 4=Af 4 x:=by
 induction ns with
 | nil=>intro j x h;simp at h
 | cons y ys ih=>
  intro j x h
  cases j with
  | zero=>
   simp at h;subst h;rw[Acl,Aeh,Ab1,Acs (Ae 4 y)]
  | succ j=>
   rw[Acl,show 4*(j+1)=(Af 4 y).length+4*j from by rw[Ae];omega,Aco];rw[Ab6 U,Ab3,show (Af 4 y).length+4*j-(Af 4 y).length=4*j from by omega];exact ih (by simpa using h)
variable{e sq:Int}{ims:List Img}
theorem Mn(e sq:Int)(ims:List Img):Bv e sq ims=[80,76,79,71]++Af 8 e++(Af 8 sq++Af 4 ((AC (AF e sq ims)).toNat:Int)++Af 2 ((ims.map Img.num).length:Int)++(ims.map Img.num).flatMap (Af 4)):=by
 simp[Bv]
theorem Py(b:ims.length<=40)(h:0<=e/\e<=1099511627776):B7 (sect (Bv e sq ims))=e:=by
 have a:=hdL_len e sq ims;unfold B7;rw[BM U U,Mn,HN _ _ _ O (by simp[Ae])];exact CT h.1 U U
theorem Pz(b:ims.length<=40)(h:0<=sq/\sq<=1099511627776):B8 (sect (Bv e sq ims))=sq:=by
 have a:=hdL_len e sq ims;unfold B8;rw[BM U U,show Bv e sq ims=([80,76,79,71]++Af 8 e)++Af 8 sq++(Af 4 ((AC (AF e sq ims)).toNat:Int)++Af 2 ((ims.map Img.num).length:Int)++(ims.map Img.num).flatMap (Af 4)) from by simp[Bv],HN _ _ _ (by simp[Ae]) (by simp[Ae])];exact CT h.1 U U
theorem Zg(b:ims.length<=40):Di (sect (Bv e sq ims))=AC (AF e sq ims):=by
 have a:=hdL_len e sq ims;have c:=(AC (AF e sq ims)).toNat_lt;unfold Di;rw[BM U U,show Bv e sq ims=([80,76,79,71]++Af 8 e++Af 8 sq)++Af 4 ((AC (AF e sq ims)).toNat:Int)++(Af 2 ((ims.map Img.num).length:Int)++(ims.map Img.num).flatMap (Af 4)) from by simp[Bv],HN _ _ _ (by simp[Ae]) (by simp[Ae])];rw[CT U U U];exact YW _
theorem Mp(b:ims.length<=40):Bp (sect (Bv e sq ims))=ims.length:=by
 have a:=hdL_len e sq ims;unfold Bp;rw[BM U U,show Bv e sq ims=([80,76,79,71]++Af 8 e++Af 8 sq++Af 4 ((AC (AF e sq ims)).toNat:Int))++Af 2 ((ims.map Img.num).length:Int)++((ims.map Img.num).flatMap (Af 4)) from by simp[Bv],HN _ _ _ (by simp[Ae]) (by simp[Ae])];rw[AbN,CT U U U];rfl
theorem Tv(g:ims.length<=40){j:Nat}{m:Img}(b:ims[j]?=some m)(f:m.Ok):D4 (sect (Bv e sq ims)) j=m.num:=by
 have d:=hdL_len e sq ims;have c:=(AbE.1 b).1;unfold D4;rw[BM U U,show Bv e sq ims=([80,76,79,71]++Af 8 e++Af 8 sq++Af 4 ((AC (AF e sq ims)).toNat:Int)++Af 2 ((ims.map Img.num).length:Int))++((ims.map Img.num).flatMap (Af 4)) from by simp[Bv]];have a:([80,76,79,71]++Af 8 e++Af 8 sq++Af 4 ((AC (AF e sq ims)).toNat:Int)++Af 2 ((ims.map Img.num).length:Int)).length=26:=by simp only[AbH,Ae];rfl
 rw[Aco,Ab6 (by rw[a];omega),Ab3,a,show 26+4*j-26=4*j from by omega];rw[Tu _ (x:=m.num) (by simp[b])];have:=f.1;exact CT U U U
theorem Zh(a:1<=ims.length/\ims.length<=40)(h:0<=e/\e<=1099511627776)(hs:0<=sq/\sq<=1099511627776)(b:∀m∈ims,m.Ok):Hv (sect (Bv e sq ims)):=by
 have d:=hdL_len e sq ims;have i:=Py (sq:=sq) a.2 h;have g:=Pz (e:=e) a.2 hs;have f:=Mp (e:=e) (sq:=sq) a.2;unfold B7 at i;unfold B8 at g;refine ⟨⟨Hu U,?_⟩,by rw[i];exact h,by rw[g];exact hs,by rw[f];exact a,λj c=>?_,?_⟩
 ·have:=BM (l:=Bv e sq ims) U (p:=0) (k:=4) U
  rw[Ab1,Ab1] at this;rw[this,Mn,AbK];rfl
 ·rw[f] at c
  have n:=AbF c;rw[Tv a.2 n (b _ (Ac1 c))];exact (b _ (Ac1 c)).1
 rw[f,<-d];exact Lh U
theorem Mq(e sq:Int)(m:Img):Bk e sq m=Af 1 m.kind++Af 2 m.num++(Af 4 e++Af 5 sq++m.body):=by simp[Bk]
theorem JY{m:Img}(a:m.Ok)(o:0<=e/\e<4294967296)(hs:0<=sq/\sq<1099511627776):Ib (sect (Bk e sq m))/\Fa (sect (Bk e sq m))=e/\Fb (sect (Bk e sq m))=sq/\B0 (sect (Bk e sq m))=m:=by
 have f:=a.2.2;have h:=C4 (e:=e) (sq:=sq) f;have g:=a.1;have d:=a.2.1;have c:Be ((sect (Bk e sq m)).take 1)=m.kind:=by
  have:=BM (l:=Bk e sq m) U (p:=0) (k:=1) U;rw[Ab1,Ab1] at this;rw[this,Mq,AbK,Acs (by rw[Ae])];exact CT U U U
 have b:Be (((sect (Bk e sq m)).drop 1).take 2)=m.num:=by
  rw[BM U U,Mq,HN _ _ _ (by simp[Ae]) (by simp[Ae])];exact CT U U U
 have i:Be (((sect (Bk e sq m)).drop 3).take 4)=e:=by
  rw[BM U U,show Bk e sq m=(Af 1 m.kind++Af 2 m.num)++Af 4 e++(Af 5 sq++m.body) from by simp[Bk],HN _ _ _ (by simp[Ae]) (by simp[Ae])];exact CT U U U
 have n:Be (((sect (Bk e sq m)).drop 7).take 5)=sq:=by
  rw[BM U U,show Bk e sq m=(Af 1 m.kind++Af 2 m.num++Af 4 e)++Af 5 sq++m.body from by simp[Bk],HN _ _ _ (by simp[Ae]) (by simp[Ae])];exact CT U U U
 have j:((sect (Bk e sq m)).drop 12).take 240=m.body:=by
  rw[BM U U,show Bk e sq m=(Af 1 m.kind++Af 2 m.num++Af 4 e++Af 5 sq)++m.body++[] from by simp[Bk],HN _ _ _ (by simp[Ae]) U]
 refine ⟨⟨Hu U,by rw[c];exact d,by rw[b];exact g⟩,i,n,?_⟩;unfold B0;rw[c,b,j]
theorem Mr{F:Nat->List UInt8}{g:Int}(k:1<=ims.length/\ims.length<=40)(f:∀m∈ims,m.Ok)(r:0<=e/\e<4294967296)(hs:0<=sq/\sq<1099511627776)(t:1+(ims.length:Int)<=g)
  (s:∀(j:Nat) (p:List UInt8),(Bo e sq ims)[j]?=some p->F j=p):nextP F e sq g ims:=by
 have h:F 0=sect (Bv e sq ims):=s 0 _ Z;have l:=Mp (e:=e) (sq:=sq) k.2;have n:∀j (i:j<ims.length),F (1+j)=sect (Bk e sq ims[j]):=λj i=>s (1+j) _ (by
  rw[Ady];simp[Bo,i])
 refine ⟨?_,?_,?_,?_,?_,?_,?_⟩
 ·rw[h];exact Zh k U U f
 ·rw[h];exact Py k.2 U
 ·rw[h];exact Pz k.2 U
 ·rw[h,l];exact t
 ·rw[h,l]
  apply Aea
  ·simp
  intro j o q;simp only[AeC,List.getElem_range];rw[n j o,(JY (f _ (Ac1 o)) r hs).2.2.2]
 ·intro j i
  rw[h,l] at i;obtain ⟨a,b,c,d⟩:=JY (f _ (Ac1 i)) r hs;rw[n j i];refine ⟨a,b,c,?_⟩;rw[d,h,Tv k.2 (AbF i) (f _ (Ac1 i))]
 rw[h,l,Zg k.2];congr 1;unfold AF;rw[List.flatMap_def,List.flatMap_def];congr 1;apply Aea
 ·simp
 intro j o q;simp only[AeC,List.getElem_range];exact n j (by simpa using q)
end
theorem WW(ps:List (List UInt8)):∀(D:Dsk) (x i:Nat),(D.ws false x ps).cont i=(if x<=i then ps[i-x]? else none).getD (D.cont i):=by
 induction ps with
 | nil=>intro D x i;simp[Dsk.ws]
 | cons q qs ih=>
  intro D x i;simp only[Dsk.ws];rw[ih];have a:(D.w1 false x q).cont i=if i=x then q else D.cont i:=by
   show ((BE D.ver x (D.ver x++[q])) i).getLast?.getD (D.dur i)=_;unfold BE;split
   ·rename_i h;subst h;simp
   rfl
  rw[a];rcases Adj i x with h|h|h
  ·rw[if_neg (show ¬x+1<=i by omega),if_neg (show ¬i=x by omega),if_neg (show ¬x<=i by omega)]
  ·subst h
   rw[if_neg (show ¬i+1<=i by omega),if_pos Z,if_pos (Ab9 i),AeE];rfl
  rw[if_pos (show x+1<=i by omega),if_neg (show ¬i=x by omega),if_pos (show x<=i by omega),show i-x=(i-(x+1))+1 from by omega,Ab4]
theorem wr_cont(ps:List (List UInt8))(D:Dsk)(x i:Nat):(D.wr x ps).cont i=(if x<=i then ps[i-x]? else none).getD (D.cont i):=WW ps {D with f2:=AZ D.f2} x i

theorem ring_low{s:Sup}{a:Int}{j:Nat}(hs:0<=s.start)(b:0<=a)(h:a+j<s.len):ringAt s (a+j)=(s.start+a).toNat+j:=by
 unfold ringAt;rw[AcG U h];omega
theorem ring_high{s:Sup}{a:Int}{j:Nat}(hs:0<=s.start)(b:s.len<=a+j)(h:a+j<s.len+s.len):ringAt s (a+j)=s.start.toNat+(a+j-s.len).toNat:=by
 unfold ringAt;rw[<-Int.sub_emod_right (a+j) s.len,AcG U U];omega
theorem Jg{s:Sup}(a b:Int):ringAt s (a%s.len+b)=ringAt s (a+b):=by
 unfold ringAt;rw[Aew]
theorem Hx{s:Sup}{h:Int}{i j:Nat}(hs:0<=s.start)(c:0<=h/\h<s.len)(f:(i:Int)<s.len)(d:(j:Int)<s.len)(e:ringAt s (h+i)=ringAt s (h+j)):i=j:=by
 rcases Int.lt_or_le (h+i) s.len with a|a<;>rcases Int.lt_or_le (h+j) s.len with b|b
 ·rw[ring_low hs c.1 a,ring_low hs c.1 b] at e;omega
 ·rw[ring_low hs c.1 a,ring_high hs b U] at e;omega
 ·rw[ring_high hs a U,ring_low hs c.1 b] at e;omega
 rw[ring_high hs a U,ring_high hs b U] at e;omega
def EJ(D:Dsk)(s:Sup)(a:Int)(k:Nat)(ps:List (List UInt8)):Dsk:=if k<ps.length then (D.wr (s.start+a).toNat (ps.take k)).wr s.start.toNat (ps.drop k) else D.wr (s.start+a).toNat (ps.take k)
theorem WX{D:Dsk}{s:Sup}{a:Int}{k:Nat}{ps:List (List UInt8)}(hs:0<=s.start)(f:0<=a/\a<s.len)(g:(ps.length:Int)<=s.len)(i:(k:Int)=min (ps.length:Int) (s.len-a)){j:Nat}{p:List UInt8}(c:ps[j]?=some p):(EJ D s a k ps).cont (ringAt s (a+j))=p:=by
 have e:=(AbE.1 c).1;rcases AbX j k with h|h
 ·have b:ringAt s (a+j)=(s.start+a).toNat+j:=ring_low hs f.1 U
  have d:(D.wr (s.start+a).toNat (ps.take k)).cont ((s.start+a).toNat+j)=p:=by
   rw[wr_cont,if_pos U,show (s.start+a).toNat+j-(s.start+a).toNat=j from by omega,Acn,if_pos h,c];rfl
  unfold EJ;split
  ·rw[b,wr_cont]
   have:(if s.start.toNat<=(s.start+a).toNat+j then (ps.drop k)[(s.start+a).toNat+j-s.start.toNat]? else none)=none:=by
    rw[if_pos U];exact Ab5 (by rw[Acc];omega)
   rw[this];exact d
  rw[b];exact d
 have b:ringAt s (a+j)=s.start.toNat+(a+j-s.len).toNat:=ring_high hs U U;unfold EJ;rw[if_pos U,b,wr_cont,if_pos U,show s.start.toNat+(a+j-s.len).toNat-s.start.toNat=j-k from by omega,AcH,show k+(j-k)=j from by omega,c];rfl
theorem app_old{D:Dsk}{s:Sup}{a:Int}{k:Nat}{ps:List (List UInt8)}(hs:0<=s.start)(e:0<=a/\a<s.len)(g:(ps.length:Int)<=s.len)(f:(k:Int)=min (ps.length:Int) (s.len-a)){i:Nat}(c:∀j:Nat,j<ps.length->i≠ringAt s (a+j)):(EJ D s a k ps).cont i=D.cont i:=by
 have b:(D.wr (s.start+a).toNat (ps.take k)).cont i=D.cont i:=by
  rw[wr_cont];split
  ·rename_i h
   rw[Ab5];rfl;rw[AbM];rcases AbX (i-(s.start+a).toNat) (min k ps.length) with q|q
   ·exact absurd (by rw[ring_low hs e.1 U];omega) (c (i-(s.start+a).toNat) U)
   exact q
  rfl
 unfold EJ;split
 ·rw[wr_cont]
  split
  ·rename_i d h
   rw[Ab5];exact b;rw[Acc];rcases AbX (i-s.start.toNat) (ps.length-k) with q|q
   ·exact absurd (by rw[ring_high hs U U];omega) (c (k+(i-s.start.toNat)) U)
   exact q
  exact b
 exact b

theorem Tw{F:Nat->List UInt8}{e sq c:Int}{a b:List Img}(f:nextP F e sq c a)(d:nextP F e sq c b):a=b:=by
 rw[f.2.2.2.2.1,d.2.2.2.2.1]
theorem Runs.pos{D:Dsk}{s:Sup}{h b:Int}{rs:List Rc}{a q u:Int}(c:0<=h/\h<s.len)(r:Runs D s h b 0 rs a q u):a=(h+u)%s.len/\q=b+rs.length/\0<=u/\u<=s.len/\(rs.length:Int)<=u:=by
 induction r with
 | nil=>exact ⟨by rw[AeF,AcG c.1 c.2],by simp,by omega,by omega,by simp⟩
 | snoc r hlt hn ih=>
  obtain ⟨e,d,f,i,g⟩:=ih;have j:=hn.len;refine ⟨?_,by rw[d];simp;omega,by omega,by omega,by simp;omega⟩;rw[e,Aew,Int.add_assoc]
theorem Lk:¬Hv (List.replicate 256 0):=λh=>by
 have:=h.1.2;simp at this
end Go.Proofs.YthbbejpbkglmlaaGreatDoor
