/-
  Steps to: A pool is filled, page by page, and given back. No condition.
-/
import Derived.Test.YthbbejpbkglmlaaGreatDoorCards
import Derived.Test.YthbbejpbkglmlaaGreatDoorTie
import Derived.WalkKit
import Derived.WalkSpells
import Derived.Deep.Quiet
import Derived.KernelRfl
import Derived.IntWalk
import Derived.Maps.AppendAt
import Derived.Laws.AppendOwnNone
import Derived.Laws.CopyRow
import Derived.StillTail
import Derived.Deep.RegionHeld
import Derived.Laws.IdiomStrings
import Derived.Laws.BytesArg
import Derived.Laws.OwnMore
import Derived.Lib.Strings
import Derived.ArgAppend
import Derived.RangeFuncLeaves
import Derived.RangeFuncRecord
import Derived.RangeFuncCalls
import Derived.RangeFuncSeq
import Derived.OrdersIn
import Derived.TacticsIn
import Derived.Laws.IdiomRangeMap
import Derived.Defers
import Derived.Laws.LoneSync
import Derived.LoopN
import Derived.Test.YthbbejpbkglmlaaGreatDoorRows
import Derived.Test.YthbbejpbkglmlaaGreatDoorProg
import Derived.Shelf.Sort.Plain
import Derived.Shelf.Slices.In.SortNone
import Derived.Lib.TrailingZeros
import Derived.DataReads
import Derived.ProofKit
import Derived.OpenShut
import Derived.Lib.SmallJoins
import Derived.Deep.DeepHandedRow
import Derived.Lib.LaidTab
set_option maxRecDepth 100000
set_option linter.unusedSimpArgs false
set_option linter.unusedVariables false
open Go.Proofs.Tryz
namespace Go.Proofs.YthbbejpbkglmlaaGreatDoor
open Go.RowKit
section
theorem Z{α : Sort _}{a : α}: a=a := rfl
theorem U {p : Prop} (h : p := by omega) : p := h
theorem J {p : Prop} (h : p := by kernel_rfl) : p := h
theorem O {p : Prop} (h : p := by simp) : p := h
abbrev XV:=@List.getElem?_eq_some_iff
abbrev XW:=@List.getElem?_eq_getElem
abbrev XX:=@List.mem_of_getElem?
abbrev XY:=@List.length_append
abbrev XZ:=@List.length_cons
abbrev X0:=@List.take_of_length_le
abbrev X1:=@List.length_take
abbrev X2:=@Option.some.injEq
abbrev X3:=@List.append_assoc
abbrev X4:=@List.length_nil
abbrev X5:=@List.length_replicate
abbrev X6:=@List.mem_map
abbrev X7:=@Result.andThen_ok
abbrev X8:=@List.take_append_of_le_length
abbrev X9:=@List.length_map
abbrev Ya:=@List.getElem?_append_right
abbrev Yb:=@List.getElem?_map
abbrev Yc:=@List.getElem?_append_left
abbrev Yd:=@Sem.run_bind
abbrev Ye:=@List.take_add_one
abbrev Yf:=@Bool.eq_iff_iff
abbrev Yg:=@Nat.lt_or_ge
abbrev Yh:=@Sem.run_pure
abbrev Yi:=@Nat.zero_le
abbrev Yj:=@List.map_append
abbrev Yk:=@List.drop_of_length_le
abbrev Yl:=@Bool.and_eq_true
abbrev Ym:=@List.drop_zero
abbrev Yn:=@List.map_cons
abbrev Yo:=@List.nil_append
abbrev Yp:=@Nat.le_refl
abbrev Yq:=@List.getElem?_cons_succ
abbrev Yr:=@List.length_drop
abbrev Ys:=@List.getElem?_eq_none
abbrev Yt:=@List.mem_append
abbrev Yu:=@Option.map_some
abbrev Yv:=@List.map_toArray
abbrev Yw:=@Array.getElem?_eq_none
abbrev Yx:=@List.drop_append_of_le_length
abbrev Yy:=@List.getElem?_take
abbrev Yz:=@Nat.min_eq_left
abbrev YA:=@List.mem_singleton
abbrev YB:=@Int.toNat_natCast
abbrev YC:=@List.getElem?_of_mem
abbrev YD:=@List.drop_append
abbrev YE:=@List.take_take
abbrev YF:=@List.mem_of_mem_take
abbrev YG:=@List.take_append_drop
abbrev YH:=@Option.isSome_iff_exists
abbrev YI:=@Array.getElem?_eq_some_iff
abbrev YJ:=@List.append_nil
abbrev YK:=@List.take_left'
abbrev YL:=@List.flatMap_cons
abbrev YM:=@List.getElem?_toArray
abbrev YN:=@List.getElem?_drop
abbrev YO:=@List.mem_cons
abbrev YP:=@List.mem_map_of_mem
abbrev YQ:=@Nat.mul_one
abbrev YR:=@List.getElem?_set_self
abbrev YS:=@List.take_length
abbrev YT:=@List.getElem?_cons_zero
abbrev YU:=@List.length_set
abbrev YV:=@List.drop_eq_getElem_cons
abbrev YW:=@Bool.false_eq_true
abbrev YX:=@Option.map_none
abbrev YY:=@Nat.le_of_eq
abbrev YZ:=@List.getElem?_set
abbrev Y0:=@List.ext_getElem?
abbrev Y1:=@List.mem_range
abbrev Y2:=@List.map_nil
abbrev Y3:=@Nat.mod_eq_of_lt
abbrev Y4:=@List.nodup_append
abbrev Y5:=@Int.emod_eq_of_lt
abbrev Y6:=@Nat.eq_of_beq_eq_true
abbrev Y7:=@IntWalk.i64_in
abbrev Y8:=@List.nodup_cons
abbrev Y9:=@List.set_eq_take_append_cons_drop
abbrev Zb:=@Nat.add_sub_cancel_left
abbrev Zd:=@List.getElem?_set_ne
abbrev Ze:=@Nat.zero_add
abbrev Zg:=@Array.getElem?_setIfInBounds_ne
abbrev Zh:=@Nat.shiftRight_eq_div_pow
abbrev Zi:=@Nat.lt_trichotomy
abbrev Zj:=@List.foldl_append
abbrev Zk:=@List.pairwise_map
abbrev Zm:=@List.toList_toArray
abbrev Zn:=@List.take_succ_cons
abbrev Zo:=@List.drop_succ_cons
abbrev Zp:=@List.map_map
abbrev Zq:=@List.getD_eq_getElem?_getD
abbrev Zs:=@Int.emod_lt_of_pos
abbrev Zt:=@List.length_singleton
abbrev Zu:=@Array.getElem?_modify
abbrev Zv:=@Nat.mul_le_mul_right
abbrev Zw:=@List.mem_iff_getElem
abbrev Zx:=@List.mem_cons_of_mem
abbrev Zy:=@BitVec.toNat_ushiftRight
abbrev Zz:=@List.flatten_cons
abbrev ZA:=@Nat.add_assoc
abbrev ZB:=@List.map_congr_left
abbrev ZC:=@UInt32.toNat_inj
abbrev ZD:=@List.cons_append
abbrev ZE:=@List.getElem_mem
abbrev ZF:=@BitVec.toNat_and
abbrev ZG:=@List.getElem?_eraseIdx
abbrev ZH:=@List.map_replicate
abbrev ZI:=@Ne.symm
abbrev ZJ:=@Int.emod_nonneg
abbrev ZK:=@List.singleton_append
abbrev ZL:=@List.mem_of_mem_drop
abbrev ZM:=@Nat.mul_add
abbrev ZN:=@UInt32.xor_assoc
abbrev ZO:=@Nat.mul_le_mul_left
abbrev ZP:=@List.drop_replicate
abbrev ZQ:=@Int.eq_ofNat_of_zero_le
abbrev ZR:=@List.length_eq_zero_iff
abbrev ZS:=@List.map_take
abbrev ZT:=@List.range_succ
abbrev ZU:=@Nat.ne_of_beq_eq_false
abbrev ZV:=@Option.map_eq_some_iff
abbrev ZW:=@List.eq_nil_of_length_eq_zero
abbrev ZX:=@List.drop_take
abbrev ZY:=@Nat.add_comm
abbrev ZZ:=@List.set_set
abbrev Z6:=@List.take_append
abbrev Z7:=@Decidable.of_not_not
abbrev Z8:=@Nat.add_mul_div_left
abbrev Z9:=@BitVec.toNat_add
abbrev Aaa:=@Function.comp_apply
abbrev Aab:=@Oper.upon_value
abbrev Aac:=@Array.getElem?_eq_getElem
abbrev Aad:=@UInt8.toNat_inj
abbrev Aae:=@Nat.add_mul_mod_self_left
abbrev Aaf:=@Nat.two_pow_pos
abbrev Aag:=@Classical.byContradiction
abbrev Aah:=@Bool.false_ne_true
abbrev Aai:=@Nat.add_zero
abbrev Aaj:=@Nat.eq_zero_or_pos
abbrev Aak:=@BitVec.getLsbD_and
abbrev Aal:=@BitVec.getLsbD_xor
abbrev Aam:=@BitVec.eq_of_getLsbD_eq
abbrev Aan:=@List.length_range
abbrev Aao:=@Option.bind_some
abbrev Aap:=@List.all_eq_true
abbrev Aaq:=@List.ext_getElem
abbrev Aar:=@List.mem_flatMap
abbrev Aas:=@Nat.div_eq_of_lt
abbrev Aat:=@BitVec.getLsbD_twoPow
abbrev Aau:=@BitVec.eq_of_toNat_eq
abbrev Aav:=@List.cons.injEq
abbrev Aaw:=@Calls.mono
abbrev Aax:=@List.map_set
abbrev Aay:=@List.drop_left'
abbrev Aaz:=@BitVec.ofInt_natCast
abbrev AaA:=@Nat.mul_zero
abbrev AaB:=@Option.some.inj
abbrev AaC:=@BitVec.getLsbD_of_ge
abbrev AaD:=@Nat.and_two_pow_sub_one_eq_mod
abbrev AaE:=@Array.getElem?_push
abbrev AaF:=@UInt32.toBitVec_xor
abbrev AaG:=@List.take_set_of_le
abbrev AaH:=@List.find?_eq_none
abbrev AaI:=@Int.tmod_lt_of_pos
abbrev AaJ:=@Array.getElem?_append_left
abbrev AaK:=@Prod.mk.injEq
abbrev AaL:=@Int.tdiv_eq_ediv_of_nonneg
abbrev AaM:=@Int.tmod_eq_emod_of_nonneg
abbrev AaN:=@Addr.mk.injEq
abbrev AaO:=@UInt32.toBitVec_shiftRight
abbrev AaP:=@Int.emod_add_emod
abbrev AaQ:=@Decidable.not_not
abbrev AaR:=@Int.shiftRight_eq_div_pow
abbrev AaS:=@List.getLast?_eq_getElem?
abbrev AaT:=@List.mem_take_iff_getElem
abbrev AaU:=@UInt32.toNat_and
abbrev AaV:=@List.getElem_map
abbrev AaW:=@Nat.sub_self
abbrev AaX:=@Int.add_zero
abbrev AaY:=@Option.getD_some
abbrev AaZ:=@Nat.le_trans
abbrev Aa0:=@Oper.upon_enter
abbrev Aa1:=@Nat.mul_eq_zero
abbrev Aa2:=@UInt32.xor_self
abbrev Aa3:=@UInt32.zero_xor
abbrev Aa4:=@List.mem_filter
abbrev Aa5:=@List.map_const'
abbrev Aa6:=@Int.tmod_nonneg
abbrev Aa7:=@List.take_zero
abbrev Aa8:=@List.drop_drop
abbrev Aa(x:Int):Value:=.int .i64 x
abbrev V (b:Nat):Value:=.pointer (some ⟨b,0,none⟩)
def B1:List (Nat×Value)->Nat->Option Value
 | [],_=>none
 | (t,v)::l,k=>bif Nat.beq t k then some v else B1 l k
theorem U9{d t:Nat}(h:d≠t):Nat.beq d t=false:=by
 cases hb:Nat.beq d t with
 | false=>rfl
 | true=>exact absurd (Y6 hb) h
structure Fr(n:Nat)(ds:List Deferred)(L:List (Nat×Value))(a:Act):Prop where
 size:a.tmps.size=n
 defers:a.defers=ds
 get:∀t v,B1 L t=some v->a.tmps[t]?=some v
theorem Fr.put{n:Nat}{ds:List Deferred}{L:List (Nat×Value)}{a:Act}(h:Fr n ds L a)(d:Nat)(v:Value)(f:Nat.blt d n=true):Fr n ds ((d,v)::L) (a.put (some d) v):=by
 have c:d<n:=by simpa using f
 refine ⟨by simp[Act.put,h.size],by simp[Act.put,h.defers],λt u b=>?_⟩;simp only[B1] at b;by_cases e:d=t
 ·subst e
  have:Nat.beq d d=true:=by simp
  rw[this] at b;simp only[cond_true,X2] at b;subst b;simp[Act.put,h.size,c]
 rw[U9 e] at b;simp only[cond_false] at b;simp[Act.put,Zg e,h.get t u b]
theorem Fr.nil{n:Nat}{ds:List Deferred}{L:List (Nat×Value)}{a:Act}(h:Fr n ds L a):Fr n ds [] a:=⟨h.size,h.defers,λt v b=>by simp[B1] at b⟩
theorem Fr.cons{n:Nat}{ds:List Deferred}{L L':List (Nat×Value)}{a:Act}(h:Fr n ds L a)(h':Fr n ds L' a)(t:Nat)(v u:Value)(b:B1 L t=some u)(e:u=v):Fr n ds ((t,v)::L') a:=by
 refine ⟨h.size,h.defers,λs x hs=>?_⟩;simp only[B1] at hs
 cases hb:Nat.beq t s with
 | true=>rw[hb] at hs;simp at hb;subst hb;simp at hs;subst hs;subst e;exact h.get t u b
 | false=>rw[hb] at hs;exact h'.get s x (by simpa using hs)
theorem Fr.co{n:Nat}{ds:List Deferred}{L L':List (Nat×Value)}{a:Act}{t:Nat}{v u:Value}(h:Fr n ds L a)(b:B1 L t=some u)(e:u=v)(h':Fr n ds L' a):Fr n ds ((t,v)::L') a:=h.cons h' t v u b e
theorem Fr.all{n:Nat}{ds:List Deferred}{L:List (Nat×Value)}{a:Act}(h:Fr n ds L a):∀{L':List (Nat×Value)},L'.map (λe=>B1 L e.1)=L'.map (λe=>some e.2)->Fr n ds L' a
 | [],_=>h.nil
 | e::L',q=>by
  simp only[Yn,Aav] at q;exact h.cons (h.all q.2) e.1 e.2 e.2 q.1 Z
theorem Fr.cz{n:Nat}{ds:List Deferred}{L L':List (Nat×Value)}{a:Act}{t:Nat}{v u:Value}(h:Fr n ds L a)(b:B1 L t=some u:=by exact Z)(e:u=v:=by go_num)(q:L'.map (λe=>B1 L e.1)=L'.map (λe=>some e.2):=by exact Z):Fr n ds ((t,v)::L') a:=h.co b e (h.all q)
theorem fr_z {n:Nat} {ds:List Deferred} {L L':List (Nat×Value)} {t:Nat} {v u:Value} (b:B1 L t=some u:=by exact Z) (e:u=v:=by go_num) (q:L'.map (λe=>B1 L e.1)=L'.map (λe=>some e.2):=by exact Z):∀a,Fr n ds L a->Fr n ds ((t,v)::L') a:=λ_ h=>h.co b e (h.all q)
theorem Fr.upd{n:Nat}{ds:List Deferred}{L:List (Nat×Value)}{a:Act}(h:Fr n ds L a)(t:Nat){v u:Value}(b:B1 L t=some u)(e:u=v):Fr n ds ((t,v)::L) a:=h.cons h t v u b e
def ev(L:List (Nat×Value)):Operand->Option Value
 | .tmp t=>B1 L t
 | .const v=>some v
 | .global g=>some (.pointer (some ⟨g,0,none⟩))
 | .func f=>some (.func (.func f) #[] #[])
theorem Fr.ev{n:Nat}{ds:List Deferred}{L:List (Nat×Value)}{a:Act}(h:Fr n ds L a){x:Operand}{v:Value}(b:ev L x=some v):a.eval x=v:=by
 cases x with
 | tmp t=>simp only[YthbbejpbkglmlaaGreatDoor.ev] at b;simp[Act.eval,h.get t v b]
 | const u=>simp only[YthbbejpbkglmlaaGreatDoor.ev,X2] at b;simp[Act.eval,b]
 | global g=>simp only[YthbbejpbkglmlaaGreatDoor.ev,X2] at b;simp[Act.eval,b]
 | func f=>simp only[YthbbejpbkglmlaaGreatDoor.ev,X2] at b;simp[Act.eval,b]
def evs(L:List (Nat×Value)):List Operand->Option (List Value)
 | []=>some []
 | x::xs=>match YthbbejpbkglmlaaGreatDoor.ev L x,evs L xs with
  | some v,some vs=>some (v::vs)
  | _,_=>none
theorem Fr.evs{n:Nat}{ds:List Deferred}{L:List (Nat×Value)}{a:Act}(h:Fr n ds L a):∀{xs:List Operand} {vs:List Value},evs L xs=some vs->xs.map a.eval=vs
 | [],vs,e=>by simp only[YthbbejpbkglmlaaGreatDoor.evs,X2] at e;subst e;rfl
 | x::xs,vs,e=>by
  simp only[YthbbejpbkglmlaaGreatDoor.evs] at e
  cases h1:YthbbejpbkglmlaaGreatDoor.ev L x with
  | none=>rw[h1] at e;cases e
  | some v=>
   cases h2:YthbbejpbkglmlaaGreatDoor.evs L xs with
   | none=>rw[h1,h2] at e;cases e
   | some us=>
    rw[h1,h2] at e;simp only[X2] at e;subst e;simp[h.ev h1,h.evs h2]
def first:Nat->List Value->List (Nat×Value)
 | _,[]=>[]
 | k,v::vs=>(k,v)::first (k+1) vs
theorem IR:∀(vs:List Value) (k t:Nat) (v:Value),B1 (first k vs) t=some v->k<=t/\vs[t-k]?=some v
 | [],_,_,_,h=>by simp[first,B1] at h
 | u::us,k,t,v,h=>by
  simp only[first,B1] at h
  cases hb:Nat.beq k t with
  | true=>rw[hb] at h;simp at hb h;subst hb;subst h;simp
  | false=>
   rw[hb] at h;have:=IR us (k+1) t v (by simpa using h);refine ⟨by omega,?_⟩;rw[show t-k=(t-(k+1))+1 from by omega];simpa using this.2
theorem Fr.start(args:List Value)(n:Nat)(h:args.length<=n):Fr n [] (first 0 args) {tmps:=args.toArray++Array.replicate (n-args.toArray.size) undef,defers:=[]} :=by
 refine ⟨by simp;omega,Z,λt v b=>?_⟩;have:=(IR args 0 t v b).2;simp only[Nat.sub_zero] at this;have a:t<args.length:=by
  rcases Yg t args.length with h|h
  ·exact h
  rw[Ys h] at this;cases this
 rw[AaJ (by simpa using a)];simpa using this

def Qp(N:Act->World->Prop)(X:Nat->Act->World->Prop)(R:Act->World->Prop):Exit->Act->World->Prop
 | .normal,a,w=>N a w
 | .exit id,a,w=>X id a w
 | .ret,a,w=>R a w
 | _,_,_=>False
def GW:Nat->Act->World->Prop:=λ_ _ _=>False
def upd(X:Nat->Act->World->Prop)(id:Nat)(N:Act->World->Prop):Nat->Act->World->Prop:=λj a w=>if j=id then N a w else X j a w
section
variable{P:Program}{N R:Act->World->Prop}{X:Nat->Act->World->Prop}{a:Act}{w:World}
theorem WD{x y:Code}(h:x.wp P (Qp (λa w=>y.wp P (Qp N X R) a w) X R) a w):(Code.seq x y).wp P (Qp N X R) a w:=
 wp_seq (wp_mono h λe a w q=>by cases e<;>exact q)
theorem Va(h:N a w):Code.skip.wp P (Qp N X R) a w:=wp_skip h
theorem Vb{id:Nat}(h:X id a w):(Code.exit id).wp P (Qp N X R) a w:=wp_exit h
theorem WE(h:R a w):Code.ret.wp P (Qp N X R) a w:=wp_ret h
theorem Tn{id:Nat}{c:Code}(h:c.wp P (Qp N (upd X id N) R) a w):(Code.block id c).wp P (Qp N X R) a w:=
 wp_block (wp_mono h λe a w q=>by
  cases e<;>exact q)
theorem Vc{id:Nat}(h:N a w):upd X id N id a w:=by simp only[upd,if_true];exact h
theorem WF{id j:Nat}{M:Act->World->Prop}(b:Nat.beq j id=false)(h:X j a w):upd X id M j a w:=by
 have:j≠id:=ZU b;simp only[upd,if_neg this];exact h
theorem Oo{n:Nat}{ds:List Deferred}{L:List (Nat×Value)}(d:Fr n ds L a){c:Operand}{x y:Code}(b:ev L c=some (.bool true))(h:x.wp P (Qp N X R) a w):(Code.cond c x y).wp P (Qp N X R) a w:=wp_cond_true (d.ev b) h
theorem Mw{n:Nat}{ds:List Deferred}{L:List (Nat×Value)}(d:Fr n ds L a){c:Operand}{x y:Code}(b:ev L c=some (.bool false))(h:y.wp P (Qp N X R) a w):(Code.cond c x y).wp P (Qp N X R) a w:=wp_cond_false (d.ev b) h
theorem Oq{n:Nat}{ds:List Deferred}{L:List (Nat×Value)}(e:Fr n ds L a){c:Operand}{x y:Code}{b:Bool}(d:ev L c=some (.bool b))(g:b=true->x.wp P (Qp N X R) a w)(f:b=false->y.wp P (Qp N X R) a w):(Code.cond c x y).wp P (Qp N X R) a w:=by
 cases b with
 | true=>exact Oo e d (g Z)
 | false=>exact Mw e d (f Z)
theorem WG{n:Nat}{ds:List Deferred}{L:List (Nat×Value)}(d:Fr n ds L a){c:Operand}{x y:Code}{p:Prop}[hp:Decidable p](b:ev L c=some (.bool (decide p)))(f:p->x.wp P (Qp N X R) a w)(e:¬p->y.wp P (Qp N X R) a w):(Code.cond c x y).wp P (Qp N X R) a w:=
 Oq d b (λh=>f (of_decide_eq_true h)) (λh=>e (of_decide_eq_false h))

section framed
variable{n:Nat}{ds:List Deferred}{L:List (Nat×Value)}
theorem AO{x y:Code}(h:∀a,Fr n ds L a->x.wp P (Qp (λa w=>y.wp P (Qp N X R) a w) X R) a w):∀a,Fr n ds L a->(Code.seq x y).wp P (Qp N X R) a w:=λa b=>WD (h a b)
theorem C6(h:∀a,Fr n ds L a->N a w):∀a,Fr n ds L a->Code.skip.wp P (Qp N X R) a w:=λa b=>Va (h a b)
theorem Or{id:Nat}(h:∀a,Fr n ds L a->X id a w):∀a,Fr n ds L a->(Code.exit id).wp P (Qp N X R) a w:=λa b=>Vb (h a b)
theorem DY(h:∀a,Fr n ds L a->R a w):∀a,Fr n ds L a->Code.ret.wp P (Qp N X R) a w:=λa b=>WE (h a b)
theorem Fk{id:Nat}{c:Code}(h:∀a,Fr n ds L a->c.wp P (Qp N (upd X id N) R) a w):∀a,Fr n ds L a->(Code.block id c).wp P (Qp N X R) a w:=λa b=>Tn (h a b)
theorem IS{id:Nat}(h:∀a,Fr n ds L a->N a w):∀a,Fr n ds L a->upd X id N id a w:=λa b=>Vc (h a b)
theorem WH{id j:Nat}{M:Act->World->Prop}(b:Nat.beq j id=false)(h:∀a,Fr n ds L a->X j a w):∀a,Fr n ds L a->upd X id M j a w:=λa c=>WF b (h a c)
theorem Ot{c:Operand}{x y:Code}(d:ev L c=some (.bool true))(h:∀a,Fr n ds L a->x.wp P (Qp N X R) a w):∀a,Fr n ds L a->(Code.cond c x y).wp P (Qp N X R) a w:=λa b=>Oo b d (h a b)
theorem Ei{c:Operand}{x y:Code}(d:ev L c=some (.bool false))(h:∀a,Fr n ds L a->y.wp P (Qp N X R) a w):∀a,Fr n ds L a->(Code.cond c x y).wp P (Qp N X R) a w:=λa b=>Mw b d (h a b)
theorem Ou{c:Operand}{x y:Code}{b:Bool}(e:ev L c=some (.bool b))(g:b=true->∀a,Fr n ds L a->x.wp P (Qp N X R) a w)(f:b=false->∀a,Fr n ds L a->y.wp P (Qp N X R) a w):∀a,Fr n ds L a->(Code.cond c x y).wp P (Qp N X R) a w:=
 λa d=>Oq d e (λh=>g h a d) (λh=>f h a d)
theorem Fg{c:Operand}{x y:Code}{p:Prop}[hp:Decidable p](d:ev L c=some (.bool (decide p)))(f:p->∀a,Fr n ds L a->x.wp P (Qp N X R) a w)(e:¬p->∀a,Fr n ds L a->y.wp P (Qp N X R) a w):∀a,Fr n ds L a->(Code.cond c x y).wp P (Qp N X R) a w:=
 λa b=>WG b d (λh=>f h a b) (λh=>e h a b)
end framed
theorem Ov{n:Nat}{ds:List Deferred}{L:List (Nat×Value)}{c:Code}{σ:Type}(h:σ->List (Nat×Value))(G:σ->World->Prop)(m:σ->Nat)(u:σ)
  (h₀:∀a,Fr n ds L a->Fr n ds (h u) a)(g₀:G u w)
  (f:∀s w,G s w->∀a,Fr n ds (h s) a->c.wp P (Qp (λa' w'=>∃j,Fr n ds (h j) a'/\G j w'/\m j<m s) X R) a w):∀a,Fr n ds L a->(Code.loop c).wp P (Qp N X R) a w:=by
 intro a hF b k cs;have o:∀n' s a w,m s=n'->Fr n ds (h s) a->G s w->
   ∃e a' w',Qp N X R e a' w'/\Arrives P (lone (b.at a (.code c:: .inLoop c::k)) cs w) b k cs e a' w':=by
  intro n'
  induction n' using Nat.strongRecOn with
  | _ n' ih=>
   intro s a w hn hI hG;obtain ⟨e,t,q,hq,d⟩:=f s w hG a hI b (.inLoop c::k) cs
   cases e with
   | normal=>
    obtain ⟨y,r,v,p⟩:=hq;obtain ⟨e₂,z,w₂,i,g⟩:=ih (m y) (hn▸p) y t q Z r v;exact ⟨e₂,z,w₂,i,.of_steps (Steps.trans d (.one step_inLoop)) g⟩
   | exit id=>exact ⟨.exit id,t,q,hq,.pass (x:=.inLoop c) Z (λ_ _=>.inl O) d⟩
   | ret=>exact ⟨.ret,t,q,hq,.pass (x:=.inLoop c) Z (λ_ _=>.inl O) d⟩
   | goto l=>exact hq.elim
   | panic ch=>exact hq.elim
   | outgrown=>exact hq.elim
 obtain ⟨e,a',w',hq,d⟩:=o _ u a w Z (h₀ a hF) g₀;exact ⟨e,a',w',hq,.of_steps (.one step_loop) d⟩
end
def Ret(R:Value->World->Prop):Ending->World->Prop
 | .returned v,w=>R v w
 | _,_=>False
theorem Ret.mono{P:Program}{f:FuncId}{args:Array Value}{w:World}{R R':Value->World->Prop}(h:Calls P f args w (Ret R))(a:∀v w',R v w'->R' v w'):Calls P f args w (Ret R'):=
 Aaw h λe w' q=>by cases e<;>first|exact a _ _ q|exact q
def E9(P:Program)(fn:Func)(R:Value->World->Prop)(a:Act)(w:World):Prop:=
 a.defers=[]/\∃v,(results fn a.tmps).run P w=.ok v w/\R v w
theorem enter{P:Program}{f:FuncId}{d:Func}{c:Code}{args:List Value}{w:World}{R:Value->World->Prop}(m:P.funcs[f]?=some d)(k:d.body=some c)(n:Nat)(o:d.ntmps=n)(b:Nat.ble args.length n=true)
  (h:∀a,Fr n [] (first 0 args) a->c.wp P (Qp (E9 P d R) GW (E9 P d R)) a w):Calls P f args.toArray w (Ret R):=by
 refine calls_of_wp m k (wp_mono (h _ (by rw[o];exact Fr.start args n (by simpa using b))) λe a w q=>?_)
 cases e with
 | normal=>obtain ⟨j,v,g,i⟩:=q;exact ⟨j,v,g,i⟩
 | ret=>obtain ⟨j,v,g,i⟩:=q;exact ⟨j,v,g,i⟩
 | exit id=>exact q.elim
 | goto l=>exact q.elim
 | panic ch=>exact q.elim
 | outgrown=>exact q.elim
def Vd(P:Program)(L:List (Nat×Value))(w:World):ResultVar->Value->Prop
 | .tmp t,v=>B1 L t=some v
 | .cell t ty,v=>∃b p,B1 L t=some (.pointer (some ⟨b,p,none⟩))/\(loadVar ty ⟨b,p,none⟩).run P w=.ok v w
def DQ(P:Program)(L:List (Nat×Value))(w:World):List ResultVar->List Value->Prop
 | [],[]=>True
 | r::rs,v::vs=>Vd P L w r v/\DQ P L w rs vs
 | _,_=>False
theorem IT{P:Program}{n:Nat}{ds:List Deferred}{L:List (Nat×Value)}{a:Act}{w:World}(d:Fr n ds L a):∀(rs:List ResultVar) (vs:List Value),DQ P L w rs vs->
  (rs.mapM (λx=>match x with
   | ResultVar.tmp t=>(Pure.pure (a.tmps.getD t undef):Sem Value)
   | ResultVar.cell p t=>do loadVar t (<-asAddr (a.tmps.getD p undef)))).run P w=.ok vs w
 | [],[],_=>by simp[go_sem]
 | [],_::_,h=>h.elim
 | _::_,[],h=>h.elim
 | r::rs,v::vs,h=>by
  have ih:=IT d rs vs h.2;have c:=h.1
  cases r with
  | tmp t=>
   simp only[Vd] at c;simp only[List.mapM_cons,Yd,Yh,X7,ih];simp[Array.getD,d.get t v c];have:=d.get t v c;rw[YI] at this;obtain ⟨f,l⟩:=this;simp[f,l]
  | cell t ty=>
   obtain ⟨b,p,j,k⟩:=c;have i:=d.get t _ j;have e:a.tmps.getD t undef=.pointer (some ⟨b,p,none⟩):=by simp[i]
   have g:(asAddr (a.tmps.getD t undef)).run P w=.ok ⟨b,p,none⟩ w:=by rw[e];rfl
   simp only[List.mapM_cons,Yd,Yh,X7,g,k,ih]
def FM:List Value->Value
 | [v]=>v
 | vs=>.tuple vs.toArray
theorem FW{P:Program}{b:Func}{n:Nat}{ds:List Deferred}{L:List (Nat×Value)}{a:Act}{w:World}(d:Fr n ds L a){rs:List ResultVar}(g:b.results=rs.toArray){vs:List Value}(c:DQ P L w rs vs):(results b a.tmps).run P w=.ok (FM vs) w:=by
 have e:=IT d rs vs c;have f:(List.toArray<$> (rs.mapM (λx=>match x with
   | ResultVar.tmp t=>(Pure.pure (a.tmps.getD t undef):Sem Value)
   | ResultVar.cell p t=>do loadVar t (<-asAddr (a.tmps.getD p undef))))).run P w=.ok vs.toArray w:=by
  show (Sem.bind _ _).run P w=_;have:=Yd (P:=P) (w:=w) (rs.mapM (λx=>match x with
   | ResultVar.tmp t=>(Pure.pure (a.tmps.getD t undef):Sem Value)
   | ResultVar.cell p t=>do loadVar t (<-asAddr (a.tmps.getD p undef)))) (λx=>(Pure.pure x.toArray:Sem (Array Value)))
  refine this.trans ?_;rw[e];rfl
 unfold results;rw[g,List.mapM_toArray,Yd]
 erw [f]
 simp only[X7,Yh]
 cases vs with
 | nil=>rfl
 | cons x xs=>cases xs with
  | nil=>rfl
  | cons y ys=>simp[FM]
theorem FN{P:Program}{c:Func}{R:Value->World->Prop}{n:Nat}{L:List (Nat×Value)}{w:World}{rs:List ResultVar}(f:c.results=rs.toArray)(vs:List Value)(d:DQ P L w rs vs){v:Value}(e:FM vs=v)(h:R v w):∀a,Fr n [] L a->E9 P c R a w:=λa b=>
 ⟨b.defers,v,by rw[<-e];exact FW b f d,h⟩
theorem WI{P:Program}{b:Func}{R:Value->World->Prop}{n:Nat}{L:List (Nat×Value)}{a:Act}{w:World}(c:Fr n [] L a)(d:b.results= #[])(h:R (.tuple #[]) w):E9 P b R a w:=
 ⟨c.defers,_,by simp[results,d,go_sem],h⟩
theorem Ve{P:Program}{b:Func}{R:Value->World->Prop}{n:Nat}{L:List (Nat×Value)}{w:World}(d:b.results= #[])(h:R (.tuple #[]) w):∀a,Fr n [] L a->E9 P b R a w:=λ_ c=>WI c d h
end
section
structure Ext(F:Nat->Prop)(w w':World):Prop where
 os:w'.os=w.os
 tape:w'.tape=w.tape
 output:w'.output=w.output
 size:w.heap.size<=w'.heap.size
 block:∀k,k<w.heap.size->¬F k->w'.heap[k]?=w.heap[k]?
def No:Nat->Prop:=λ_=>False
theorem Ext.refl(F:Nat->Prop)(w:World):Ext F w w:=⟨Z,Z,Z,Yp _,λ_ _ _=>rfl⟩
theorem Ext.mono{F b:Nat->Prop}{w w':World}(h:Ext F w w')(c:∀k,k<w.heap.size->F k->b k):Ext b w w':=
 ⟨h.os,h.tape,h.output,h.size,λk a d=>h.block k a (λq=>d (c k a q))⟩
theorem Ext.below{w w':World}(h:Ext No w w'):Below w.heap.size w w':=⟨h.os,h.tape,h.output,h.size,λk a=>h.block k a (λq=>q)⟩
theorem Ext.of_grown{w w':World}{a:Option Nat}(h:w.grownBy w' a):Ext (λk=>some k=a) w w':=⟨h.os,h.tape,h.output,h.size,λk b c=>h.block k b c⟩
theorem Ext.drawn(F:Nat->Prop)(w:World):Ext F w {w with drawn:=w.drawn+1} :=⟨Z,Z,Z,Yp _,λ_ _ _=>rfl⟩
def Blk(b:Nat)(cs:List Value)(ty:TypeId)(w:World):Prop:=w.heap[b]?=some (.cells cs.toArray ty (0,0))
def EK(b o:Nat)(v:Value)(w:World):Prop:=w.cell? ⟨b,o,none⟩=some v
theorem Ow{w:World}{b:Nat}{o:Obj}(h:w.heap[b]?=some o):b<w.heap.size:=by
 rcases Yg b w.heap.size with h'|h'
 ·exact h'
 rw[Yw h'] at h;cases h
theorem Blk.lt{b:Nat}{cs:List Value}{ty:TypeId}{w:World}(h:Blk b cs ty w):b<w.heap.size:=Ow h
theorem Blk.cel{b:Nat}{cs:List Value}{ty:TypeId}{w:World}(h:Blk b cs ty w)(o:Nat){v:Value}(a:cs[o]?=some v):EK b o v w:=by
 unfold EK World.cell?;have h':w.heap[b]?=some (.cells cs.toArray ty (0,0)):=h;simp[h',a]
theorem Blk.free{b:Nat}{cs:List Value}{ty:TypeId}{w:World}(h:Blk b cs ty w)(o:Nat):w.frozen? ⟨b,o,none⟩=false:=by
 unfold World.frozen?;have h':w.heap[b]?=some (.cells cs.toArray ty (0,0)):=h;simp[h']
def Xs(P:Program)(C:World->Prop)(o:Oper)(a:Act)(v:Value):Prop:=∀w,C w->(execOp a.eval o).run P w=.ok (.value v) w
def Ao(P:Program)(C:World->Prop)(n:Nat)(ds:List Deferred)(L:List (Nat×Value))(o:Oper)(v:Value):Prop:=∀a,Fr n ds L a->Xs P C o a v
def Xt(P:Program)(o:Oper)(a:Act)(w:World)(R:Value->World->Prop):Prop:=∃v w',(execOp a.eval o).run P w=.ok (.value v) w'/\R v w'
def Xu(P:Program)(o:Oper)(a:Act)(w:World)(R:World->Prop):Prop:=∃w',(execOp a.eval o).run P w=.ok .skip w'/\R w'
def BL(P:Program)(n:Nat)(ds:List Deferred)(L:List (Nat×Value))(o:Oper)(w:World)(R:Value->World->Prop):Prop:=∀a,Fr n ds L a->Xt P o a w R
def C3(P:Program)(n:Nat)(ds:List Deferred)(L:List (Nat×Value))(o:Oper)(w:World)(R:World->Prop):Prop:=∀a,Fr n ds L a->Xu P o a w R
def Bv(ops:List Oper)(L:List (Nat×Value)):Option (Nat×Bool)->Bool
 | none=>true
 | some (j,b)=>match (ops[j]?).bind (·.dst) with
  | some t=>match B1 L t with
   | some (.bool c)=>(match c,b with|true,true=>true|false,false=>true|_,_=>false)
   | _=>false
  | none=>false
def DZ(ops:List Oper)(L:List (Nat×Value)):Option (Nat×Bool)->Bool
 | none=>false
 | some (j,b)=>match (ops[j]?).bind (·.dst) with
  | some t=>match B1 L t with
   | some (.bool c)=>(match c,b with|true,false=>true|false,true=>true|_,_=>false)
   | some (.tuple _)=>true
   | _=>false
  | none=>false
theorem wantL_ok{ops:List Oper}{L:List (Nat×Value)}{n:Nat}{ds:List Deferred}{a:Act}{o:Oper}(e:Fr n ds L a)(h:Bv ops L o.guard=true):Region.wanted o (yielded ops.toArray a.tmps)=true:=by
 unfold Region.wanted
 cases hg:o.guard with
 | none=>rfl
 | some g=>
  obtain ⟨j,b⟩:=g;rw[hg] at h;simp only[Bv] at h;simp only[yielded,YM]
  cases ht:(ops[j]?).bind (·.dst) with
  | none=>rw[ht] at h;cases h
  | some t=>
   rw[ht] at h;simp only at h
   cases hl:B1 L t with
   | none=>rw[hl] at h;cases h
   | some v=>
    rw[hl] at h;have d:=e.get t v hl;cases v<;>simp at h;rename_i c;simp only[Aao,d];cases c<;>cases b<;>simp at h ⊢
theorem skipL_ok{ops:List Oper}{L:List (Nat×Value)}{n:Nat}{ds:List Deferred}{a:Act}{o:Oper}(e:Fr n ds L a)(h:DZ ops L o.guard=true):Region.wanted o (yielded ops.toArray a.tmps)=false:=by
 unfold Region.wanted
 cases hg:o.guard with
 | none=>rw[hg] at h;cases h
 | some g=>
  obtain ⟨j,b⟩:=g;rw[hg] at h;simp only[DZ] at h;simp only[yielded,YM]
  cases ht:(ops[j]?).bind (·.dst) with
  | none=>rw[ht] at h;cases h
  | some t=>
   rw[ht] at h;simp only at h
   cases hl:B1 L t with
   | none=>rw[hl] at h;cases h
   | some v=>
    rw[hl] at h;have d:=e.get t v hl;simp only[Aao,d];cases v<;>simp at h ⊢;rename_i c;cases c<;>cases b<;>simp at h ⊢
section steps
variable{P:Program}{ops:List Oper}{Q:Exit->Act->World->Prop}{a:Act}{w:World}{rest:List Oper}{o:Oper}{n d:Nat}{ds:List Deferred}{L:List (Nat×Value)}{v:Value}
theorem AA{p:World->Prop}{w:World}(h:p w):∀w',w'=w->p w':=λw' e=>by subst e;exact h
theorem s_do(f:Bv ops L o.guard=true)(g:o.dst=some d)(c:Nat.blt d n=true)(e:Ao P (· =w) n ds L o v)(K:∀a',Fr n ds ((d,v)::L) a'->wpList P ops.toArray Q rest a' w):∀a,Fr n ds L a->wpList P ops.toArray Q (o::rest) a w:=by
 intro a b;unfold wpList;rw[if_pos (wantL_ok b f)];left;unfold Oper.wp;rw[e a b w Z,Aab,g];exact K _ (b.put d v c)
theorem Ox(e:DZ ops L o.guard=true)(f:o.dst=some d)(b:Nat.blt d n=true)(K:∀a',Fr n ds ((d,undef)::L) a'->wpList P ops.toArray Q rest a' w):∀a,Fr n ds L a->wpList P ops.toArray Q (o::rest) a w:=by
 intro a c;unfold wpList;rw[if_neg (by rw[skipL_ok c e];exact Aah),f];exact K _ (c.put d undef b)
theorem To(c:DZ ops L o.guard=true)(d:o.dst=none)(K:∀a,Fr n ds L a->wpList P ops.toArray Q rest a w):∀a,Fr n ds L a->wpList P ops.toArray Q (o::rest) a w:=by
 intro a b;unfold wpList;rw[if_neg (by rw[skipL_ok b c];exact Aah),d];exact K a b
theorem Fa{R:Value->World->Prop}(g:Bv ops L o.guard=true)(f:o.dst=some d)(c:Nat.blt d n=true)(h:BL P n ds L o w R)(K:∀v w',R v w'->∀a',Fr n ds ((d,v)::L) a'->wpList P ops.toArray Q rest a' w'):∀a,Fr n ds L a->wpList P ops.toArray Q (o::rest) a w:=by
 intro a b;obtain ⟨v,w',i,e⟩:=h a b;unfold wpList;rw[if_pos (wantL_ok b g)];left;unfold Oper.wp;rw[i,Aab,f];exact K v w' e _ (b.put d v c)
theorem EY{R:World->Prop}(e:Bv ops L o.guard=true)(d:o.dst=none)(h:C3 P n ds L o w R)(K:∀w',R w'->∀a,Fr n ds L a->wpList P ops.toArray Q rest a w'):∀a,Fr n ds L a->wpList P ops.toArray Q (o::rest) a w:=by
 intro a b;obtain ⟨w',f,c⟩:=h a b;unfold wpList;rw[if_pos (wantL_ok b e)];left;unfold Oper.wp;rw[f,Oper.upon_skip,d];exact K w' c a b
theorem Oy{p:Prop}[Decidable p](t:Nat)(b:B1 L t=some (.bool (decide p)))(d:p->∀a,Fr n ds ((t,.bool true)::L) a->wpList P ops.toArray Q (o::rest) a w)(e:¬p->∀a,Fr n ds ((t,.bool false)::L) a->wpList P ops.toArray Q (o::rest) a w):∀a,Fr n ds L a->wpList P ops.toArray Q (o::rest) a w:=by
 intro a c;by_cases h:p
 ·exact d h a (c.upd t b (by simp[h]))
 exact e h a (c.upd t b (by simp[h]))
theorem Qz{b:Bool}(t:Nat)(c:B1 L t=some (.bool b))(e:b=true->∀a,Fr n ds ((t,.bool true)::L) a->wpList P ops.toArray Q (o::rest) a w)(f:b=false->∀a,Fr n ds ((t,.bool false)::L) a->wpList P ops.toArray Q (o::rest) a w):∀a,Fr n ds L a->wpList P ops.toArray Q (o::rest) a w:=by
 intro a d
 cases b with
 | true=>exact e Z a (d.upd t c Z)
 | false=>exact f Z a (d.upd t c Z)
theorem AN{N R:Act->World->Prop}{X:Nat->Act->World->Prop}(h:∀a,Fr n ds L a->N a w):∀a,Fr n ds L a->wpList P ops.toArray (Qp N X R) [] a w:=h
theorem AF{id:Nat}{N R:Act->World->Prop}{X:Nat->Act->World->Prop}(h:∀a,Fr n ds L a->wpList P ops.toArray (Qp N X R) ops a w):∀a,Fr n ds L a->(Code.region id ops.toArray false).wp P (Qp N X R) a w:=λa b=>wp_region_lit (h a b)
theorem Oz{R:Value->World->Prop}{f:FuncId}{args:List Operand}{vs:List Value}{tys:Array TypeId}(p:Bv ops L o.guard=true)(m:o.dst=some d)(j:Nat.blt d n=true)
  (l:o.op=.call {callee:=.value (.func f),args:=args.toArray,argTypes:=tys})(b:evs L args=some vs)(k:∀w,(callFunc f vs.toArray).run P w=.ok (.enter f vs.toArray) w)(h:Calls P f vs.toArray w (Ret R))
  (K:∀v w',R v w'->∀a',Fr n ds ((d,v)::L) a'->wpList P ops.toArray Q rest a' w'):∀a,Fr n ds L a->wpList P ops.toArray Q (o::rest) a w:=by
 intro a i;unfold wpList;rw[if_pos (wantL_ok i p)];left;have g:(execOp a.eval o).run P w=.ok (.enter f vs.toArray) w:=by
  unfold execOp;have e:=i.evs b;simp only[l,resolve,Act.eval,Deferred.ofValue,invoke];simp only[go_sem,Yv,e,Yo,YJ,k];simpa using k w
 unfold Oper.wp;rw[g,Aa0];exact Aaw h λe w' q=>by
  cases e with
  | returned v=>simp only[m];exact K v w' q _ (i.put d v j)
  | panicked c=>exact q.elim
  | outgrown=>exact q.elim
end steps

section quiet
variable{P:Program}{ops:List Oper}{C:World->Prop}{Q:Act->Prop}{a:Act}{rest:List Oper}{o:Oper}{n d:Nat}{ds:List Deferred}{L:List (Nat×Value)}{v:Value}
theorem Be(h:Bv ops L o.guard=true)(g:o.dst=some d)(c:Nat.blt d n=true)(e:Ao P C n ds L o v)(K:∀a',Fr n ds ((d,v)::L) a'->wpQuiet P ops.toArray C Q rest a'):∀a,Fr n ds L a->wpQuiet P ops.toArray C Q (o::rest) a:=λa b=>
 wpQuiet_step λK' f=>by
  rw[if_pos (wantL_ok b h)];refine ⟨v,λw i=>?_,f _ ?_⟩
  ·unfold Oper.quietAt;rw[e a b w i];exact ⟨Z,Z⟩
  rw[g];exact K _ (b.put d v c)
theorem OA(f:DZ ops L o.guard=true)(g:o.dst=some d)(b:Nat.blt d n=true)(K:∀a',Fr n ds ((d,undef)::L) a'->wpQuiet P ops.toArray C Q rest a'):∀a,Fr n ds L a->wpQuiet P ops.toArray C Q (o::rest) a:=λa c=>
 wpQuiet_step λK' e=>by
  rw[if_neg (by rw[skipL_ok c f];exact Aah)];exact e _ (by rw[g];exact K _ (c.put d undef b))
theorem Co{p:Prop}[Decidable p](t:Nat)(b:B1 L t=some (.bool (decide p)))(d:p->∀a,Fr n ds ((t,.bool true)::L) a->wpQuiet P ops.toArray C Q (o::rest) a)(e:¬p->∀a,Fr n ds ((t,.bool false)::L) a->wpQuiet P ops.toArray C Q (o::rest) a):∀a,Fr n ds L a->wpQuiet P ops.toArray C Q (o::rest) a:=by
 intro a c;by_cases h:p
 ·exact d h a (c.upd t b (by simp[h]))
 exact e h a (c.upd t b (by simp[h]))
theorem CO{f:FuncId}{args:List Operand}{vs:List Value}{tys:Array TypeId}(s:Bv ops L o.guard=true)(r:o.dst=some d)(j:Nat.blt d n=true)
  (m:o.op=.call {callee:=.value (.func f),args:=args.toArray,argTypes:=tys})(b:evs L args=some vs)(k:∀w,(callFunc f vs.toArray).run P w=.ok (.enter f vs.toArray) w)(h:∀w,C w->Calls P f vs.toArray w (Ret λu w'=>u=v/\C w'))
  (K:∀a',Fr n ds ((d,v)::L) a'->wpQuiet P ops.toArray C Q rest a'):∀a,Fr n ds L a->wpQuiet P ops.toArray C Q (o::rest) a:=λa i=>
 wpQuiet_step λK' l=>by
  rw[if_pos (wantL_ok i s)];refine ⟨v,λw p=>?_,l _ ?_⟩
  ·have g:(execOp a.eval o).run P w=.ok (.enter f vs.toArray) w:=by
    unfold execOp;have e:=i.evs b;simp only[m,resolve,Act.eval,Deferred.ofValue,invoke];simp only[go_sem,Yv,e,Yo,YJ,k];simpa using k w
   unfold Oper.quietAt;rw[g];refine ⟨Z,Aaw (h w p) λe w' q=>?_⟩
   cases e with
   | returned u=>exact ⟨by rw[q.1],q.2⟩
   | panicked c=>exact q.elim
   | outgrown=>exact q.elim
  rw[r];exact K _ (i.put d v j)
theorem Bn{N:Act->World->Prop}(h:∀w',C w'->∀a,Fr n ds L a->N a w'):∀a,Fr n ds L a->wpQuiet P ops.toArray C (λa'=>∀w',C w'->N a' w') [] a:=λa c w' b=>h w' b a c
theorem A4{id:Nat}{N R:Act->World->Prop}{X:Nat->Act->World->Prop}{w:World}(C:World->Prop)(d:P.follows .mixedOrders=true)(b:Region.lexB .any ops.toArray=true)(e:C w.drew)
  (h:∀a,Fr n ds L a->wpQuiet P ops.toArray C (λa'=>∀w',C w'->N a' w') ops a):∀a,Fr n ds L a->(Code.region id ops.toArray true).wp P (Qp N X R) a w:=λa c=>
 wp_region_quiet (C:=C) d b e (h a c)
end quiet
end
section
section
variable{P:Program}{C:World->Prop}{o:Oper}{a:Act}{n:Nat}{ds:List Deferred}{L:List (Nat×Value)}{v:Value}
theorem C7{x:Operand}(c:o.op=.move x)(b:ev L x=some v):Ao P C n ds L o v:=λa d w _=>by
 simp only[execOp,c,d.ev b];rfl
theorem Bq{x:Operand}(c:o.op=.assign x)(b:ev L x=some v):Ao P C n ds L o v:=λa d w _=>by
 simp only[execOp,c,d.ev b];rfl
theorem KQ{c x y:Operand}(f:o.op=.pick c x y)(d:ev L c=some (.bool true))(e:ev L x=some v):Ao P C n ds L o v:=λa b w _=>by
 simp only[execOp,f,b.ev d,b.ev e];simp[go_sem]
theorem KR{c x y:Operand}(f:o.op=.pick c x y)(d:ev L c=some (.bool false))(e:ev L y=some v):Ao P C n ds L o v:=λa b w _=>by
 simp only[execOp,f,b.ev d,b.ev e];simp[go_sem]

def C4(P:Program)(s t:TypeId):Option IntKind:=match P.underlying s,P.underlying t with
 | some _,some (.int k)=>some k
 | _,_=>none
theorem D7{s t:TypeId}{k:IntKind}(h:C4 P s t=some k):∃d,P.underlying s=some d/\P.underlying t=some (.int k):=by
 unfold C4 at h;split at h
 ·rename_i d c a b;simp only[X2] at h;subst h;exact ⟨d,a,b⟩
 cases h
def CF(P:Program)(t:TypeId):Option Nat:=match P.underlying t with
 | some (.slice e)=>(P.info? e).map (·.size)
 | _=>none
theorem Ej{t:TypeId}{z:Nat}(h:CF P t=some z):∃e i,P.underlying t=some (.slice e)/\P.info? e=some i/\i.size=z:=by
 unfold CF at h;split at h
 ·rename_i e a
  cases hi:P.info? e with
  | none=>rw[hi] at h;cases h
  | some i=>rw[hi] at h;exact ⟨e,i,a,hi,by simpa using h⟩
 cases h
def Gx(P:Program)(t:TypeId):Option (Nat×Nat):=match P.underlying t with
 | some (.array l e)=>(P.info? e).map λi=>(l,i.size)
 | _=>none
theorem Gy{t:TypeId}{l z:Nat}(h:Gx P t=some (l,z)):∃e i,P.underlying t=some (.array l e)/\P.info? e=some i/\i.size=z:=by
 unfold Gx at h;split at h
 ·rename_i l' e a
  cases hi:P.info? e with
  | none=>rw[hi] at h;cases h
  | some i=>
   rw[hi] at h;simp only[Yu,X2,AaK] at h;obtain ⟨rfl,b⟩:=h;exact ⟨e,i,a,hi,b⟩
 cases h
def Dx(P:Program)(s:TypeId)(f:Nat):Option Nat:=match P.underlying s with
 | some (.struct fs)=>match fs[f]? with
  | some fd=>match P.info? fd.type with
   | some i=>bif Nat.beq i.size 0 then none else some fd.offset
   | none=>none
  | none=>none
 | _=>none
theorem Mg{s:TypeId}{f k:Nat}(h:Dx P s f=some k):∃b a i,P.underlying s=some (.struct b)/\b[f]?=some a/\P.info? a.type=some i/\i.size≠0/\a.offset=k:=by
 unfold Dx at h;split at h
 ·rename_i b c
  split at h
  ·rename_i a e
   split at h
   ·rename_i i d
    cases hb:Nat.beq i.size 0 with
    | true=>rw[hb] at h;cases h
    | false=>
     rw[hb] at h;exact ⟨b,a,i,c,e,d,ZU hb,by simpa using h⟩
   cases h
  cases h
 cases h
def Gz(P:Program)(t:TypeId):Option Nat:=match P.underlying t with
 | some (.struct _)=>(P.info? t).map (·.size)
 | some (.array _ _)=>(P.info? t).map (·.size)
 | _=>none
theorem KS{t:TypeId}{z:Nat}(h:Gz P t=some z)(w:World):(isAgg t).run P w=.ok true w/\(sizeOf t).run P w=.ok z w:=by
 have a:∀d,P.underlying t=some d->((d matches .struct _)=true\/(d matches .array _ _)=true)->(P.info? t).map (·.size)=some z->(isAgg t).run P w=.ok true w/\(sizeOf t).run P w=.ok z w:=by
  intro d e b hs
  cases hi:P.info? t with
  | none=>rw[hi] at hs;cases hs
  | some i=>
   rw[hi] at hs;simp only[Yu,X2] at hs;refine ⟨?_,by simp[sizeOf,typeInfo,hi,go_sem,hs]⟩;unfold isAgg;simp only[run_underlying e,go_sem,Yd,X7];rcases b with b|b<;>(cases d<;>simp at b ⊢)
 unfold Gz at h;split at h
 ·rename_i c;exact a _ c (.inl Z) h
 ·rename_i c;exact a _ c (.inr Z) h
 cases h

section ints
variable{x y:Operand}{xt yt:TypeId}{k:IntKind}{p q:Int}
theorem SM(e:o.op=.binOp .add xt x y yt)(d:ev L x=some (.int k p))(c:ev L y=some (.int k q)):Ao P C n ds L o (.int k (k.wrap (p+q))):=λa b w _=>by
 simp only[execOp,e,b.ev d,b.ev c];simp[go_sem]
theorem WJ(e:o.op=.binOp .sub xt x y yt)(d:ev L x=some (.int k p))(c:ev L y=some (.int k q)):Ao P C n ds L o (.int k (k.wrap (p-q))):=λa b w _=>by
 simp only[execOp,e,b.ev d,b.ev c];simp[go_sem]
theorem SN(e:o.op=.binOp .mul xt x y yt)(d:ev L x=some (.int k p))(c:ev L y=some (.int k q)):Ao P C n ds L o (.int k (k.wrap (p*q))):=λa b w _=>by
 simp only[execOp,e,b.ev d,b.ev c];simp[go_sem]
theorem SO(d:o.op=.binOp .quo xt x y yt)(c:ev L x=some (.int k p))(e:ev L y=some (.int k q))(f:q≠0):Ao P C n ds L o (.int k (k.wrap (p.tdiv q))):=λa b w _=>by
 simp only[execOp,d,b.ev c,b.ev e];simp[go_sem,f]
theorem KG(d:o.op=.binOp .rem xt x y yt)(c:ev L x=some (.int k p))(e:ev L y=some (.int k q))(f:q≠0):Ao P C n ds L o (.int k (p.tmod q)):=λa b w _=>by
 simp only[execOp,d,b.ev c,b.ev e];simp[go_sem,f]
theorem NC(e:o.op=.binOp .lss xt x y yt)(d:ev L x=some (.int k p))(c:ev L y=some (.int k q)):Ao P C n ds L o (.bool (decide (p<q))):=λa b w _=>by
 simp only[execOp,e,b.ev d,b.ev c];simp[go_sem]
theorem SP(e:o.op=.binOp .leq xt x y yt)(d:ev L x=some (.int k p))(c:ev L y=some (.int k q)):Ao P C n ds L o (.bool (decide (p<=q))):=λa b w _=>by
 simp only[execOp,e,b.ev d,b.ev c];simp[go_sem]
theorem SQ(e:o.op=.binOp .gtr xt x y yt)(d:ev L x=some (.int k p))(c:ev L y=some (.int k q)):Ao P C n ds L o (.bool (decide (q<p))):=λa b w _=>by
 simp only[execOp,e,b.ev d,b.ev c];simp[go_sem]
theorem SR(e:o.op=.binOp .geq xt x y yt)(d:ev L x=some (.int k p))(c:ev L y=some (.int k q)):Ao P C n ds L o (.bool (decide (q<=p))):=λa b w _=>by
 simp only[execOp,e,b.ev d,b.ev c];simp[go_sem]
theorem SS(e:o.op=.binOp .eql xt x y yt)(d:ev L x=some (.int k p))(c:ev L y=some (.int k q)):Ao P C n ds L o (.bool (decide (p=q))):=λa b w _=>by
 simp only[execOp,e,b.ev d,b.ev c];simp[go_sem];rw[Yf];simp
theorem ND(e:o.op=.binOp .neq xt x y yt)(d:ev L x=some (.int k p))(c:ev L y=some (.int k q)):Ao P C n ds L o (.bool (decide (p≠q))):=λa b w _=>by
 simp only[execOp,e,b.ev d,b.ev c];simp[go_sem];rw[Yf];simp
theorem Cm(d:o.op=.binOp .add xt x y yt)(b:ev L x=some (Aa p))(a:ev L y=some (Aa q)){r:Int}(e:p+q=r)(c: -9223372036854775808<=r/\r<=9223372036854775807):Ao P C n ds L o (Aa r):=by
 have:=SM (P:=P) (C:=C) (n:=n) (ds:=ds) (L:=L) d b a;rwa[e,Y7 _ c] at this
theorem Ju(d:o.op=.binOp .sub xt x y yt)(b:ev L x=some (Aa p))(a:ev L y=some (Aa q)){r:Int}(e:p-q=r)(c: -9223372036854775808<=r/\r<=9223372036854775807):Ao P C n ds L o (Aa r):=by
 have:=WJ (P:=P) (C:=C) (n:=n) (ds:=ds) (L:=L) d b a;rwa[e,Y7 _ c] at this
theorem Jv(d:o.op=.binOp .mul xt x y yt)(b:ev L x=some (Aa p))(a:ev L y=some (Aa q)){r:Int}(e:p*q=r)(c: -9223372036854775808<=r/\r<=9223372036854775807):Ao P C n ds L o (Aa r):=by
 have:=SN (P:=P) (C:=C) (n:=n) (ds:=ds) (L:=L) d b a;rwa[e,Y7 _ c] at this
theorem Mx(c:o.op=.binOp .quo xt x y yt)(b:ev L x=some (Aa p))(d:ev L y=some (Aa q)){r:Int}(a:0<=p)(h:0<q)(e:p/q=r)(i:p<=9223372036854775807):Ao P C n ds L o (Aa r):=by
 have:=SO (P:=P) (C:=C) (n:=n) (ds:=ds) (L:=L) c b d U;rw[AaL a] at this;have g:0<=p/q:=Int.ediv_nonneg a U;have f:p/q<=p:=Int.ediv_le_self q a;rwa[e,Y7 _ U] at this
theorem My(e:o.op=.binOp .rem xt x y yt)(d:ev L x=some (.int k p))(a:ev L y=some (.int k q)){r:Int}(c:0<=p)(b:q≠0)(f:p%q=r):Ao P C n ds L o (.int k r):=by
 have:=KG (P:=P) (C:=C) (n:=n) (ds:=ds) (L:=L) e d a b;rwa[AaM c,f] at this
theorem ST(c:o.op=.unOp .neg xt x)(b:ev L x=some (.int k p)):Ao P C n ds L o (.int k (k.wrap (0-p))):=λa d w _=>by
 simp only[execOp,c,d.ev b];simp[go_sem]
theorem Mz(c:o.op=.unOp .neg xt x)(a:ev L x=some (Aa p)){r:Int}(d: -p=r)(b: -9223372036854775808<=r/\r<=9223372036854775807):Ao P C n ds L o (Aa r):=by
 have:=ST (P:=P) (C:=C) (n:=n) (ds:=ds) (L:=L) c a;rwa[show (0:Int)-p=r from by omega,Y7 _ b] at this
theorem G0{d:TypeId}{b:IntKind}(g:o.op=.convert xt d x)(c:C4 P xt d=some b)(e:ev L x=some (.int k p)):Ao P C n ds L o (.int b (b.wrap p)):=λa f w _=>by
 obtain ⟨i,h,c⟩:=D7 c;simp only[execOp,g,f.ev e];simp[convert,run_underlying h,run_underlying c,go_sem]
end ints

def IU(P:Program)(t:TypeId):Bool:=match P.underlying t with|some .bool=>true|_=>false
theorem J7{t:TypeId}(h:IU P t=true):P.underlying t=some .bool:=by
 unfold IU at h;split at h
 ·assumption
 cases h
theorem KH{xt:TypeId}{x:Operand}(e:o.op=.unOp .not xt x){b:Bool}(c:ev L x=some (.bool b)):Ao P C n ds L o (.bool !b):=λa d w _=>by
 simp only[execOp,e,d.ev c];simp[go_sem]
theorem AM{xt:TypeId}{x:Operand}(d:o.op=.unOp .not xt x){p:Prop}[Decidable p](b:ev L x=some (.bool (decide p))):Ao P C n ds L o (.bool (decide (¬p))):=λa c w _=>by
 simp only[execOp,d,c.ev b];simp[go_sem]
theorem Vf{xt yt:TypeId}{x y:Operand}(g:o.op=.binOp .eql xt x y yt){b c:Bool}(d:IU P xt=true)(f:ev L x=some (.bool b))(h:ev L y=some (.bool c)):Ao P C n ds L o (.bool (decide (b=c))):=λa e w _=>by
 have d:=J7 d;simp only[execOp,g,e.ev f,e.ev h];simp[d,go_sem];cases b<;>cases c<;>rfl
theorem Vg{xt yt:TypeId}{x y:Operand}(g:o.op=.binOp .neq xt x y yt){b c:Bool}(d:IU P xt=true)(f:ev L x=some (.bool b))(h:ev L y=some (.bool c)):Ao P C n ds L o (.bool (decide (b≠c))):=λa e w _=>by
 have d:=J7 d;simp only[execOp,g,e.ev f,e.ev h];simp[d,go_sem];cases b<;>cases c<;>rfl

def Ft(P:Program)(t:TypeId):Bool:=match P.underlying t with
 | some (.struct _)=>false
 | some (.array _ _)=>false
 | some _=>true
 | none=>false
theorem Fu{t:TypeId}(h:Ft P t=true)(w:World):(isAgg t).run P w=.ok false w:=by
 unfold Ft at h;unfold isAgg
 cases hu:P.underlying t with
 | none=>rw[hu] at h;cases h
 | some d=>rw[hu] at h;simp[run_underlying hu,go_sem];cases d<;>simp at h ⊢
theorem AZ{t:TypeId}{x:Operand}{b p:Nat}(f:o.op=.load t x)(d:ev L x=some (.pointer (some ⟨b,p,none⟩)))(h:Ft P t=true)(c:∀w,C w->EK b p v w):Ao P C n ds L o v:=λa e w g=>by
 have:=c w g;unfold EK at this;simp only[execOp,f,e.ev d];simp[Instr.loadAt,Instr.sureAddr,loadVar,Fu h,go_sem,this]
theorem Bz{t:TypeId}{x:Operand}{b p:Nat}{vs:List Value}(h:o.op=.load t x)(g:ev L x=some (.pointer (some ⟨b,p,none⟩)))
  (k:Gz P t=some vs.length)(l:∀w,C w->∀j u,vs[j]?=some u->EK b (p+j) u w):Ao P C n ds L o (.agg vs.toArray):=λa m w r=>by
 have i:=run_loadCells_list (P:=P) w ⟨b,p,none⟩ vs (λj u f=>by
  have:=l w r j u f;have e:(Addr.add ⟨b,p,none⟩ j)=⟨b,p+j,none⟩:=by
   unfold Addr.add;split
   ·rename_i q;simp[q]
   rfl
  rw[e];exact this)
 obtain ⟨c,d⟩:=KS k w;simp only[execOp,h,m.ev g,Instr.loadAt,Instr.sureAddr,loadVar,Yd,Yh,X7,c,if_true,d,i]
theorem Blk.part{b:Nat}{cs:List Value}{ty:TypeId}{w:World}(h:Blk b cs ty w)(p k:Nat)(vs:List Value)(c:vs=(cs.drop p).take k):∀j u,vs[j]?=some u->EK b (p+j) u w:=λj u a=>by
 subst c;refine h.cel _ ?_;rw[Yy] at a;split at a
 ·rw[YN] at a;exact a
 cases a
def FO(P:Program)(t:TypeId):Bool:=match P.underlying t with|some .string=>true|_=>false
theorem Fv{t:TypeId}(h:FO P t=true):P.underlying t=some .string:=by
 unfold FO at h;split at h
 ·assumption
 cases h

theorem D4{x:Operand}{t z:TypeId}{g:Option Addr}{l c:Nat}(f:o.op=.call {callee:=.builtin .len,args:= #[x],argTypes:= #[t]})(b:CF P t=some z)(d:ev L x=some (.slice g l c)):Ao P C n ds L o (Aa l):=λa h w _=>by
 obtain ⟨e,i,b,_,_⟩:=Ej b;simp only[execOp,f,h.ev d,resolve,Yv,Yn,Y2];simp[invoke,builtin,Builtin.len_,run_underlying b,goInt,go_sem]
theorem Vh{x:Operand}{t:TypeId}{s:ByteArray}(e:o.op=.call {callee:=.builtin .len,args:= #[x],argTypes:= #[t]})(b:FO P t=true)(c:ev L x=some (.string s)):Ao P C n ds L o (Aa s.size):=λa d w _=>by
 have b:=Fv b;simp only[execOp,e,d.ev c,resolve,Yv,Yn,Y2];simp[invoke,builtin,Builtin.len_,run_underlying b,goInt,go_sem]
theorem SU{x y:Operand}{t u:TypeId}{k c:IntKind}{p q:Int}(e:o.op=.call {callee:=.builtin .max,args:= #[x,y],argTypes:= #[t,u]})(d:ev L x=some (.int k p))(f:ev L y=some (.int c q)):Ao P C n ds L o (.int k (max p q)):=λa b w _=>by
 simp only[execOp,e,b.ev d,b.ev f,resolve,Yv,Yn,Y2];simp[invoke,builtin,Builtin.max_,Builtin.max2,go_sem];omega
theorem NE{x y:Operand}{t u:TypeId}{k c:IntKind}{p q:Int}(e:o.op=.call {callee:=.builtin .min,args:= #[x,y],argTypes:= #[t,u]})(d:ev L x=some (.int k p))(f:ev L y=some (.int c q)):Ao P C n ds L o (.int k (min p q)):=λa b w _=>by
 simp only[execOp,e,b.ev d,b.ev f,resolve,Yv,Yn,Y2];simp[invoke,builtin,Builtin.min_,Builtin.min2,go_sem];omega
theorem Jw{s:TypeId}{x:Operand}{f:Nat}{b p k r:Nat}(d:o.op=.fieldAddr s x f)(hs:Dx P s f=some k)(c:ev L x=some (.pointer (some ⟨b,p,none⟩)))(t:p+k=r):Ao P C n ds L o (.pointer (some ⟨b,r,none⟩)):=λa i w _=>by
 obtain ⟨m,g,u,hs,j,h,l,q⟩:=Mg hs;have e:(Addr.add ⟨b,p,none⟩ g.offset)=⟨b,r,none⟩:=by
  unfold Addr.add;split
  ·rename_i v;simp only[AaN,true_and,and_true];omega
  simp only[AaN,true_and,and_true];omega
 simp only[execOp,d,i.ev c];simp[Instr.fieldAt,run_underlying hs,j,Instr.sureAddr,fieldPlace,sizeOf,typeInfo,h,l,e,go_sem]
theorem Tp{t:TypeId}{x y:Operand}{b p l c j z:Nat}{i:Int}{k:IntKind}(m:o.op=.indexAddr t x y)(d:CF P t=some z)
  (h:ev L x=some (.slice (some ⟨b,p,none⟩) l c))(s:ev L y=some (.int k i))(f:i=j)(u:j<l){r:Nat}(v:p+j*z=r):Ao P C n ds L o (.pointer (some ⟨b,r,none⟩)):=λa g w _=>by
 obtain ⟨e,i0,d,hi,hz⟩:=Ej d;subst f;have q:(0:Int)<=(j:Int)/\(j:Int)<(l:Int):=by omega
 simp only[execOp,m,g.ev h,g.ev s];simp[Instr.indexAt,run_underlying d,sizeOf,typeInfo,hi,hz,q,u,v,go_sem,asIntOf]
def At(ao:Option Addr)(k:Nat)(v:Value)(w:World):Prop:=∃b p,ao=some ⟨b,p,none⟩/\EK b (p+k) v w
def Fb(ao:Option Addr)(k:Nat):Value:=.pointer (ao.map λa=>⟨a.block,a.off+k,none⟩)
theorem Ar{t:TypeId}{x y:Operand}{h:Option Addr}{l c j z:Nat}{i:Int}{k:IntKind}{u:Value}{w0:World}{q:Nat}(s:o.op=.indexAddr t x y)(f:CF P t=some z)
  (hx:ev L x=some (.slice h l c))(hy:ev L y=some (.int k i))(g:i=j)(hl:j<l)(d:At h q u w0){r:Nat}(v:j*z=r):Ao P C n ds L o (Fb h r):=λa m w _=>by
 obtain ⟨e,i0,f,hi,hz⟩:=Ej f;obtain ⟨b,p,rfl,_⟩:=d;subst g;have h1:(0:Int)<=(j:Int)/\(j:Int)<(l:Int):=by omega
 simp only[execOp,s,m.ev hx,m.ev hy];simp[Instr.indexAt,run_underlying f,sizeOf,typeInfo,hi,hz,h1,hl,v,Fb,go_sem,asIntOf]
theorem CG{s:TypeId}{x:Operand}{f:Nat}{d:Option Addr}{p k r q:Nat}{u:Value}{h:World}(g:o.op=.fieldAddr s x f)(hs:Dx P s f=some k)(e:ev L x=some (Fb d p))(c:At d q u h)(l:p+k=r):Ao P C n ds L o (Fb d r):=λa i w j=>by
 obtain ⟨b,p',rfl,_⟩:=c;have:=Jw (P:=P) (C:=C) (r:=p'+r) g hs (show ev L x=some (.pointer (some ⟨b,p'+p,none⟩)) from e) U a i w j;simpa [Fb] using this
theorem AK{t:TypeId}{x:Operand}{c:Option Addr}{k:Nat}(g:o.op=.load t x)(e:ev L x=some (Fb c k))(j:Ft P t=true)(d:∀w,C w->At c k v w):Ao P C n ds L o v:=λa f w i=>by
 obtain ⟨b,p,rfl,h⟩:=d w i;exact AZ (P:=P) (C:=(· =w)) g e j (AA h) a f w Z
theorem B8{t:TypeId}{x:Operand}{d:Option Addr}{k:Nat}{vs:List Value}(m:o.op=.load t x)(l:ev L x=some (Fb d k))
  (q:Gz P t=some vs.length)(c:vs≠[])(f:∀w,C w->∀j u,vs[j]?=some u->At d (k+j) u w):Ao P C n ds L o (.agg vs.toArray):=λa r w g=>by
 cases vs with
 | nil=>exact absurd Z c
 | cons u us=>
  obtain ⟨b,p,rfl,_⟩:=f w g 0 u Z;refine Bz (P:=P) (C:=(· =w)) m l q (AA λj x i=>?_) a r w Z;obtain ⟨s,p',e,h⟩:=f w g j x i;simp only[X2,AaN,and_true] at e;obtain ⟨rfl,rfl⟩:=e;rw[ZA];exact h
theorem Ie{t:TypeId}{x y:Operand}{b p l j z:Nat}{i:Int}{k:IntKind}(h:o.op=.indexAddr t x y)(c:Gx P t=some (l,z))
  (g:ev L x=some (.pointer (some ⟨b,p,none⟩)))(q:ev L y=some (.int k i))(d:i=j)(s:j<l){r:Nat}(u:p+j*z=r):Ao P C n ds L o (.pointer (some ⟨b,r,none⟩)):=λa f w _=>by
 obtain ⟨e,i0,c,v,hz⟩:=Gy c;subst d;have m:(0:Int)<=(j:Int)/\(j:Int)<(l:Int):=by omega
 simp only[execOp,h,f.ev g,f.ev q];simp[Instr.indexAt,run_underlying c,Instr.sureAddr,sizeOf,typeInfo,v,hz,m,s,u,go_sem,asIntOf]
theorem E1{x:Operand}{i:Nat}{vs:List Value}(e:o.op=.extract x i)(c:ev L x=some (.tuple vs.toArray))(b:vs[i]?=some v):Ao P C n ds L o v:=λa d w _=>by
 simp only[execOp,e,d.ev c];simp[Instr.extract,b,go_sem]
theorem IV{x:Operand}{b:Addr}(e:o.op=.nilCheck x)(c:ev L x=some (.pointer (some b))):Ao P C n ds L o (.pointer (some b)):=λa d w _=>by
 simp only[execOp,e,d.ev c];simp[go_sem]
theorem Jx{t:TypeId}{x:Operand}{lo hi:Option Operand}{ao:Option Addr}{l c p q z:Nat}(m:o.op=.slice t x lo hi none)(h:CF P t=some z)
  (s:ev L x=some (.slice ao l c))(v:(lo=none/\p=0)\/∃y k i,lo=some y/\ev L y=some (.int k i)/\i=(p:Int))(u:(hi=none/\q=l)\/∃y k i,hi=some y/\ev L y=some (.int k i)/\i=(q:Int))(f:p<=q)(b:q<=c):
  Ao P C n ds L o (.slice (if c=p then ao else ao.map (·.add (p*z))) (q-p) (c-p)):=λa g w _=>by
 obtain ⟨e,i0,h,d,r⟩:=Ej h;have h1:(0:Int)<=(p:Int)/\(p:Int)<=(q:Int):=by omega
 have h2:(0:Int)<=(q:Int)/\(q:Int)<=(c:Int):=by omega
 rcases v with ⟨rfl,rfl⟩|⟨y,k,i,rfl,hy,rfl⟩<;>rcases u with ⟨rfl,rfl⟩|⟨y',k',i',rfl,j,rfl⟩
 ·simp only[execOp,m,Yu,YX,g.ev s];simp[Instr.sliceAt,Instr.slice,run_underlying h,Instr.sliceBounds,sizeOf,typeInfo,d,r,f,b,go_sem]<;>(try (intro;omega))
 ·simp only[execOp,m,Yu,YX,g.ev s,g.ev j];simp[Instr.sliceAt,Instr.slice,run_underlying h,Instr.sliceBounds,Instr.sliceBound,asIntOf,h2,sizeOf,typeInfo,d,r,f,b,go_sem]<;>(try (intro;omega))
 ·simp only[execOp,m,Yu,YX,g.ev s,g.ev hy];simp[Instr.sliceAt,Instr.slice,run_underlying h,Instr.sliceBounds,Instr.sliceBound,asIntOf,h1,sizeOf,typeInfo,d,r,f,b,go_sem]<;>(try (intro;omega))
 simp only[execOp,m,Yu,YX,g.ev s,g.ev hy,g.ev j];simp[Instr.sliceAt,Instr.slice,run_underlying h,Instr.sliceBounds,Instr.sliceBound,asIntOf,h1,h2,sizeOf,typeInfo,d,r,f,b,go_sem]<;>(try (intro;omega))
end
end
section
def Elt(P:Program)(e:TypeId)(z:Value)(sz by_:Nat):Prop:=∃i,P.info? e=some i/\i.zero=some z/\i.size=sz/\i.bytes=by_/\z.cells.size=sz/\0<sz/\0<by_
theorem Elt.mk{P:Program}{e:TypeId}{z:Value}{sz by_:Nat}(h:(P.info? e).map (λi=>(i.zero,i.size,i.bytes))=some (some z,sz,by_))(a:z.cells.size=sz)(b:0<sz)(c:0<by_):Elt P e z sz by_:=by
 cases hi:P.info? e with
 | none=>rw[hi] at h;cases h
 | some i=>
  rw[hi] at h;simp only[Yu,X2,AaK] at h;exact ⟨i,hi,h.1,h.2.1,h.2.2,a,b,c⟩
def Rd(sz:Nat)(v:Value)(n:Nat)(xs:List Value)(w:World):Prop:=
 ∃ao c,v=.slice ao n c/\n<=c/\c<=9223372036854775807/\xs.length=n*sz/\∀j u,xs[j]?=some u->At ao j u w
def SV(B:Nat)(e:TypeId)(sz:Nat)(v:Value)(n:Nat)(xs:List Value)(w:World):Prop:=w.ownsRow B e sz v n xs
theorem Rd.nil(sz:Nat)(w:World):Rd sz (.slice none 0 0) 0 [] w:=⟨none,0,Z,Yi _,by omega,by simp,λj u h=>by simp at h⟩
section
variable{P:Program}{o:Oper}{a:Act}{w:World}{n:Nat}{ds:List Deferred}{L:List (Nat×Value)}
def KT(cs:List Value)(ty:TypeId)(w:World)(v:Value)(w':World):Prop:=∃b,v=.pointer (some ⟨b,0,none⟩)/\w.heap.size=b/\w'.heap.size=b+1/\Blk b cs ty w'/\Ext No w w'
def OB(cs:List Value)(ty:TypeId)(len:Nat)(w:World)(v:Value)(w':World):Prop:=∃b,v=.slice (some ⟨b,0,none⟩) len len/\w.heap.size=b/\w'.heap.size=b+1/\Blk b cs ty w'/\Ext No w w'
theorem CH(w:World)(o:Obj):Ext No w {w with heap:=w.heap.push o} :=⟨Z,Z,Z,by simp,λk a _=>by
 show (w.heap.push o)[k]?=_;rw[AaE,if_neg U]⟩
theorem MA(w:World)(cs:List Value)(ty:TypeId):KT cs ty w (.pointer (some ⟨w.heap.size,0,none⟩)) {w with heap:=w.heap.push (.cells cs.toArray ty)} :=
 ⟨_,Z,Z,by simp,by show (w.heap.push _)[w.heap.size]?=_;simp,CH w _⟩
theorem Tq(w:World)(cs:List Value)(ty:TypeId)(a:Nat):OB cs ty a w (.slice (some ⟨w.heap.size,0,none⟩) a a) {w with heap:=w.heap.push (.cells cs.toArray ty)} :=
 ⟨_,Z,Z,by simp,by show (w.heap.push _)[w.heap.size]?=_;simp,CH w _⟩
def zeroCells(P:Program)(e:TypeId):Option (Array Value):=((P.info? e).bind (·.zero)).map Value.cells
theorem Tr{e:TypeId}{zs:List Value}(c:o.op=.alloc e)(b:zeroCells P e=some zs.toArray):BL P n ds L o w (KT zs e w):=by
 intro a d;refine ⟨_,_,?_,MA w zs e⟩;unfold zeroCells at b
 cases hi:P.info? e with
 | none=>rw[hi] at b;cases b
 | some i0=>
  rw[hi] at b;simp only[Aao] at b
  cases hq:i0.zero with
  | none=>rw[hq] at b;cases b
  | some z=>
   rw[hq] at b;simp only[Yu,X2] at b;simp only[execOp,c];simp[Instr.alloc,zeroValue,typeInfo,hi,hq,newVar,newRow,newObj,go_sem,Sem.run];rw[<-b];rfl
theorem Mh{ty:TypeId}{b p:Nat}{cs vs:List Value}{t:TypeId}(k:Gz P ty=some vs.length)(d:Blk b cs t w)(f:vs=(cs.drop p).take vs.length):(loadVar ty ⟨b,p,none⟩).run P w=.ok (.agg vs.toArray) w:=by
 have h:=run_loadCells_list (P:=P) w ⟨b,p,none⟩ vs (λj u g=>by
  have:=d.part p vs.length vs f j u g;have e:(Addr.add ⟨b,p,none⟩ j)=⟨b,p+j,none⟩:=by
   unfold Addr.add;split
   ·rename_i i;simp[i]
   rfl
  rw[e];exact this)
 obtain ⟨a,c⟩:=KS k w;simp only[loadVar,Yd,Yh,X7,a,if_true,c,h]
theorem WK{e:TypeId}{x:Operand}{v:Value}{cs:List Value}(f:o.op=.box e x)(c:ev L x=some v)(b:v.cells=cs.toArray):BL P n ds L o w (KT cs e w):=by
 intro a d;refine ⟨_,_,?_,MA w cs e⟩;simp only[execOp,f,d.ev c];simp[Instr.box,newVar,newRow,newObj,go_sem,Sem.run];rw[<-b];rfl
theorem AQ{C:World->Prop}{t:TypeId}{parts:List (Nat×Operand)}{vs:List (Nat×Value)}{out:List Value}(c:o.op=.build t parts.toArray)
  (b:(evs L (parts.map (·.2))).map (List.zip (parts.map (·.1)))=some vs)(d:P.built t vs=some out.toArray):Ao P C n ds L o (.agg out.toArray):=λa f w _=>by
 cases he:evs L (parts.map (·.2)) with
 | none=>rw[he] at b;cases b
 | some us=>
  rw[he] at b;simp only[Yu,X2] at b;have e:=f.evs he;have:(parts.map λx=>(x.1,a.eval x.2))=vs:=by
   rw[<-b,<-e,Zp];clear b he e d c
   induction parts with
   | nil=>rfl
   | cons x xs ih=>simp[ih]
  have g:=run_build (P:=P) w t vs.toArray out.toArray (by simpa using d);simp only[execOp,c,Yv];rw[show (List.map (λx=>match x with|(i,x)=>(i,a.eval x)) parts)=vs from this];simp only[Yd,g,X7,Yh]
theorem QB{x y:Operand}{t e:TypeId}{z:Value}{sz by_ B k m:Nat}{v u:Value}{xs news:List Value}(ho:o.op=.call {callee:=.builtin .append,args:= #[x,y],argTypes:= #[t,t]})
  (ht:P.underlying t=some (.slice e))(hE:Elt P e z sz by_)(hx:ev L x=some v)(hy:ev L y=some u)(f:SV B e sz v k xs w)(a1:Rd sz u m news w)(h1:∀c∈news,c.oneCell'=true)(hB:B<=w.heap.size)(a6:(k+m)*by_<=140737488355328):
  BL P n ds L o w λd w'=>SV B e sz d (k+m) (xs++news) w'/\Ext (λi=>v.ownBlock=some i) w w'/\(d.ownBlock=v.ownBlock\/d.ownBlock=some w.heap.size):=by
 intro a hF;obtain ⟨i,hi,hz,hs,hb,a7,a5,a3⟩:=hE;obtain ⟨ao,c,rfl,b2,_,hl,a2⟩:=a1;have l:∀r w',(Builtin.append_ #[t,t] o.type #[v,.slice ao m c]).run P w=.ok r w'->(execOp a.eval o).run P w=.ok (.value r) w':=λr w' h=>by
  simp only[execOp,ho,resolve,invoke,builtin,Yd,Yh,X7,Yv,Yn,Y2,hF.ev hx,hF.ev hy,h]
 have a4:k+m<=maxLen:=by
  have:(k+m)*1<=(k+m)*by_:=ZO _ a3;unfold maxLen;omega
 have s:news=[]->∀d,d=v->SV B e sz d (k+m) (xs++news) w/\Ext (λi=>v.ownBlock=some i) w w/\(d.ownBlock=v.ownBlock\/d.ownBlock=some w.heap.size):=by
  intro hn d a8;subst a8;have hm:m=0:=by
   rw[hn] at hl;simp only[X4] at hl;rcases Aa1.1 hl.symm with h|h<;>omega
  subst hm;rw[hn,YJ];exact ⟨f,Ext.refl _ _,.inl Z⟩
 cases ao with
 | none=>
  have hn:news=[]:=by
   cases news with
   | nil=>rfl
   | cons q qs=>obtain ⟨b,p,hh,_⟩:=a2 0 q Z;cases hh
  have hm:m=0:=by
   rw[hn] at hl;simp only[X4] at hl;rcases Aa1.1 hl.symm with h|h<;>omega
  subst hm;refine ⟨v,w,l _ _ ?_,s hn v Z⟩;rcases f.2 with ⟨rfl,rfl⟩|⟨g,b1,b0,rfl,_,_,a9,_⟩
  ·simp[Builtin.append_,run_underlying ht,sizeOf,typeInfo,hi,Builtin.lenOf,Builtin.firstCells]
  simp[Builtin.append_,run_underlying ht,sizeOf,typeInfo,hi,Builtin.lenOf,Builtin.firstCells,a9,storeCells]
 | some ad=>
  have a0:∀j q,news[j]?=some q->w.cell? (ad.add j)=some q:=λj q hj=>by
   obtain ⟨b,p,hh,hc⟩:=a2 j q hj;simp only[X2] at hh;subst hh;have e:(Addr.add ⟨b,p,none⟩ j)=⟨b,p+j,none⟩:=by
    unfold Addr.add;split
    ·rename_i h0;simp[h0]
    rfl
   rw[e];exact hc
  obtain ⟨d,w',hr,h2,h3,_,h5⟩:=run_append_own_at (P:=P) w B t o.type e i z sz by_ ht hi hz hs hb a7 a5 v k xs f ad m c news hl a0 h1 a4 a6 hB;exact ⟨d,w',l _ _ hr,h2,(Ext.of_grown h3).mono (λ_ _ q=>q.symm),h5⟩
theorem MB{x y:Operand}{t ty:TypeId}{b p:Nat}{cs vs:List Value}{v:Value}(j:o.op=.store t x y)(h:ev L x=some (.pointer (some ⟨b,p,none⟩)))(l:ev L y=some v)(q:v.cells=vs.toArray)(m:∀u∈vs,u.oneCell'=true)
  (hs:(P.info? t).map (·.size)=some vs.length)(e:Blk b cs ty w)(hp:p+vs.length<=cs.length){out:List Value}(d:cs.take p++vs++cs.drop (p+vs.length)=out):
  C3 P n ds L o w λw'=>Blk b out ty w'/\Ext (· =b) w w'/\w'.heap.size=w.heap.size:=by
 intro a f;have c:=run_storeCells_at P b p ty vs 0 cs.toArray w e (by simpa using hp) m;simp only[Aai,Zm] at c;rw[d] at c;refine ⟨_,?_,setRow_heap w b _ _ ty (0,0) e,⟨Z,Z,Z,by simp,λk _ g=>setRow_other w b k _ g⟩,by simp⟩
 cases hq:P.info? t with
 | none=>rw[hq] at hs;cases hs
 | some i=>
  rw[hq] at hs;simp only[Yu,X2] at hs;simp only[execOp,j,f.ev h,f.ev l,Instr.storeAt,Instr.sureAddr,storeVar,sizeOf,typeInfo,Yd,Yh,X7,q];simp[hq,hs,go_sem,c]
end
end
section
abbrev Hp:=Nat->Option Obj
abbrev Ai:=Hp->Prop
def Hp.part(h:Hp)(own:Nat->Nat)(i:Nat):Hp:=λk=>if own k=i then h k else none
def seps(Γ:List Ai):Ai:=λh=>∃own:Nat->Nat,∀(i:Nat) (A:Ai),Γ[i]?=some A->A (h.part own i)
def hp(w:World):Hp:=λk=>w.heap[k]?
structure Sep(z:World)(Γ:List Ai)(w:World):Prop where
 os:w.os=z.os
 tape:w.tape=z.tape
 output:w.output=z.output
 own:seps Γ (hp w)
def bk(b:Nat)(o:Obj):Ai:=λh=>h b=some o
def blk(b:Nat)(cs:List Value)(ty:TypeId):Ai:=bk b (.cells cs.toArray ty (0,0))
def base(z:World):Ai:=λh=>∀k,k<z.heap.size->h k=z.heap[k]?
def emp:Ai:=λ_=>True
theorem Cr{h h':Hp}{own own':Nat->Nat}{i j:Nat}(e:∀k,own k=i↔own' k=j)(a:∀k,own k=i->h k=h' k):h.part own i=h'.part own' j:=by
 funext k;unfold Hp.part;by_cases q:own k=i
 ·rw[if_pos q,if_pos ((e k).1 q),a k q]
 rw[if_neg q,if_neg (λb=>q ((e k).2 b))]
theorem Ek{h:Hp}{own:Nat->Nat}{i k:Nat}{o:Obj}(e:h.part own i k=some o):own k=i/\h k=some o:=by
 unfold Hp.part at e;split at e
 ·exact ⟨by assumption,e⟩
 cases e

def pos:List Nat->Nat->Option Nat
 | [],_=>none
 | x::xs,y=>if y=x then some 0 else (pos xs y).map (· +1)
theorem If:∀(is:List Nat) (y j:Nat),pos is y=some j->is[j]?=some y
 | [],_,_,h=>by simp[pos] at h
 | x::xs,y,j,h=>by
  unfold pos at h;split at h
  ·rename_i e;simp at h;subst h;simp[e]
  cases hp:pos xs y with
  | none=>rw[hp] at h;cases h
  | some q=>rw[hp] at h;simp at h;subst h;simpa using If xs y q hp
theorem Vi(a:List Nat)(y j:Nat)(h:pos a y=some j):j<a.length:=(XV.1 (If a y j h)).1
def Fw(n:Nat)(is:List Nat):Bool:=(List.range is.length).all λj=>match is[j]? with
 | some y=>Nat.blt y n&&(match pos is y with|some q=>Nat.beq q j|none=>false)
 | none=>false
theorem OC{n:Nat}{b:List Nat}(h:Fw n b=true)(j y:Nat)(e:b[j]?=some y):y<n/\pos b y=some j:=by
 unfold Fw at h;rw[Aap] at h;have:=h j (by have:=(XV.1 e).1;simpa using this);rw[e] at this;simp only[Yl] at this;obtain ⟨c,a⟩:=this;refine ⟨by simpa using c,?_⟩
 cases hq:pos b y with
 | none=>rw[hq] at a;cases a
 | some q=>rw[hq] at a;simp at a;rw[a]
def C5(Γ:List Ai):List Nat->List Ai
 | []=>[]
 | i::is=>(match Γ[i]? with|some A=>A|none=>emp)::C5 Γ is
theorem J8(Γ:List Ai):∀(a:List Nat) (j:Nat) (A:Ai),(C5 Γ a)[j]?=some A->∃i,a[j]?=some i/\(Γ[i]?=some A\/A=emp)
 | [],_,_,h=>by simp[C5] at h
 | i::a,0,A,h=>by
  simp only[C5,YT,X2] at h;refine ⟨i,Z,?_⟩
  cases hi:Γ[i]? with
  | none=>rw[hi] at h;exact .inr h.symm
  | some B=>rw[hi] at h;exact .inl (congrArg some h)
 | i::a,j+1,A,h=>by
  simp only[C5,Yq] at h;obtain ⟨q,hq,hA⟩:=J8 Γ a j A h;exact ⟨q,by simpa using hq,hA⟩
theorem picks_len(Γ:List Ai):∀is:List Nat,(C5 Γ is).length=is.length
 | []=>rfl
 | _::is=>by simp[C5,picks_len Γ is]
theorem J9{Γ:List Ai}{h:Hp}(hs:seps Γ h)(n:Nat)(a:List Nat)(g:Fw n a=true):seps (C5 Γ a++Γ.drop n) h:=by
 obtain ⟨own,c⟩:=hs;refine ⟨λk=>if own k<n then (match pos a (own k) with|some j=>j|none=>a.length+Γ.length) else a.length+(own k-n),λj A b=>?_⟩;rcases Yg j a.length with d|d
 ·rw[Yc (by rw[picks_len];exact d)] at b
  obtain ⟨i,o,b⟩:=J8 Γ a j A b;obtain ⟨l,f⟩:=OC g j i o;rcases b with b|rfl
  ·have:=c i A b
   rw[Cr (h':=h) (own':=λk=>if own k<n then (match pos a (own k) with|some j=>j|none=>a.length+Γ.length) else a.length+(own k-n)) (j:=j) (λk=>?_) (λ_ _=>rfl)] at this
   ·exact this
   constructor
   ·intro e;subst e;simp[l,f]
   intro e;split at e
   ·cases hp:pos a (own k) with
    | none=>rw[hp] at e;simp at e;omega
    | some q=>rw[hp] at e;simp at e;subst e;have:=If _ _ _ hp;rw[o] at this;simpa using this.symm
   omega
  trivial
 rw[Ya (by rw[picks_len];exact d),picks_len,YN] at b;have:=c _ A b;have m:=(XV.1 b).1;rw[Cr (h':=h) (own':=λk=>if own k<n then (match pos a (own k) with|some j=>j|none=>a.length+Γ.length) else a.length+(own k-n)) (j:=j) (λk=>?_) (λ_ _=>rfl)] at this
 ·exact this
 constructor
 ·intro e;rw[if_neg U];omega
 intro e;split at e
 ·cases hp:pos a (own k) with
  | none=>rw[hp] at e;simp at e;omega
  | some q=>rw[hp] at e;simp at e;have:=Vi _ _ _ hp;omega
 omega
theorem FP{As Γ:List Ai}{h:Hp}(hs:seps (seps As::Γ) h):seps (As++Γ) h:=by
 obtain ⟨own,b⟩:=hs;obtain ⟨a,f⟩:=b 0 _ Z;refine ⟨λk=>if own k=0 then (if a k<As.length then a k else As.length+Γ.length) else As.length+(own k-1),λj A c=>?_⟩;rcases Yg j As.length with d|d
 ·rw[Yc d] at c
  have:=f j A c;have e:(h.part own 0).part a j=h.part (λk=>if own k=0 then (if a k<As.length then a k else As.length+Γ.length) else As.length+(own k-1)) j:=by
   funext k;unfold Hp.part;dsimp only;by_cases q:own k=0
   ·by_cases q':a k=j
    ·simp[q,q',d]
    have:¬(if a k<As.length then a k else As.length+Γ.length)=j:=by split<;>omega
    simp[q,q',this]
   have:¬As.length+(own k-1)=j:=by omega
   simp[q,this]
  rwa[e] at this
 rw[Ya d] at c;have g:=(XV.1 c).1;have:=b (j-As.length+1) A (by simpa using c);rw[Cr (h':=h) (own':=λk=>if own k=0 then (if a k<As.length then a k else As.length+Γ.length) else As.length+(own k-1)) (j:=j) (λk=>?_) (λ_ _=>rfl)] at this
 ·exact this
 constructor
 ·intro e;rw[if_neg U];omega
 intro e;split at e
 ·split at e<;>omega
 omega
theorem G3{As Γ:List Ai}{h:Hp}(hs:seps (As++Γ) h):seps (seps As::Γ) h:=by
 obtain ⟨own,a⟩:=hs;refine ⟨λk=>if own k<As.length then 0 else own k-As.length+1,λj A c=>?_⟩
 cases j with
 | zero=>
  simp only[YT,X2] at c;subst c;refine ⟨own,λi A d=>?_⟩;have b:=(XV.1 d).1;have:=a i A (by rw[Yc b];exact d);have e:h.part own i=(h.part (λk=>if own k<As.length then 0 else own k-As.length+1) 0).part own i:=by
   funext k;unfold Hp.part;dsimp only;by_cases q:own k=i
   ·simp[q,b]
   simp[q]
  rwa[e] at this
 | succ j=>
  simp only[Yq] at c;have:=a (As.length+j) A (by rw[Ya U];simpa using c);rw[Cr (h':=h) (own':=λk=>if own k<As.length then 0 else own k-As.length+1) (j:=j+1) (λk=>?_) (λ_ _=>rfl)] at this
  ·exact this
  constructor
  ·intro e;rw[if_neg U];omega
  intro e;split at e<;>omega
theorem Cp{As Bs:List Ai}{h:Hp}(hs:seps (As++Bs) h):seps (Bs++As) h:=by
 obtain ⟨own,a⟩:=hs;refine ⟨λk=>if own k<As.length then own k+Bs.length else if own k<As.length+Bs.length then own k-As.length else own k,λj A b=>?_⟩;rcases Yg j Bs.length with c|c
 ·rw[Yc c] at b
  have:=a (As.length+j) A (by rw[Ya U];simpa using b);rw[Cr (h':=h) (own':=λk=>if own k<As.length then own k+Bs.length else if own k<As.length+Bs.length then own k-As.length else own k) (j:=j) (λk=>?_) (λ_ _=>rfl)] at this
  ·exact this
  constructor
  ·intro e;rw[if_neg U,if_pos U];omega
  intro e;split at e
  ·omega
  split at e<;>omega
 rw[Ya c] at b;have d:=(XV.1 b).1;have:=a (j-Bs.length) A (by rw[Yc d];exact b);rw[Cr (h':=h) (own':=λk=>if own k<As.length then own k+Bs.length else if own k<As.length+Bs.length then own k-As.length else own k) (j:=j) (λk=>?_) (λ_ _=>rfl)] at this
 ·exact this
 constructor
 ·intro e;rw[if_pos U];omega
 intro e;split at e
 ·omega
 split at e<;>omega
theorem Ts{Γ:List Ai}{h:Hp}(hs:seps Γ h)(i:Nat){A:Ai}(d:Γ[i]?=some A){σ:Type}{B:σ->Ai}(f:∀h',(∀k o,h' k=some o->h k=some o)->A h'->∃x,B x h'):∃x,seps (Γ.set i (B x)) h:=by
 obtain ⟨own,a⟩:=hs;obtain ⟨x,c⟩:=f _ (λk o e=>(Ek e).2) (a i A d);refine ⟨x,own,λj C b=>?_⟩;rw[YZ] at b;split at b
 ·rename_i e;subst e
  split at b
  ·cases b;exact c
  cases b
 exact a j C b

section
variable{z w:World}{Γ:List Ai}
theorem Sep.same{w':World}(H:Sep z Γ w)(a:w'.os=w.os)(c:w'.tape=w.tape)(b:w'.output=w.output)(d:∀k:Nat,w'.heap[k]?=w.heap[k]?):Sep z Γ w':=
 ⟨a.trans H.os,c.trans H.tape,b.trans H.output,(show hp w'=hp w from funext d)▸H.own⟩
theorem Sep.drew(H:Sep z Γ w):Sep z Γ w.drew:=H.same Z Z Z λ_=>rfl
theorem Sep.pick(n:Nat)(a:List Nat)(H:Sep z Γ w)(b:Fw n a=true):Sep z (C5 Γ a++Γ.drop n) w:=⟨H.os,H.tape,H.output,J9 H.own n a b⟩
theorem Sep.perm(n:Nat)(a:List Nat){Γ':List Ai}(H:Sep z Γ w)(b:Fw n a=true)(e:C5 Γ a++Γ.drop n=Γ'):Sep z Γ' w:=e▸H.pick n a b
theorem Sep.opened{As:List Ai}(H:Sep z (seps As::Γ) w):Sep z (As++Γ) w:=⟨H.os,H.tape,H.output,FP H.own⟩
theorem Sep.shut{As:List Ai}(H:Sep z (As++Γ) w):Sep z (seps As::Γ) w:=⟨H.os,H.tape,H.output,G3 H.own⟩
theorem Sep.swap{As Bs:List Ai}(H:Sep z (As++Bs) w):Sep z (Bs++As) w:=⟨H.os,H.tape,H.output,Cp H.own⟩
theorem Sep.front{As Bs:List Ai}(H:Sep z (As++Bs) w):Sep z As w:=by
 have c:=H.swap;have:seps As (hp w):=by
  obtain ⟨own,b⟩:=c.own;refine ⟨λk=>if own k<Bs.length then As.length else own k-Bs.length,λj A a=>?_⟩;have d:=(XV.1 a).1;have:=b (Bs.length+j) A (by rw[Ya U];simpa using a);rwa[Cr (h':=hp w) (own':=λk=>if own k<Bs.length then As.length else own k-Bs.length) (j:=j) (λk=>⟨λe=>by rw[if_neg U];omega,λe=>by split at e<;>omega⟩) (λ_ _=>rfl)] at this
 exact ⟨H.os,H.tape,H.output,this⟩
theorem Sep.ex(i:Nat){A:Ai}{σ:Type}{B:σ->Ai}(H:Sep z Γ w)(c:Γ[i]?=some A)(a:∀h,A h->∃x,B x h):∃x,Sep z (Γ.set i (B x)) w:=by
 obtain ⟨x,b⟩:=Ts H.own i c (λh _ q=>a h q);exact ⟨x,H.os,H.tape,H.output,b⟩
theorem Sep.mono(i:Nat){A B:Ai}(H:Sep z Γ w)(c:Γ[i]?=some A)(a:∀h,A h->B h):Sep z (Γ.set i B) w:=by
 obtain ⟨_,b⟩:=H.ex i (σ:=Unit) (B:=λ_=>B) c (λh q=>⟨(),a h q⟩);exact b
theorem Sep.exAt(i:Nat){A:Ai}{σ:Type}{p:σ->Prop}{B:σ->Ai}(H:Sep z Γ w)(c:Γ[i]?=some A)(a:∀h,A h->∃x,p x/\B x h):∃x,p x/\Sep z (Γ.set i (B x)) w:=by
 obtain ⟨⟨x,hp⟩,b⟩:=H.ex i (σ:= {x:σ // p x}) (B:=λx=>B x.1) c (λh q=>by obtain ⟨x,d,e⟩:=a h q;exact ⟨⟨x,d⟩,e⟩);exact ⟨x,hp,b⟩
theorem Sep.into{σ:Type}{A:Ai}{p:σ->Prop}{As:σ->List Ai}(H:Sep z (A::Γ) w)(b:∀h,A h->∃x,p x/\seps (As x) h):∃x,p x/\Sep z (As x++Γ) w:=by
 obtain ⟨⟨x,hp⟩,a⟩:=H.ex 0 (σ:= {x:σ // p x}) (B:=λx=>seps (As x.1)) Z (λh q=>by obtain ⟨x,c,d⟩:=b h q;exact ⟨⟨x,c⟩,d⟩);exact ⟨x,hp,a.opened⟩
theorem Sep.made(n:Nat){A:Ai}(H:Sep z Γ w)(a:∀h,seps (Γ.take n) h->A h):Sep z (A::Γ.drop n) w:=by
 have:Sep z (Γ.take n++Γ.drop n) w:=by rw[YG];exact H
 exact this.shut.mono 0 Z a
theorem Sep.get(i:Nat){A:Ai}(H:Sep z Γ w)(b:Γ[i]?=some A):∃h,A h/\∀k o,h k=some o->w.heap[k]?=some o:=by
 obtain ⟨own,a⟩:=H.own;exact ⟨_,a i A b,λk o e=>(Ek e).2⟩
theorem Sep.bk(i:Nat){b:Nat}{o:Obj}(H:Sep z Γ w)(a:Γ[i]?=some (bk b o)):w.heap[b]?=some o:=by
 obtain ⟨h,c,d⟩:=H.get i a;exact d _ _ c
theorem Sep.blk(i:Nat){b:Nat}{cs:List Value}{ty:TypeId}(H:Sep z Γ w)(a:Γ[i]?=some (blk b cs ty)):Blk b cs ty w:=H.bk i a
theorem Sep.cel(i:Nat){b:Nat}{cs:List Value}{ty:TypeId}(H:Sep z Γ w)(c:Γ[i]?=some (YthbbejpbkglmlaaGreatDoor.blk b cs ty))(o:Nat){v:Value}(a:cs[o]?=some v):EK b o v w:=(H.blk i c).cel o a
theorem Sep.write(i:Nat){b:Nat}{o o':Obj}{w':World}(H:Sep z Γ w)(l:Γ[i]?=some (YthbbejpbkglmlaaGreatDoor.bk b o))(m:w'.os=w.os)(p:w'.tape=w.tape)(n:w'.output=w.output)
  (r:w'.heap[b]?=some o')(h:∀k,k≠b->w'.heap[k]?=w.heap[k]?):Sep z (Γ.set i (YthbbejpbkglmlaaGreatDoor.bk b o')) w':=by
 refine ⟨m.trans H.os,p.trans H.tape,n.trans H.output,?_⟩;obtain ⟨own,a⟩:=H.own;have d:=(Ek (a i _ l)).1;refine ⟨own,λj C c=>?_⟩;rw[YZ] at c;split at c
 ·rename_i e;subst e
  split at c
  ·cases c
   unfold YthbbejpbkglmlaaGreatDoor.bk Hp.part hp;rw[if_pos d,r]
  cases c
 rename_i e;have:=a j C c;have g:(hp w).part own j=(hp w').part own j:=Cr (λ_=>Iff.rfl) (λk f=>(h k (λq=>e (by rw[<-f,q,d]))).symm);rwa[g] at this
theorem Sep.grow{A:Ai}{w':World}(H:Sep z Γ w)(x:Ext No w w')(c:A (λk=>if k<w.heap.size then none else w'.heap[k]?)):Sep z (A::Γ) w':=by
 refine ⟨x.os.trans H.os,x.tape.trans H.tape,x.output.trans H.output,?_⟩;obtain ⟨own,a⟩:=H.own;refine ⟨λk=>if k<w.heap.size then own k+1 else 0,λj C b=>?_⟩
 cases j with
 | zero=>
  simp only[YT,X2] at b;subst b;have e:(hp w').part (λk=>if k<w.heap.size then own k+1 else 0) 0=λk=>if k<w.heap.size then none else w'.heap[k]? :=by
   funext k;unfold Hp.part hp;dsimp only;by_cases q:k<w.heap.size
   ·simp[q]
   simp[q]
  rw[e];exact c
 | succ j=>
  simp only[Yq] at b;have:=a j C b;have e:(hp w').part (λk=>if k<w.heap.size then own k+1 else 0) (j+1)=(hp w).part own j:=by
   funext k;unfold Hp.part hp;dsimp only;by_cases q:k<w.heap.size
   ·simp only[q,if_true,Nat.add_right_cancel_iff]
    by_cases q':own k=j
    ·simp only[q',if_true];exact x.block k q (λr=>r)
    simp[q']
   have:w.heap[k]?=none:=Yw U;simp[q,this]
  rwa[e]
theorem Sep.ext0{w':World}(H:Sep z Γ w)(x:Ext No w w'):Sep z Γ w':=by
 have:=H.grow (A:=emp) x trivial;have:=this.perm 1 [] (Γ':=Γ) Z Z;exact this
theorem A9{K:World->Prop}(H:Sep z Γ w)(h:∀w,Sep z Γ w->K w):∀w',Ext No w w'->w'.heap.size=w.heap.size->K w':=λw' x _=>h w' (H.ext0 x)
theorem Sep.new{b:Nat}{o:Obj}{w':World}(H:Sep z Γ w)(x:Ext No w w')(c:w.heap.size<=b)(a:w'.heap[b]?=some o):Sep z (YthbbejpbkglmlaaGreatDoor.bk b o::Γ) w':=
 H.grow x (show (if b<w.heap.size then none else w'.heap[b]?)=some o by rw[if_neg U];exact a)
theorem Sep.done(i:Nat)(H:Sep z Γ w)(c:Γ[i]?=some (base z)):Ext No z w:=by
 obtain ⟨h,d,f⟩:=H.get i c;have a:∀k,k<z.heap.size->w.heap[k]?=z.heap[k]? :=λk b=>by
  have e:z.heap[k]?=some z.heap[k]:=Aac b;rw[e];exact f k _ ((d k b).trans e)
 refine ⟨H.os,H.tape,H.output,?_,λk b _=>a k b⟩;rcases Yg w.heap.size z.heap.size with q|q
 ·have:=a w.heap.size q
  rw[Yw (Yp _),Aac q] at this;cases this
 exact q
end

section
variable{z w:World}{Γ:List Ai}{a0 a1 a2 a3 a4 a5 a6 a7 a8 a9 a10 a11 a12 a13 a14 a15 a16 a17 a18 a19 a20 a21 a22 a23 a24 a25 a26:Ai}
theorem Sep.l1(H:Sep z (a0::Γ) w):Sep z (a0::Γ) w:=H
theorem Sep.l2(H:Sep z (a0::a1::Γ) w):Sep z (a0::a1::Γ) w:=H
theorem Sep.l3(H:Sep z (a0::a1::a2::Γ) w):Sep z (a0::a1::a2::Γ) w:=H
theorem Sep.l4(H:Sep z (a0::a1::a2::a3::Γ) w):Sep z (a0::a1::a2::a3::Γ) w:=H
theorem Sep.l5(H:Sep z (a0::a1::a2::a3::a4::Γ) w):Sep z (a0::a1::a2::a3::a4::Γ) w:=H
theorem Sep.l6(H:Sep z (a0::a1::a2::a3::a4::a5::Γ) w):Sep z (a0::a1::a2::a3::a4::a5::Γ) w:=H
theorem Sep.l7(H:Sep z (a0::a1::a2::a3::a4::a5::a6::Γ) w):Sep z (a0::a1::a2::a3::a4::a5::a6::Γ) w:=H
theorem Sep.l8(H:Sep z (a0::a1::a2::a3::a4::a5::a6::a7::Γ) w):Sep z (a0::a1::a2::a3::a4::a5::a6::a7::Γ) w:=H
theorem Sep.l9(H:Sep z (a0::a1::a2::a3::a4::a5::a6::a7::a8::Γ) w):Sep z (a0::a1::a2::a3::a4::a5::a6::a7::a8::Γ) w:=H
theorem Sep.l10(H:Sep z (a0::a1::a2::a3::a4::a5::a6::a7::a8::a9::Γ) w):Sep z (a0::a1::a2::a3::a4::a5::a6::a7::a8::a9::Γ) w:=H
theorem Sep.l11(H:Sep z (a0::a1::a2::a3::a4::a5::a6::a7::a8::a9::a10::Γ) w):Sep z (a0::a1::a2::a3::a4::a5::a6::a7::a8::a9::a10::Γ) w:=H
theorem Sep.l12(H:Sep z (a0::a1::a2::a3::a4::a5::a6::a7::a8::a9::a10::a11::Γ) w):Sep z (a0::a1::a2::a3::a4::a5::a6::a7::a8::a9::a10::a11::Γ) w:=H
theorem Sep.f1(H:Sep z (a0::a1::Γ) w):Sep z (a1::a0::Γ) w:=H.pick 2 [1,0] Z
theorem Sep.f2(H:Sep z (a0::a1::a2::Γ) w):Sep z (a2::a0::a1::Γ) w:=H.pick 3 [2,0,1] Z
theorem Sep.f3(H:Sep z (a0::a1::a2::a3::Γ) w):Sep z (a3::a0::a1::a2::Γ) w:=H.pick 4 [3,0,1,2] Z
theorem Sep.f4(H:Sep z (a0::a1::a2::a3::a4::Γ) w):Sep z (a4::a0::a1::a2::a3::Γ) w:=H.pick 5 [4,0,1,2,3] Z
theorem Sep.f5(H:Sep z (a0::a1::a2::a3::a4::a5::Γ) w):Sep z (a5::a0::a1::a2::a3::a4::Γ) w:=H.pick 6 [5,0,1,2,3,4] Z
theorem Sep.f6(H:Sep z (a0::a1::a2::a3::a4::a5::a6::Γ) w):Sep z (a6::a0::a1::a2::a3::a4::a5::Γ) w:=H.pick 7 [6,0,1,2,3,4,5] Z
theorem Sep.f7(H:Sep z (a0::a1::a2::a3::a4::a5::a6::a7::Γ) w):Sep z (a7::a0::a1::a2::a3::a4::a5::a6::Γ) w:=H.pick 8 [7,0,1,2,3,4,5,6] Z
theorem Sep.f8(H:Sep z (a0::a1::a2::a3::a4::a5::a6::a7::a8::Γ) w):Sep z (a8::a0::a1::a2::a3::a4::a5::a6::a7::Γ) w:=H.pick 9 [8,0,1,2,3,4,5,6,7] Z
theorem Sep.f9(H:Sep z (a0::a1::a2::a3::a4::a5::a6::a7::a8::a9::Γ) w):Sep z (a9::a0::a1::a2::a3::a4::a5::a6::a7::a8::Γ) w:=H.pick 10 [9,0,1,2,3,4,5,6,7,8] Z
theorem Sep.f10(H:Sep z (a0::a1::a2::a3::a4::a5::a6::a7::a8::a9::a10::Γ) w):Sep z (a10::a0::a1::a2::a3::a4::a5::a6::a7::a8::a9::Γ) w:=H.pick 11 [10,0,1,2,3,4,5,6,7,8,9] Z
theorem Sep.l0(H:Sep z Γ w):Sep z Γ w:=H
theorem Sep.d(H:Sep z (a0::Γ) w):Sep z Γ w:=H.pick 1 [] Z
end

def Cn(P:Program)(f:FuncId)(args:List Value)(pre:List Ai)(post:Value->List Ai->Prop):Prop:=
 ∀z R w,Sep z (pre++R) w->Calls P f args.toArray w (Ret λv w'=>∃Γ',post v Γ'/\Sep z (Γ'++R) w')
abbrev An:=Cn prog
theorem Cn.mono{P:Program}{f:FuncId}{args:List Value}{pre:List Ai}{post a:Value->List Ai->Prop}(h:Cn P f args pre post)(hp:∀v Γ,post v Γ->a v Γ):Cn P f args pre a:=
 λz R w H=>Ret.mono (h z R w H) λ_ _ ⟨Γ',q,b⟩=>⟨Γ',hp _ _ q,b⟩
theorem k_updA{n:Nat}{ds:List Deferred}{L:List (Nat×Value)}{K:Act->Prop}(t:Nat){v u:Value}(c:B1 L t=some u)(e:u=v)(h:∀a,Fr n ds ((t,v)::L) a->K a):∀a,Fr n ds L a->K a:=λa b=>h a (b.upd t c e)
theorem Xv{n:Nat}{ds:List Deferred}{L:List (Nat×Value)}{K:Act->Prop}(t:Nat){p:Prop}{b:Decidable p}(c:B1 L t=some (.bool (@decide p b)))(e: @decide p b=true)(h:∀a,Fr n ds ((t,.bool true)::L) a->K a):∀a,Fr n ds L a->K a:=k_updA t c (congrArg _ e) h
theorem QC{n:Nat}{ds:List Deferred}{L:List (Nat×Value)}{K:Act->Prop}(t:Nat){p:Prop}{b:Decidable p}(c:B1 L t=some (.bool (@decide p b)))(e: @decide p b=false)(h:∀a,Fr n ds ((t,.bool false)::L) a->K a):∀a,Fr n ds L a->K a:=k_updA t c (congrArg _ e) h
end
section
section more
variable{P:Program}{o:Oper}{a:Act}{w:World}{n:Nat}{ds:List Deferred}{L:List (Nat×Value)}
theorem KU{t:TypeId}{e:TypeId}{z:Value}{b sz by_:Nat}{parts:List (Nat×Operand)}{vs:List (Nat×Value)}{out:List Value}(k:o.op=.buildSlice t b parts.toArray)(u:P.underlying t=some (.slice e))(s:Elt P e z sz by_)
  (c:(evs L (parts.map (·.2))).map (List.zip (parts.map (·.1)))=some vs)(r:b*sz<=16777216)(hl:0<b)(m:Instr.fill (λi=>some (i*sz,sz)) ((Array.range (b*sz)).map (z.cells[· % z.cells.size]!)) vs=some out.toArray):BL P n ds L o w (OB out e b w):=by
 intro a y;obtain ⟨i,l,hz,hs,hb,v,a0,q⟩:=s;refine ⟨_,_,?_,Tq w out e b⟩
 cases he:evs L (parts.map (·.2)) with
 | none=>rw[he] at c;cases c
 | some us=>
  rw[he] at c;simp only[Yu,X2] at c;have p:=y.evs he;have:(parts.map λx=>(x.1,a.eval x.2))=vs:=by
   rw[<-c,<-p,Zp];clear c he p m k
   induction parts with
   | nil=>rfl
   | cons x xs ih=>simp[ih]
  simp only[execOp,k,Yv];rw[show (List.map (λx=>match x with|(i,x)=>(i,a.eval x)) parts)=vs from this];have j:b*sz≠0:=by
   intro h0;rcases Aa1.1 h0 with h|h<;>omega
  have d:¬b*sz > 2^24:=by omega
  have g:∀w,(zeroValue e).run P w=.ok z w:=λw=>by simp[zeroValue,typeInfo,l,hz,go_sem]
  have f:∀w,(sizeOf e).run P w=.ok sz w:=λw=>by simp[sizeOf,typeInfo,l,hs,go_sem]
  simp only[Instr.buildSlice,Yd,run_underlying u,X7,f,if_neg d,Yh,if_neg j,g,m,newRow,newObj,Sem.run]
end more
section tail
variable{P:Program}{ops:List Oper}{Q:Act->Prop}{a:Act}{w:World}{rest:List Oper}{o:Oper}{n d:Nat}{ds:List Deferred}{L:List (Nat×Value)}{v:Value}
theorem B5(g:Bv ops L o.guard=true)(h:o.dst=some d)(c:Nat.blt d n=true)(e:Ao P (· =w) n ds L o v)(K:∀a',Fr n ds ((d,v)::L) a'->wpStill P ops.toArray w Q rest a'):∀a,Fr n ds L a->wpStill P ops.toArray w Q (o::rest) a:=λa b=>
 wpStill_step λK' f=>by
  rw[if_pos (wantL_ok b g)];unfold Oper.still;rw[e a b w Z,Oper.stillUpon_value,h];exact f _ (K _ (b.put d v c))
theorem OD(f:DZ ops L o.guard=true)(g:o.dst=some d)(b:Nat.blt d n=true)(K:∀a',Fr n ds ((d,undef)::L) a'->wpStill P ops.toArray w Q rest a'):∀a,Fr n ds L a->wpStill P ops.toArray w Q (o::rest) a:=λa c=>
 wpStill_step λK' e=>by
  rw[if_neg (by rw[skipL_ok c f];exact Aah),g];exact e _ (K _ (c.put d undef b))
theorem Cf(h:∀a,Fr n ds L a->Q a):∀a,Fr n ds L a->wpStill P ops.toArray w Q [] a:=h
theorem Bo{id:Nat}{N R:Act->World->Prop}{X:Nat->Act->World->Prop}(k:Nat)(d:P.follows .mixedOrders=true)(b:Region.lexTailB .any ops.toArray k=true)
  (h:∀w',Ext No w w'->w'.heap.size=w.heap.size->∀a,Fr n ds L a->wpStill P ops.toArray w' (λa'=>wpList P ops.toArray (Qp N X R) (ops.drop k) a' w') (ops.take k) a):∀a,Fr n ds L a->(Code.region id ops.toArray true).wp P (Qp N X R) a w:=λa c=>
 wp_region_still_tail k d b (h _ (Ext.drawn No w) Z a c)
end tail
section held
variable{P:Program}{ops:List Oper}{N R:Act->World->Prop}{X:Nat->Act->World->Prop}{S:World->Prop}{a:Act}{w:World}{fuel:Nat}{listed:Array Bool}{n d i:Nat}{ds:List Deferred}{L:List (Nat×Value)}{v:Value}{o:Oper}
theorem BQ{id:Nat}(S:World->Prop)(k:Nat)(b:ops.length=k)(d:P.follows .mixedOrders=true)
  (h:∀w',Ext No w w'->w'.heap.size=w.heap.size->∀a,Fr n ds L a->wpAnyH P .any ops.toArray (Qp N X R) S k (Array.replicate k false) a w'):∀a,Fr n ds L a->(Code.region id ops.toArray true).wp P (Qp N X R) a w:=λa c=>
 wp_region_held (S:=S) d (by have:=h _ (Ext.drawn No w) Z a c;simpa [b] using this)
theorem Ig(i:Nat)(j:ops[i]?=some o)(hs:Region.noSelect ops.toArray=true)(k:Region.free .any ops.toArray listed i=true)(f:(Region.ready .any ops.toArray listed).contains i=true)
  (l:Bv ops L o.guard=true)(m:o.dst=some d)(e:Nat.blt d n=true)(b:Ao P S n ds L o v)(g:S w)
  (K:∀a',Fr n ds ((d,v)::L) a'->wpAnyH P .any ops.toArray (Qp N X R) S fuel (listed.setIfInBounds i true) a' w):∀a,Fr n ds L a->wpAnyH P .any ops.toArray (Qp N X R) S (fuel+1) listed a w:=λa c=>
 wpAnyH_take (i:=i) (oi:=o) (v:=v) (by simpa using j) hs k f (λ_ _ _ h=>h.elim) (.inl ⟨wantL_ok c l,λw' h=>b a c w' h⟩) g (by rw[m];exact K _ (c.put d v e))
theorem OE(i:Nat)(f:ops[i]?=some o)(hs:Region.noSelect ops.toArray=true)(g:Region.free .any ops.toArray listed i=true)(k:(Region.ready .any ops.toArray listed).contains i=true)
  (j:DZ ops L o.guard=true)(l:o.dst=some d)(b:Nat.blt d n=true)(e:S w)
  (K:∀a',Fr n ds ((d,undef)::L) a'->wpAnyH P .any ops.toArray (Qp N X R) S fuel (listed.setIfInBounds i true) a' w):∀a,Fr n ds L a->wpAnyH P .any ops.toArray (Qp N X R) S (fuel+1) listed a w:=λa c=>
 wpAnyH_take (i:=i) (oi:=o) (v:=undef) (by simpa using f) hs g k (λ_ _ _ h=>h.elim) (.inr ⟨skipL_ok c j,Z⟩) e (by rw[l];exact K _ (c.put d undef b))
theorem Cg(rs:List Nat)(e:Region.ready .any ops.toArray listed=rs)(b:rs≠[])
  (h:∀i∈rs,∀a,Fr n ds L a->wpOp P ops.toArray (Qp N X R) i (λa' w'=>S w'/\wpAnyH P .any ops.toArray (Qp N X R) S fuel (listed.setIfInBounds i true) a' w') a w):∀a,Fr n ds L a->wpAnyH P .any ops.toArray (Qp N X R) S (fuel+1) listed a w:=λa d=>
 wpAnyH_all e b (λi c=>h i c a d)
theorem Az{p:Nat->Prop}{i:Nat}(h:p i):∀j∈[i],p j:=λj a=>by simp at a;subst a;exact h
theorem Xw{p:Nat->Prop}{i k:Nat}(h:p i)(h':p k):∀j∈[i,k],p j:=λj a=>by
 simp at a;rcases a with rfl|rfl
 ·exact h
 exact h'
theorem a_done{fuel:Nat}(b:Region.ready .any ops.toArray listed=[])(h:∀a,Fr n ds L a->N a w):∀a,Fr n ds L a->wpAnyH P .any ops.toArray (Qp N X R) S fuel listed a w:=λa c=>wpAnyH_done b (h a c) _
theorem B3{Z_:Act->World->Prop}(b:S w)(h:∀a,Fr n ds L a->Z_ a w):∀a,Fr n ds L a->S w/\Z_ a w:=λa c=>⟨b,h a c⟩
theorem Ck{K:Act->World->Prop}{Rr:Value->World->Prop}(e:ops[i]?=some o)(k:Bv ops L o.guard=true)(j:o.dst=some d)(c:Nat.blt d n=true)(h:BL P n ds L o w Rr)(f:∀v w',Rr v w'->∀a',Fr n ds ((d,v)::L) a'->K a' w'):∀a,Fr n ds L a->wpOp P ops.toArray (Qp N X R) i K a w:=by
 intro a b;obtain ⟨v,w',l,g⟩:=h a b;unfold wpOp;rw[YM,e];simp only;rw[if_pos (wantL_ok b k)];left;unfold Oper.wp;rw[l,Aab,j];exact f v w' g _ (b.put d v c)
theorem CA{K:Act->World->Prop}{Rr:World->Prop}(c:ops[i]?=some o)(g:Bv ops L o.guard=true)(f:o.dst=none)(h:C3 P n ds L o w Rr)(d:∀w',Rr w'->∀a,Fr n ds L a->K a w'):∀a,Fr n ds L a->wpOp P ops.toArray (Qp N X R) i K a w:=by
 intro a b;obtain ⟨w',j,e⟩:=h a b;unfold wpOp;rw[YM,c];simp only;rw[if_pos (wantL_ok b g)];left;unfold Oper.wp;rw[j,Oper.upon_skip,f];exact d w' e a b
theorem Vj{K:Act->World->Prop}{Rr:Value->World->Prop}{f:FuncId}{args:List Operand}{vs:List Value}{tys:Array TypeId}(r:ops[i]?=some o)(t:Bv ops L o.guard=true)(s:o.dst=some d)(k:Nat.blt d n=true)
  (p:o.op=.call {callee:=.value (.func f),args:=args.toArray,argTypes:=tys})(b:evs L args=some vs)(l:∀w,(callFunc f vs.toArray).run P w=.ok (.enter f vs.toArray) w)(h:Calls P f vs.toArray w (Ret Rr))
  (m:∀v w',Rr v w'->∀a',Fr n ds ((d,v)::L) a'->K a' w'):∀a,Fr n ds L a->wpOp P ops.toArray (Qp N X R) i K a w:=by
 intro a j;have g:(execOp a.eval o).run P w=.ok (.enter f vs.toArray) w:=by
  unfold execOp;have e:=j.evs b;simp only[p,resolve,Act.eval,Deferred.ofValue,invoke];simp only[go_sem,Yv,e,Yo,YJ,l];simpa using l w
 unfold wpOp;rw[YM,r];simp only;rw[if_pos (wantL_ok j t)];left;unfold Oper.wp;rw[g,Aa0];exact Aaw h λe w' q=>by
  cases e with
  | returned v=>simp only[s];exact m v w' q _ (j.put d v k)
  | panicked c=>exact q.elim
  | outgrown=>exact q.elim
end held

section last
variable{P:Program}{ops:Array Oper}{Q:Exit->Act->World->Prop}{S:World->Prop}
def Dc(ops:Array Oper)(listed:Array Bool):Prop:=∀k o,ops[k]?=some o->listed.getD k true=true->k<listed.size->∀e∈o.after,Region.binds .any e=true->listed.getD e.on false=true
theorem Dc.start(ops:Array Oper)(k:Nat):Dc ops (Array.replicate k false):=λj o _ h a=>by
 simp at a;simp[Array.getD,a] at h
theorem Dc.next{listed:Array Bool}{i:Nat}(h:Dc ops listed)(l:i∈Region.ready .any ops listed):Dc ops (listed.setIfInBounds i true):=λk o g d m e f j=>by
 have a:k<listed.size:=by simpa using m
 by_cases hki:k=i
 ·subst hki
  obtain ⟨_,o',c,b⟩:=mem_ready.1 l;rw[g] at c;cases c;have:=b e f j;by_cases hei:e.on=k
  ·rw[hei];simp[a]
  rw[getD_set_ne false (ZI hei)];exact this
 rw[getD_set_ne true (ZI hki)] at d;have:=h k o g d a e f j;by_cases hei:e.on=i
 ·rw[hei]
  rcases Yg i listed.size with h'|h'
  ·simp[h']
  rw[hei] at this;simp[Yw h'] at this
 rw[getD_set_ne false (ZI hei)];exact this
def GA(ops:Array Oper):Bool:=(List.range (ops.size-1)).all λk=>(List.range ops.size).any λj=>k<j&&(match ops[j]? with|some o=>o.after.any λe=>Region.binds .any e&&e.on==k|none=>false)
theorem NF(h:GA ops=true)(k:Nat)(d:k+1<ops.size):∃j o,k<j/\ops[j]?=some o/\∃e∈o.after,Region.binds .any e=true/\e.on=k:=by
 simp only[GA,Aap,Y1] at h;have:=h k U;simp only[List.any_eq_true,Y1,Yl,decide_eq_true_eq] at this;obtain ⟨j,_,c,a⟩:=this
 cases ho:ops[j]? with
 | none=>rw[ho] at a;cases a
 | some o=>
  rw[ho] at a;simp only[Array.any_eq_true] at a;obtain ⟨q,hq,b⟩:=a;simp only[Yl,beq_iff_eq] at b;exact ⟨j,o,c,ho,_,Array.getElem_mem hq,b.1,b.2⟩
theorem NG(h:GA ops=true){listed:Array Bool}(r:Dc ops listed)(hs:listed.size=ops.size)(p:ops.size-1∈Region.ready .any ops listed):∀n k,ops.size-k<=n->k+1<ops.size->listed.getD k false=true:=by
 intro n
 induction n with
 | zero=>intro k l d;omega
 | succ n ih=>
  intro k l d;obtain ⟨j,o,q,f,e,i,g,a⟩:=NF h k d;have s:j<ops.size:=(YI.1 f).1;by_cases hjl:j=ops.size-1
  ·subst hjl
   obtain ⟨_,o',c,b⟩:=mem_ready.1 p;rw[f] at c;cases c;rw[<-a];exact b e i g
  have:=ih j U U;rw[<-a];exact r j o f (by
   have m:j<listed.size:=by omega
   simp[m] at this ⊢;exact this) U e i g
def F4(P:Program)(ops:Array Oper)(Q:Exit->Act->World->Prop)(S:World->Prop):Nat->Array Bool->Act->World->Prop
 | 0,listed,a,w=>Region.ready .any ops listed=[]/\Q .normal a w
 | fuel+1,listed,a,w=>
  (Region.ready .any ops listed=[]->Q .normal a w)/\
  ∀i∈Region.ready .any ops listed,wpOp P ops Q i (λa' w'=>(i≠ops.size-1->S w')/\F4 P ops Q S fuel (listed.setIfInBounds i true) a' w') a w
theorem GB:∀(fuel:Nat) (listed:Array Bool) (a:Act) (w:World),F4 P ops Q S fuel listed a w->wpAny P .any ops Q fuel listed a w
 | 0,_,_,_,h=>h
 | fuel+1,_,_,_,h=>⟨h.1,λi hi=>wpOp_mono (λa' w' h'=>GB fuel _ a' w' h'.2) (h.2 i hi)⟩
theorem KV(s:GA ops=true){i:Nat}{oi:Oper}{v:Value}(hi:ops[i]?=some oi)(a5:i≠ops.size-1)(l:∀(j:Nat) (o:Oper) cs b,ops[j]?=some o->o.op≠ .select cs b)
  (hQ:∀c a w,Q (.panic c) (a.put oi.dst v) w->Q (.panic c) a w):
  ∀(fuel:Nat) (listed:Array Bool) (a:Act) (w:World),Dc ops listed->listed.size=ops.size->
   (∀j n,ops[j]?=some n->j≠i->listed.getD j true=false->(∀e∈n.after,Region.binds .any e=true->e.on≠i)->oi.apart ops n=true)->
   i∈Region.ready .any ops listed->YieldsIf P ops S oi v a->S w->
   F4 P ops Q S fuel (listed.setIfInBounds i true) (a.put oi.dst v) w->F4 P ops Q S (fuel+1) listed a w:=by
 have a6:i<ops.size:=(YI.1 hi).1;intro fuel
 induction fuel with
 | zero=>
  intro listed a w hd p _ g hy z H;refine ⟨λh=>(by rw[h] at g;cases g),λj t=>?_⟩;by_cases hji:j=i
  ·subst hji;exact hy.wpOp hi z ⟨λ_=>z,H⟩
  have:=ready_mono t hji;rw[H.1] at this;cases this
 | succ fuel ih=>
  intro listed a w hd p d g hy z H;refine ⟨λh=>(by rw[h] at g;cases g),λj t=>?_⟩;by_cases hji:j=i
  ·subst hji;exact hy.wpOp hi z ⟨λ_=>z,H⟩
  have q:=H.2 j (ready_mono t hji);have a0:j≠ops.size-1:=λe=>by
   subst e;have:=NG s hd p t (ops.size-i) i (Yp _) U;have u:=(mem_ready.1 g).1;have hh:i<listed.size:=by omega
   simp[hh] at this u;rw[this] at u;cases u
  obtain ⟨m,n,r,y⟩:=mem_ready.1 t;have x:∀e∈n.after,Region.binds .any e=true->e.on≠i:=λe he hb a3=>by
   have q:=y e he hb;have u:=(mem_ready.1 g).1;rw[a3] at q;rcases Yg i listed.size with h'|h'
   ·simp[h'] at u q;rw[u] at q;cases q
   simp[Yw h'] at q
  have h2:=wpOp_putIf r (d j n r hji m x) (λcs b=>l i oi cs b hi) (λcs b=>l j n cs b r) hQ hy q;have f:∀k ok,ops[k]?=some ok->k≠i->(listed.setIfInBounds j true).getD k true=false->
    (∀e∈ok.after,Region.binds .any e=true->e.on≠i)->oi.apart ops ok=true:=λk ok hk a2 a1 a4=>by
   refine d k ok hk a2 ?_ a4;by_cases hjk:j=k
   ·subst hjk;exact m
   rw[getD_set_ne true hjk] at a1;exact a1
  refine wpOp_mono (λa' w' h3=>⟨λ_=>h3.2.1 a0,ih (listed.setIfInBounds j true) a' w' (hd.next t) (by simpa using p) f (ready_mono g (ZI hji)) h3.1 (h3.2.1 a0) ?_⟩) h2;rw[Array.setIfInBounds_comm _ _ hji];exact h3.2.2
theorem Mi{listed:Array Bool}{a:Act}{w:World}(hr:Region.ready .any ops listed=[])(h:Q .normal a w):∀fuel,F4 P ops Q S fuel listed a w
 | 0=>⟨hr,h⟩
 | _+1=>⟨λ_=>h,by rw[hr];simp⟩
end last
section last2
variable{P:Program}{ops:List Oper}{N R:Act->World->Prop}{X:Nat->Act->World->Prop}{S:World->Prop}{a:Act}{w:World}{fuel:Nat}{listed:Array Bool}{n d i:Nat}{ds:List Deferred}{L:List (Nat×Value)}{v:Value}{o:Oper}
def Fx(P:Program)(ops:List Oper)(Q:Exit->Act->World->Prop)(S:World->Prop)(fuel:Nat)(listed:Array Bool)(a:Act)(w:World):Prop:=Dc ops.toArray listed->listed.size=ops.length->F4 P ops.toArray Q S fuel listed a w
theorem A1{id:Nat}(S:World->Prop)(k:Nat)(b:ops.length=k)(d:P.follows .mixedOrders=true)
  (h:∀w',Ext No w w'->w'.heap.size=w.heap.size->∀a,Fr n ds L a->Fx P ops (Qp N X R) S k (Array.replicate k false) a w'):∀a,Fr n ds L a->(Code.region id ops.toArray true).wp P (Qp N X R) a w:=λa c=>
 wp_region_any d (GB (S:=S) _ _ _ _ (by have:=h _ (Ext.drawn No w) Z a c (Dc.start _ _) (by simp[b]);simpa [b] using this))
theorem Bg(i:Nat)(b:GA ops.toArray=true)(r:ops[i]?=some o)(m:Nat.beq i (ops.length-1)=false)(hs:Region.noSelect ops.toArray=true)(s:Region.free .any ops.toArray listed i=true)(p:(Region.ready .any ops.toArray listed).contains i=true)
  (t:Bv ops L o.guard=true)(u:o.dst=some d)(l:Nat.blt d n=true)(j:Ao P S n ds L o v)(q:S w)
  (K:∀a',Fr n ds ((d,v)::L) a'->Fx P ops (Qp N X R) S fuel (listed.setIfInBounds i true) a' w):∀a,Fr n ds L a->Fx P ops (Qp N X R) S (fuel+1) listed a w:=λa k c g=>
 have f:ops.toArray[i]?=some o:=by simpa using r
 have e:i∈Region.ready .any ops.toArray listed:=by simpa using p
 KV b (i:=i) (oi:=o) (v:=v) f (by simpa using ZU m) (Region.noSelect_spec hs) (λ_ _ _ h=>h.elim) fuel listed a w c (by simpa using g) (Region.free_spec f s) e (.inl ⟨wantL_ok k t,λw' h=>j a k w' h⟩) q
  (by rw[u];exact K _ (k.put d v l) (c.next e) (by simpa using g))
theorem Ay(rs:List Nat)(g:Region.ready .any ops.toArray listed=rs)(b:rs≠[])
  (h:∀i∈rs,∀a,Fr n ds L a->wpOp P ops.toArray (Qp N X R) i (λa' w'=>(i≠ops.length-1->S w')/\Fx P ops (Qp N X R) S fuel (listed.setIfInBounds i true) a' w') a w):∀a,Fr n ds L a->Fx P ops (Qp N X R) S (fuel+1) listed a w:=λa j c d=>
 ⟨λe=>absurd (g▸e) b,λi f=>wpOp_mono (λa' w' q=>⟨by simpa using q.1,q.2 (c.next f) (by simpa using d)⟩) (h i (g▸f) a j)⟩
theorem Bi{fuel:Nat}(b:Region.ready .any ops.toArray listed=[])(h:∀a,Fr n ds L a->N a w):∀a,Fr n ds L a->Fx P ops (Qp N X R) S fuel listed a w:=λa c _ _=>Mi b (h a c) _
theorem Ax{q:Prop}{Z_:Act->World->Prop}(b:q->S w)(h:∀a,Fr n ds L a->Z_ a w):∀a,Fr n ds L a->(q->S w)/\Z_ a w:=λa c=>⟨b,h a c⟩
end last2
end
section
def u8(b:UInt8):Value:=.int .u8 b.toNat
def u32(b:UInt32):Value:=.int .u32 b.toNat
def EL(x:Int):UInt8:=UInt8.ofNat (x%256).toNat
def Dt(x:Int):UInt32:=UInt32.ofNat (x%4294967296).toNat
theorem WL(x:Int):IntKind.u8.wrap x=(EL x).toNat:=by
 simp[EL,IntKind.wrap,IntKind.bits,IntKind.signed];omega
theorem Tt(x:Int):IntKind.u32.wrap x=(Dt x).toNat:=by
 simp[Dt,IntKind.wrap,IntKind.bits,IntKind.signed];omega
theorem Vk(b:UInt32):Dt b.toNat=b:=by
 apply ZC.1;have:=b.toNat_lt;simp[Dt];omega
theorem Tu(x:Int):Value.int .u8 (IntKind.u8.wrap x)=u8 (EL x):=congrArg _ (WL x)
theorem QD(x:Int):Value.int .u32 (IntKind.u32.wrap x)=u32 (Dt x):=congrArg _ (Tt x)
theorem XN{a b:UInt8}(h:u8 a=u8 b):a=b:=by
 simp only[u8,Value.int.injEq,true_and] at h;exact Aad.1 U
section
variable{P:Program}{C:World->Prop}{o:Oper}{a:Act}{w z:World}{Γ:List Ai}{n:Nat}{ds:List Deferred}{L:List (Nat×Value)}{v:Value}{x y:Operand}{xt yt:TypeId}
theorem Vl{p q:UInt8}(d:o.op=.binOp .xor xt x y yt)(c:ev L x=some (u8 p))(e:ev L y=some (u8 q)):Ao P C n ds L o (u8 (p ^^^ q)):=λa b w _=>by
 simp only[execOp,d,b.ev c,b.ev e,u8];simp[go_sem,Op.intBits,IntKind.wrap,IntKind.bits,IntKind.signed];have:=(p ^^^ q).toNat_lt;rw[<-UInt8.toNat_xor];show (((p ^^^ q).toNat:Int))%256=((p ^^^ q).toNat:Int);omega
theorem OF{p q:UInt8}(e:o.op=.binOp .eql xt x y yt){k:IntKind}(i:C4 P xt xt=some k)(c:ev L x=some (u8 p))(g:ev L y=some (u8 q)):Ao P C n ds L o (.bool (decide (p=q))):=λa b w _=>by
 obtain ⟨d,j,f⟩:=D7 i;simp only[execOp,e,b.ev c,b.ev g,u8];simp[f,go_sem];rw[Yf];simp;exact ⟨λh=>Aad.1 U,λh=>by rw[h]⟩
theorem Vm{p q:UInt8}(f:o.op=.binOp .neq xt x y yt){k:IntKind}(j:C4 P xt xt=some k)(c:ev L x=some (u8 p))(i:ev L y=some (u8 q)):Ao P C n ds L o (.bool (decide (p≠q))):=λa b w _=>by
 obtain ⟨d,l,g⟩:=D7 j;simp only[execOp,f,b.ev c,b.ev i,u8];simp[g,go_sem];rw[Yf];simp;exact ⟨λh e=>h (by rw[e]),λh e=>h (Aad.1 U)⟩
theorem Tv{p q:UInt32}(e:o.op=.binOp .eql xt x y yt){k:IntKind}(i:C4 P xt xt=some k)(c:ev L x=some (u32 p))(g:ev L y=some (u32 q)):Ao P C n ds L o (.bool (decide (p=q))):=λa b w _=>by
 obtain ⟨d,j,f⟩:=D7 i;simp only[execOp,e,b.ev c,b.ev g,u32];simp[f,go_sem];rw[Yf];simp;exact ⟨λh=>ZC.1 U,λh=>by rw[h]⟩
theorem MC{p q:UInt32}(f:o.op=.binOp .neq xt x y yt){k:IntKind}(j:C4 P xt xt=some k)(c:ev L x=some (u32 p))(i:ev L y=some (u32 q)):Ao P C n ds L o (.bool (decide (p≠q))):=λa b w _=>by
 obtain ⟨d,l,g⟩:=D7 j;simp only[execOp,f,b.ev c,b.ev i,u32];simp[g,go_sem];rw[Yf];simp;exact ⟨λh e=>h (by rw[e]),λh e=>h (ZC.1 U)⟩
theorem Hv{p q:UInt32}(d:o.op=.binOp .xor xt x y yt)(c:ev L x=some (u32 p))(e:ev L y=some (u32 q)):Ao P C n ds L o (u32 (p ^^^ q)):=λa b w _=>by
 simp only[execOp,d,b.ev c,b.ev e,u32];simp[go_sem,Op.intBits,IntKind.wrap,IntKind.bits,IntKind.signed];have:=(p ^^^ q).toNat_lt;rw[<-UInt32.toNat_xor];show (((p ^^^ q).toNat:Int))%4294967296=((p ^^^ q).toNat:Int);omega
theorem Tw{p q:UInt32}(d:o.op=.binOp .and xt x y yt)(c:ev L x=some (u32 p))(e:ev L y=some (u32 q)):Ao P C n ds L o (u32 (p&&&q)):=λa b w _=>by
 simp only[execOp,d,b.ev c,b.ev e,u32];simp[go_sem,Op.intBits,IntKind.wrap,IntKind.bits,IntKind.signed];have:=(p&&&q).toNat_lt;rw[<-AaU];show (((p&&&q).toNat:Int))%4294967296=((p&&&q).toNat:Int);omega
theorem Tx{p q:UInt32}(d:o.op=.binOp .mul xt x y yt)(c:ev L x=some (u32 p))(e:ev L y=some (u32 q)):Ao P C n ds L o (u32 (p*q)):=λa b w _=>by
 simp only[execOp,d,b.ev c,b.ev e,u32];simp[go_sem,IntKind.wrap,IntKind.bits,IntKind.signed,UInt32.toNat_mul]
theorem Fl{p:UInt32}{k:IntKind}{m:Int}{n':UInt32}(f:o.op=.binOp .shr xt x y yt)(e:ev L x=some (u32 p))(h:ev L y=some (.int k m))(g:0<=m/\m<32/\n'=UInt32.ofNat m.toNat):Ao P C n ds L o (u32 (p>>>n')):=λa c w _=>by
 obtain ⟨i,l,rfl⟩:=g;obtain ⟨j,rfl⟩:=ZQ i;simp only[execOp,f,c.ev e,c.ev h,u32];have d:¬((j:Int)<0):=by omega
 have b:min j 32=j:=by omega
 simp[go_sem,Op.shift,IntKind.bits,d,b,UInt32.toNat_shiftRight];rw[AaR];simp;rw[Y3 U]
theorem Hw{p:UInt32}(c:o.op=.unOp .xor xt x)(b:ev L x=some (u32 p)):Ao P C n ds L o (u32 (4294967295 ^^^ p)):=λa d w _=>by
 simp only[execOp,c,d.ev b,u32];simp[go_sem,Op.intBits,IntKind.max,IntKind.wrap,IntKind.bits,IntKind.signed];have:=(4294967295 ^^^ p).toNat_lt;have e:(4294967295 ^^^ p).toNat=4294967295 ^^^ p.toNat:=UInt32.toNat_xor _ _;rw[<-e];show (((4294967295 ^^^ p).toNat:Int))%4294967296=((4294967295 ^^^ p).toNat:Int);omega

theorem KI{a:TypeId}{k:IntKind}{p:Int}(d:o.op=.convert xt a x)(b:C4 P xt a=some .u8)(c:ev L x=some (.int k p)):Ao P C n ds L o (u8 (EL p)):=by
 have:=G0 (P:=P) (C:=C) (n:=n) (ds:=ds) (L:=L) d b c;rwa[Tu] at this
theorem G4{a:TypeId}{k:IntKind}{p:Int}(d:o.op=.convert xt a x)(b:C4 P xt a=some .u32)(c:ev L x=some (.int k p)):Ao P C n ds L o (u32 (Dt p)):=by
 have:=G0 (P:=P) (C:=C) (n:=n) (ds:=ds) (L:=L) d b c;rwa[QD] at this
theorem KJ{a:TypeId}{p:UInt8}(d:o.op=.convert xt a x)(b:C4 P xt a=some .i64)(c:ev L x=some (u8 p)):Ao P C n ds L o (Aa p.toNat):=by
 have:=G0 (P:=P) (C:=C) (n:=n) (ds:=ds) (L:=L) d b c;have hp:=p.toNat_lt;rwa[Y7 _ U] at this
theorem OG{a:TypeId}{p:UInt32}(d:o.op=.convert xt a x)(b:C4 P xt a=some .i64)(c:ev L x=some (u32 p)):Ao P C n ds L o (Aa p.toNat):=by
 have:=G0 (P:=P) (C:=C) (n:=n) (ds:=ds) (L:=L) d b c;have hp:=p.toNat_lt;rwa[Y7 _ U] at this
theorem Fm{a:TypeId}{p:UInt32}(d:o.op=.convert xt a x)(b:C4 P xt a=some .u8)(c:ev L x=some (u32 p)):Ao P C n ds L o (u8 p.toUInt8):=by
 have:=KI (P:=P) (C:=C) (n:=n) (ds:=ds) (L:=L) d b c;have e:EL p.toNat=p.toUInt8:=by
  apply Aad.1;simp[EL];omega
 rwa[e] at this
theorem Ty{a:TypeId}{p:UInt8}(d:o.op=.convert xt a x)(b:C4 P xt a=some .u32)(c:ev L x=some (u8 p)):Ao P C n ds L o (u32 p.toUInt32):=by
 have:=G4 (P:=P) (C:=C) (n:=n) (ds:=ds) (L:=L) d b c;have hp:=p.toNat_lt;have e:Dt p.toNat=p.toUInt32:=by
  apply ZC.1;simp[Dt];omega
 rwa[e] at this

def EZ(P:Program)(t:TypeId):Bool:=match P.underlying t with|some (.pointer _)=>true|_=>false
theorem GC{t:TypeId}(h:EZ P t=true):∃e,P.underlying t=some (.pointer e):=by
 unfold EZ at h;split at h
 ·exact ⟨_,by assumption⟩
 cases h
def QE(P:Program)(t:TypeId):Bool:=match P.underlying t with|some (.slice _)=>true|_=>false
theorem Tz{t:TypeId}(h:QE P t=true):∃e,P.underlying t=some (.slice e):=by
 unfold QE at h;split at h
 ·exact ⟨_,by assumption⟩
 cases h
theorem KW{h:Addr}(f:o.op=.binOp .eql xt x y yt)(b:EZ P xt=true)(d:ev L x=some (.pointer (some h)))(g:ev L y=some (.pointer none)):Ao P C n ds L o (.bool false):=λa c w _=>by
 obtain ⟨e,b⟩:=GC b;simp only[execOp,f,c.ev d,c.ev g];simp[b,go_sem]
theorem QF{h:Addr}(f:o.op=.binOp .neq xt x y yt)(b:EZ P xt=true)(d:ev L x=some (.pointer (some h)))(g:ev L y=some (.pointer none)):Ao P C n ds L o (.bool true):=λa c w _=>by
 obtain ⟨e,b⟩:=GC b;simp only[execOp,f,c.ev d,c.ev g];simp[b,go_sem]
theorem QG(f:o.op=.binOp .eql xt x y yt)(b:EZ P xt=true)(d:ev L x=some (.pointer none))(g:ev L y=some (.pointer none)):Ao P C n ds L o (.bool true):=λa c w _=>by
 obtain ⟨e,b⟩:=GC b;simp only[execOp,f,c.ev d,c.ev g];simp[b,go_sem]
theorem QH(f:o.op=.binOp .neq xt x y yt)(b:EZ P xt=true)(d:ev L x=some (.pointer none))(g:ev L y=some (.pointer none)):Ao P C n ds L o (.bool false):=λa c w _=>by
 obtain ⟨e,b⟩:=GC b;simp only[execOp,f,c.ev d,c.ev g];simp[b,go_sem]
theorem KX{i:Addr}{l c:Nat}(g:o.op=.binOp .eql xt x y yt)(b:QE P xt=true)(f:ev L x=some (.slice (some i) l c))(h:ev L y=some (.slice none 0 0)):Ao P C n ds L o (.bool false):=λa d w _=>by
 obtain ⟨e,b⟩:=Tz b;simp only[execOp,g,d.ev f,d.ev h];simp[Lib.run_eql_slice_nil _ _ e _ _ _ _ _ b,go_sem]
theorem GD{f:Fn}{bs cs:List Operand}{c vs:List Value}(g:o.op=.makeFunc f bs.toArray cs.toArray)(h:evs L bs=some c)(e:evs L cs=some vs):Ao P C n ds L o (.func f c.toArray vs.toArray):=λa b w _=>by
 have d:=b.evs h;have i:=b.evs e;simp only[execOp,g,Yv,d,i];rfl

def KY(P:Program)(t:TypeId):Option (Nat×Nat):=match P.underlying t with
 | some (.pointer a)=>Gx P a
 | _=>none
theorem OH{t:TypeId}{l z:Nat}(h:KY P t=some (l,z)):∃a e i,P.underlying t=some (.pointer a)/\P.underlying a=some (.array l e)/\P.info? e=some i/\i.size=z:=by
 unfold KY at h;split at h
 ·rename_i a c
  obtain ⟨e,i,d,f,b⟩:=Gy h;exact ⟨a,e,i,c,d,f,b⟩
 cases h
theorem Ba{t:TypeId}{lo m:Option Operand}{b a l c p q z o' l' c':Nat}(u:o.op=.slice t x lo m none)(ht:CF P t=some z)
  (s:ev L x=some (.slice (some ⟨b,a,none⟩) l c))(j:(lo=none/\p=0)\/∃y k i,lo=some y/\ev L y=some (.int k i)/\i=(p:Int))(f:(m=none/\q=l)\/∃y k i,m=some y/\ev L y=some (.int k i)/\i=(q:Int))(r:p<=q)(g:q<=c)
  (v:a+p*z=o')(w:q-p=l')(h3:c-p=c')(d:p<c\/p*z=0):Ao P C n ds L o (.slice (some ⟨b,o',none⟩) l' c'):=by
 have:=Jx (P:=P) (C:=C) (n:=n) (ds:=ds) (L:=L) u ht s j f r g;rw[w,h3] at this;have e:(if c=p then (some ⟨b,a,none⟩:Option Addr) else (some ⟨b,a,none⟩:Option Addr).map (·.add (p*z)))=some ⟨b,o',none⟩:=by
  subst v;split
  ·rename_i h;rcases d with d|d
   ·omega
   simp[d]
  simp only[Yu,X2];unfold Addr.add;split
  ·rename_i h0;simp[h0]
  rfl
 rwa[e] at this
theorem Xx{t:TypeId}{lo hi:Option Operand}{b m n' p q z o' l' c':Nat}(u:o.op=.slice t x lo hi none)(ht:KY P t=some (n',z))
  (hx:ev L x=some (.pointer (some ⟨b,m,none⟩)))(a1:(lo=none/\p=0)\/∃y k i,lo=some y/\ev L y=some (.int k i)/\i=(p:Int))(a0:(hi=none/\q=n')\/∃y k i,hi=some y/\ev L y=some (.int k i)/\i=(q:Int))(j:p<=q)(d:q<=n')
  (h1:m+p*z=o')(v:q-p=l')(h3:n'-p=c')(h4:p<n'\/p*z=0):Ao P C n ds L o (.slice (some ⟨b,o',none⟩) l' c'):=λa r w _=>by
 obtain ⟨ar,e,i0,c,l,f,hz⟩:=OH ht;have g1:(0:Int)<=(p:Int)/\(p:Int)<=(q:Int):=by omega
 have g2:(0:Int)<=(q:Int)/\(q:Int)<=(n':Int):=by omega
 have g:((if n'=p then (⟨b,m,none⟩:Addr) else (⟨b,m,none⟩:Addr).add (p*z)))=⟨b,o',none⟩:=by
  subst h1;split
  ·rename_i h;rcases h4 with h4|h4
   ·omega
   simp[h4]
  unfold Addr.add;split
  ·rename_i h0;simp[h0]
  rfl
 rcases a1 with ⟨rfl,rfl⟩|⟨y,k,i,rfl,hy,rfl⟩<;>rcases a0 with ⟨rfl,rfl⟩|⟨y',k',i',rfl,s,rfl⟩
 ·simp only[execOp,u,Yu,YX,r.ev hx];simp[Instr.sliceAt,Instr.slice,run_underlying c,run_underlying l,Instr.sureAddr,Instr.sliceBounds,sizeOf,typeInfo,f,hz,j,d,go_sem,g,v,h3]<;>(try simp_all)<;>(try omega)
 ·simp only[execOp,u,Yu,YX,r.ev hx,r.ev s];simp[Instr.sliceAt,Instr.slice,run_underlying c,run_underlying l,Instr.sureAddr,Instr.sliceBounds,Instr.sliceBound,asIntOf,g2,sizeOf,typeInfo,f,hz,j,d,go_sem,g,v,h3]<;>(try simp_all)<;>(try omega)
 ·simp only[execOp,u,Yu,YX,r.ev hx,r.ev hy];simp[Instr.sliceAt,Instr.slice,run_underlying c,run_underlying l,Instr.sureAddr,Instr.sliceBounds,Instr.sliceBound,asIntOf,g1,sizeOf,typeInfo,f,hz,j,d,go_sem,g,v,h3]<;>(try simp_all)<;>(try omega)
 simp only[execOp,u,Yu,YX,r.ev hx,r.ev hy,r.ev s];simp[Instr.sliceAt,Instr.slice,run_underlying c,run_underlying l,Instr.sureAddr,Instr.sliceBounds,Instr.sliceBound,asIntOf,g1,g2,sizeOf,typeInfo,f,hz,j,d,go_sem,g,v,h3]<;>(try simp_all)<;>(try omega)
theorem Fy{t:TypeId}{lo hi:Option Operand}{b l n' p q z o' l' c':Nat}(s:o.op=.slice t x lo hi none)(ht:Gx P t=some (n',z))
  (hx:ev L x=some (.pointer (some ⟨b,l,none⟩)))(a1:(lo=none/\p=0)\/∃y k i,lo=some y/\ev L y=some (.int k i)/\i=(p:Int))(a0:(hi=none/\q=n')\/∃y k i,hi=some y/\ev L y=some (.int k i)/\i=(q:Int))(g:p<=q)(c:q<=n')
  (h1:l+p*z=o')(u:q-p=l')(h3:n'-p=c')(h4:p<n'\/p*z=0):Ao P C n ds L o (.slice (some ⟨b,o',none⟩) l' c'):=λa m w _=>by
 obtain ⟨e,i0,j,d,v⟩:=Gy ht;have g1:(0:Int)<=(p:Int)/\(p:Int)<=(q:Int):=by omega
 have g2:(0:Int)<=(q:Int)/\(q:Int)<=(n':Int):=by omega
 have f:((if n'=p then (⟨b,l,none⟩:Addr) else (⟨b,l,none⟩:Addr).add (p*z)))=⟨b,o',none⟩:=by
  subst h1;split
  ·rename_i h;rcases h4 with h4|h4
   ·omega
   simp[h4]
  unfold Addr.add;split
  ·rename_i h0;simp[h0]
  rfl
 rcases a1 with ⟨rfl,rfl⟩|⟨y,k,i,rfl,hy,rfl⟩<;>rcases a0 with ⟨rfl,rfl⟩|⟨y',k',i',rfl,r,rfl⟩
 ·simp only[execOp,s,Yu,YX,m.ev hx];simp[Instr.sliceAt,Instr.slice,run_underlying j,Instr.sureAddr,Instr.sliceBounds,sizeOf,typeInfo,d,v,g,c,go_sem,f,u,h3]<;>(try simp_all)<;>(try omega)
 ·simp only[execOp,s,Yu,YX,m.ev hx,m.ev r];simp[Instr.sliceAt,Instr.slice,run_underlying j,Instr.sureAddr,Instr.sliceBounds,Instr.sliceBound,asIntOf,g2,sizeOf,typeInfo,d,v,g,c,go_sem,f,u,h3]<;>(try simp_all)<;>(try omega)
 ·simp only[execOp,s,Yu,YX,m.ev hx,m.ev hy];simp[Instr.sliceAt,Instr.slice,run_underlying j,Instr.sureAddr,Instr.sliceBounds,Instr.sliceBound,asIntOf,g1,sizeOf,typeInfo,d,v,g,c,go_sem,f,u,h3]<;>(try simp_all)<;>(try omega)
 simp only[execOp,s,Yu,YX,m.ev hx,m.ev hy,m.ev r];simp[Instr.sliceAt,Instr.slice,run_underlying j,Instr.sureAddr,Instr.sliceBounds,Instr.sliceBound,asIntOf,g1,g2,sizeOf,typeInfo,d,v,g,c,go_sem,f,u,h3]<;>(try simp_all)<;>(try omega)

theorem BN(H:Sep z Γ w){e:TypeId}{zs:List Value}(g:o.op=.alloc e)(i:zeroCells P e=some zs.toArray):BL P n ds L o w (λv w'=>∃b,v=V b/\Sep z (blk b zs e::Γ) w'):=λa f=>by
 obtain ⟨v,w',h,b,rfl,hs,_,c,d⟩:=Tr (w:=w) g i a f;exact ⟨_,w',h,b,Z,H.new d U c⟩
theorem Fh(H:Sep z Γ w){e:TypeId}{cs:List Value}(h:o.op=.box e x)(c:ev L x=some v)(f:v.cells=cs.toArray):BL P n ds L o w (λv w'=>∃b,v=V b/\Sep z (blk b cs e::Γ) w'):=λa g=>by
 obtain ⟨v,w',i,b,rfl,hs,_,d,c⟩:=WK (P:=P) (w:=w) h c f a g;exact ⟨_,w',i,b,Z,H.new c U d⟩
theorem AD(i:Nat)(H:Sep z Γ w){t ty:TypeId}{b p:Nat}{cs vs:List Value}(e:Γ[i]?=some (blk b cs ty))(g:o.op=.store t x y)(c:ev L x=some (.pointer (some ⟨b,p,none⟩)))(h:ev L y=some v)(r:v.cells=vs.toArray)(j:∀u∈vs,u.oneCell'=true)
  (hs:(P.info? t).map (·.size)=some vs.length)(hp:p+vs.length<=cs.length){out:List Value}(d:cs.take p++vs++cs.drop (p+vs.length)=out):
  C3 P n ds L o w (λw'=>Sep z (Γ.set i (blk b out ty)) w'):=λa s=>by
 obtain ⟨w',l,m,c,_⟩:=MB g c h r j hs (H.blk i e) hp d a s;refine ⟨w',l,H.write i e c.os c.tape c.output m (λk f=>?_)⟩;rcases Yg k w.heap.size with q|q
 ·exact c.block k q f
 rw[Yw q,Yw U]
theorem NH(i:Nat)(H:Sep z Γ w){t ty:TypeId}{b:Nat}{h:Value}{xs:List Value}(a:Γ[i]?=some (blk b (h::xs) ty))(e:o.op=.store t x y)(d:ev L x=some (V b))(f:ev L y=some v)(c:v.cells= #[v])(g:v.oneCell'=true)(hs:(P.info? t).map (·.size)=some 1):C3 P n ds L o w (λw'=>Sep z (Γ.set i (blk b (v::xs) ty)) w'):=
 AD i H a e d f (vs:=[v]) c (by simp[g]) hs O Z
theorem Xy(i:Nat)(H:Sep z Γ w){t ty:TypeId}{b:Nat}{a h:Value}{xs:List Value}(c:Γ[i]?=some (blk b (a::h::xs) ty))(f:o.op=.store t x y)(e:ev L x=some (.pointer (some ⟨b,1,none⟩)))(g:ev L y=some v)(d:v.cells= #[v])(j:v.oneCell'=true)(hs:(P.info? t).map (·.size)=some 1):C3 P n ds L o w (λw'=>Sep z (Γ.set i (blk b (a::v::xs) ty)) w'):=
 AD i H c f e g (vs:=[v]) d (by simp[j]) hs O Z
theorem Jy(i:Nat)(H:Sep z Γ w){t ty:TypeId}{b:Nat}{c a x2:Value}{xs:List Value}(h:Γ[i]?=some (blk b (c::a::x2::xs) ty))(e:o.op=.store t x y)(d:ev L x=some (.pointer (some ⟨b,2,none⟩)))(f:ev L y=some v)(j:v.cells= #[v])(g:v.oneCell'=true)(hs:(P.info? t).map (·.size)=some 1):C3 P n ds L o w (λw'=>Sep z (Γ.set i (blk b (c::a::v::xs) ty)) w'):=
 AD i H h e d f (vs:=[v]) j (by simp[g]) hs O Z
theorem Xz(i:Nat)(H:Sep z Γ w){t ty:TypeId}{b:Nat}{g f x2 d c e a q:Value}{xs:List Value}(m:Γ[i]?=some (blk b (g::f::x2::d::c::e::a::q::xs) ty))(j:o.op=.store t x y)(h:ev L x=some (.pointer (some ⟨b,7,none⟩)))(k:ev L y=some v)(p:v.cells= #[v])(l:v.oneCell'=true)(hs:(P.info? t).map (·.size)=some 1):C3 P n ds L o w (λw'=>Sep z (Γ.set i (blk b (g::f::x2::d::c::e::a::v::xs) ty)) w'):=
 AD i H m j h k (vs:=[v]) p (by simp[l]) hs O Z
theorem QI(i:Nat)(H:Sep z Γ w){t ty:TypeId}{b:Nat}{j h x2 d c f a g e k:Value}{xs:List Value}(r:Γ[i]?=some (blk b (j::h::x2::d::c::f::a::g::e::k::xs) ty))(m:o.op=.store t x y)(l:ev L x=some (.pointer (some ⟨b,9,none⟩)))(p:ev L y=some v)(s:v.cells= #[v])(q:v.oneCell'=true)(hs:(P.info? t).map (·.size)=some 1):C3 P n ds L o w (λw'=>Sep z (Γ.set i (blk b (j::h::x2::d::c::f::a::g::e::v::xs) ty)) w'):=
 AD i H r m l p (vs:=[v]) s (by simp[q]) hs O Z
theorem SW(i:Nat)(H:Sep z Γ w){t ty:TypeId}{b:Nat}{m l x2 g f j d k h e a c:Value}{xs:List Value}(u:Γ[i]?=some (blk b (m::l::x2::g::f::j::d::k::h::e::a::c::xs) ty))(q:o.op=.store t x y)(p:ev L x=some (.pointer (some ⟨b,11,none⟩)))(r:ev L y=some v)(hv:v.cells= #[v])(s:v.oneCell'=true)(hs:(P.info? t).map (·.size)=some 1):C3 P n ds L o w (λw'=>Sep z (Γ.set i (blk b (m::l::x2::g::f::j::d::k::h::e::a::v::xs) ty)) w'):=
 AD i H u q p r (vs:=[v]) hv (by simp[s]) hs O Z
theorem WM(i:Nat)(H:Sep z Γ w){t ty:TypeId}{b:Nat}{p m x2 h g k e l j f c a d:Value}{xs:List Value}(hi:Γ[i]?=some (blk b (p::m::x2::h::g::k::e::l::j::f::c::a::d::xs) ty))(r:o.op=.store t x y)(q:ev L x=some (.pointer (some ⟨b,12,none⟩)))(s:ev L y=some v)(hv:v.cells= #[v])(u:v.oneCell'=true)(hs:(P.info? t).map (·.size)=some 1):C3 P n ds L o w (λw'=>Sep z (Γ.set i (blk b (p::m::x2::h::g::k::e::l::j::f::c::a::v::xs) ty)) w'):=
 AD i H hi r q s (vs:=[v]) hv (by simp[u]) hs O Z
end

section calls
variable{P:Program}{ops:List Oper}{Q:Exit->Act->World->Prop}{a:Act}{w z:World}{rest:List Oper}{o:Oper}{n d:Nat}{ds:List Deferred}{L:List (Nat×Value)}{v:Value}{Γ pre R':List Ai}{post:Value->List Ai->Prop}{f:FuncId}{args:List Operand}{vs:List Value}{tys:Array TypeId}
theorem Cn.or{A B:Ai}(a:Cn P f vs (A::pre) post)(c:Cn P f vs (B::pre) post):Cn P f vs ((λh=>A h\/B h)::pre) post:=λz R w H=>by
 obtain ⟨b,H⟩:=H.ex 0 (σ:=Bool) (B:=λb=>bif b then A else B) Z (λh q=>by rcases q with q|q;exact ⟨true,q⟩;exact ⟨false,q⟩)
 cases b with
 | true=>exact a z R w H
 | false=>exact c z R w H
theorem Cn.at(c:Cn P f vs pre post)(H:Sep z Γ w)(k:Nat)(a:List Nat)(b:Fw k a=true)(e:C5 Γ a++Γ.drop k=pre++R'):Calls P f vs.toArray w (Ret λv w'=>∃Γ',post v Γ'/\Sep z (Γ'++R') w'):=
 c z R' w (H.perm k a b e)
theorem XM(p:Bv ops L o.guard=true)(r:o.dst=some d)(h:Nat.blt d n=true)(i:o.op=.call {callee:=.value (.func f),args:=args.toArray,argTypes:=tys})(b:evs L args=some vs)(j:∀w,(callFunc f vs.toArray).run P w=.ok (.enter f vs.toArray) w)
  (l:Cn P f vs pre post)(H:Sep z Γ w)(k:Nat)(c:List Nat)(g:Fw k c=true)(e:C5 Γ c++Γ.drop k=pre++R')
  (K:∀v w' Γ',post v Γ'->Sep z (Γ'++R') w'->∀a',Fr n ds ((d,v)::L) a'->wpList P ops.toArray Q rest a' w'):∀a,Fr n ds L a->wpList P ops.toArray Q (o::rest) a w:=
 Oz p r h i b j (l.at H k c g e) λv w' ⟨Γ',q,m⟩=>K v w' Γ' q m
theorem Cn.use(a:Cn P f vs pre post)(H:Sep z (pre++R') w):Calls P f vs.toArray w (Ret λv w'=>∃Γ',post v Γ'/\Sep z (Γ'++R') w'):=a z R' w H
theorem E2(k:Bv ops L o.guard=true)(l:o.dst=some d)(c:Nat.blt d n=true)(g:o.op=.call {callee:=.value (.func f),args:=args.toArray,argTypes:=tys})(b:evs L args=some vs)(h:∀w,(callFunc f vs.toArray).run P w=.ok (.enter f vs.toArray) w)
  (i:Cn P f vs pre post)(H:Sep z Γ w)(e:Γ=pre++R')
  (K:∀v w' Γ',post v Γ'->Sep z (Γ'++R') w'->∀a',Fr n ds ((d,v)::L) a'->wpList P ops.toArray Q rest a' w'):∀a,Fr n ds L a->wpList P ops.toArray Q (o::rest) a w:=
 Oz k l c g b h (i.use (e▸H)) λv w' ⟨Γ',q,j⟩=>K v w' Γ' q j
theorem cq(h:Cn P f vs pre post)(hq:∀u Γ',post u Γ'->u=v/\Γ'=pre)(k:Nat)(c a:List Nat)(d:Fw k c=true)(e:C5 Γ c++Γ.drop k=pre++R')(b:Fw k a=true)(g:C5 (pre++R') a++(pre++R').drop k=Γ):
  ∀w,Sep z Γ w->Calls P f vs.toArray w (Ret λu w'=>u=v/\Sep z Γ w'):=λw H=>
 Ret.mono (h.at H k c d e) λu w' ⟨Γ',q,i⟩=>by
  obtain ⟨rfl,rfl⟩:=hq u Γ' q;exact ⟨Z,i.perm k a b g⟩
theorem WN{Rr:Value->World->Prop}(e:Bv ops L o.guard=true)(d:o.dst=none)(h:BL P n ds L o w Rr)(K:∀v w',Rr v w'->∀a,Fr n ds L a->wpList P ops.toArray Q rest a w'):∀a,Fr n ds L a->wpList P ops.toArray Q (o::rest) a w:=by
 intro a b;obtain ⟨v,w',f,c⟩:=h a b;unfold wpList;rw[if_pos (wantL_ok b e)];left;unfold Oper.wp;rw[f,Aab,d];exact K v w' c a b
end calls
section callsH
variable{P:Program}{ops:List Oper}{N R:Act->World->Prop}{X:Nat->Act->World->Prop}{a:Act}{w z:World}{n d i:Nat}{ds:List Deferred}{L:List (Nat×Value)}{v:Value}{o:Oper}{Γ pre R':List Ai}{post:Value->List Ai->Prop}{f:FuncId}{args:List Operand}{vs:List Value}{tys:Array TypeId}{K:Act->World->Prop}
theorem BF(m:ops[i]?=some o)(p:Bv ops L o.guard=true)(r:o.dst=some d)(c:Nat.blt d n=true)(h:o.op=.call {callee:=.value (.func f),args:=args.toArray,argTypes:=tys})(b:evs L args=some vs)(j:∀w,(callFunc f vs.toArray).run P w=.ok (.enter f vs.toArray) w)
  (k:Cn P f vs pre post)(H:Sep z Γ w)(e:Γ=pre++R')
  (g:∀v w' Γ',post v Γ'->Sep z (Γ'++R') w'->∀a',Fr n ds ((d,v)::L) a'->K a' w'):∀a,Fr n ds L a->wpOp P ops.toArray (Qp N X R) i K a w:=
 Vj m p r c h b j (k.use (e▸H)) λv w' ⟨Γ',q,l⟩=>g v w' Γ' q l
theorem Dr(f:ops[i]?=some o)(j:Bv ops L o.guard=true)(k:o.dst=some d)(b:Nat.blt d n=true)(c:Ao P (· =w) n ds L o v)(g:∀a',Fr n ds ((d,v)::L) a'->K a' w):∀a,Fr n ds L a->wpOp P ops.toArray (Qp N X R) i K a w:=
 Ck f j k b (Rr:=λu w'=>u=v/\w'=w) (λa h=>⟨v,w,c a h w Z,Z,Z⟩) λ_ _ ⟨e,l⟩=>by subst e;subst l;exact g
theorem WO{Rr:Value->World->Prop}(c:ops[i]?=some o)(f:Bv ops L o.guard=true)(j:o.dst=none)(h:BL P n ds L o w Rr)(d:∀v w',Rr v w'->∀a,Fr n ds L a->K a w'):∀a,Fr n ds L a->wpOp P ops.toArray (Qp N X R) i K a w:=by
 intro a b;obtain ⟨v,w',g,e⟩:=h a b;unfold wpOp;rw[YM,c];simp only;rw[if_pos (wantL_ok b f)];left;unfold Oper.wp;rw[g,Aab,j];exact d v w' e a b
end callsH
end
section
def Ka:IntKind->IntKind->Bool
 | .i64,.i64=>true
 | .u8,.u8=>true
 | .u32,.u32=>true
 | .u64,.u64=>true
 | .i32,.i32=>true
 | .u16,.u16=>true
 | _,_=>false
theorem F5{k a:IntKind}(h:Ka k a=true):k=a:=by unfold Ka at h;split at h<;>first|rfl|cases h
def icmp(b:BinOp)(p q:Int):Option Value:=match b with
 | .lss=>some (.bool (decide (p<q)))
 | .leq=>some (.bool (decide (p<=q)))
 | .gtr=>some (.bool (decide (q<p)))
 | .geq=>some (.bool (decide (q<=p)))
 | .eql=>some (.bool (decide (p=q)))
 | .neq=>some (.bool (decide (p≠q)))
 | _=>none
def Xl(n:Option Nat)(p r:Nat):Bool:=match n with
 | some k=>Nat.beq (p+k) r
 | none=>false
abbrev Mm:=List (Nat×List Value×TypeId)
def MemL(w:World):Mm->Prop
 | []=>True
 | e::M=>Blk e.1 e.2.1 e.2.2 w/\MemL w M
theorem AU{w:World}:MemL w []:=trivial
theorem A3{w:World}{b:Nat}{cs:List Value}{t:TypeId}{M:Mm}(h:Blk b cs t w)(g:MemL w M):MemL w ((b,cs,t)::M):=⟨h,g⟩
theorem MemL.get{w:World}:∀{M:Mm} {j:Nat} {e:Nat×List Value×TypeId},MemL w M->M[j]?=some e->Blk e.1 e.2.1 e.2.2 w
 | [],_,_,_,h=>by simp at h
 | _::_,0,_,g,h=>by simp at h;subst h;exact g.1
 | _::_,j+1,_,g,h=>MemL.get (j:=j) g.2 (by simpa using h)
structure Qv where
 v:Value
 hs:List Nat
 ok:Bool
 a:List (Nat×Nat)
def NI(P:Program)(M:Mm)(L:List (Nat×Value))(hs:List Nat):Op->Option Qv
 | .move x=>match ev L x with|some v=>some ⟨v,hs,true,[]⟩|none=>none
 | .assign x=>match ev L x with|some v=>some ⟨v,hs,true,[]⟩|none=>none
 | .pick c x y=>match ev L c with
  | some (.bool true)=>(match ev L x with|some v=>some ⟨v,hs,true,[]⟩|none=>none)
  | some (.bool false)=>(match ev L y with|some v=>some ⟨v,hs,true,[]⟩|none=>none)
  | _=>none
 | .extract x i=>match ev L x with
  | some (.tuple vs)=>(match vs.toList[i]? with|some v=>some ⟨v,hs,true,[]⟩|none=>none)
  | _=>none
 | .nilCheck x=>match ev L x with
  | some (.pointer (some ad))=>some ⟨.pointer (some ad),hs,true,[]⟩
  | _=>none
 | .unOp b _ x=>match b with
  | .not=>(match ev L x with|some (.bool c)=>some ⟨.bool !c,hs,true,[]⟩|_=>none)
  | _=>none
 | .binOp b _ x y _=>match ev L x with
  | some (.int k p)=>(match ev L y with
   | some (.int k' q)=>(match icmp b p q with|some v=>some ⟨v,hs,Ka k k',[]⟩|none=>none)
   | _=>none)
  | _=>none
 | .fieldAddr s x f=>match hs with
  | r::hs=>(match ev L x with
   | some (.pointer (some ⟨b,p,none⟩))=>some ⟨.pointer (some ⟨b,r,none⟩),hs,Xl (Dx P s f) p r,[]⟩
   | _=>none)
  | []=>none
 | .load t x=>match hs with
  | j::hs=>(match ev L x with
   | some (.pointer (some ⟨b,p,none⟩))=>(match M[j]? with
    | some e=>(match e.2.1[p]? with
     | some v=>some ⟨v,hs,Ft P t,[(b,e.1)]⟩
     | none=>none)
    | none=>none)
   | _=>none)
  | []=>none
 | _=>none
def Bw:List (Nat×Nat)->Prop
 | []=>True
 | e::l=>e.1=e.2/\Bw l
theorem BO:∀{l m:List (Nat×Nat)},Bw (l++m)->Bw l/\Bw m
 | [],_,h=>⟨trivial,h⟩
 | _::_,_,h=>⟨⟨h.1,(BO h.2).1⟩,(BO h.2).2⟩
section
variable{P:Program}{M:Mm}{L:List (Nat×Value)}{n:Nat}{ds:List Deferred}{w:World}
theorem F6{C:World->Prop}{o:Oper}{hs:List Nat}{q:Qv}(u:∀w,C w->MemL w M)(h:NI P M L hs o.op=some q)(i:q.ok=true)(m:Bw q.a):Ao P C n ds L o q.v:=by
 unfold NI at h;split at h
 ·rename_i d
  split at h
  ·rename_i c;cases h;exact C7 d c
  cases h
 ·rename_i d
  split at h
  ·rename_i c;cases h;exact Bq d c
  cases h
 ·rename_i d
  split at h
  ·rename_i l
   split at h
   ·rename_i c;cases h;exact KQ d l c
   cases h
  ·rename_i l
   split at h
   ·rename_i c;cases h;exact KR d l c
   cases h
  cases h
 ·rename_i d
  split at h
  ·rename_i vs c
   split at h
   ·rename_i g;cases h
    exact E1 (vs:=vs.toList) d (by simpa using c) g
   cases h
  cases h
 ·rename_i d
  split at h
  ·rename_i c;cases h;exact IV d c
  cases h
 ·rename_i d
  split at h
  ·split at h
   ·rename_i c;cases h;exact KH d c
   cases h
  cases h
 ·rename_i b _ x y _ d
  split at h
  ·rename_i k p c
   split at h
   ·rename_i k' r j
    split at h
    ·rename_i v g
     cases h
     obtain rfl:=F5 i;unfold icmp at g;split at g<;>first|(cases g;first|exact NC d c j|exact SP d c j|exact SQ d c j|exact SR d c j|exact SS d c j|exact ND d c j)|cases g
    cases h
   cases h
  cases h
 ·rename_i s x f d
  split at h
  ·split at h
   ·rename_i b p c
    cases h
    dsimp only at i
    cases hf:Dx P s f with
    | none=>rw[hf] at i;cases i
    | some k=>
     rw[hf] at i;exact Jw d hf c (Y6 i)
   cases h
  cases h
 ·rename_i t x d
  split at h
  ·split at h
   ·rename_i b p c
    split at h
    ·rename_i e he
     split at h
     ·rename_i v g
      cases h
      have e1:b=e.1:=m.1;exact AZ d c i (λw z=>by rw[e1];exact ((u w z).get he).cel p g)
     cases h
    cases h
   cases h
  cases h
 cases h
structure Qs where
 L:List (Nat×Value)
 os:List Oper
 ok:Bool
 a:List (Nat×Nat)
def quiet(P:Program)(M:Mm)(ops:List Oper)(n:Nat):Nat->List Nat->Bool->List (Nat×Nat)->List (Nat×Value)->List Oper->Option Qs
 | 0,_,ok,a,L,os=>some ⟨L,os,ok,a⟩
 | _+1,_,_,_,_,[]=>none
 | k+1,hs,ok,a,L,o::os=>match o.dst with
  | none=>none
  | some d=>match Nat.blt d n with
   | false=>none
   | true=>match Bv ops L o.guard with
    | true=>(match NI P M L hs o.op with
     | some q=>quiet P M ops n k q.hs (q.ok&&ok) (q.a++a) ((d,q.v)::L) os
     | none=>none)
    | false=>(match DZ ops L o.guard with
     | true=>quiet P M ops n k hs ok a ((d,undef)::L) os
     | false=>none)
theorem GE{ops:List Oper}:∀{k:Nat} {hs:List Nat} {e:Bool} {a:List (Nat×Nat)} {L:List (Nat×Value)} {b:List Oper} {q:Qs},quiet P M ops n k hs e a L b=some q->q.ok=true->Bw q.a->e=true/\Bw a:=by
 intro k
 induction k with
 | zero=>intro hs e a L b q h d c;simp only[quiet,X2] at h;subst h;exact ⟨d,c⟩
 | succ k ih=>
  intro hs e a L b q h d c
  cases b with
  | nil=>simp[quiet] at h
  | cons o b=>
   simp only[quiet] at h;split at h
   ·cases h
   split at h
   ·cases h
   split at h
   ·split at h
    ·obtain ⟨f,g⟩:=ih h d c
     exact ⟨by simp at f;exact f.2,(BO g).2⟩
    cases h
   split at h
   ·exact ih h d c
   cases h
theorem Vn{ops:List Oper}{Q:Exit->Act->World->Prop}(s:MemL w M):∀(k:Nat) (hs:List Nat) {j:Bool} {a:List (Nat×Nat)} {L L':List (Nat×Value)} {c b:List Oper} {ok':Bool} {a':List (Nat×Nat)},quiet P M ops n k hs j a L c=some ⟨L',b,ok',a'⟩->ok'=true->Bw a'->
  (∀x,Fr n ds L' x->wpList P ops.toArray Q b x w)->∀x,Fr n ds L x->wpList P ops.toArray Q c x w:=by
 intro k
 induction k with
 | zero=>
  intro hs j a L L' c b ok' a' h _ _ K;simp only[quiet,X2,Qs.mk.injEq] at h;obtain ⟨rfl,rfl,_,_⟩:=h;exact K
 | succ k ih=>
  intro hs j a L L' c b ok' a' h i g K
  cases c with
  | nil=>simp[quiet] at h
  | cons o c=>
   simp only[quiet] at h;split at h
   ·cases h
   rename_i d m;split at h
   ·cases h
   rename_i f;split at h
   ·rename_i t
    split at h
    ·rename_i q hq
     obtain ⟨l,p⟩:=GE h i g;simp at l;exact s_do t m f (F6 (λ_ e=>e▸s) hq l.1 (BO p).1) (ih _ h i g K)
    cases h
   split at h
   ·rename_i r
    exact Ox r m f (ih _ h i g K)
   cases h
theorem CI:∀{l:List (Nat×Nat)},l.map Prod.fst=l.map Prod.snd->Bw l
 | [],_=>trivial
 | _::_,h=>by
  simp only[Yn,Aav] at h;exact ⟨h.1,CI h.2⟩
theorem F7{ops:List Oper}{Q:Exit->Act->World->Prop}(k:Nat)(hs:List Nat)(e:MemL w M){L L':List (Nat×Value)}{b a:List Oper}{ok':Bool}{a':List (Nat×Nat)}(h:quiet P M ops n k hs true [] L b=some ⟨L',a,ok',a'⟩)(c:ok'=true)(d:a'.map Prod.fst=a'.map Prod.snd)(K:∀x,Fr n ds L' x->wpList P ops.toArray Q a x w):∀x,Fr n ds L x->wpList P ops.toArray Q b x w:=Vn e k hs h c (CI d) K
theorem Kb{ops:List Oper}{Q:Exit->Act->World->Prop}(k:Nat)(hs:List Nat){L L':List (Nat×Value)}{b a:List Oper}{ok':Bool}(h:quiet P [] ops n k hs true [] L b=some ⟨L',a,ok',[]⟩)(c:ok'=true)(K:∀x,Fr n ds L' x->wpList P ops.toArray Q a x w):∀x,Fr n ds L x->wpList P ops.toArray Q b x w:=Vn AU k hs h c trivial K
theorem BI{ops:List Oper}{Q:Exit->Act->World->Prop}(k:Nat){L L':List (Nat×Value)}{b a:List Oper}{ok':Bool}(h:quiet P [] ops n k [] true [] L b=some ⟨L',a,ok',[]⟩)(c:ok'=true)(K:∀x,Fr n ds L' x->wpList P ops.toArray Q a x w):∀x,Fr n ds L x->wpList P ops.toArray Q b x w:=Vn AU k [] h c trivial K

theorem Xm{ops:List Oper}{C:World->Prop}{Q:Act->Prop}(r:∀w,C w->MemL w M):∀(k:Nat) (hs:List Nat) {i:Bool} {a:List (Nat×Nat)} {L L':List (Nat×Value)} {c b:List Oper} {ok':Bool} {a':List (Nat×Nat)},quiet P M ops n k hs i a L c=some ⟨L',b,ok',a'⟩->ok'=true->Bw a'->
  (∀x,Fr n ds L' x->wpQuiet P ops.toArray C Q b x)->∀x,Fr n ds L x->wpQuiet P ops.toArray C Q c x:=by
 intro k
 induction k with
 | zero=>
  intro hs i a L L' c b ok' a' h _ _ K;simp only[quiet,X2,Qs.mk.injEq] at h;obtain ⟨rfl,rfl,_,_⟩:=h;exact K
 | succ k ih=>
  intro hs i a L L' c b ok' a' h g f K
  cases c with
  | nil=>simp[quiet] at h
  | cons o c=>
   simp only[quiet] at h;split at h
   ·cases h
   rename_i d l;split at h
   ·cases h
   rename_i e;split at h
   ·rename_i s
    split at h
    ·rename_i q hq
     obtain ⟨j,m⟩:=GE h g f;simp at j;exact Be s l e (F6 r hq j.1 (BO m).1) (ih _ h g f K)
    cases h
   split at h
   ·rename_i p
    exact OA p l e (ih _ h g f K)
   cases h
theorem EM{ops:List Oper}{C:World->Prop}{Q:Act->Prop}(k:Nat)(hs:List Nat)(d:∀w,C w->MemL w M){L L':List (Nat×Value)}{b a:List Oper}{ok':Bool}{a':List (Nat×Nat)}(h:quiet P M ops n k hs true [] L b=some ⟨L',a,ok',a'⟩)(e:ok'=true)(c:a'.map Prod.fst=a'.map Prod.snd)(K:∀x,Fr n ds L' x->wpQuiet P ops.toArray C Q a x):∀x,Fr n ds L x->wpQuiet P ops.toArray C Q b x:=Xm d k hs h e (CI c) K
theorem Ca{ops:List Oper}{C:World->Prop}{Q:Act->Prop}(k:Nat)(hs:List Nat){L L':List (Nat×Value)}{b a:List Oper}{ok':Bool}(h:quiet P [] ops n k hs true [] L b=some ⟨L',a,ok',[]⟩)(c:ok'=true)(K:∀x,Fr n ds L' x->wpQuiet P ops.toArray C Q a x):∀x,Fr n ds L x->wpQuiet P ops.toArray C Q b x:=Xm (λ_ _=>AU) k hs h c trivial K
theorem Xn{ops:List Oper}{Q:Act->Prop}(s:MemL w M):∀(k:Nat) (hs:List Nat) {j:Bool} {a:List (Nat×Nat)} {L L':List (Nat×Value)} {c b:List Oper} {ok':Bool} {a':List (Nat×Nat)},quiet P M ops n k hs j a L c=some ⟨L',b,ok',a'⟩->ok'=true->Bw a'->
  (∀x,Fr n ds L' x->wpStill P ops.toArray w Q b x)->∀x,Fr n ds L x->wpStill P ops.toArray w Q c x:=by
 intro k
 induction k with
 | zero=>
  intro hs j a L L' c b ok' a' h _ _ K;simp only[quiet,X2,Qs.mk.injEq] at h;obtain ⟨rfl,rfl,_,_⟩:=h;exact K
 | succ k ih=>
  intro hs j a L L' c b ok' a' h i g K
  cases c with
  | nil=>simp[quiet] at h
  | cons o c=>
   simp only[quiet] at h;split at h
   ·cases h
   rename_i d m;split at h
   ·cases h
   rename_i f;split at h
   ·rename_i t
    split at h
    ·rename_i q hq
     obtain ⟨l,p⟩:=GE h i g;simp at l;exact B5 t m f (F6 (λ_ e=>e▸s) hq l.1 (BO p).1) (ih _ h i g K)
    cases h
   split at h
   ·rename_i r
    exact OD r m f (ih _ h i g K)
   cases h
theorem Vo{ops:List Oper}{Q:Act->Prop}(k:Nat)(hs:List Nat)(e:MemL w M){L L':List (Nat×Value)}{b a:List Oper}{ok':Bool}{a':List (Nat×Nat)}(h:quiet P M ops n k hs true [] L b=some ⟨L',a,ok',a'⟩)(c:ok'=true)(d:a'.map Prod.fst=a'.map Prod.snd)(K:∀x,Fr n ds L' x->wpStill P ops.toArray w Q a x):∀x,Fr n ds L x->wpStill P ops.toArray w Q b x:=Xn e k hs h c (CI d) K
theorem SX{ops:List Oper}{Q:Act->Prop}(k:Nat)(hs:List Nat){L L':List (Nat×Value)}{b a:List Oper}{ok':Bool}(h:quiet P [] ops n k hs true [] L b=some ⟨L',a,ok',[]⟩)(c:ok'=true)(K:∀x,Fr n ds L' x->wpStill P ops.toArray w Q a x):∀x,Fr n ds L x->wpStill P ops.toArray w Q b x:=Xn AU k hs h c trivial K
structure Qa where
 L:List (Nat×Value)
 listed:Array Bool
 ok:Bool
 a:List (Nat×Nat)
def quietA(P:Program)(M:Mm)(ops:List Oper)(n:Nat)(g:Nat->Bool):List Nat->List Nat->Bool->List (Nat×Nat)->List (Nat×Value)->Array Bool->Option Qa
 | [],_,ok,a,L,li=>some ⟨L,li,ok,a⟩
 | i::is,hs,ok,a,L,li=>match ops[i]? with
  | none=>none
  | some o=>match o.dst with
   | none=>none
   | some d=>match Nat.blt d n with
    | false=>none
    | true=>match Bv ops L o.guard with
     | true=>(match NI P M L hs o.op with
      | some q=>quietA P M ops n g is q.hs (((q.ok&&g i)&&(Region.noSelect ops.toArray&&(Region.free .any ops.toArray li i&&(Region.ready .any ops.toArray li).contains i)))&&ok) (q.a++a) ((d,q.v)::L) (li.setIfInBounds i true)
      | none=>none)
     | false=>(match DZ ops L o.guard with
      | true=>quietA P M ops n g is hs ((g i&&(Region.noSelect ops.toArray&&(Region.free .any ops.toArray li i&&(Region.ready .any ops.toArray li).contains i)))&&ok) a ((d,undef)::L) (li.setIfInBounds i true)
      | false=>none)
theorem E0{ops:List Oper}{g:Nat->Bool}:∀{b hs:List Nat} {e:Bool} {a:List (Nat×Nat)} {L:List (Nat×Value)} {f:Array Bool} {q:Qa},quietA P M ops n g b hs e a L f=some q->q.ok=true->Bw q.a->e=true/\Bw a:=by
 intro b
 induction b with
 | nil=>intro hs e a L f q h d c;simp only[quietA,X2] at h;subst h;exact ⟨d,c⟩
 | cons i b ih=>
  intro hs e a L f q h d c;simp only[quietA] at h;split at h
  ·cases h
  split at h
  ·cases h
  split at h
  ·cases h
  split at h
  ·split at h
   ·obtain ⟨j,k⟩:=ih h d c
    exact ⟨(Yl _ _▸j).2,(BO k).2⟩
   cases h
  split at h
  ·obtain ⟨j,k⟩:=ih h d c
   exact ⟨(Yl _ _▸j).2,k⟩
  cases h
section
variable{ops:List Oper}{N R:Act->World->Prop}{X:Nat->Act->World->Prop}{S:World->Prop}
theorem XO(u:∀w,S w->MemL w M)(r:S w):∀(e hs:List Nat) {l:Bool} {a:List (Nat×Nat)} {L L':List (Nat×Value)} {k c:Array Bool} {ok':Bool} {a':List (Nat×Nat)} {fuel:Nat},quietA P M ops n (λ_=>true) e hs l a L k=some ⟨L',c,ok',a'⟩->ok'=true->Bw a'->
  (∀x,Fr n ds L' x->wpAnyH P .any ops.toArray (Qp N X R) S fuel c x w)->∀x,Fr n ds L x->wpAnyH P .any ops.toArray (Qp N X R) S (fuel+e.length) k x w:=by
 intro e
 induction e with
 | nil=>
  intro hs l a L L' k c ok' a' fuel h _ _ K;simp only[quietA,X2,Qa.mk.injEq] at h;obtain ⟨rfl,rfl,_,_⟩:=h;exact K
 | cons i e ih=>
  intro hs l a L L' k c ok' a' fuel h j g K;simp only[quietA] at h;split at h
  ·cases h
  rename_i o m;split at h
  ·cases h
  rename_i d s;split at h
  ·cases h
  rename_i f;split at h
  ·rename_i v
   split at h
   ·rename_i q hq
    obtain ⟨b,p⟩:=E0 h j g;simp only[Yl] at b;exact Ig (fuel:=fuel+e.length) i m b.1.2.1 b.1.2.2.1 b.1.2.2.2 v s f (F6 u hq b.1.1.1 (BO p).1) r (ih _ h j g K)
   cases h
  split at h
  ·rename_i t
   obtain ⟨b,p⟩:=E0 h j g;simp only[Yl] at b;exact OE (fuel:=fuel+e.length) i m b.1.2.1 b.1.2.2.1 b.1.2.2.2 t s f r (ih _ h j g K)
  cases h
theorem XP(b hs:List Nat)(f:∀w,S w->MemL w M)(i:S w){L L':List (Nat×Value)}{d a:Array Bool}{ok':Bool}{a':List (Nat×Nat)}{fuel c:Nat}(h:quietA P M ops n (λ_=>true) b hs true [] L d=some ⟨L',a,ok',a'⟩)(g:ok'=true)(e:a'.map Prod.fst=a'.map Prod.snd)(j:fuel+b.length=c)(K:∀x,Fr n ds L' x->wpAnyH P .any ops.toArray (Qp N X R) S fuel a x w):∀x,Fr n ds L x->wpAnyH P .any ops.toArray (Qp N X R) S c d x w:=j▸XO f i b hs h g (CI e) K
def KK(ops:List Oper)(i:Nat):Bool:= !(Nat.beq i (ops.length-1))&&(match ops[i]? with|some o=>o.guard.isNone|none=>false)
theorem XQ(f:GA ops.toArray=true)(y:∀w,S w->MemL w M)(v:S w):∀(j hs:List Nat) {s:Bool} {a:List (Nat×Nat)} {L L':List (Nat×Value)} {k e:Array Bool} {ok':Bool} {a':List (Nat×Nat)} {fuel:Nat},quietA P M ops n (KK ops) j hs s a L k=some ⟨L',e,ok',a'⟩->ok'=true->Bw a'->
  (∀x,Fr n ds L' x->Fx P ops (Qp N X R) S fuel e x w)->∀x,Fr n ds L x->Fx P ops (Qp N X R) S (fuel+j.length) k x w:=by
 intro j
 induction j with
 | nil=>
  intro hs s a L L' k e ok' a' fuel h _ _ K;simp only[quietA,X2,Qa.mk.injEq] at h;obtain ⟨rfl,rfl,_,_⟩:=h;exact K
 | cons i j ih=>
  intro hs s a L L' k e ok' a' fuel h p m K;simp only[quietA] at h;split at h
  ·cases h
  rename_i o t;split at h
  ·cases h
  rename_i d z;split at h
  ·cases h
  rename_i r;split at h
  ·rename_i l
   split at h
   ·rename_i q hq
    obtain ⟨c,u⟩:=E0 h p m;simp only[Yl] at c;exact Bg (fuel:=fuel+j.length) i f t (by have:=c.1.1.2;unfold KK at this;simp only[Yl] at this;simpa using this.1) c.1.2.1 c.1.2.2.1 c.1.2.2.2 l z r (F6 y hq c.1.1.1 (BO u).1) v (ih _ h p m K)
   cases h
  rename_i l;split at h
  ·obtain ⟨c,u⟩:=E0 h p m
   simp only[Yl] at c;exfalso;have b:=c.1.1;unfold KK at b;rw[t] at b;simp only[Yl] at b
   cases hgd:o.guard with
   | none=>rw[hgd] at l;simp[Bv] at l
   | some g=>have:=b.2;rw[hgd] at this;cases this
  cases h
theorem BA(c hs:List Nat)(a:GA ops.toArray=true)(g:∀w,S w->MemL w M)(j:S w){L L':List (Nat×Value)}{e b:Array Bool}{ok':Bool}{a':List (Nat×Nat)}{fuel d:Nat}(h:quietA P M ops n (KK ops) c hs true [] L e=some ⟨L',b,ok',a'⟩)(i:ok'=true)(f:a'.map Prod.fst=a'.map Prod.snd)(k:fuel+c.length=d)(K:∀x,Fr n ds L' x->Fx P ops (Qp N X R) S fuel b x w):∀x,Fr n ds L x->Fx P ops (Qp N X R) S d e x w:=k▸XQ a g j c hs h i (CI f) K
end
end
end
section
inductive Pt where
 | b (b:Nat) (cs:List Value) (ty:TypeId)
 | a (A:Ai)
def CV:List Pt->List Ai->List Ai
 | [],R=>R
 | .b b cs ty::G,R=>blk b cs ty::CV G R
 | .a A::G,R=>A::CV G R
class Rf(Γ:List Ai)(G:outParam (List Pt))(R:outParam (List Ai)):Prop where
 e:Γ=CV G R
instance rf0 {R:List Ai}:Rf R [] R:=⟨Z⟩
instance rf1 {A:Ai}{Γ R:List Ai}{G:List Pt}[h:Rf Γ G R]:Rf (A::Γ) (.a A::G) R:=⟨congrArg (A:: ·) h.e⟩
instance rf2 {b:Nat}{cs:List Value}{ty:TypeId}{Γ R:List Ai}{G:List Pt}[h:Rf Γ G R]:Rf (blk b cs ty::Γ) (.b b cs ty::G) R:=⟨congrArg (blk b cs ty:: ·) h.e⟩
instance rf3 {Γ R:List Ai}{G:List Pt}[h:Rf Γ G R]:Rf ([]++Γ) G R:=h
instance rf4 {A:Ai}{Γ Γ' R:List Ai}{G:List Pt}[h:Rf (Γ++Γ') G R]:Rf ((A::Γ)++Γ') (.a A::G) R:=⟨congrArg (A:: ·) h.e⟩
instance rf5 {b:Nat}{cs:List Value}{ty:TypeId}{Γ Γ' R:List Ai}{G:List Pt}[h:Rf (Γ++Γ') G R]:Rf ((blk b cs ty::Γ)++Γ') (.b b cs ty::G) R:=⟨congrArg (blk b cs ty:: ·) h.e⟩
theorem Cv{R:List Ai}:∀{G:List Pt} {j b:Nat} {cs:List Value} {ty:TypeId},G[j]?=some (.b b cs ty)->(CV G R)[j]?=some (blk b cs ty)
 | [],_,_,_,_,h=>by simp at h
 | .b b' cs' ty'::G,0,b,cs,ty,h=>by simp at h;obtain ⟨rfl,rfl,rfl⟩:=h;rfl
 | .a A::G,0,b,cs,ty,h=>by simp at h
 | .b b' cs' ty'::G,j+1,b,cs,ty,h=>by simpa [CV] using Cv (j:=j) (by simpa using h)
 | .a A::G,j+1,b,cs,ty,h=>by simpa [CV] using Cv (j:=j) (by simpa using h)
theorem Ih{R:List Ai}:∀{G:List Pt} {j b:Nat} {cs:List Value} {ty:TypeId},j<G.length->(CV G R).set j (blk b cs ty)=CV (G.set j (.b b cs ty)) R
 | [],_,_,_,_,h=>by simp at h
 | .b b' cs' ty'::G,0,b,cs,ty,h=>rfl
 | .a A::G,0,b,cs,ty,h=>rfl
 | .b b' cs' ty'::G,j+1,b,cs,ty,h=>by simp[CV,Ih (j:=j) (by simpa using h)]
 | .a A::G,j+1,b,cs,ty,h=>by simp[CV,Ih (j:=j) (by simpa using h)]

inductive Kd where
 | fin
 | seq (c:Code) (k:Kd)
 | blk (i:Nat) (k:Kd)
inductive Pos where
 | c (c:Code) (k:Kd)
 | o (ops os:List Oper) (k:Kd)
 | n (k:Kd)
 | x (i:Nat) (k:Kd)
 | r
section
variable(P:Program)(N:Act->World->Prop)(X:Nat->Act->World->Prop)(R:Act->World->Prop)
def kQ:Kd->(Act->World->Prop)×(Nat->Act->World->Prop)
 | .fin=>(N,X)
 | .seq c k=>(λa w=>c.wp P (Qp (kQ k).1 (kQ k).2 R) a w,(kQ k).2)
 | .blk i k=>((kQ k).1,upd (kQ k).2 i (kQ k).1)
def Bu:Pos->Act->World->Prop
 | .c c k=>c.wp P (Qp (kQ P N X R k).1 (kQ P N X R k).2 R)
 | .o ops os k=>wpList P ops.toArray (Qp (kQ P N X R k).1 (kQ P N X R k).2 R) os
 | .n k=>(kQ P N X R k).1
 | .x i k=>(kQ P N X R k).2 i
 | .r=>R
end
def SY(L:List (Nat×Value))(k:Kd):Code->Option Pos
 | .seq x y=>some (.c x (.seq y k))
 | .skip=>some (.n k)
 | .ret=>some .r
 | .exit i=>some (.x i k)
 | .block i c=>some (.c c (.blk i k))
 | .cond o x y=>match ev L o with
  | some (.bool true)=>some (.c x k)
  | some (.bool false)=>some (.c y k)
  | _=>none
 | .region _ ops false=>some (.o ops.toList ops.toList k)
 | _=>none
def NJ(L:List (Nat×Value)):Pos->Option Pos
 | .c c k=>SY L k c
 | .n (.seq c k)=>some (.c c k)
 | .n (.blk _ k)=>some (.n k)
 | .x i (.seq _ k)=>some (.x i k)
 | .x i (.blk j k)=>bif Nat.beq i j then some (.n k) else some (.x i k)
 | .o _ [] k=>some (.n k)
 | _=>none
theorem pstep_ok{P:Program}{N R:Act->World->Prop}{X:Nat->Act->World->Prop}{n:Nat}{ds:List Deferred}{L:List (Nat×Value)}{w:World}{p p':Pos}(h:NJ L p=some p')(K:∀x,Fr n ds L x->Bu P N X R p' x w):∀x,Fr n ds L x->Bu P N X R p x w:=by
 unfold NJ at h;split at h
 ·rename_i c k
  unfold SY at h;split at h
  ·cases h;exact AO K
  ·cases h;exact C6 K
  ·cases h;exact DY K
  ·cases h;exact Or K
  ·cases h;exact Fk K
  ·split at h
   ·rename_i a;cases h;exact Ot a K
   ·rename_i a;cases h;exact Ei a K
   cases h
  ·rename_i id ops;cases h
   have:=AF (id:=id) (ops:=ops.toList) (P:=P) (N:=(kQ P N X R k).1) (X:=(kQ P N X R k).2) (R:=R) K;simp only[Array.toArray_toList] at this;exact this
  cases h
 ·cases h;exact K
 ·cases h;exact K
 ·cases h;exact K
 ·rename_i i j k
  cases hb:Nat.beq i j with
  | true=>rw[hb] at h;cases h;rw[Y6 hb];exact IS K
  | false=>rw[hb] at h;cases h;exact WH hb K
 ·cases h;exact K
 cases h

def EN:Option Prop->Prop
 | none=>True
 | some p=>p
def cj:Option Prop->Option Prop->Option Prop
 | none,q=>q
 | some p,none=>some p
 | some p,some q=>some (p/\q)
theorem GG{p q:Option Prop}(h:EN (cj p q)):EN p/\EN q:=by
 cases p<;>cases q<;>simp[cj,EN] at h ⊢ <;>exact h

def FQ{α β:Type}:List α->(List α->β)->β
 | [],k=>k []
 | x::xs,k=>FQ xs λys=>k (x::ys)
theorem D8{α β:Type}:∀(l:List α) (k:List α->β),FQ l k=k l
 | [],_=>rfl
 | x::xs,k=>D8 xs λys=>k (x::ys)
def OI{β:Type}(v:Value)(k:Value->β):β:=match v with
 | .bool b=>k (.bool b)
 | .int i n=>k (.int i n)
 | .pointer a=>k (.pointer a)
 | .slice a l c=>k (.slice a l c)
 | .map r=>k (.map r)
 | .agg cs=>k (.agg cs)
 | v=>k v
theorem OJ{β:Type}(v:Value)(k:Value->β):OI v k=k v:=by cases v<;>rfl
def Hx{β:Type}:List Value->(List Value->β)->β
 | [],k=>k []
 | x::xs,k=>OI x λy=>Hx xs λys=>k (y::ys)
theorem IW{β:Type}:∀(l:List Value) (k:List Value->β),Hx l k=k l
 | [],_=>rfl
 | x::xs,k=>by rw[Hx,OJ,IW xs]
structure OvR where
 v:Value
 hs:List Nat
 zs:List Int
 ok:Bool
 a:List (Nat×Nat)
 ob:Option Prop
def Vq(b:BinOp)(p q:Int):Option Prop:=match b with
 | .lss=>some (p<q)
 | .leq=>some (p<=q)
 | .gtr=>some (q<p)
 | .geq=>some (q<=p)
 | .eql=>some (p=q)
 | .neq=>some (p≠q)
 | _=>none
theorem OK{b:BinOp}{p q:Int}{a:Prop}(h:Vq b p q=some a):(a->icmp b p q=some (.bool true))/\(¬a->icmp b p q=some (.bool false)):=by
 unfold Vq at h;split at h<;>first|cases h|skip
 all_goals (constructor<;>intro hp<;>simp only[icmp,X2,Value.bool.injEq]<;>first|exact decide_eq_true hp|exact decide_eq_false hp)
def Xo(b:BinOp)(p q r:Int):Option Prop:=match b with
 | .add=>some (p+q=r/\ -9223372036854775808<=r/\r<=9223372036854775807)
 | .sub=>some (p-q=r/\ -9223372036854775808<=r/\r<=9223372036854775807)
 | .mul=>some (p*q=r/\ -9223372036854775808<=r/\r<=9223372036854775807)
 | .quo=>some (0<=p/\0<q/\p/q=r/\p<=9223372036854775807)
 | .rem=>some (0<=p/\q≠0/\p%q=r)
 | _=>none
def i64:IntKind->Bool
 | .i64=>true
 | _=>false
theorem OL{k:IntKind}(h:i64 k=true):k=.i64:=by cases k<;>first|rfl|cases h
def QK(P:Program)(b:BinOp)(xt:TypeId)(u v:Value)(hs:List Nat)(zs:List Int):Option OvR:=match u,v with
 | .int k p,.int k' q=>match Vq b p q with
  | some pr=>match hs with
   | 0::hs=>match icmp b p q with
    | some c=>some ⟨c,hs,zs,Ka k k',[],none⟩
    | none=>none
   | 1::hs=>some ⟨.bool true,hs,zs,Ka k k',[],some pr⟩
   | 2::hs=>some ⟨.bool false,hs,zs,Ka k k',[],some (¬pr)⟩
   | 3::hs=>match icmp b p q with
    | some (.bool c)=>some ⟨.bool true,hs,zs,c&&Ka k k',[],none⟩
    | _=>none
   | 4::hs=>match icmp b p q with
    | some (.bool c)=>some ⟨.bool false,hs,zs,!c&&Ka k k',[],none⟩
    | _=>none
   | _=>none
  | none=>match zs with
   | r::zs=>match Xo b p q r with
    | some pr=>some ⟨.int .i64 r,hs,zs,i64 k&&i64 k',[],some pr⟩
    | none=>none
   | []=>none
 | .pointer (some _),.pointer none=>match b with
  | .eql=>some ⟨.bool false,hs,zs,EZ P xt,[],none⟩
  | .neq=>some ⟨.bool true,hs,zs,EZ P xt,[],none⟩
  | _=>none
 | .pointer none,.pointer none=>match b with
  | .eql=>some ⟨.bool true,hs,zs,EZ P xt,[],none⟩
  | .neq=>some ⟨.bool false,hs,zs,EZ P xt,[],none⟩
  | _=>none
 | _,_=>none
def OM:Option Nat->Nat->Bool
 | some x,z=>Nat.beq x z
 | none,_=>false
theorem IX{x:Option Nat}{z:Nat}(h:OM x z=true):x=some z:=by
 cases x with
 | none=>cases h
 | some y=>rw[Y6 (n:=y) (m:=z) h]
def QL:Option (Nat×Nat)->Nat->Nat->Bool
 | some x,l,z=>Nat.beq x.1 l&&Nat.beq x.2 z
 | none,_,_=>false
theorem TA{x:Option (Nat×Nat)}{l z:Nat}(h:QL x l z=true):x=some (l,z):=by
 cases x with
 | none=>cases h
 | some y=>
  simp only[QL,Yl] at h;rw[<-Y6 h.1,<-Y6 h.2]
def QM(P:Program)(G:List Pt)(L:List (Nat×Value))(hs:List Nat)(zs:List Int):Op->Option OvR
 | .move x=>match ev L x with|some v=>some ⟨v,hs,zs,true,[],none⟩|none=>none
 | .assign x=>match ev L x with|some v=>some ⟨v,hs,zs,true,[],none⟩|none=>none
 | .pick c x y=>match ev L c with
  | some (.bool true)=>(match ev L x with|some v=>some ⟨v,hs,zs,true,[],none⟩|none=>none)
  | some (.bool false)=>(match ev L y with|some v=>some ⟨v,hs,zs,true,[],none⟩|none=>none)
  | _=>none
 | .extract x i=>match ev L x with
  | some (.tuple vs)=>(match vs.toList[i]? with|some v=>some ⟨v,hs,zs,true,[],none⟩|none=>none)
  | _=>none
 | .nilCheck x=>match ev L x with
  | some (.pointer (some ad))=>some ⟨.pointer (some ad),hs,zs,true,[],none⟩
  | _=>none
 | .unOp b _ x=>match b with
  | .not=>(match ev L x with|some (.bool c)=>some ⟨.bool !c,hs,zs,true,[],none⟩|_=>none)
  | _=>none
 | .binOp b xt x y _=>match ev L x with
  | some u=>(match ev L y with|some v=>QK P b xt u v hs zs|none=>none)
  | none=>none
 | .fieldAddr s x f=>match hs with
  | r::hs=>(match ev L x with
   | some (.pointer (some ⟨b,p,none⟩))=>some ⟨.pointer (some ⟨b,r,none⟩),hs,zs,Xl (Dx P s f) p r,[],none⟩
   | _=>none)
  | []=>none
 | .load t x=>match hs with
  | j::0::hs=>(match ev L x with
   | some (.pointer (some ⟨b,p,none⟩))=>(match G[j]? with
    | some (.b b' cs _)=>(match cs[p]? with
     | some v=>some ⟨v,hs,zs,Ft P t,[(b,b')],none⟩
     | none=>none)
    | _=>none)
   | _=>none)
  | j::m::hs=>(match ev L x with
   | some (.pointer (some ⟨b,p,none⟩))=>(match G[j]? with
    | some (.b b' cs _)=>FQ ((cs.drop p).take m) λvs=>some ⟨.agg vs.toArray,hs,zs,OM (Gz P t) m&&Nat.beq vs.length m,[(b,b')],none⟩
    | _=>none)
   | _=>none)
  | _=>none
 | .indexAddr t x y=>match ev L x with
  | some (.slice (some ⟨b,p,none⟩) l _)=>(match ev L y with
   | some (.int _ i)=>(match hs with
    | z::j::r::hs=>some ⟨.pointer (some ⟨b,r,none⟩),hs,zs,OM (CF P t) z,[],some (i=(j:Int)/\j<l/\p+j*z=r)⟩
    | _=>none)
   | _=>none)
  | some (.pointer (some ⟨b,p,none⟩))=>(match ev L y with
   | some (.int _ i)=>(match hs with
    | l::z::j::r::hs=>some ⟨.pointer (some ⟨b,r,none⟩),hs,zs,QL (Gx P t) l z,[],some (i=(j:Int)/\j<l/\p+j*z=r)⟩
    | _=>none)
   | _=>none)
  | _=>none
 | .call ⟨.builtin .len,⟨[x]⟩,⟨[t]⟩⟩=>match ev L x with
  | some (.slice _ l _)=>some ⟨.int .i64 l,hs,zs,(CF P t).isSome,[],none⟩
  | _=>none
 | .build t ⟨ps⟩=>match (evs L (ps.map (·.2))).map (List.zip (ps.map (·.1))) with
  | some us=>match P.built t us with
   | some cs=>Hx cs.toList λcs=>some ⟨.agg cs.toArray,hs,zs,true,[],none⟩
   | none=>none
  | none=>none
 | _=>none
section
variable{P:Program}{G:List Pt}{L:List (Nat×Value)}{n:Nat}{ds:List Deferred}{w:World}{C:World->Prop}{o:Oper}{hs:List Nat}{zs:List Int}{q:OvR}
theorem TB{b:BinOp}{xt yt:TypeId}{x y:Operand}{u v:Value}(f:o.op=.binOp b xt x y yt)(a:ev L x=some u)(d:ev L y=some v)(h:QK P b xt u v hs zs=some q)(e:q.ok=true)(hq:EN q.ob):Ao P C n ds L o q.v:=by
 have i:∀{k:IntKind} {p r:Int} {c:Value},ev L x=some (.int k p)->ev L y=some (.int k r)->icmp b p r=some c->Ao P C n ds L o c:=by
  intro k p r c a d l;unfold icmp at l;split at l<;>first|(cases l;first|exact NC f a d|exact SP f a d|exact SQ f a d|exact SR f a d|exact SS f a d|exact ND f a d)|cases l
 unfold QK at h;split at h
 ·rename_i k p s r
  split at h
  ·rename_i m g
   split at h
   ·split at h
    ·rename_i j;cases h;obtain rfl:=F5 e;exact i a d j
    cases h
   ·cases h;obtain rfl:=F5 e;exact i a d ((OK g).1 hq)
   ·cases h;obtain rfl:=F5 e;exact i a d ((OK g).2 hq)
   ·split at h
    ·rename_i c j;cases h;simp only[Yl] at e;obtain rfl:=F5 e.2;rw[e.1] at j;exact i a d j
    cases h
   ·split at h
    ·rename_i c j;cases h;simp only[Yl,Bool.not_eq_true'] at e;obtain rfl:=F5 e.2;rw[e.1] at j;exact i a d j
    cases h
   cases h
  split at h
  ·split at h
   ·rename_i m g
    cases h
    simp only[Yl] at e;obtain rfl:=OL e.1;obtain rfl:=OL e.2;unfold Xo at g;split at g<;>first|cases g|skip
    ·exact Cm f a d hq.1 hq.2
    ·exact Ju f a d hq.1 hq.2
    ·exact Jv f a d hq.1 hq.2
    ·exact Mx f a d hq.1 hq.2.1 hq.2.2.1 hq.2.2.2
    exact My f a d hq.1 hq.2.1 hq.2.2
   cases h
  cases h
 ·split at h
  ·cases h;exact KW f e a d
  ·cases h;exact QF f e a d
  cases h
 ·split at h
  ·cases h;exact QG f e a d
  ·cases h;exact QH f e a d
  cases h
 cases h
theorem oval_ok(hM:∀w,C w->∀(j b:Nat) (cs:List Value) (ty:TypeId),G[j]?=some (Pt.b b cs ty)->Blk b cs ty w)(h:QM P G L hs zs o.op=some q)(e:q.ok=true)(ha:Bw q.a)(hq:EN q.ob):Ao P C n ds L o q.v:=by
 unfold QM at h;split at h
 ·rename_i d
  split at h
  ·rename_i c;cases h;exact C7 d c
  cases h
 ·rename_i d
  split at h
  ·rename_i c;cases h;exact Bq d c
  cases h
 ·rename_i d
  split at h
  ·rename_i hc
   split at h
   ·rename_i c;cases h;exact KQ d hc c
   cases h
  ·rename_i hc
   split at h
   ·rename_i c;cases h;exact KR d hc c
   cases h
  cases h
 ·rename_i d
  split at h
  ·rename_i vs c
   split at h
   ·rename_i g;cases h
    exact E1 (vs:=vs.toList) d (by simpa using c) g
   cases h
  cases h
 ·rename_i d
  split at h
  ·rename_i c;cases h;exact IV d c
  cases h
 ·rename_i d
  split at h
  ·split at h
   ·rename_i c;cases h;exact KH d c
   cases h
  cases h
 ·rename_i b xt x y _ d
  split at h
  ·rename_i u c
   split at h
   ·rename_i v i;exact TB d c i h e hq
   cases h
  cases h
 ·rename_i s x f d
  split at h
  ·split at h
   ·rename_i b p c
    cases h
    dsimp only at e
    cases m:Dx P s f with
    | none=>rw[m] at e;cases e
    | some k=>
     rw[m] at e;exact Jw d m c (Y6 e)
   cases h
  cases h
 ·rename_i t x d
  split at h
  ·split at h
   ·rename_i b p c
    split at h
    ·rename_i b' cs ty he
     split at h
     ·rename_i v g
      cases h
      have r:b=b':=ha.1;exact AZ d c e (λw hw=>by rw[r];exact (hM w hw _ _ _ _ he).cel p g)
     cases h
    cases h
   cases h
  ·split at h
   ·rename_i b p c
    split at h
    ·rename_i b' cs ty he
     rw[D8] at h;cases h;have r:b=b':=ha.1;simp only[Yl] at e;have hl:=Y6 e.2;refine Bz d c (by rw[IX e.1,hl]) (λw hw=>?_);rw[r];exact (hM w hw _ _ _ _ he).part p _ _ Z
    cases h
   cases h
  cases h
 ·rename_i t x y d
  split at h
  ·rename_i b p l _ c
   split at h
   ·rename_i i
    split at h
    ·cases h
     exact Tp d (IX e) c i hq.1 hq.2.1 hq.2.2
    cases h
   cases h
  ·rename_i b p c
   split at h
   ·rename_i i
    split at h
    ·cases h
     exact Ie d (TA e) c i hq.1 hq.2.1 hq.2.2
    cases h
   cases h
  cases h
 ·rename_i x t d
  split at h
  ·rename_i l _ c
   cases h
   dsimp only at e
   cases hz:CF P t with
   | none=>rw[hz] at e;cases e
   | some z=>exact D4 d hz c
  cases h
 ·rename_i t ps d
  split at h
  ·rename_i us g
   split at h
   ·rename_i cs m
    rw[IW] at h;cases h;exact AQ (parts:=ps) d g (by simpa using m)
   cases h
  cases h
 cases h
end

def G5:Value->List Value
 | .agg cs=>cs.toList
 | v=>[v]
theorem MD(v:Value):v.cells=(G5 v).toArray:=by cases v<;>simp[G5,Value.cells]
def Ii:List Value->Nat->List Value->List Value
 | cs,_,[]=>cs
 | [],_,_::_=>[]
 | _::cs,0,v::vs=>v::Ii cs 0 vs
 | c::cs,p+1,v::vs=>c::Ii cs p (v::vs)
theorem Jz:∀(cs:List Value) (p:Nat) (vs:List Value),p+vs.length<=cs.length->cs.take p++vs++cs.drop (p+vs.length)=Ii cs p vs
 | cs,p,[],h=>by simp[Ii]
 | [],p,v::vs,h=>by simp at h
 | c::cs,0,v::vs,h=>by
  have:=Jz cs 0 vs (by simp at h ⊢;omega);simp only[Aa7,Yo,Ze] at this;simp[Ii,this]
 | c::cs,p+1,v::vs,h=>by
  have:=Jz cs p (v::vs) (by simp at h ⊢;omega);simp only[Ii,Zn,ZD];rw[<-this];simp only[XZ,ZD];rw[show p+1+(vs.length+1)=(p+(vs.length+1))+1 from by omega,Zo]
structure OtR where
 G:List Pt
 hs:List Nat
 ok:Bool
 a:List (Nat×Nat)
def Vr(P:Program)(G:List Pt)(L:List (Nat×Value))(hs:List Nat):Op->Option OtR
 | .store t x y=>match hs with
  | j::hs=>(match ev L x with
   | some (.pointer (some ⟨b,p,none⟩))=>(match ev L y with
    | some v=>(match G[j]? with
     | some (.b b' cs ty)=>FQ (Ii cs p (G5 v)) λcs'=>FQ (G.set j (.b b' cs' ty)) λG=>some ⟨G,hs,(OM ((P.info? t).map (·.size)) (G5 v).length&&Nat.ble (p+(G5 v).length) cs.length)&&(G5 v).all (·.oneCell'),[(b,b')]⟩
     | _=>none)
    | none=>none)
   | _=>none)
  | []=>none
 | _=>none
structure Mo(wr:Bool)(S:List Pt->World->Prop):Prop where
 ld:∀{G:List Pt} {w:World} {j b:Nat} {cs:List Value} {ty:TypeId},S G w->G[j]?=some (.b b cs ty)->Blk b cs ty w
 st:wr=true->∀{G:List Pt} {w w':World} {j b:Nat} {cs cs':List Value} {ty:TypeId},S G w->G[j]?=some (.b b cs ty)->w'.os=w.os->w'.tape=w.tape->w'.output=w.output->Blk b cs' ty w'->(∀k:Nat,k≠b->w'.heap[k]?=w.heap[k]?)->S (G.set j (.b b cs' ty)) w'
section
variable{P:Program}{G:List Pt}{L:List (Nat×Value)}{n:Nat}{ds:List Deferred}{o:Oper}{hs:List Nat}{zs:List Int}{S:List Pt->World->Prop}{wr:Bool}
theorem Vs(i:Mo true S){q:OtR}(h:Vr P G L hs o.op=some q)(g:q.ok=true)(m:Bw q.a){w:World}(j:S G w):C3 P n ds L o w (λw'=>S q.G w'):=by
 unfold Vr at h;split at h
 ·rename_i t x y s
  split at h
  ·split at h
   ·rename_i b p r
    split at h
    ·rename_i v u
     split at h
     ·rename_i b' cs ty f
      rw[D8,D8] at h;cases h;have e:b=b':=m.1;subst e;simp only[Yl] at g;obtain ⟨⟨z,d⟩,h3⟩:=g;have d:p+(G5 v).length<=cs.length:=Nat.le_of_ble_eq_true d;intro a hF;obtain ⟨w',hr,hB,c,_⟩:=MB (w:=w) s r u (MD v) (by simpa using h3) (IX z) (i.ld j f) d (Jz cs p _ d) a hF;refine ⟨w',hr,i.st Z j f c.os c.tape c.output hB (λk l=>?_)⟩;rcases Yg k w.heap.size with q|q
      ·exact c.block k q l
      rw[Yw q,Yw U]
     cases h
    cases h
   cases h
  cases h
 cases h

structure OsR where
 L:List (Nat×Value)
 G:List Pt
 hs:List Nat
 zs:List Int
 ok:Bool
 a:List (Nat×Nat)
 ob:Option Prop
def ostep(P:Program)(wr:Bool)(n:Nat)(ops:List Oper)(o:Oper)(hs:List Nat)(zs:List Int)(L:List (Nat×Value))(G:List Pt):Option OsR:=match o.dst with
 | some d=>(match Bv ops L o.guard with
  | true=>(match QM P G L hs zs o.op with
   | some ⟨v,hs,zs,ok,a,ob⟩=>some ⟨(d,v)::L,G,hs,zs,Nat.blt d n&&ok,a,ob⟩
   | none=>none)
  | false=>(match DZ ops L o.guard with
   | true=>some ⟨(d,undef)::L,G,hs,zs,Nat.blt d n,[],none⟩
   | false=>none))
 | none=>(match Bv ops L o.guard with
  | true=>(match wr with
   | true=>(match Vr P G L hs o.op with
    | some ⟨G,hs,ok,a⟩=>some ⟨L,G,hs,zs,ok,a,none⟩
    | none=>none)
   | false=>none)
  | false=>(match DZ ops L o.guard with
   | true=>some ⟨L,G,hs,zs,true,[],none⟩
   | false=>none))
theorem QN(m:Mo wr S){Q:Exit->Act->World->Prop}{ops l:List Oper}{q:OsR}(h:ostep P wr n ops o hs zs L G=some q)(b:q.ok=true)(k:Bw q.a)(hq:EN q.ob)(K:∀w,S q.G w->∀x,Fr n ds q.L x->wpList P ops.toArray Q l x w):∀w,S G w->∀x,Fr n ds L x->wpList P ops.toArray Q (o::l) x w:=by
 intro w c;unfold ostep at h;split at h
 ·rename_i d f
  split at h
  ·rename_i i
   split at h
   ·rename_i j
    cases h
    simp only[Yl] at b;exact s_do i f b.1 (oval_ok (λw' p _ _ _ _ e=>by subst p;exact m.ld c e) j b.2 k hq) (K w c)
   cases h
  split at h
  ·rename_i g;cases h;exact Ox g f b (K w c)
  cases h
 rename_i f;split at h
 ·rename_i i
  split at h
  ·split at h
   ·rename_i j
    cases h
    exact EY i f (Vs m j b k c) K
   cases h
  cases h
 split at h
 ·rename_i g;cases h;exact To g f (K w c)
 cases h
def SZ:Pos->Option (List Oper×Oper×List Oper×Kd)
 | .o ops (o::os) k=>some (ops,o,os,k)
 | _=>none
theorem ON{p:Pos}{ops a:List Oper}{o:Oper}{k:Kd}(h:SZ p=some (ops,o,a,k)):p=.o ops (o::a) k:=by
 unfold SZ at h;split at h<;>cases h;rfl
structure GsR where
 L:List (Nat×Value)
 G:List Pt
 p:Pos
 ok:Bool
 a:List (Nat×Nat)
 ob:Option Prop
def go(P:Program)(wr:Bool)(n:Nat):Nat->List Nat->List Int->List (Nat×Value)->List Pt->Pos->Bool->List (Nat×Nat)->Option Prop->Option GsR
 | 0,_,_,L,G,p,ok,a,ob=>some ⟨L,G,p,ok,a,ob⟩
 | k+1,hs,zs,L,G,p,ok,a,ob=>match SZ p with
  | some (ops,o,os,kk)=>(match ostep P wr n ops o hs zs L G with
   | some ⟨L,G,hs,zs,ok',a',ob'⟩=>go P wr n k hs zs L G (.o ops os kk) (ok'&&ok) (a'++a) (cj ob' ob)
   | none=>none)
  | none=>(match NJ L p with
   | some p=>go P wr n k hs zs L G p ok a ob
   | none=>none)
theorem TC:∀{k:Nat} {hs:List Nat} {zs:List Int} {L:List (Nat×Value)} {G:List Pt} {p:Pos} {d:Bool} {a:List (Nat×Nat)} {ob:Option Prop} {q:GsR},go P wr n k hs zs L G p d a ob=some q->q.ok=true->Bw q.a->EN q.ob->d=true/\Bw a/\EN ob:=by
 intro k
 induction k with
 | zero=>intro hs zs L G p d a ob q h c b hq;simp only[go,X2] at h;subst h;exact ⟨c,b,hq⟩
 | succ k ih=>
  intro hs zs L G p d a ob q h c b hq;simp only[go] at h;split at h
  ·split at h
   ·obtain ⟨e,g,f⟩:=ih h c b hq
    simp only[Yl] at e;exact ⟨e.2,(BO g).2,(GG f).2⟩
   cases h
  split at h
  ·exact ih h c b hq
  cases h
theorem GH{N R:Act->World->Prop}{X:Nat->Act->World->Prop}(i:Mo wr S):∀(k:Nat) {hs:List Nat} {zs:List Int} {L:List (Nat×Value)} {G:List Pt} {p:Pos} {d:Bool} {a:List (Nat×Nat)} {ob:Option Prop} {q:GsR},go P wr n k hs zs L G p d a ob=some q->q.ok=true->Bw q.a->EN q.ob->(∀w,S q.G w->∀x,Fr n ds q.L x->Bu P N X R q.p x w)->∀w,S G w->∀x,Fr n ds L x->Bu P N X R p x w:=by
 intro k
 induction k with
 | zero=>intro hs zs L G p d a ob q h c b hq K;simp only[go,X2] at h;subst h;exact K
 | succ k ih=>
  intro hs zs L G p d a ob q h c b hq K;simp only[go] at h;split at h
  ·rename_i g
   obtain rfl:=ON g;split at h
   ·rename_i j
    obtain ⟨e,f,l⟩:=TC h c b hq;simp only[Yl] at e;exact QN i j e.1 (BO f).1 (GG l).1 (ih h c b hq K)
   cases h
  split at h
  ·rename_i hp
   intro w m;exact pstep_ok hp (ih h c b hq K w m)
  cases h
end

section
variable{P:Program}{G:List Pt}{L:List (Nat×Value)}{n:Nat}{ds:List Deferred}{o:Oper}{hs:List Nat}{zs:List Int}
theorem JA{C:World->Prop}{ops:List Oper}{q:OsR}(l:∀w,C w->∀(j b:Nat) (cs:List Value) (ty:TypeId),G[j]?=some (Pt.b b cs ty)->Blk b cs ty w){d:Nat}(f:o.dst=some d)(h:ostep P false n ops o hs zs L G=some q)(e:q.ok=true)(i:Bw q.a)(hq:EN q.ob):
  ∃v,q.L=(d,v)::L/\Nat.blt d n=true/\((Bv ops L o.guard=true/\Ao P C n ds L o v)\/(DZ ops L o.guard=true/\v=undef)):=by
 unfold ostep at h;split at h
 ·rename_i p c
  rw[f] at c;cases c;split at h
  ·rename_i k
   split at h
   ·rename_i m
    cases h
    simp only[Yl] at e;exact ⟨_,Z,e.1,.inl ⟨k,oval_ok l m e.2 i hq⟩⟩
   cases h
  split at h
  ·rename_i g;cases h;exact ⟨_,Z,e,.inr ⟨g,Z⟩⟩
  cases h
 rename_i c;rw[f] at c;cases c
structure QrR where
 L:List (Nat×Value)
 os:List Oper
 ok:Bool
 a:List (Nat×Nat)
 ob:Option Prop
def Dy(P:Program)(G:List Pt)(ops:List Oper)(n:Nat):Nat->List Nat->List Int->List (Nat×Value)->List Oper->Bool->List (Nat×Nat)->Option Prop->Option QrR
 | 0,_,_,L,os,ok,a,ob=>some ⟨L,os,ok,a,ob⟩
 | _+1,_,_,_,[],_,_,_=>none
 | k+1,hs,zs,L,o::os,ok,a,ob=>match o.dst with
  | some _=>(match ostep P false n ops o hs zs L G with
   | some ⟨L,_,hs,zs,ok',a',ob'⟩=>Dy P G ops n k hs zs L os (ok'&&ok) (a'++a) (cj ob' ob)
   | none=>none)
  | none=>none
theorem Kc{ops:List Oper}:∀{k:Nat} {hs:List Nat} {zs:List Int} {L:List (Nat×Value)} {b:List Oper} {c:Bool} {a:List (Nat×Nat)} {ob:Option Prop} {q:QrR},Dy P G ops n k hs zs L b c a ob=some q->q.ok=true->Bw q.a->EN q.ob->c=true/\Bw a/\EN ob:=by
 intro k
 induction k with
 | zero=>intro hs zs L b c a ob q h e d hq;simp only[Dy,X2] at h;subst h;exact ⟨e,d,hq⟩
 | succ k ih=>
  intro hs zs L b c a ob q h e d hq
  cases b with
  | nil=>simp[Dy] at h
  | cons o b=>
   simp only[Dy] at h;split at h
   ·split at h
    ·obtain ⟨f,i,g⟩:=ih h e d hq
     simp only[Yl] at f;exact ⟨f.2,(BO i).2,(GG g).2⟩
    cases h
   cases h
theorem S0{ops:List Oper}{C:World->Prop}{Q:Act->Prop}(z:∀w,C w->∀(j b:Nat) (cs:List Value) (ty:TypeId),G[j]?=some (Pt.b b cs ty)->Blk b cs ty w):∀(k:Nat) {hs:List Nat} {zs:List Int} {L:List (Nat×Value)} {c:List Oper} {m:Bool} {a:List (Nat×Nat)} {ob:Option Prop} {q:QrR},Dy P G ops n k hs zs L c m a ob=some q->q.ok=true->Bw q.a->EN q.ob->(∀x,Fr n ds q.L x->wpQuiet P ops.toArray C Q q.os x)->∀x,Fr n ds L x->wpQuiet P ops.toArray C Q c x:=by
 intro k
 induction k with
 | zero=>intro hs zs L c m a ob q h l g hq K;simp only[Dy,X2] at h;subst h;exact K
 | succ k ih=>
  intro hs zs L c m a ob q h l g hq K
  cases c with
  | nil=>simp[Dy] at h
  | cons o c=>
   simp only[Dy] at h;split at h
   ·rename_i d p
    split at h
    ·rename_i t
     obtain ⟨r,s,h3⟩:=Kc h l g hq;simp only[Yl] at r;obtain ⟨v,e,f,y⟩:=JA (ds:=ds) z p t r.1 (BO s).1 (GG h3).1;dsimp only at e;subst e;have K':=ih h l g hq K;rcases y with ⟨hw,i⟩|⟨u,rfl⟩
     ·exact Be hw p f i K'
     exact OA u p f K'
    cases h
   cases h
theorem S1{ops:List Oper}{w:World}{Q:Act->Prop}(z:∀(j b:Nat) (cs:List Value) (ty:TypeId),G[j]?=some (Pt.b b cs ty)->Blk b cs ty w):∀(k:Nat) {hs:List Nat} {zs:List Int} {L:List (Nat×Value)} {c:List Oper} {m:Bool} {a:List (Nat×Nat)} {ob:Option Prop} {q:QrR},Dy P G ops n k hs zs L c m a ob=some q->q.ok=true->Bw q.a->EN q.ob->(∀x,Fr n ds q.L x->wpStill P ops.toArray w Q q.os x)->∀x,Fr n ds L x->wpStill P ops.toArray w Q c x:=by
 intro k
 induction k with
 | zero=>intro hs zs L c m a ob q h l g hq K;simp only[Dy,X2] at h;subst h;exact K
 | succ k ih=>
  intro hs zs L c m a ob q h l g hq K
  cases c with
  | nil=>simp[Dy] at h
  | cons o c=>
   simp only[Dy] at h;split at h
   ·rename_i d p
    split at h
    ·rename_i t
     obtain ⟨r,s,h3⟩:=Kc h l g hq;simp only[Yl] at r;obtain ⟨v,e,f,y⟩:=JA (C:=(· =w)) (ds:=ds) (λw' e=>by subst e;exact z) p t r.1 (BO s).1 (GG h3).1;dsimp only at e;subst e;have K':=ih h l g hq K;rcases y with ⟨hw,i⟩|⟨u,rfl⟩
     ·exact B5 hw p f i K'
     exact OD u p f K'
    cases h
   cases h
structure ArR where
 L:List (Nat×Value)
 li:Array Bool
 ok:Bool
 a:List (Nat×Nat)
 ob:Option Prop
def arun(P:Program)(G:List Pt)(ops:List Oper)(n:Nat)(g:Nat->Bool):List Nat->List Nat->List Int->List (Nat×Value)->Array Bool->Bool->List (Nat×Nat)->Option Prop->Option ArR
 | [],_,_,L,li,ok,a,ob=>some ⟨L,li,ok,a,ob⟩
 | i::is,hs,zs,L,li,ok,a,ob=>match ops[i]? with
  | some o=>(match o.dst with
   | some _=>(match ostep P false n ops o hs zs L G with
    | some ⟨L,_,hs,zs,ok',a',ob'⟩=>arun P G ops n g is hs zs L (li.setIfInBounds i true) ((ok'&&(g i&&(Region.noSelect ops.toArray&&(Region.free .any ops.toArray li i&&(Region.ready .any ops.toArray li).contains i))))&&ok) (a'++a) (cj ob' ob)
    | none=>none)
   | none=>none)
  | none=>none
theorem OO{ops:List Oper}{g:Nat->Bool}:∀{b hs:List Nat} {zs:List Int} {L:List (Nat×Value)} {e:Array Bool} {c:Bool} {a:List (Nat×Nat)} {ob:Option Prop} {q:ArR},arun P G ops n g b hs zs L e c a ob=some q->q.ok=true->Bw q.a->EN q.ob->c=true/\Bw a/\EN ob:=by
 intro b
 induction b with
 | nil=>intro hs zs L e c a ob q h f d hq;simp only[arun,X2] at h;subst h;exact ⟨f,d,hq⟩
 | cons i b ih=>
  intro hs zs L e c a ob q h f d hq;simp only[arun] at h;split at h
  ·split at h
   ·split at h
    ·obtain ⟨j,l,k⟩:=ih h f d hq
     simp only[Yl] at j;exact ⟨j.2,(BO l).2,(GG k).2⟩
    cases h
   cases h
  cases h
theorem S2{ops:List Oper}{N R:Act->World->Prop}{X:Nat->Act->World->Prop}{S:World->Prop}{w:World}(hM:∀w,S w->∀(j b:Nat) (cs:List Value) (ty:TypeId),G[j]?=some (Pt.b b cs ty)->Blk b cs ty w)(u:S w):∀(f:List Nat) {hs:List Nat} {zs:List Int} {L:List (Nat×Value)} {k:Array Bool} {r:Bool} {a:List (Nat×Nat)} {ob:Option Prop} {q:ArR} {fuel:Nat},arun P G ops n (λ_=>true) f hs zs L k r a ob=some q->q.ok=true->Bw q.a->EN q.ob->
  (∀x,Fr n ds q.L x->wpAnyH P .any ops.toArray (Qp N X R) S fuel q.li x w)->∀x,Fr n ds L x->wpAnyH P .any ops.toArray (Qp N X R) S (fuel+f.length) k x w:=by
 intro f
 induction f with
 | nil=>intro hs zs L k r a ob q fuel h p l hq K;simp only[arun,X2] at h;subst h;exact K
 | cons i f ih=>
  intro hs zs L k r a ob q fuel h p l hq K;simp only[arun] at h;split at h
  ·rename_i o t
   split at h
   ·rename_i d s
    split at h
    ·rename_i z
     obtain ⟨c,y,h3⟩:=OO h p l hq;simp only[Yl] at c;obtain ⟨v,e,g,hx⟩:=JA (ds:=ds) hM s z c.1.1 (BO y).1 (GG h3).1;dsimp only at e;subst e;have K':=ih h p l hq K;rcases hx with ⟨hw,m⟩|⟨hk,rfl⟩
     ·exact Ig (fuel:=fuel+f.length) i t c.1.2.2.1 c.1.2.2.2.1 c.1.2.2.2.2 hw s g m u K'
     exact OE (fuel:=fuel+f.length) i t c.1.2.2.1 c.1.2.2.2.1 c.1.2.2.2.2 hk s g u K'
    cases h
   cases h
  cases h
section
variable{ops:List Oper}{L':List (Nat×Value)}{ok':Bool}{a':List (Nat×Nat)}{ob:Prop}{z w:World}{Γ F:List Ai}
theorem CM(h:(ok',a'.map Prod.fst)=(true,a'.map Prod.snd)):ok'=true/\Bw a':=⟨congrArg Prod.fst h,CI (congrArg Prod.snd h)⟩
theorem IY{Q:Act->Prop}(k:Nat)(hs:List Nat)(zs:List Int)[e:Rf Γ G F]{b a:List Oper}(h:Dy P G ops n k hs zs L b true [] none=some ⟨L',a,ok',a',none⟩)(c:(ok',a'.map Prod.fst)=(true,a'.map Prod.snd))(K:∀x,Fr n ds L' x->wpQuiet P ops.toArray (Sep z Γ) Q a x):∀x,Fr n ds L x->wpQuiet P ops.toArray (Sep z Γ) Q b x:=
 S0 (λ_ H _ _ _ _ q=>(show Sep z (CV G F) _ from e.e▸H).blk _ (Cv q)) k h (CM c).1 (CM c).2 trivial K
theorem Xp{Q:Act->Prop}(k:Nat)(hs:List Nat)(zs:List Int)(H:Sep z Γ w)[e:Rf Γ G F]{b a:List Oper}(h:Dy P G ops n k hs zs L b true [] none=some ⟨L',a,ok',a',none⟩)(c:(ok',a'.map Prod.fst)=(true,a'.map Prod.snd))(K:∀x,Fr n ds L' x->wpStill P ops.toArray w Q a x):∀x,Fr n ds L x->wpStill P ops.toArray w Q b x:=
 S1 (λ_ _ _ _ q=>(show Sep z (CV G F) _ from e.e▸H).blk _ (Cv q)) k h (CM c).1 (CM c).2 trivial K
theorem CC{N R:Act->World->Prop}{X:Nat->Act->World->Prop}(b hs:List Nat)(zs:List Int)(H:Sep z Γ w)[e:Rf Γ G F]{d a:Array Bool}{fuel c:Nat}(h:arun P G ops n (λ_=>true) b hs zs L d true [] none=some ⟨L',a,ok',a',none⟩)(f:(ok',a'.map Prod.fst)=(true,a'.map Prod.snd))(g:fuel+b.length=c)(K:∀x,Fr n ds L' x->wpAnyH P .any ops.toArray (Qp N X R) (Sep z Γ) fuel a x w):∀x,Fr n ds L x->wpAnyH P .any ops.toArray (Qp N X R) (Sep z Γ) c d x w:=
 g▸S2 (S:=Sep z Γ) (λ_ H _ _ _ _ q=>(show Sep z (CV G F) _ from e.e▸H).blk _ (Cv q)) H b h (CM f).1 (CM f).2 trivial K
theorem F8{Q:Act->Prop}(k:Nat)(hs:List Nat)(zs:List Int)[e:Rf Γ G F]{b a:List Oper}(h:Dy P G ops n k hs zs L b true [] none=some ⟨L',a,ok',a',some ob⟩)(c:(ok',a'.map Prod.fst)=(true,a'.map Prod.snd))(hq:ob)(K:∀x,Fr n ds L' x->wpQuiet P ops.toArray (Sep z Γ) Q a x):∀x,Fr n ds L x->wpQuiet P ops.toArray (Sep z Γ) Q b x:=
 S0 (λ_ H _ _ _ _ q=>(show Sep z (CV G F) _ from e.e▸H).blk _ (Cv q)) k h (CM c).1 (CM c).2 hq K
theorem CD{Q:Act->Prop}(k:Nat)(hs:List Nat)(zs:List Int)(H:Sep z Γ w)[e:Rf Γ G F]{b a:List Oper}(h:Dy P G ops n k hs zs L b true [] none=some ⟨L',a,ok',a',some ob⟩)(c:(ok',a'.map Prod.fst)=(true,a'.map Prod.snd))(hq:ob)(K:∀x,Fr n ds L' x->wpStill P ops.toArray w Q a x):∀x,Fr n ds L x->wpStill P ops.toArray w Q b x:=
 S1 (λ_ _ _ _ q=>(show Sep z (CV G F) _ from e.e▸H).blk _ (Cv q)) k h (CM c).1 (CM c).2 hq K
theorem OP{N R:Act->World->Prop}{X:Nat->Act->World->Prop}(b hs:List Nat)(zs:List Int)(H:Sep z Γ w)[e:Rf Γ G F]{d a:Array Bool}{fuel c:Nat}(h:arun P G ops n (λ_=>true) b hs zs L d true [] none=some ⟨L',a,ok',a',some ob⟩)(f:(ok',a'.map Prod.fst)=(true,a'.map Prod.snd))(hq:ob)(g:fuel+b.length=c)(K:∀x,Fr n ds L' x->wpAnyH P .any ops.toArray (Qp N X R) (Sep z Γ) fuel a x w):∀x,Fr n ds L x->wpAnyH P .any ops.toArray (Qp N X R) (Sep z Γ) c d x w:=
 g▸S2 (S:=Sep z Γ) (λ_ H _ _ _ _ q=>(show Sep z (CV G F) _ from e.e▸H).blk _ (Cv q)) H b h (CM f).1 (CM f).2 hq K
end
end

structure FiR where
 L:List (Nat×Value)
 G:List Pt
 p:Pos
 a:List Nat
 b:List Nat
 ob:Option Prop
def fin:Option GsR->Option FiR
 | some ⟨L,G,p,true,a,ob⟩=>some ⟨L,G,p,a.map Prod.fst,a.map Prod.snd,ob⟩
 | _=>none
def KL{β:Type}:List Pt->List Ai->(List Ai->β)->β
 | [],R,k=>k R
 | .b b cs ty::G,R,k=>KL G R λΓ=>k (blk b cs ty::Γ)
 | .a A::G,R,k=>KL G R λΓ=>k (A::Γ)
theorem QO{β:Type}{R:List Ai}(G:List Pt):∀(k:List Ai->β),KL G R k=k (CV G R):=by
 induction G with
 | nil=>intro k;rfl
 | cons x G ih=>intro k;cases x<;>exact ih _
structure FwR where
 L:List (Nat×Value)
 Γ:List Ai
 p:Pos
 a:List Nat
 b:List Nat
 ob:Option Prop
def OQ(F:List Ai):Option GsR->Option FwR
 | some ⟨L,G,p,true,a,ob⟩=>KL G F λΓ=>some ⟨L,Γ,p,a.map Prod.fst,a.map Prod.snd,ob⟩
 | _=>none
theorem KZ{F Γ:List Ai}{q:Option GsR}{L:List (Nat×Value)}{p:Pos}{al:List Nat}{ob:Option Prop}(h:OQ F q=some ⟨L,Γ,p,al,al,ob⟩):∃a G,q=some ⟨L,G,p,true,a,ob⟩/\Bw a/\CV G F=Γ:=by
 unfold OQ at h;split at h
 ·rename_i a _
  rw[QO] at h;simp only[X2,FwR.mk.injEq] at h;obtain ⟨rfl,d,rfl,b,c,rfl⟩:=h;exact ⟨_,_,Z,CI (b.trans c.symm),d⟩
 cases h
theorem IZ{q:Option GsR}{L:List (Nat×Value)}{G:List Pt}{p:Pos}{al:List Nat}{ob:Option Prop}(h:fin q=some ⟨L,G,p,al,al,ob⟩):∃a,q=some ⟨L,G,p,true,a,ob⟩/\Bw a:=by
 unfold fin at h;split at h
 ·rename_i a _
  simp only[X2,FiR.mk.injEq] at h;obtain ⟨rfl,rfl,rfl,b,c,rfl⟩:=h;exact ⟨_,Z,CI (b.trans c.symm)⟩
 cases h
section
variable{P:Program}{N R:Act->World->Prop}{X:Nat->Act->World->Prop}{n:Nat}{ds:List Deferred}{L L':List (Nat×Value)}{w z:World}{p p':Pos}{al:List Nat}{G G':List Pt}{Γ F:List Ai}
theorem Vt(w:World):Mo false (λG w'=>G=[]/\w'=w):=⟨λh e=>by rw[h.1] at e;simp at e,λh=>by cases h⟩
theorem Vu(z:World)(F:List Ai)(w:World):Mo false (λG w'=>Sep z (CV G F) w'/\w'=w):=⟨λH e=>H.1.blk _ (Cv e),λh=>by cases h⟩
theorem QP(z:World)(F:List Ai):Mo true (λG w=>Sep z (CV G F) w):=⟨λH e=>H.blk _ (Cv e),λ_ {G w w' j b cs a ty} H e f g h i c=>by
 have:=H.write j (Cv e) f g h i c;have d:j<G.length:=(XV.1 e).1;exact (Ih (R:=F) (b:=b) (cs:=a) (ty:=ty) d)▸this⟩
theorem Z0(k:Nat)(hs:List Nat)(h:fin (go P false n k hs [] L [] p true [] none)=some ⟨L',[],p',[],[],none⟩)(K:∀x,Fr n ds L' x->Bu P N X R p' x w):∀x,Fr n ds L x->Bu P N X R p x w:=by
 obtain ⟨a,h,b⟩:=IZ h;exact GH (Vt w) k h Z b trivial (λ_ c=>c.2▸K) w ⟨Z,Z⟩
theorem Zc(k:Nat)(h:fin (go P false n k [] [] L [] p true [] none)=some ⟨L',[],p',[],[],none⟩)(K:∀x,Fr n ds L' x->Bu P N X R p' x w):∀x,Fr n ds L x->Bu P N X R p x w:=Z0 k [] h K
theorem Z1(k:Nat)(hs:List Nat)(zs:List Int){ob:Prop}(h:fin (go P false n k hs zs L [] p true [] none)=some ⟨L',[],p',[],[],some ob⟩)(hq:ob)(K:∀x,Fr n ds L' x->Bu P N X R p' x w):∀x,Fr n ds L x->Bu P N X R p x w:=by
 obtain ⟨a,h,b⟩:=IZ h;exact GH (Vt w) k h Z b hq (λ_ c=>c.2▸K) w ⟨Z,Z⟩
theorem Z2(k:Nat)(hs:List Nat)(H:Sep z Γ w)[e:Rf Γ G F](h:fin (go P false n k hs [] L G p true [] none)=some ⟨L',G',p',al,al,none⟩)(K:∀x,Fr n ds L' x->Bu P N X R p' x w):∀x,Fr n ds L x->Bu P N X R p x w:=by
 obtain ⟨a,h,b⟩:=IZ h;exact GH (Vu z F w) k h Z b trivial (λ_ c=>c.2▸K) w ⟨e.e▸H,Z⟩
theorem Z3(k:Nat)(hs:List Nat)(zs:List Int)(H:Sep z Γ w)[e:Rf Γ G F]{ob:Prop}(h:fin (go P false n k hs zs L G p true [] none)=some ⟨L',G',p',al,al,some ob⟩)(hq:ob)(K:∀x,Fr n ds L' x->Bu P N X R p' x w):∀x,Fr n ds L x->Bu P N X R p x w:=by
 obtain ⟨a,h,b⟩:=IZ h;exact GH (Vu z F w) k h Z b hq (λ_ c=>c.2▸K) w ⟨e.e▸H,Z⟩
theorem Z4(k:Nat)(hs:List Nat)(H:Sep z Γ w)[e:Rf Γ G F]{Γ':List Ai}(h:OQ F (go P true n k hs [] L G p true [] none)=some ⟨L',Γ',p',al,al,none⟩)(K:∀w,Sep z Γ' w->∀x,Fr n ds L' x->Bu P N X R p' x w):∀x,Fr n ds L x->Bu P N X R p x w:=by
 obtain ⟨a,G',c,b,rfl⟩:=KZ h;exact GH (QP z F) k c Z b trivial K w (e.e▸H)
theorem Z5(k:Nat)(hs:List Nat)(zs:List Int)(H:Sep z Γ w)[e:Rf Γ G F]{Γ':List Ai}{ob:Prop}(h:OQ F (go P true n k hs zs L G p true [] none)=some ⟨L',Γ',p',al,al,some ob⟩)(hq:ob)(K:∀w,Sep z Γ' w->∀x,Fr n ds L' x->Bu P N X R p' x w):∀x,Fr n ds L x->Bu P N X R p x w:=by
 obtain ⟨a,G',c,b,rfl⟩:=KZ h;exact GH (QP z F) k c Z b hq K w (e.e▸H)
end

section
variable{P:Program}{N R:Act->World->Prop}{X:Nat->Act->World->Prop}{n d:Nat}{ds:List Deferred}{L:List (Nat×Value)}{w z:World}{k:Kd}{ops rest:List Oper}{o:Oper}{v:Value}
theorem Af{f:FuncId}{b:Func}{c:Code}{args:List Value}{R:Value->World->Prop}(e:P.funcs[f]?=some b)(i:b.body=some c)(g:b.ntmps=n)(d:Nat.ble args.length n=true)
  (h:∀a,Fr n [] (first 0 args) a->Bu P (E9 P b R) GW (E9 P b R) (.c c .fin) a w):Calls P f args.toArray w (Ret R):=enter e i n g d h
theorem gf(K:∀x,Fr n ds L x->N x w):∀x,Fr n ds L x->Bu P N X R (.n .fin) x w:=K
theorem gx{a R':Act->World->Prop}{i:Nat}(K:∀x,Fr n ds L x->Bu P N X R (.x i k) x w):∀x,Fr n ds L x->Bu P a (kQ P N X R k).2 R' (.x i .fin) x w:=K
theorem gn(K:∀x,Fr n ds L x->Bu P N X R (.n k) x w):∀x,Fr n ds L x->(kQ P N X R k).1 x w:=K
theorem gw(K:∀x,Fr n ds L x->Bu P N X R (.o ops rest k) x w):∀x,Fr n ds L x->wpList P ops.toArray (Qp (kQ P N X R k).1 (kQ P N X R k).2 R) rest x w:=K
theorem Fz{c:Operand}{x y:Code}{b:Bool}(d:ev L c=some (.bool b))(f:b=true->∀a,Fr n ds L a->Bu P N X R (.c x k) a w)(e:b=false->∀a,Fr n ds L a->Bu P N X R (.c y k) a w):∀a,Fr n ds L a->Bu P N X R (.c (.cond c x y) k) a w:=Ou d f e
theorem Ag{c:Operand}{x y:Code}{p:Prop}[hp:Decidable p](b:ev L c=some (.bool (decide p)))(e:p->∀a,Fr n ds L a->Bu P N X R (.c x k) a w)(d:¬p->∀a,Fr n ds L a->Bu P N X R (.c y k) a w):∀a,Fr n ds L a->Bu P N X R (.c (.cond c x y) k) a w:=Fg b e d
theorem Ap{c:Code}{σ:Type}(d:σ->List (Nat×Value))(G:σ->World->Prop)(m:σ->Nat)(f:σ)
  (h₀:∀a,Fr n ds L a->Fr n ds (d f) a)(g:G f w)
  (b:∀s w,G s w->∀a,Fr n ds (d s) a->Bu P (λa' w'=>∃e,Fr n ds (d e) a'/\G e w'/\m e<m s) (kQ P N X R k).2 R (.c c .fin) a w):∀a,Fr n ds L a->Bu P N X R (.c (.loop c) k) a w:=Ov d G m f h₀ g b
def Ij(ops:List Oper)(L:List (Nat×Value))(n:Nat)(o:Oper):Option Nat:=match o.dst with
 | some d=>match Bv ops L o.guard with
  | true=>bif Nat.blt d n then some d else none
  | false=>none
 | none=>none
theorem DG(h:Ij ops L n o=some d):Bv ops L o.guard=true/\o.dst=some d/\Nat.blt d n=true:=by
 unfold Ij at h;split at h
 ·rename_i b c
  split at h
  ·rename_i a
   cases hb:Nat.blt b n with
   | true=>rw[hb] at h;simp at h;subst h;exact ⟨a,c,hb⟩
   | false=>rw[hb] at h;cases h
  cases h
 cases h
theorem Ad(h:Ij ops L n o=some d)(b:Ao P (· =w) n ds L o v)(K:∀a',Fr n ds ((d,v)::L) a'->Bu P N X R (.o ops rest k) a' w):∀a,Fr n ds L a->Bu P N X R (.o ops (o::rest) k) a w:=s_do (DG h).1 (DG h).2.1 (DG h).2.2 b K
theorem AC{Rr:Value->World->Prop}(h:Ij ops L n o=some d)(b:BL P n ds L o w Rr)(K:∀v w',Rr v w'->∀a',Fr n ds ((d,v)::L) a'->Bu P N X R (.o ops rest k) a' w'):∀a,Fr n ds L a->Bu P N X R (.o ops (o::rest) k) a w:=Fa (DG h).1 (DG h).2.1 (DG h).2.2 b K
theorem I0{Rr:Value->World->Prop}(b:Bv ops L o.guard=true)(c:o.dst=none)(h:BL P n ds L o w Rr)(K:∀v w',Rr v w'->∀a,Fr n ds L a->Bu P N X R (.o ops rest k) a w'):∀a,Fr n ds L a->Bu P N X R (.o ops (o::rest) k) a w:=WN b c h K
theorem AV{Rr:World->Prop}(b:Bv ops L o.guard=true)(c:o.dst=none)(h:C3 P n ds L o w Rr)(K:∀w',Rr w'->∀a,Fr n ds L a->Bu P N X R (.o ops rest k) a w'):∀a,Fr n ds L a->Bu P N X R (.o ops (o::rest) k) a w:=EY b c h K
theorem Am{p:Prop}[Decidable p](t:Nat)(d:B1 L t=some (.bool (decide p)))(b:p->∀a,Fr n ds ((t,.bool true)::L) a->Bu P N X R (.o ops (o::rest) k) a w)(c:¬p->∀a,Fr n ds ((t,.bool false)::L) a->Bu P N X R (.o ops (o::rest) k) a w):∀a,Fr n ds L a->Bu P N X R (.o ops (o::rest) k) a w:=Oy t d b c
theorem K0{b:Bool}(t:Nat)(e:B1 L t=some (.bool b))(c:b=true->∀a,Fr n ds ((t,.bool true)::L) a->Bu P N X R (.o ops (o::rest) k) a w)(d:b=false->∀a,Fr n ds ((t,.bool false)::L) a->Bu P N X R (.o ops (o::rest) k) a w):∀a,Fr n ds L a->Bu P N X R (.o ops (o::rest) k) a w:=Qz t e c d
variable{Γ pre R':List Ai}{post:Value->List Ai->Prop}{f:FuncId}{vs:List Value}
def KM(ops:List Oper)(L:List (Nat×Value))(n:Nat)(o:Oper):Option (Nat×FuncId×List Value):=match Ij ops L n o with
 | some d=>match o.op with
  | .call ⟨.value (.func f),⟨xs⟩,_⟩=>match evs L xs with
   | some vs=>some (d,f,vs)
   | none=>none
  | _=>none
 | none=>none
theorem QQ(h:KM ops L n o=some (d,f,vs)):Ij ops L n o=some d/\∃xs tys,o.op=.call {callee:=.value (.func f),args:=(xs:List Operand).toArray,argTypes:=tys} /\evs L xs=some vs:=by
 unfold KM at h;split at h
 ·rename_i i c
  split at h
  ·rename_i g xs tys b
   split at h
   ·rename_i e a
    simp only[X2,AaK] at h;obtain ⟨rfl,rfl,rfl⟩:=h;exact ⟨c,xs,tys,b,a⟩
   cases h
  cases h
 cases h
theorem AB(h:KM ops L n o=some (d,f,vs))(i:∀w,(callFunc f vs.toArray).run P w=.ok (.enter f vs.toArray) w)(c:Cn P f vs pre post)(H:Sep z (pre++R') w)
  (K:∀v w' Γ',post v Γ'->Sep z (Γ'++R') w'->∀a',Fr n ds ((d,v)::L) a'->Bu P N X R (.o ops rest k) a' w'):∀a,Fr n ds L a->Bu P N X R (.o ops (o::rest) k) a w:=by
 obtain ⟨b,xs,tys,g,e⟩:=QQ h;exact E2 (DG b).1 (DG b).2.1 (DG b).2.2 g e i c H Z K
theorem Ah{V_:Value}{G:List Ai}(h:KM ops L n o=some (d,f,vs))(c:∀w,(callFunc f vs.toArray).run P w=.ok (.enter f vs.toArray) w)(b:Cn P f vs pre (λv X=>v=V_/\X=G))(H:Sep z (pre++R') w)
  (K:∀w',Sep z (G++R') w'->∀a',Fr n ds ((d,V_)::L) a'->Bu P N X R (.o ops rest k) a' w'):∀a,Fr n ds L a->Bu P N X R (.o ops (o::rest) k) a w:=
 AB h c b H λv w' Γ' e=>by obtain ⟨rfl,rfl⟩:=e;exact K w'
def JB(L:List (Nat×Value)):List ResultVar->Option (List Value)
 | []=>some []
 | .tmp t::rs=>match B1 L t with
  | some v=>match JB L rs with
   | some vs=>some (v::vs)
   | none=>none
  | none=>none
 | _::_=>none
theorem JC{L:List (Nat×Value)}:∀{rs:List ResultVar} {vs:List Value},JB L rs=some vs->DQ P L w rs vs
 | [],vs,h=>by simp only[JB,X2] at h;subst h;trivial
 | .tmp t::rs,vs,h=>by
  simp only[JB] at h;split at h
  ·rename_i v hv
   split at h
   ·rename_i us hu;cases h;exact ⟨hv,JC hu⟩
   cases h
  cases h
 | .cell _ _::_,_,h=>by simp[JB] at h
def NK(L:List (Nat×Value))(rs:List ResultVar):Option Value:=match JB L rs with
 | some [v]=>some v
 | some vs=>some (.tuple vs.toArray)
 | none=>none
theorem ME{rs:List ResultVar}(h:NK L rs=some v):∃vs,DQ P L w rs vs/\FM vs=v:=by
 unfold NK at h;split at h
 ·rename_i u a;cases h;exact ⟨_,JC a,Z⟩
 ·rename_i vs b a;cases h;exact ⟨_,JC a,by cases vs with
   | nil=>rfl
   | cons x xs=>cases xs with
    | nil=>exact (b x Z).elim
    | cons y ys=>rfl⟩
 cases h
theorem Zr{b:Func}{R:Value->World->Prop}(h:NK L b.results.toList=some v)(q:R v w):∀a,Fr n [] L a->Bu P N X (E9 P b R) .r a w:=by
 obtain ⟨vs,c,d⟩:=ME (P:=P) (w:=w) h;exact FN O vs c d q
theorem Zf{b:Func}{R':Act->World->Prop}{R:Value->World->Prop}(h:NK L b.results.toList=some v)(q:R v w):∀a,Fr n [] L a->Bu P (E9 P b R) X R' (.n .fin) a w:=by
 obtain ⟨vs,c,d⟩:=ME (P:=P) (w:=w) h;exact FN O vs c d q

structure RmR where
 vs:List Value
 ok:Bool
 a:List (Nat×Nat)
def GI(P:Program)(L:List (Nat×Value))(G:List Pt):List Nat->List ResultVar->Option RmR
 | _,[]=>some ⟨[],true,[]⟩
 | hs,.tmp t::rs=>match B1 L t with
  | some v=>match GI P L G hs rs with
   | some ⟨vs,ok,a⟩=>some ⟨v::vs,ok,a⟩
   | none=>none
  | none=>none
 | j::m::hs,.cell t ty::rs=>match B1 L t with
  | some (.pointer (some ⟨b,p,none⟩))=>match G[j]? with
   | some (.b b' cs _)=>match GI P L G hs rs with
    | some ⟨us,ok,a⟩=>FQ ((cs.drop p).take m) λvs=>some ⟨.agg vs.toArray::us,OM (Gz P ty) vs.length&&ok,(b,b')::a⟩
    | none=>none
   | _=>none
  | _=>none
 | _,_=>none
theorem JD{G:List Pt}(c:∀(j b:Nat) (cs:List Value) (ty:TypeId),G[j]?=some (Pt.b b cs ty)->Blk b cs ty w):∀{rs:List ResultVar} {hs:List Nat} {q:RmR},GI P L G hs rs=some q->q.ok=true->Bw q.a->DQ P L w rs q.vs
 | [],hs,q,h,_,_=>by simp only[GI,X2] at h;subst h;trivial
 | .tmp t::rs,hs,q,h,hb,ha=>by
  simp only[GI] at h;split at h
  ·rename_i v hv
   split at h
   ·rename_i hu;cases h;exact ⟨hv,JD c hu hb ha⟩
   cases h
  cases h
 | .cell t ty::rs,j::m::hs,q,h,hb,ha=>by
  simp only[GI] at h;split at h
  ·rename_i b p hv
   split at h
   ·rename_i b' cs ty' hG
    split at h
    ·rename_i hu
     rw[D8] at h;cases h;simp only[Yl] at hb;have e:b=b':=ha.1;subst e;exact ⟨⟨b,p,hv,Mh (IX hb.1) (c _ _ _ _ hG) (by rw[X1,List.take_eq_take_iff];simp)⟩,JD c hu hb.2 ha.2⟩
    cases h
   cases h
  cases h
 | .cell t ty::rs,[],q,h,_,_=>by simp[GI] at h
 | .cell t ty::rs,[_],q,h,_,_=>by simp[GI] at h
structure RvR where
 v:Value
 a:List Nat
 b:List Nat
def QR:Option RmR->Option RvR
 | some ⟨[v],true,a⟩=>some ⟨v,a.map Prod.fst,a.map Prod.snd⟩
 | some ⟨vs,true,a⟩=>some ⟨.tuple vs.toArray,a.map Prod.fst,a.map Prod.snd⟩
 | _=>none
theorem TD{q:Option RmR}{al:List Nat}(h:QR q=some ⟨v,al,al⟩):∃vs a,q=some ⟨vs,true,a⟩/\Bw a/\FM vs=v:=by
 unfold QR at h;split at h
 ·simp only[X2,RvR.mk.injEq] at h
  obtain ⟨rfl,b,c⟩:=h;exact ⟨_,_,Z,CI (b.trans c.symm),Z⟩
 ·rename_i vs a d
  simp only[X2,RvR.mk.injEq] at h;obtain ⟨rfl,b,c⟩:=h;refine ⟨_,_,Z,CI (b.trans c.symm),?_⟩
  cases vs with
  | nil=>rfl
  | cons x xs=>cases xs with
   | nil=>exact (d x Z).elim
   | cons y ys=>rfl
 cases h
theorem Zl(hs:List Nat){G:List Pt}{F:List Ai}{al:List Nat}(H:Sep z Γ w)[e:Rf Γ G F]{b:Func}{R:Value->World->Prop}(h:QR (GI P L G hs b.results.toList)=some ⟨v,al,al⟩)(q:R v w):∀a,Fr n [] L a->Bu P N X (E9 P b R) .r a w:=by
 obtain ⟨vs,a,c,f,d⟩:=TD h;have H:Sep z (CV G F) w:=e.e▸H;exact FN O vs (JD (λ_ _ _ _ e=>H.blk _ (Cv e)) c Z f) d q
structure AlR where
 L:List (Nat×Value)
 Γ:List Ai
 ops:List Oper
 os:List Oper
 k:Kd
 d:Nat
 zs:List Value
 e:TypeId
 ob:Option Prop
 a:List Nat
 b:List Nat
def Vv(P:Program)(n:Nat):Option FwR->Option AlR
 | some ⟨L,G,p,a,b,ob⟩=>match SZ p with
  | some (ops,o,os,k)=>match Ij ops L n o with
   | some d=>match o.op with
    | .alloc e=>match zeroCells P e with
     | some zs=>FQ zs.toList λzs=>some ⟨L,G,ops,os,k,d,zs,e,ob,a,b⟩
     | none=>none
    | .box e x=>match ev L x with
     | some v=>FQ (G5 v) λzs=>some ⟨L,G,ops,os,k,d,zs,e,ob,a,b⟩
     | none=>none
    | _=>none
   | none=>none
  | none=>none
 | none=>none
theorem Vw{q:Option FwR}{L':List (Nat×Value)}{G':List Ai}{j:List Oper}{zs:List Value}{e:TypeId}{ob:Option Prop}{al:List Nat}(h:Vv P n q=some ⟨L',G',ops,j,k,d,zs,e,ob,al,al⟩)(K:∀b w,Sep z (blk b zs e::G') w->∀x,Fr n ds ((d,V b)::L') x->Bu P N X R (.o ops j k) x w):
  ∃p',q=some ⟨L',G',p',al,al,ob⟩/\∀w,Sep z G' w->∀x,Fr n ds L' x->Bu P N X R p' x w:=by
 unfold Vv at h;split at h
 ·rename_i L1 G1 p a b t
  split at h
  ·rename_i i o m y r
   obtain rfl:=ON r;split at h
   ·rename_i d1 l
    split at h
    ·rename_i s c
     split at h
     ·rename_i g u
      rw[D8] at h;simp only[X2,AlR.mk.injEq] at h;obtain ⟨rfl,rfl,rfl,rfl,rfl,rfl,rfl,rfl,rfl,rfl,rfl⟩:=h;refine ⟨_,Z,λw H=>AC l (BN H c (zs:=g.toList) (by simpa using u)) ?_⟩;rintro _ w' ⟨b,rfl,f⟩;exact K b w' f
     cases h
    ·rename_i s x1 c
     split at h
     ·rename_i v1 v
      rw[D8] at h;simp only[X2,AlR.mk.injEq] at h;obtain ⟨rfl,rfl,rfl,rfl,rfl,rfl,rfl,rfl,rfl,rfl,rfl⟩:=h;refine ⟨_,Z,λw H=>AC l (Fh H c v (MD _)) ?_⟩;rintro _ w' ⟨b,rfl,f⟩;exact K b w' f
     cases h
    cases h
   cases h
  cases h
 cases h
theorem Za(m:Nat)(hs:List Nat){L':List (Nat×Value)}{G:List Pt}{G':List Ai}{p:Pos}{c:List Oper}{zs:List Value}{e:TypeId}{al:List Nat}{F:List Ai}(H:Sep z Γ w)[r:Rf Γ G F](h:Vv P n (OQ F (go P true n m hs [] L G p true [] none))=some ⟨L',G',ops,c,k,d,zs,e,none,al,al⟩)
  (K:∀b w,Sep z (blk b zs e::G') w->∀x,Fr n ds ((d,V b)::L') x->Bu P N X R (.o ops c k) x w):∀x,Fr n ds L x->Bu P N X R p x w:=by
 obtain ⟨p',g,j⟩:=Vw h K;obtain ⟨a,G1,i,f,rfl⟩:=KZ g;exact GH (QP z F) m i Z f trivial j w (r.e▸H)
theorem gr(K:∀x,Fr n ds L x->R x w):∀x,Fr n ds L x->Bu P N X R .r x w:=K
end
end
section
def celH(h:Hp)(b o:Nat)(v:Value):Prop:=∃cs ty fr,h b=some (.cells cs ty fr)/\cs[o]?=some v
def BC(h h':Hp):Prop:=∀k o,h k=some o->h' k=some o
theorem celH.le{h h':Hp}{b o:Nat}{v:Value}(c:celH h b o v)(s:BC h h'):celH h' b o v:=by
 obtain ⟨cs,ty,a,d,e⟩:=c;exact ⟨cs,ty,a,s _ _ d,e⟩
theorem celH.cel{h:Hp}{b o:Nat}{v:Value}{w:World}(c:celH h b o v)(s:BC h (hp w)):EK b o v w:=by
 obtain ⟨cs,ty,d,e,f⟩:=c.le s;have a:w.heap[b]?=some (.cells cs ty d):=e;unfold EK World.cell?;simp[a,f]
def rdH(sz:Nat)(v:Value)(n:Nat)(xs:List Value)(h:Hp):Prop:=
 ∃ao c,v=.slice ao n c/\n<=c/\c<=9223372036854775807/\xs.length=n*sz/\∀(j:Nat) (u:Value),xs[j]?=some u->∃b p,ao=some ⟨b,p,none⟩/\celH h b (p+j) u
theorem rdH.le{sz:Nat}{v:Value}{n:Nat}{xs:List Value}{h h':Hp}(r:rdH sz v n xs h)(s:BC h h'):rdH sz v n xs h':=by
 obtain ⟨g,c,e,d,f,i,k⟩:=r;exact ⟨g,c,e,d,f,i,λj u a=>by obtain ⟨b,p,e,l⟩:=k j u a;exact ⟨b,p,e,l.le s⟩⟩
theorem rdH.rd{sz:Nat}{v:Value}{n:Nat}{xs:List Value}{h:Hp}{w:World}(r:rdH sz v n xs h)(s:BC h (hp w)):Rd sz v n xs w:=by
 obtain ⟨g,c,e,d,f,i,k⟩:=r;exact ⟨g,c,e,d,f,i,λj u a=>by obtain ⟨b,p,e,l⟩:=k j u a;exact ⟨b,p,e,l.cel s⟩⟩
theorem rdH.small{sz:Nat}{v:Value}{n:Nat}{xs:List Value}{h:Hp}(r:rdH sz v n xs h):n<=9223372036854775807:=by
 obtain ⟨d,c,e,a,b,_⟩:=r;omega
theorem rdH.nil(sz:Nat)(h:Hp):rdH sz (.slice none 0 0) 0 [] h:=⟨none,0,Z,Yp _,by omega,by simp,λj u a=>by simp at a⟩
theorem blk.celH{b:Nat}{cs:List Value}{ty:TypeId}{h:Hp}(c:blk b cs ty h)(o:Nat){v:Value}(a:cs[o]?=some v):celH h b o v:=⟨_,_,_,c,by simpa using a⟩
theorem blk.rd{b a l c sz:Nat}{cs xs:List Value}{ty:TypeId}{h:Hp}(g:blk b cs ty h)(e:l<=c)(i:c<=9223372036854775807)(k:a+l*sz<=cs.length)(f:(cs.drop a).take (l*sz)=xs):rdH sz (.slice (some ⟨b,a,none⟩) l c) l xs h:=by
 subst f;refine ⟨_,_,Z,e,i,by simp;omega,λj u d=>⟨b,a,Z,g.celH _ ?_⟩⟩;rw[Yy] at d;split at d
 ·rw[YN] at d;exact d
 cases d
section
variable{P:Program}{C:World->Prop}{o:Oper}{a:Act}{w z:World}{Γ:List Ai}{n:Nat}{ds:List Deferred}{L:List (Nat×Value)}{v:Value}{x y:Operand}{xt yt:TypeId}{A:Ai}
theorem Sep.get'(i:Nat)(H:Sep z Γ w)(a:Γ[i]?=some A):∃h,A h/\BC h (hp w):=H.get i a
def JE:List Ai->Nat->Ai
 | [],_=>λ_=>True
 | a::_,0=>a
 | _::l,i+1=>JE l i
theorem S3:∀(Γ:List Ai) (i:Nat),Γ[i]?=none/\(∀h,JE Γ i h)\/Γ[i]?=some (JE Γ i)
 | [],_=>.inl ⟨Z,λ_=>trivial⟩
 | _::_,0=>.inr Z
 | _::l,i+1=>S3 l i
theorem S4{Γ:List Ai}{z w:World}(i:Nat)(H:Sep z Γ w):∃h,JE Γ i h/\BC h (hp w):=(S3 Γ i).elim (λq=>⟨_,q.2 _,λ_ _ e=>e⟩) (λq=>H.get' i q)
theorem Sep.rd(i:Nat)(H:Sep z Γ w)(a:Γ[i]?=some A){sz m:Nat}{u:Value}{xs:List Value}(d:∀h,A h->rdH sz u m xs h):Rd sz u m xs w:=by
 obtain ⟨h,b,c⟩:=H.get' i a;exact (d h b).rd c
theorem Sep.rv{Γ:List Ai}{z w:World}(i:Nat)(H:Sep z Γ w){sz m:Nat}{u:Value}{xs:List Value}(r:∀{h},JE Γ i h->rdH sz u m xs h):Rd sz u m xs w:=by
 obtain ⟨_,q,e⟩:=S4 i H;exact (r q).rd e
theorem Sep.cell(i:Nat)(H:Sep z Γ w)(a:Γ[i]?=some A){b p:Nat}{u:Value}(e:∀h,A h->celH h b p u):EK b p u w:=by
 obtain ⟨h,c,d⟩:=H.get' i a;exact (e h c).cel d
theorem Sep.says(i:Nat)(H:Sep z Γ w)(a:Γ[i]?=some A){p:Prop}(c:∀h,A h->p):p:=by
 obtain ⟨h,b,_⟩:=H.get' i a;exact c h b

theorem Sep.sy{Γ:List Ai}{z w:World}(i:Nat)(H:Sep z Γ w){p:Prop}(r:∀{h},JE Γ i h->p):p:=by
 obtain ⟨_,q,_⟩:=S4 i H;exact r q
def grow(e:TypeId)(sz:Nat)(v:Value)(n:Nat)(xs:List Value):Ai:=λh=>xs.length=n*sz/\
 ((v=.slice none 0 0/\n=0)\/∃g cap cur,v=.slice (some ⟨g,0,none⟩) n cap/\h g=some (.cells cur e (0,0))/\n<=cap/\cap<=maxLen/\cur.size=cap*sz/\cur.toList.take (n*sz)=xs)
theorem grow.form{e:TypeId}{sz m:Nat}{u:Value}{xs:List Value}{h:Hp}(g:grow e sz u m xs h):(u=.slice none 0 0/\m=0)\/∃b c,u=.slice (some ⟨b,0,none⟩) m c/\m<=c:=by
 rcases g.2 with g|⟨b,c,f,d,_,a,_⟩
 ·exact .inl g
 exact .inr ⟨b,c,d,a⟩
theorem grow.len{e:TypeId}{sz m:Nat}{u:Value}{xs:List Value}{h:Hp}(g:grow e sz u m xs h):xs.length=m*sz:=g.1
theorem grow.nil(e:TypeId)(sz:Nat)(h:Hp):grow e sz (.slice none 0 0) 0 [] h:=⟨by simp,.inl ⟨Z,Z⟩⟩
theorem grow.rd{e:TypeId}{sz m:Nat}{u:Value}{xs:List Value}{h:Hp}(g:grow e sz u m xs h):rdH sz u m xs h:=by
 have d:=g.1;rcases g.2 with ⟨rfl,rfl⟩|⟨b,c,n,rfl,f,k,l,hs,i⟩
 ·have:xs=[]:=by simpa using d
  subst this;exact rdH.nil sz h
 refine ⟨_,c,Z,k,(by unfold maxLen at l;omega),d,λj u a=>⟨b,0,Z,_,_,_,f,?_⟩⟩;rw[<-i] at a;rw[Yy] at a;split at a
 ·simpa using a
 cases a
theorem grow.own{e:TypeId}{sz m:Nat}{u:Value}{xs:List Value}{h:Hp}(g:grow e sz u m xs h)(s:BC h (hp w)):SV 0 e sz u m xs w:=by
 refine ⟨g.1,?_⟩;rcases g.2 with g|⟨b,a,c,d,f,r⟩
 ·exact .inl g
 exact .inr ⟨b,a,c,d,Yi _,s _ _ f,r⟩
theorem Sep.void{B:Ai}(H:Sep z Γ w)(a:∀h,B h):Sep z (B::Γ) w:=H.grow (Ext.refl No w) (a _)
theorem Sep.nilg(H:Sep z Γ w)(e:TypeId)(sz:Nat):Sep z (YthbbejpbkglmlaaGreatDoor.grow e sz (.slice none 0 0) 0 []::Γ) w:=H.void λh=>grow.nil e sz h
theorem blk.grow{b k c sz:Nat}{cs xs:List Value}{ty:TypeId}{h:Hp}(f:blk b cs ty h)(a:k<=c)(g:c<=9223372036854775807)(e:cs.length=c*sz)(d:cs.take (k*sz)=xs):grow ty sz (.slice (some ⟨b,0,none⟩) k c) k xs h:=by
 refine ⟨?_,.inr ⟨b,c,cs.toArray,Z,f,a,(by unfold maxLen;omega),by simpa using e,by simpa using d⟩⟩;rw[<-d,X1,e];exact Yz (Zv _ a)
theorem AJ(i:Nat){t e:TypeId}{zv:Value}{sz by_ k m:Nat}{u:Value}{xs news:List Value}(H:Sep z Γ w)(hi:Γ[i]?=some (grow e sz v k xs))(ho:o.op=.call {callee:=.builtin .append,args:= #[x,y],argTypes:= #[t,t]})
  (ht:P.underlying t=some (.slice e))(hE:Elt P e zv sz by_)(hx:ev L x=some v)(hy:ev L y=some u)(p:Rd sz u m news w)(h1:∀c∈news,c.oneCell'=true)(a7:(k+m)*by_<=140737488355328):
  BL P n ds L o w (λv' w'=>Sep z (Γ.set i (grow e sz v' (k+m) (xs++news))) w'):=λa hF=>by
 obtain ⟨own,f⟩:=H.own;have hg:=f i _ hi;have a3:BC ((hp w).part own i) (hp w):=λq o' e=>(Ek e).2;have hO:=hg.own a3;obtain ⟨v',w',hr,a4,d,b0⟩:=QB (B:=0) ho ht hE hx hy hO p h1 (Yi _) a7 a hF;refine ⟨v',w',hr,d.os.trans H.os,d.tape.trans H.tape,d.output.trans H.output,λq=>if q<w.heap.size then own q else i,λj B l=>?_⟩;have s:∀q,v.ownBlock=some q->own q=i:=λq hq=>by
  rcases hg.2 with ⟨rfl,_⟩|⟨b,a2,a1,rfl,a8,_⟩
  ·simp[Value.ownBlock] at hq
  simp[Value.ownBlock] at hq;subst hq;exact (Ek a8).1
 rw[YZ] at l;split at l
 ·rename_i e;subst e
  split at l
  ·cases l
   refine ⟨a4.1,?_⟩;rcases a4.2 with q|⟨g,a2,a1,h,_,a9,r⟩
   ·exact .inl q
   refine .inr ⟨g,a2,a1,h,?_,r⟩;unfold Hp.part hp;have a5:(if g<w.heap.size then own g else i)=i:=by
    split
    ·rename_i b1
     rcases b0 with q|q
     ·exact s g (by rw[<-q,h];rfl)
     rw[h] at q;simp[Value.ownBlock] at q;omega
    rfl
   rw[if_pos a5];exact a9
  cases l
 rename_i a0;have:=f j B l;have e:(hp w').part (λq=>if q<w.heap.size then own q else i) j=(hp w).part own j:=by
  funext q;unfold Hp.part hp;dsimp only;by_cases hq:q<w.heap.size
  ·simp only[hq,if_true]
   by_cases hqj:own q=j
   ·simp only[hqj,if_true]
    exact d.block q hq (λa6=>a0 ((s q a6).symm.trans hqj))
   simp[hqj]
  have:w.heap[q]?=none:=Yw U;simp[hq,this,a0]
 rwa[e]
theorem AI(H:Sep z Γ w){t e:TypeId}{zv:Value}{c sz by_:Nat}{parts:List (Nat×Operand)}{vs:List (Nat×Value)}{out:List Value}(g:o.op=.buildSlice t c parts.toArray)(l:P.underlying t=some (.slice e))(j:Elt P e zv sz by_)
  (p:(evs L (parts.map (·.2))).map (List.zip (parts.map (·.1)))=some vs)(d:c*sz<=16777216)(h:0<c)(r:Instr.fill (λi=>some (i*sz,sz)) ((Array.range (c*sz)).map (zv.cells[· % zv.cells.size]!)) vs=some out.toArray):
  BL P n ds L o w (λv w'=>∃b,v=.slice (some ⟨b,0,none⟩) c c/\Sep z (blk b out e::Γ) w'):=λa q=>by
 obtain ⟨v,w',k,b,rfl,hs,_,m,f⟩:=KU (w:=w) g l j p d h r a q;exact ⟨_,w',k,b,Z,H.new f U m⟩
theorem GX(H:Sep z Γ w){t e:TypeId}{zv:Value}{sz by_:Nat}(f:o.op=.buildSlice t 0 #[])(h:P.underlying t=some (.slice e))(g:Elt P e zv sz by_):
  BL P n ds L o w (λv w'=>∃b,v=.slice (some ⟨b,0,none⟩) 0 0/\Sep z (blk b [] e::Γ) w'):=λa p=>by
 obtain ⟨i,k,q,hs,m,j,l,d⟩:=g;refine ⟨_,_,?_,w.heap.size,Z,H.new (CH w (.cells #[] e)) (Yp _) (by show (w.heap.push _)[w.heap.size]?=_;simp)⟩;simp only[execOp,f,Yv];have c:∀w,(sizeOf e).run P w=.ok sz w:=λw=>by simp[sizeOf,typeInfo,k,hs,go_sem]
 simp[Instr.buildSlice,run_underlying h,c,newRow,newObj,go_sem,Sem.run,Instr.fill]
end
end
section
def EO(l:List UInt8):Value:=.string ⟨l.toArray⟩
def NL(P:Program)(t:TypeId):Bool:=match P.underlying t with
 | some (.slice e)=>(match P.underlying e with|some (.int .u8)=>(match P.info? e with|some i=>Nat.beq i.size 1|none=>false)|_=>false)
 | _=>false
theorem MF{P:Program}{t:TypeId}(h:NL P t=true):∃e i,P.underlying t=some (.slice e)/\P.underlying e=some (.int .u8)/\P.info? e=some i/\i.size=1:=by
 unfold NL at h;split at h
 ·rename_i e a
  split at h
  ·rename_i b
   split at h
   ·rename_i i c;exact ⟨e,i,a,b,c,by simpa using h⟩
   cases h
  cases h
 cases h
section
variable{P:Program}{C:World->Prop}{o:Oper}{a:Act}{w z:World}{Γ:List Ai}{n:Nat}{ds:List Deferred}{L:List (Nat×Value)}{v:Value}{x y:Operand}{xt yt:TypeId}{A:Ai}

theorem Ey{d:TypeId}{l:List UInt8}{u:Value}(z:o.op=.convert xt d x)(h1:NL P xt=true)(h2:FO P d=true)(y:ev L x=some u)(hr:∀w,C w->Rd 1 u l.length (l.map u8) w):Ao P C n ds L o (EO l):=λa hF w hw=>by
 obtain ⟨e,i,k,r,_,_⟩:=MF h1;have s:=Fv h2;obtain ⟨h,c,rfl,a0,_,_,m⟩:=hr w hw;have g:(convert xt d (.slice h l.length c)).run P w=.ok (EO l) w:=by
  cases h with
  | none=>
   have:l=[]:=by
    cases l with
    | nil=>rfl
    | cons p q=>obtain ⟨b,p',e,_⟩:=m 0 (u8 p) O;cases e
   subst this;exact run_convert_bytes_nil _ xt e k r _ _ d s
  | some ad=>
   refine run_convert_bytes_back w xt d e ad c l k r s λj v=>?_;obtain ⟨b,p,t,f⟩:=m j (u8 l[j]) (by simp[v]);simp only[X2] at t;subst t;have e3:(Addr.add ⟨b,p,none⟩ j)=⟨b,p+j,none⟩:=by
    unfold Addr.add;split
    ·rename_i h0;simp[h0]
    rfl
   rw[e3];exact f
 simp only[execOp,z,hF.ev y,Yd,g,X7,Yh]
theorem OR{l m:List UInt8}(e:o.op=.binOp .eql xt x y yt)(b:FO P xt=true)(d:ev L x=some (EO l))(f:ev L y=some (EO m)):Ao P C n ds L o (.bool (decide (l=m))):=λa c w _=>by
 have b:=Fv b;simp only[execOp,e,c.ev d,c.ev f,EO];simp[b,go_sem]
 first |(rw[Yf];simp;done)|skip
theorem Vx{l m:List UInt8}(e:o.op=.binOp .neq xt x y yt)(b:FO P xt=true)(d:ev L x=some (EO l))(f:ev L y=some (EO m)):Ao P C n ds L o (.bool (decide (l≠m))):=λa c w _=>by
 have b:=Fv b;simp only[execOp,e,c.ev d,c.ev f,EO];simp[b,go_sem]
 first |(rw[Yf];simp;done)|skip
theorem QS{t:TypeId}{l:List UInt8}(c:o.op=.call {callee:=.builtin .len,args:= #[x],argTypes:= #[t]})(b:FO P t=true)(a:ev L x=some (EO l)):Ao P C n ds L o (Aa l.length):=Vh c b a

theorem HU{dT sT ty:TypeId}{b f a dc m:Nat}{x:TypeId}{cs news:List Value}{u:Value}(hd:∃e i,P.underlying dT=some (.slice e)/\P.info? e=some i/\i.size=1)(d:(Rd 1 u m news w)\/(∃l,u=EO l/\news=l.map u8/\m=l.length))(h1:∀c∈news,c.oneCell'=true)(hb:Blk b cs x w)(hl:f+min m a<=cs.length):
  ∃w',(Builtin.copy_ #[dT,sT] ty #[.slice (some ⟨b,f,none⟩) a dc,u]).run P w=.ok (Aa (min m a:Nat)) w'/\Blk b (cs.take f++news.take (min m a)++cs.drop (f+min m a)) x w'/\Ext (· =b) w w'/\w'.heap.size=w.heap.size:=by
 obtain ⟨e,i,ht,hi,hs⟩:=hd;have a0:∀w,(sizeOf e).run P w=.ok 1 w:=λw=>by simp[sizeOf,typeInfo,hi,hs,go_sem]
 have g:(news.take (min m a)).length=min m a:=by
  have:news.length=m:=by
   rcases d with ⟨_,_,_,_,_,hl,_⟩|⟨l,_,rfl,rfl⟩
   ·simpa using hl
   simp
  rw[X1,this];omega
 have h:=run_storeCells_at P b f x (news.take (min m a)) 0 cs.toArray w hb (by rw[g];simpa using hl) (λc hc=>h1 c (YF hc));rw[g] at h;simp only[Aai,Zm] at h;refine ⟨_,?_,setRow_heap w b _ _ x (0,0) hb,⟨Z,Z,Z,by simp,λk _ hk=>setRow_other w b k _ hk⟩,by simp⟩;have o:(Builtin.lenOf u).run P w=.ok m w:=by
  rcases d with ⟨ao,c,rfl,_⟩|⟨l,rfl,rfl,rfl⟩
  ·rfl
  rfl
 have n:m.min a=min m a:=rfl;have z:(Builtin.firstCells 1 (min m a) u).run P w=.ok (news.take (min m a)).toArray w:=by
  rcases d with ⟨ao,c,rfl,a1,_,a2,s⟩|⟨l,rfl,rfl,rfl⟩
  ·cases ao with
   | none=>
    have hn:news=[]:=by
     cases news with
     | nil=>rfl
     | cons q qs=>obtain ⟨b',p',t,_⟩:=s 0 q Z;cases t
    subst hn;simp[Builtin.firstCells,Yh]
   | some ad=>
    have:=run_loadCells_list (P:=P) w ad (news.take (min m a)) (λj q v=>by
     have y:news[j]?=some q:=by
      rw[Yy] at v;split at v
      ·exact v
      cases v
     obtain ⟨b',p,t,r⟩:=s j q y;simp only[X2] at t;subst t;have e3:(Addr.add ⟨b',p,none⟩ j)=⟨b',p+j,none⟩:=by
      unfold Addr.add;split
      ·rename_i h0;simp[h0]
      rfl
     rw[e3];exact r)
    rw[g] at this;simp only[Builtin.firstCells,YQ];exact this
  have e:((({data:=l.toArray} :ByteArray).extract 0 (min l.length a)).data.map λb=>Value.int .u8 b.toNat)=((l.map u8).take (min l.length a)).toArray:=by
   apply Array.ext';rw[Array.toList_map,Lib.extract_data];simp[u8,ZS];rfl
  simp only[EO,Builtin.firstCells,Yh,e]
 simp only[Builtin.copy_,YM,YT,Yq,Yd,run_underlying ht,X7,o,a0,n,z,h,Yh,goInt]
theorem G7(i:Nat){t st:TypeId}{b f r dc m:Nat}{ct:TypeId}{cs news:List Value}{u:Value}(H:Sep z Γ w)(p:Γ[i]?=some (blk b cs ct))(ho:o.op=.call {callee:=.builtin .copy,args:= #[x,y],argTypes:= #[t,st]})(hd:NL P t=true)(hx:ev L x=some (.slice (some ⟨b,f,none⟩) r dc))(hy:ev L y=some u)
  (h:(Rd 1 u m news w)\/(∃l,u=EO l/\news=l.map u8/\m=l.length))(h1:∀c∈news,c.oneCell'=true)(hl:f+min m r<=cs.length){k:Nat}(hk:min m r=k){out:List Value}(j:cs.take f++news.take k++cs.drop (f+k)=out):
  BL P n ds L o w (λv w'=>v=Aa k/\Sep z (Γ.set i (blk b out ct)) w'):=λa hF=>by
 obtain ⟨w',s,hB,d,_⟩:=HU (P:=P) (sT:=st) (ty:=o.type) (dc:=dc) (by obtain ⟨e,i,ht,_,p,hs⟩:=MF hd;exact ⟨e,i,ht,p,hs⟩) h h1 (H.blk i p) hl;rw[hk,j] at hB;rw[hk] at s;refine ⟨_,w',?_,Z,H.write i p d.os d.tape d.output hB (λq hq=>?_)⟩
 ·simp only[execOp,ho,resolve,invoke,builtin,Yd,Yh,X7,Yv,Yn,Y2,hF.ev hx,hF.ev hy,s]
 rcases Yg q w.heap.size with g|g
 ·exact d.block q g hq
 rw[Yw g,Yw U]
theorem TE(i:Nat){t st:TypeId}{b f p dc m:Nat}{ct:TypeId}{cs news:List Value}{u:Value}(H:Sep z Γ w)(hi:Γ[i]?=some (blk b cs ct))(ho:o.op=.call {callee:=.builtin .copy,args:= #[x,y],argTypes:= #[t,st]})(hd:CF P t=some 1)(hx:ev L x=some (.slice (some ⟨b,f,none⟩) p dc))(hy:ev L y=some u)
  (h:(Rd 1 u m news w)\/(∃l,u=EO l/\news=l.map u8/\m=l.length))(r:∀c∈news,c.oneCell'=true)(hl:f+min m p<=cs.length){k:Nat}(hk:min m p=k){out:List Value}(j:cs.take f++news.take k++cs.drop (f+k)=out):
  BL P n ds L o w (λv w'=>v=Aa k/\Sep z (Γ.set i (blk b out ct)) w'):=λa hF=>by
 obtain ⟨w',s,hB,d,_⟩:=HU (P:=P) (sT:=st) (ty:=o.type) (dc:=dc) (by obtain ⟨e,i0,r,h2,h3⟩:=Ej hd;exact ⟨e,i0,r,h2,h3⟩) h r (H.blk i hi) hl;rw[hk,j] at hB;rw[hk] at s;refine ⟨_,w',?_,Z,H.write i hi d.os d.tape d.output hB (λq hq=>?_)⟩
 ·simp only[execOp,ho,resolve,invoke,builtin,Yd,Yh,X7,Yv,Yn,Y2,hF.ev hx,hF.ev hy,s]
 rcases Yg q w.heap.size with g|g
 ·exact d.block q g hq
 rw[Yw g,Yw U]
theorem C8{t e:TypeId}{k:Nat}(H:Sep z Γ w)(l:o.op=.makeSlice t x y)(r:P.underlying t=some (.slice e)){zv:Value}{by_:Nat}(p:Elt P e zv 1 by_)(h0:zv.cells= #[zv])(h:ev L x=some (Aa k))(m:ev L y=some (Aa k))(hk:by_*k<=140737488355328):
  BL P n ds L o w (λv w'=>∃b,v=.slice (some ⟨b,0,none⟩) k k/\Sep z (blk b (List.replicate k zv) e::Γ) w'):=λa g=>by
 obtain ⟨i,hi,hz,hs,q,u,a0,c⟩:=p;have d:(i.bytes:Int)*(k:Int)<=281474976710656:=by
  rw[q,<-Int.natCast_mul];omega
 have f:=run_make (P:=P) (w:=w) t e i zv r hi hz .i64 .i64 (k:Int) (k:Int) U (Int.le_refl _) d (by
  have:1*k<=by_*k:=Zv _ c;omega)
 have s:madeCells zv.cells (((k:Int)).toNat*i.size)=(List.replicate k zv).toArray:=by
  apply Array.ext';simp only[madeCells,hs,h0,YB,YQ];rw[Zm];apply Aaq
  ·simp
  intro j h1 h2;simp[Nat.mod_one]
 rw[s] at f;refine ⟨_,_,?_,w.heap.size,Z,H.new (CH w (.cells (List.replicate k zv).toArray e)) (Yp _) (by show (w.heap.push _)[w.heap.size]?=_;simp)⟩;simp only[execOp,l,g.ev h,g.ev m,Yd,f,X7,Yh,YB];rfl

abbrev IE:=Int×Value×Nat
def BX(p:IE):MapEntry:=⟨.int .i64 p.1,p.2.1,p.2.2⟩
def AG(m:Nat)(l:List IE)(clk:Nat):Ai:=bk m (.map (l.map BX).toArray clk)
def fnd:List IE->Int->Nat->Option (Nat×Value)
 | [],_,_=>none
 | p::l,k,i=>if k=p.1 then some (i,p.2.1) else fnd l k (i+1)
def Cl:List IE->Int->Option Value
 | [],_=>none
 | p::l,k=>if k=p.1 then some p.2.1 else Cl l k
def Ce(l:List IE)(k:Int):Bool:=(Cl l k).isSome
def updM:List IE->Int->Value->List IE
 | [],_,_=>[]
 | p::l,k,v=>if k=p.1 then (k,v,p.2.2)::l else p::updM l k v
def delM:List IE->Int->List IE
 | [],_=>[]
 | p::l,k=>if k=p.1 then l else p::delM l k
def D9(l:List IE)(k:Int)(v:Value)(clk:Nat):List IE:=if Ce l k then updM l k v else l++[(k,v,clk)]
def putC(l:List IE)(k:Int)(clk:Nat):Nat:=if Ce l k then clk else clk+1
theorem Hy(l:List IE)(k:Int):∀i,(fnd l k i).map (·.2)=Cl l k:=by
 induction l with
 | nil=>intro i;rfl
 | cons p l ih=>intro i;simp only[fnd,Cl];split<;>simp[ih]
theorem OS(l:List IE)(k:Int):∀i j u,fnd l k i=some (j,u)->i<=j:=by
 induction l with
 | nil=>intro i j u h;simp[fnd] at h
 | cons p l ih=>
  intro i j u h;simp only[fnd] at h;split at h
  ·simp at h;omega
  have:=ih _ _ _ h;omega
theorem TF(l:List IE)(k:Int)(v:Value):∀i j u,fnd l k i=some (j,u)->(l.map BX).modify (j-i) (λe=> {e with key:=Aa k,val:=v})=(updM l k v).map BX/\((l.map BX)[j-i]?).map (·.key)=some (Aa k):=by
 induction l with
 | nil=>intro i j u h;simp[fnd] at h
 | cons p l ih=>
  intro i j u h;simp only[fnd] at h;simp only[updM];split at h
  ·rename_i e
   simp at h;obtain ⟨rfl,_⟩:=h;simp[e,BX]
  rename_i e;have c:=OS _ _ _ _ _ h;obtain ⟨b,a⟩:=ih _ _ _ h;obtain ⟨q,rfl⟩:∃q,j=i+1+q:=⟨j-(i+1),by omega⟩;rw[show i+1+q-(i+1)=q from by omega] at b a;rw[show i+1+q-i=q+1 from by omega];refine ⟨by simp[e,b],?_⟩;rw[Yn,Yq];exact a
theorem TG(l:List IE)(k:Int):∀i j u,fnd l k i=some (j,u)->(l.map BX).eraseIdx (j-i)=(delM l k).map BX/\j-i<l.length:=by
 induction l with
 | nil=>intro i j u h;simp[fnd] at h
 | cons p l ih=>
  intro i j u h;simp only[fnd] at h;simp only[delM];split at h
  ·rename_i e
   simp at h;obtain ⟨rfl,_⟩:=h;simp[e]
  rename_i e;have c:=OS _ _ _ _ _ h;obtain ⟨a,b⟩:=ih _ _ _ h;obtain ⟨q,rfl⟩:∃q,j=i+1+q:=⟨j-(i+1),by omega⟩;rw[show i+1+q-(i+1)=q from by omega] at a b;rw[show i+1+q-i=q+1 from by omega];simp[e,a];omega
theorem K1(l:List IE)(k:Int)(h:Cl l k=none):delM l k=l:=by
 induction l with
 | nil=>rfl
 | cons p l ih=>
  simp only[Cl] at h;simp only[delM];split at h
  ·cases h
  rename_i e;rw[if_neg e,ih h]
def DR(P:Program)(t:TypeId):Option TypeId:=match P.underlying t with
 | some (.map k e)=>(match P.underlying k with|some (.int _)=>some e|_=>none)
 | _=>none
theorem Di{t e:TypeId}(h:DR P t=some e):∃k a,P.underlying t=some (.map k e)/\P.underlying k=some (.int a):=by
 unfold DR at h;split at h
 ·rename_i k d b
  split at h
  ·rename_i a c;simp only[X2] at h;subst h;exact ⟨k,a,b,c⟩
  cases h
 cases h
theorem DS{c:TypeId}{b:IntKind}(d:P.underlying c=some (.int b))(l:List IE)(k:Int)(w:World):(Instr.findKey c (Aa k) (l.map BX)).run P w=.ok (fnd l k 0) w:=by
 have a:∀(l:List IE) (i:Nat),Instr.findNow (.int b) (Aa k) (l.map BX) i=some (fnd l k i):=by
  intro l
  induction l with
  | nil=>intro i;rfl
  | cons p l ih=>
   intro i;simp only[Yn,Instr.findNow,BX,Instr.sameNow,if_true,fnd];by_cases e:k=p.1
   ·simp[e]
   have:(k==p.1)=false:=by simpa using e
   rw[this,if_neg e];exact ih _
 simp only[Instr.findKey,Yd,run_underlying d,X7,a,Yh]
theorem Dz{a:TypeId}{d:IntKind}(c:P.underlying a=some (.int d))(b:Bool)(k:Int)(w:World):(Instr.checkKey b 10000 a (Aa k)).run P w=.ok () w:=by
 unfold Instr.checkKey;simp only[Yd,run_underlying c,X7,Yh]
theorem FA{t e:TypeId}{m clk:Nat}{l:List IE}{k:Int}{zv:Value}(p:o.op=.lookup t x y false)(u:DR P t=some e)(c:(P.info? e).bind (·.zero)=some zv)(h:ev L x=some (.map (some m)))(s:ev L y=some (Aa k))
  (v:∀w,C w->w.heap[m]?=some (.map (l.map BX).toArray clk)):Ao P C n ds L o ((Cl l k).getD zv):=λa g w z=>by
 obtain ⟨kt,ik,r,f⟩:=Di u;have d:(zeroValue e).run P w=.ok zv w:=by
  cases hi:P.info? e with
  | none=>rw[hi] at c;cases c
  | some i=>rw[hi] at c;simp[zeroValue,typeInfo,hi,show i.zero=some zv from c,go_sem]
 have j:(getObj m).run P w=.ok (.map (l.map BX).toArray clk) w:=by simp[getObj,Sem.run,v w z]
 have b:=Hy l k 0;simp only[execOp,p,g.ev h,g.ev s,Instr.lookup,Yd,run_underlying r,X7,j,Yh,Dz f,Zm,DS f]
 cases hf:fnd l k 0 with
 | none=>rw[hf] at b;rw[<-b];simp[d,Yd,Yh]
 | some q=>rw[hf] at b;rw[<-b];simp[Yh]
theorem CW(i:Nat){t e:TypeId}{m clk:Nat}{l:List IE}{k:Int}{xo ko vo:Operand}(H:Sep z Γ w)(hi:Γ[i]?=some (AG m l clk))(ho:o.op=.mapUpdate t xo ko vo)(ht:DR P t=some e)(hx:ev L xo=some (.map (some m)))(hk:ev L ko=some (Aa k))(hv:ev L vo=some v):
  C3 P n ds L o w (λw'=>Sep z (Γ.set i (AG m (D9 l k v clk) (putC l k clk))) w'):=λa h=>by
 obtain ⟨kt,ik,h1,y⟩:=Di ht;have d:w.heap[m]?=some (.map (l.map BX).toArray clk):=H.bk i hi;have hg:(getObj m).run P w=.ok (.map (l.map BX).toArray clk) w:=by simp[getObj,Sem.run,d]
 have c:∀ob,(setObj m ob).run P w=.ok () {w with heap:=w.heap.setIfInBounds m ob} :=λob=>by simp[setObj,Sem.run,d]
 have p:m<w.heap.size:=(YI.1 d).1;have fin:∀ob,Sep z (Γ.set i (bk m ob)) {w with heap:=w.heap.setIfInBounds m ob} :=λob=>
  H.write i hi Z Z Z (by show (w.heap.setIfInBounds m ob)[m]?=_;simp[p]) (λq hq=>by show (w.heap.setIfInBounds m ob)[q]?=_;rw[Zg (ZI hq)])
 have b:=Hy l k 0;have f:(Instr.mapUpdate t (.map (some m)) (Aa k) v).run P w=.ok () {w with heap:=w.heap.setIfInBounds m (.map ((D9 l k v clk).map BX).toArray (putC l k clk))} :=by
  simp only[Instr.mapUpdate,Yd,run_underlying h1,X7,hg,Yh,Dz y,Zm,DS y]
  cases hf:fnd l k 0 with
  | none=>
   rw[hf] at b;have r:Ce l k=false:=by simp[Ce,<-b]
   simp only[D9,putC,r,if_false,YW,c];simp[BX]
  | some q=>
   obtain ⟨j,u⟩:=q;rw[hf] at b;have r:Ce l k=true:=by simp[Ce,<-b]
   obtain ⟨f1,x⟩:=TF l k v 0 j u hf;simp only[Nat.sub_zero] at f1 x;have g:((((l.map BX).toArray)[j]?).map (·.key)).getD (Aa k)=Aa k:=by
    rw[YM,x];rfl
   simp only[D9,putC,r,if_true,g];have s:(Instr.keyThatStays (Aa k) (Aa k)).run P w=.ok (Aa k) w:=by
    simp[Instr.keyThatStays,Instr.sameBits,Yh]
   simp only[s,Yd,X7];rw[<-f1];have:((l.map BX).toArray.modify j λe=> {e with key:=Aa k,val:=v})=((l.map BX).modify j λe=> {e with key:=Aa k,val:=v}).toArray:=by simp
   rw[this];exact c _
 refine ⟨_,?_,fin _⟩;simp only[execOp,ho,h.ev hx,h.ev hk,h.ev hv,Yd,f,X7,Yh]
theorem K2(i:Nat){t e f:TypeId}{m clk:Nat}{l:List IE}{k:Int}(H:Sep z Γ w)(s:Γ[i]?=some (AG m l clk))(ho:o.op=.call {callee:=.builtin .delete,args:= #[x,y],argTypes:= #[t,f]})(ht:DR P t=some e)(hx:ev L x=some (.map (some m)))(hk:ev L y=some (Aa k)):
  BL P n ds L o w (λv w'=>v=.tuple #[]/\Sep z (Γ.set i (AG m (delM l k) clk)) w'):=λa hF=>by
 obtain ⟨kt,ik,h1,r⟩:=Di ht;have c:w.heap[m]?=some (.map (l.map BX).toArray clk):=H.bk i s;have hg:(getObj m).run P w=.ok (.map (l.map BX).toArray clk) w:=by simp[getObj,Sem.run,c]
 have b:∀ob,(setObj m ob).run P w=.ok () {w with heap:=w.heap.setIfInBounds m ob} :=λob=>by simp[setObj,Sem.run,c]
 have h:m<w.heap.size:=(YI.1 c).1;have fin:∀ob,Sep z (Γ.set i (bk m ob)) {w with heap:=w.heap.setIfInBounds m ob} :=λob=>
  H.write i s Z Z Z (by show (w.heap.setIfInBounds m ob)[m]?=_;simp[h]) (λq hq=>by show (w.heap.setIfInBounds m ob)[q]?=_;rw[Zg (ZI hq)])
 have g:=Hy l k 0;have d:(Builtin.delete_ #[t,f] o.type #[.map (some m),Aa k]).run P w=.ok (.tuple #[]) {w with heap:=w.heap.setIfInBounds m (.map ((delM l k).map BX).toArray clk)} :=by
  simp only[Builtin.delete_,YM,YT,Yq,Yd,run_underlying h1,X7,hg,Yh,Dz r,DS r]
  cases hf:fnd l k 0 with
  | none=>
   rw[hf] at g;simp only[Yd,b,X7,K1 l k g.symm,Yh]
  | some q=>
   obtain ⟨j,u⟩:=q;obtain ⟨p,f2⟩:=TG l k 0 j u hf;simp only[Nat.sub_zero] at p f2;have:((l.map BX).toArray.eraseIdxIfInBounds j)=((delM l k).map BX).toArray:=by
    rw[<-p];simp
   simp only[this,Yd,b,X7,Yh]
 refine ⟨_,_,?_,Z,fin _⟩;simp only[execOp,ho,resolve,invoke,builtin,Yd,Yh,X7,Yv,Yn,Y2,hF.ev hx,hF.ev hk,d]
theorem E3{t:TypeId}(H:Sep z Γ w)(b:o.op=.makeMap t none):BL P n ds L o w (λv w'=>∃m,v=.map (some m)/\Sep z (AG m [] 0::Γ) w'):=λa c=>by
 refine ⟨_,_,?_,w.heap.size,Z,H.new (CH w (.map #[] 0)) (Yp _) (by show (w.heap.push _)[w.heap.size]?=_;simp)⟩;simp[execOp,b,Instr.makeMap,newObj,go_sem,Sem.run]
def Hz(P:Program)(t:TypeId):Option Nat:=match P.underlying t with
 | some (.array l e)=>(match P.info? e with|some i=>if Nat.beq i.size 1&&Ft P e then some l else none|none=>none)
 | _=>none
theorem I1{t:TypeId}{l:Nat}(h:Hz P t=some l):∃e i,P.underlying t=some (.array l e)/\P.info? e=some i/\i.size=1/\Ft P e=true:=by
 unfold Hz at h;split at h
 ·rename_i l' e b
  split at h
  ·rename_i i c
   split at h
   ·rename_i a
    simp only[Yl] at a;simp only[X2] at h;subst h;exact ⟨e,i,b,c,by simpa using a.1,a.2⟩
   cases h
  cases h
 cases h
theorem K3{t:TypeId}{vs:List Value}{l:List Int}{i:Int}{k:IntKind}{j m:Nat}{u:Int}(q:o.op=.index t x y)(d:Hz P t=some m)(p:ev L x=some (.agg vs.toArray))(s:vs=l.map Aa)(hm:l.length=m)(v:ev L y=some (.int k i))(f:i=j)(g:l[j]?=some u):Ao P C n ds L o (Aa u):=λa h w _=>by
 obtain ⟨e,i0,d,z,hz,hf⟩:=I1 d;subst f;have hj:j<l.length:=(XV.1 g).1;have r:(0:Int)<=(j:Int)/\(j:Int)<(m:Int):=by omega
 have hv:vs[j]?=some (Aa u):=by rw[s,Yb,g];rfl
 have b:(part e vs.toArray (j*1)).run P w=.ok (Aa u) w:=by
  simp only[part,Yd,Fu hf,X7,if_false,YW,YQ,YM,hv,Yh]
 have c:(sizeOf e).run P w=.ok 1 w:=by simp[sizeOf,typeInfo,z,hz,go_sem]
 simp only[execOp,q,h.ev p,h.ev v,Instr.index,asIntOf,Yd,Yh,X7,run_underlying d,if_pos r,YB,c,b]

def Slc(v:Value)(l:Nat):Prop:=∃ao c,v=.slice ao l c
theorem grow.slc{e:TypeId}{sz m:Nat}{u:Value}{xs:List Value}{h:Hp}(g:grow e sz u m xs h):Slc u m:=by
 rcases g.form with ⟨rfl,rfl⟩|⟨b,c,rfl,_⟩
 ·exact ⟨_,_,Z⟩
 exact ⟨_,_,Z⟩
theorem rdH.slc{sz m:Nat}{u:Value}{xs:List Value}{h:Hp}(g:rdH sz u m xs h):Slc u m:=by
 obtain ⟨a,c,rfl,_⟩:=g;exact ⟨_,_,Z⟩
theorem G8{t:TypeId}{sz l:Nat}{u:Value}(d:o.op=.call {callee:=.builtin .len,args:= #[x],argTypes:= #[t]})(e:CF P t=some sz)(a:ev L x=some u)(b:Slc u l):Ao P C n ds L o (Aa l):=by
 obtain ⟨f,c,rfl⟩:=b;exact D4 d e a
theorem Sep.ungrow(i:Nat){e:TypeId}{sz m:Nat}{u:Value}{xs:List Value}(H:Sep z Γ w)(o:Γ[i]?=some (YthbbejpbkglmlaaGreatDoor.grow e sz u m xs))(r:0<m):
  ∃g a rest,u=.slice (some ⟨g,0,none⟩) m a/\m<=a/\a<=9223372036854775807/\rest.length=(a-m)*sz/\Sep z (Γ.set i (YthbbejpbkglmlaaGreatDoor.blk g (xs++rest) e)) w:=by
 obtain ⟨⟨g,a,rest⟩,⟨a1,a2,a3,a4⟩,f⟩:=H.exAt i (σ:=Nat×Nat×List Value) (p:=λq=>u=.slice (some ⟨q.1,0,none⟩) m q.2.1/\m<=q.2.1/\q.2.1<=9223372036854775807/\q.2.2.length=(q.2.1-m)*sz) (B:=λq=>YthbbejpbkglmlaaGreatDoor.blk q.1 (xs++q.2.2) e) o (λh g=>by
  rcases g.2 with ⟨_,rfl⟩|⟨b,a,d,n,j,l,c,hs,k⟩
  ·omega
  refine ⟨⟨b,a,d.toList.drop (m*sz)⟩,⟨n,l,by unfold maxLen at c;omega,?_⟩,?_⟩
  ·simp[hs,Nat.sub_mul]
  rw[<-k,YG];simpa [YthbbejpbkglmlaaGreatDoor.blk,YthbbejpbkglmlaaGreatDoor.bk] using j)
 exact ⟨g,a,rest,a1,a2,a3,a4,f⟩
theorem QT{t:TypeId}{lo hi v:Operand}{b d l c p q sz o' l':Nat}{k1 k2 k3:IntKind}{z y i3:Int}(ho:o.op=.slice t x (some lo) (some hi) (some v))(m:CF P t=some sz)(hx:ev L x=some (.slice (some ⟨b,d,none⟩) l c))
  (k:ev L lo=some (.int k1 z))(h:ev L hi=some (.int k2 y))(g:ev L v=some (.int k3 i3))(e1:z=(p:Int))(e2:y=(q:Int))(e3:i3=(q:Int))(a0:p<q)(j:q<=c)(h1:d+p*sz=o')(h2:q-p=l'):Ao P C n ds L o (.slice (some ⟨b,o',none⟩) l' l'):=λa f w _=>by
 obtain ⟨e,i0,m,s,hz⟩:=Ej m;subst e1;subst e2;subst e3;have g1:(0:Int)<=(p:Int)/\(p:Int)<=(q:Int):=by omega
 have g2:(0:Int)<=(q:Int)/\(q:Int)<=(c:Int):=by omega
 have g3:(0:Int)<=(q:Int)/\(q:Int)<=(q:Int):=by omega
 have u:((⟨b,d,none⟩:Addr).add (p*sz))=⟨b,o',none⟩:=by
  subst h1;unfold Addr.add;split
  ·rename_i h0;simp[h0]
  rfl
 have r:¬q=p:=by omega
 have i:p<=q:=by omega
 simp only[execOp,ho,Yu,f.ev hx,f.ev k,f.ev h,f.ev g];simp[Instr.sliceAt,Instr.slice,run_underlying m,Instr.sliceBounds,Instr.sliceBound,asIntOf,g1,g2,g3,sizeOf,typeInfo,s,hz,i,j,r,go_sem,u,h2]
end
end
structure Sup where
 gen:Int
 epoch:Int
 pages:Int
 start:Int
 len:Int
 head:Int
 seq:Int
def Sup.list(s:Sup):List Int:=[s.gen,s.epoch,s.pages,s.start,s.len,s.head,s.seq]
def Sup.cells(s:Sup):List Value:=[.int .i64 s.gen,.int .i64 s.epoch,.int .i64 s.pages,.int .i64 s.start,.int .i64 s.len,.int .i64 s.head,.int .i64 s.seq]
def Sup.Ok(s:Sup)(n:Int):Prop:=(∀x∈s.list,0<=x/\x<=1099511627776)/\16<=s.pages/\s.pages<=1024/\2+s.pages<=s.start/\64<=s.len/\s.start<=n-s.len/\s.len<=n/\s.head<s.len
instance(s:Sup)(n:Int):Decidable (s.Ok n):=by unfold Sup.Ok;exact inferInstance
theorem Sup.get{s:Sup}{n:Int}(h:s.Ok n):(0<=s.gen/\s.gen<=1099511627776)/\(0<=s.epoch/\s.epoch<=1099511627776)/\(0<=s.pages/\s.pages<=1099511627776)/\(0<=s.start/\s.start<=1099511627776)/\(0<=s.len/\s.len<=1099511627776)/\(0<=s.head/\s.head<=1099511627776)/\(0<=s.seq/\s.seq<=1099511627776):=by
 have:=h.1;simpa [Sup.list] using this

structure Dsk where
 n:Nat
 dur:Nat->List UInt8
 ver:Nat->List (List UInt8)
 f1:Int
 f2:Int
 f3:Int
 cut:Bool
 left:Int
def Dsk.cont(D:Dsk)(i:Nat):List UInt8:=(D.ver i).getLast?.getD (D.dur i)
def AP(f:Int):Int:=if f=0 then 0 else f-1
structure Ent where
 key:Nat
 v:Value
 pvs:List Value
 ps:List (List UInt8)
 born:Nat
def Ent.ie(e:Ent):IE:=((e.key:Int),e.v,e.born)
def Ent.row(e:Ent):Ai:=grow 38 1 e.v e.pvs.length e.pvs
def Ent.Ok(hq:Hp)(e:Ent):Prop:=e.pvs.length=e.ps.length/\e.ps≠[]/\∀(j:Nat) (pv:Value) (p:List UInt8),e.pvs[j]?=some pv->e.ps[j]?=some p->p.length=256/\rdH 1 pv 256 (p.map u8) hq
def poolA(hq:Hp):Ai:=λh=>BC hq h
structure Dsk.Ok(D:Dsk):Prop where
 n1:1<=D.n
 n2:D.n<=4096
 dur:∀i,i<D.n->(D.dur i).length=256
 ver:∀i,i<D.n->∀p∈D.ver i,p.length=256
 f1:0<=D.f1/\D.f1<=1099511627776
 f2:0<=D.f2/\D.f2<=1099511627776
 f3:0<=D.f3/\D.f3<=1099511627776
 left:0<=D.left/\D.left<=1099511627776
structure Dsk.In(D:Dsk)(bs:List UInt8)(es:List Ent)(clk:Nat)(hq:Hp):Prop where
 len:bs.length=D.n*256
 own:∀i,i<D.n->(bs.drop (i*256)).take 256=D.dur i
 ent:∀e∈es,e.key<D.n/\e.ps=D.ver e.key/\e.Ok hq
 all:∀i,i<D.n->D.ver i≠[]->∃e∈es,e.key=i
 nodup:(es.map Ent.key).Nodup
 born:(es.map Ent.born).Nodup
 clk:∀e∈es,e.born<clk
def D5(pd bd m:Nat)(D:Dsk)(f0:Int)(bs:List UInt8)(es:List Ent)(clk:Nat)(hq:Hp):List Ai:=
  [blk pd [.slice (some ⟨bd,0,none⟩) (D.n*256) (D.n*256),.map (some m),.int .i64 f0,.int .i64 D.f1,.int .i64 D.f2,.int .i64 D.f3,.bool D.cut,.int .i64 D.left] 106,
   blk bd (bs.map u8) 5,AG m (es.map Ent.ie) clk,poolA hq,seps (es.map Ent.row)]
def diskA(pd:Nat)(D:Dsk):Ai:=λh=>∃(bd m:Nat) (f0:Int) (bs:List UInt8) (es:List Ent) (clk:Nat) (hq:Hp),(D.Ok/\D.In bs es clk hq)/\seps (D5 pd bd m D f0 bs es clk hq) h
theorem diskA.ok{pd:Nat}{D:Dsk}{h:Hp}(a:diskA pd D h):D.Ok:=by
 obtain ⟨_,_,_,_,_,_,_,hp,_⟩:=a;exact hp.1
structure DskX where
 bd:Nat
 m:Nat
 f0:Int
 bs:List UInt8
 es:List Ent
 clk:Nat
 hq:Hp
theorem Sep.disk{z w:World}{Γ:List Ai}{pd:Nat}{D:Dsk}(H:Sep z (diskA pd D::Γ) w):∃bd m f0 bs es clk hq,D.Ok/\D.In bs es clk hq/\Sep z (D5 pd bd m D f0 bs es clk hq++Γ) w:=by
 obtain ⟨x,⟨b,c⟩,H⟩:=H.into (σ:=DskX) (p:=λx=>D.Ok/\D.In x.bs x.es x.clk x.hq) (As:=λx=>D5 pd x.bd x.m D x.f0 x.bs x.es x.clk x.hq)
  (λh a=>by obtain ⟨bd,m,f0,bs,es,clk,hq,hp,hs⟩:=a;exact ⟨⟨bd,m,f0,bs,es,clk,hq⟩,hp,hs⟩)
 exact ⟨_,_,_,_,_,_,_,b,c,H⟩
theorem Sep.toDisk{z w:World}{Γ:List Ai}{pd bd m:Nat}{D:Dsk}{f0:Int}{bs:List UInt8}{es:List Ent}{clk:Nat}{hq:Hp}(H:Sep z (D5 pd bd m D f0 bs es clk hq++Γ) w)(b:D.Ok)(c:D.In bs es clk hq):Sep z (diskA pd D::Γ) w:=
 H.shut.mono 0 Z (λh a=>⟨_,_,_,_,_,_,_,⟨b,c⟩,a⟩)
theorem get_ent:∀(es:List Ent) (k:Nat),(es.map Ent.key).Nodup->(Cl (es.map Ent.ie) (k:Int)=none/\∀e∈es,e.key≠k)\/∃(i:Nat) (e:Ent),es[i]?=some e/\e.key=k/\Cl (es.map Ent.ie) (k:Int)=some e.v
 | [],k,_=>.inl ⟨Z,λe h=>by cases h⟩
 | e::es,k,hn=>by
  simp only[Yn,Y8] at hn;simp only[Yn,Cl,Ent.ie];by_cases q:(k:Int)=(e.key:Int)
  ·exact .inr ⟨0,e,Z,by omega,by rw[if_pos q]⟩
  rw[if_neg q];rcases get_ent es k hn.2 with ⟨h1,h2⟩|⟨i,e',h1,h2,h3⟩
  ·exact .inl ⟨h1,λe' h=>by
    rcases YO.1 h with rfl|h
    ·intro q';exact q (by rw[q'])
    exact h2 e' h⟩
  exact .inr ⟨i+1,e',by simpa using h1,h2,h3⟩
theorem Rd.at{sz:Nat}{a:Option Addr}{n c:Nat}{xs:List Value}{w:World}{u:Value}{j:Nat}(r:Rd sz (.slice a n c) n xs w)(h:xs[j]?=some u):At a j u w:=by
 obtain ⟨d,c',e,_,_,_,b⟩:=r;cases e;exact b j u h
theorem Ea{As:List Ai}{h:Hp}(hs:seps As h){i:Nat}{A:Ai}(a:As[i]?=some A):∃h',A h'/\BC h' h:=by
 obtain ⟨own,b⟩:=hs;exact ⟨_,b i A a,λk o e=>(Ek e).2⟩
theorem Vy{D:Dsk}{bs:List UInt8}{es:List Ent}{clk:Nat}{hq:Hp}(l:D.In bs es clk hq){k:Nat}(q:k<D.n):
  ∃v a,(Cl (es.map Ent.ie) (k:Int)).getD (.slice none 0 0)=v/\a.length=(D.ver k).length/\(∀h,seps (es.map Ent.row) h->rdH 1 v a.length a h)/\
   (∀(j:Nat) (b:Value) (p:List UInt8),a[j]?=some b->(D.ver k)[j]?=some p->∀h,poolA hq h->rdH 1 b 256 (p.map u8) h):=by
 rcases get_ent es k l.nodup with ⟨d,x⟩|⟨i,e,o,g,d⟩
 ·have w:D.ver k=[]:=by
   cases hvk:D.ver k with
   | nil=>rfl
   | cons p ps=>
    obtain ⟨e,g,f⟩:=l.all k q (by rw[hvk];simp);exact absurd f (x e g)
  exact ⟨.slice none 0 0,[],by simp[d],by rw[w];rfl,λh _=>rdH.nil 1 h,λj b p h=>by simp at h⟩
 obtain ⟨_,m,u,z,y⟩:=l.ent e (XX o);subst g;refine ⟨e.v,e.pvs,by simp[d],u.trans (congrArg _ m),λh hs=>?_,λj b p r hp h s=>((y j b p r (by rw[m];exact hp)).2).le s⟩;obtain ⟨h',t,c⟩:=Ea hs (i:=i) (A:=e.row) (by rw[Yb,o];rfl);exact (grow.rd t).le c
def G9(D:Dsk)(k:Nat):Nat->List UInt8
 | 0=>D.dur k
 | _+1=>D.cont k
theorem Ik{D:Dsk}{k:Nat}(h:D.ver k=[]):D.cont k=D.dur k:=by simp[Dsk.cont,h]
theorem Ke{D:Dsk}{k n:Nat}{p:List UInt8}(a:n=(D.ver k).length)(h:(D.ver k)[n-1]?=some p):D.cont k=p:=by
 subst a;simp[Dsk.cont,AaS,h]
theorem Dsk.In.f{D:Dsk}{bs:List UInt8}{es:List Ent}{clk:Nat}{hq:Hp}(h:D.In bs es clk hq)(a b c:Int)(d:Bool)(e:Int):Dsk.In {D with f1:=a,f2:=b,f3:=c,cut:=d,left:=e} bs es clk hq:=
 ⟨h.len,h.own,h.ent,h.all,h.nodup,h.born,h.clk⟩
theorem Dsk.Ok.f{D:Dsk}(h:D.Ok){a b c e:Int}{d:Bool}(i:0<=a/\a<=1099511627776)(k:0<=b/\b<=1099511627776)(g:0<=c/\c<=1099511627776)(j:0<=e/\e<=1099511627776):Dsk.Ok {D with f1:=a,f2:=b,f3:=c,cut:=d,left:=e} :=
 ⟨h.n1,h.n2,h.dur,h.ver,i,k,g,j⟩
theorem El{f:Int}(h:0<=f/\f<=1099511627776):0<=AP f/\AP f<=1099511627776:=by unfold AP;split<;>omega
theorem Dsk.cont_len{D:Dsk}(h:D.Ok){i:Nat}(a:i<D.n):(D.cont i).length=256:=by
 unfold Dsk.cont
 cases hl:(D.ver i).getLast? with
 | none=>exact h.dur i a
 | some p=>exact h.ver i a p (List.mem_of_getLast? hl)
def By{α:Type}(f:Nat->α)(i:Nat)(x:α):Nat->α:=λk=>if k=i then x else f k
theorem CX{α:Type}(f:Nat->α)(i:Nat)(x:α):By f i x i=x:=by simp[By]
theorem upf_other{α:Type}(f:Nat->α){i k:Nat}(x:α)(h:k≠i):By f i x k=f k:=by simp[By,h]
def Dsk.w1(D:Dsk)(fua:Bool)(i:Nat)(p:List UInt8):Dsk:=
 if fua then {D with dur:=By D.dur i p,ver:=By D.ver i []} else {D with ver:=By D.ver i (D.ver i++[p])}
def Dsk.ws(D:Dsk)(fua:Bool)(i:Nat):List (List UInt8)->Dsk
 | []=>D
 | p::ps=>(D.w1 fua i p).ws fua (i+1) ps
theorem Dsk.w1_n(D:Dsk)(a:Bool)(i:Nat)(p:List UInt8):(D.w1 a i p).n=D.n:=by cases a<;>rfl
theorem Dsk.w1_f(D:Dsk)(a:Bool)(i:Nat)(p:List UInt8):(D.w1 a i p).f1=D.f1/\(D.w1 a i p).f2=D.f2/\(D.w1 a i p).f3=D.f3/\(D.w1 a i p).cut=D.cut/\(D.w1 a i p).left=D.left:=by cases a<;>exact ⟨Z,Z,Z,Z,Z⟩
theorem Dsk.ws_snoc(a:Bool)(ps:List (List UInt8))(p:List UInt8):∀(D:Dsk) (i:Nat),D.ws a i (ps++[p])=(D.ws a i ps).w1 a (i+ps.length) p:=by
 induction ps with
 | nil=>intro D i;rfl
 | cons q qs ih=>intro D i;simp only[ZD,Dsk.ws,ih,XZ];rw[show i+1+qs.length=i+(qs.length+1) from by omega]
theorem Dsk.ws_n(a:Bool)(ps:List (List UInt8)):∀(D:Dsk) (i:Nat),(D.ws a i ps).n=D.n:=by
 induction ps with
 | nil=>intro D i;rfl
 | cons q qs ih=>intro D i;simp only[Dsk.ws,ih,Dsk.w1_n]
theorem Dsk.ws_f(a:Bool)(ps:List (List UInt8)):∀(D:Dsk) (i:Nat),(D.ws a i ps).f1=D.f1/\(D.ws a i ps).f2=D.f2/\(D.ws a i ps).f3=D.f3/\(D.ws a i ps).cut=D.cut/\(D.ws a i ps).left=D.left:=by
 induction ps with
 | nil=>intro D i;exact ⟨Z,Z,Z,Z,Z⟩
 | cons q qs ih=>intro D i;simp only[Dsk.ws];rw[(ih _ _).1,(ih _ _).2.1,(ih _ _).2.2.1,(ih _ _).2.2.2.1,(ih _ _).2.2.2.2];exact Dsk.w1_f D a i q
theorem Dsk.Ok.w1{D:Dsk}(h:D.Ok){c:Bool}{i:Nat}{p:List UInt8}(hp:p.length=256):(D.w1 c i p).Ok:=by
 cases c with
 | true=>
  refine ⟨h.n1,h.n2,λj b=>?_,λj b q hq=>?_,h.f1,h.f2,h.f3,h.left⟩
  ·show (By D.dur i p j).length=256
   unfold By;split
   ·exact hp
   exact h.dur j b
  have a:q∈By D.ver i [] j:=hq;unfold By at a;split at a
  ·cases a
  exact h.ver j b q a
 | false=>
  refine ⟨h.n1,h.n2,h.dur,λj b q hq=>?_,h.f1,h.f2,h.f3,h.left⟩;have a:q∈By D.ver i (D.ver i++[p]) j:=hq;unfold By at a;split at a
  ·rename_i e;subst e
   rcases Yt.1 a with h'|h'
   ·exact h.ver j b q h'
   rw[YA.1 h'];exact hp
  exact h.ver j b q a
theorem Ent.Ok.le{hq a:Hp}{e:Ent}(h:e.Ok hq)(s:BC hq a):e.Ok a:=⟨h.1,h.2.1,λj d p b c=>⟨(h.2.2 j d p b c).1,(h.2.2 j d p b c).2.le s⟩⟩
theorem Dsk.In.le{D:Dsk}{bs:List UInt8}{es:List Ent}{clk:Nat}{hq a:Hp}(h:D.In bs es clk hq)(s:BC hq a):D.In bs es clk a:=
 ⟨h.len,h.own,λe b=>⟨(h.ent e b).1,(h.ent e b).2.1,(h.ent e b).2.2.le s⟩,h.all,h.nodup,h.born,h.clk⟩

theorem GJ{As:List Ai}{h:Hp}(hs:seps As h)(i:Nat){A:Ai}(c:As[i]?=some A):seps (A::As.eraseIdx i) h:=by
 obtain ⟨own,b⟩:=hs;refine ⟨λk=>if own k=i then 0 else if own k<i then own k+1 else own k,λj B a=>?_⟩
 cases j with
 | zero=>
  simp only[YT,X2] at a;subst a;have:=b i A c;rwa[Cr (h':=h) (own':=λk=>if own k=i then 0 else if own k<i then own k+1 else own k) (j:=0) (λk=>⟨λe=>by rw[if_pos e],λe=>by
   split at e
   ·assumption
   split at e<;>omega⟩) (λ_ _=>rfl)] at this
 | succ j=>
  simp only[Yq] at a;rw[ZG] at a;split at a
  ·rename_i f
   have:=b j B a;rwa[Cr (h':=h) (own':=λk=>if own k=i then 0 else if own k<i then own k+1 else own k) (j:=j+1) (λk=>⟨λe=>by rw[if_neg U,if_pos U];omega,λe=>by
    split at e
    ·omega
    split at e<;>omega⟩) (λ_ _=>rfl)] at this
  rename_i d;have:=b (j+1) B a;rwa[Cr (h':=h) (own':=λk=>if own k=i then 0 else if own k<i then own k+1 else own k) (j:=j+1) (λk=>⟨λe=>by rw[if_neg U,if_neg U];omega,λe=>by
   split at e
   ·omega
   split at e<;>omega⟩) (λ_ _=>rfl)] at this
theorem Kf{As:List Ai}{h:Hp}(i:Nat){A:Ai}(f:i<As.length)(hs:seps (A::As.eraseIdx i) h):seps (As.set i A) h:=by
 obtain ⟨own,b⟩:=hs;have d:(As.eraseIdx i).length=As.length-1:=List.length_eraseIdx_of_lt f;refine ⟨λk=>if own k=0 then i else if own k<=i then own k-1 else own k,λj B a=>?_⟩;by_cases e:j=i
 ·subst e
  rw[YR f] at a;simp only[X2] at a;subst a;have:=b 0 A Z;rwa[Cr (h':=h) (own':=λk=>if own k=0 then j else if own k<=j then own k-1 else own k) (j:=j) (λk=>⟨λe=>by rw[if_pos e],λe=>by
   split at e
   ·assumption
   split at e<;>omega⟩) (λ_ _=>rfl)] at this
 rw[Zd (ZI e)] at a;have g:=(XV.1 a).1;rcases Yg j i with c|hge
 ·have:=b (j+1) B (by rw[Yq,ZG,if_pos c];exact a)
  rwa[Cr (h':=h) (own':=λk=>if own k=0 then i else if own k<=i then own k-1 else own k) (j:=j) (λk=>⟨λe=>by rw[if_neg U,if_pos U];omega,λe=>by
   split at e
   ·omega
   split at e<;>omega⟩) (λ_ _=>rfl)] at this
 obtain ⟨q,rfl⟩:∃q,j=q+1:=⟨j-1,by omega⟩;have:=b (q+1) B (by rw[Yq,ZG,if_neg U];exact a);rwa[Cr (h':=h) (own':=λk=>if own k=0 then i else if own k<=i then own k-1 else own k) (j:=q+1) (λk=>⟨λe=>by rw[if_neg U,if_neg U];omega,λe=>by
  split at e
  ·omega
  split at e<;>omega⟩) (λ_ _=>rfl)] at this
theorem Ha{As:List Ai}{A:Ai}{h:Hp}(hs:seps (A::As) h):seps (As++[A]) h:=Cp (As:=[A]) (Bs:=As) hs
theorem OT{As:List Ai}{A:Ai}{h:Hp}(hs:seps (A::As) h):seps As h:=by
 have:=J9 hs 1 [] Z;exact this
theorem TH(es:List Ent)(k:Nat)(g:Value)(f:Ent->Ent)(j:∀e,(f e).key=e.key/\(f e).v=g/\(f e).born=e.born):∀(i:Nat) (e:Ent),(es.map Ent.key).Nodup->es[i]?=some e->e.key=k->updM (es.map Ent.ie) (k:Int) g=(es.set i (f e)).map Ent.ie:=by
 induction es with
 | nil=>intro i e _ h;simp at h
 | cons x xs ih=>
  intro i e c a d;simp only[Yn,Y8] at c
  cases i with
  | zero=>
   simp only[YT,X2] at a;subst a;subst d;simp[updM,Ent.ie,j]
  | succ i=>
   simp only[Yq] at a;have b:¬(k:Int)=(x.key:Int):=by
    intro q;have:x.key=e.key:=by omega
    exact c.1 (this▸YP (XX a))
   simp only[Yn,updM,List.set_cons_succ];rw[if_neg (by simpa [Ent.ie] using b),ih i e c.2 a d]
theorem TI(es:List Ent)(k:Nat):∀(i:Nat) (e:Ent),(es.map Ent.key).Nodup->es[i]?=some e->e.key=k->delM (es.map Ent.ie) (k:Int)=(es.eraseIdx i).map Ent.ie:=by
 induction es with
 | nil=>intro i e _ h;simp at h
 | cons x xs ih=>
  intro i e c a d;simp only[Yn,Y8] at c
  cases i with
  | zero=>
   simp only[YT,X2] at a;subst a;subst d;simp[delM,Ent.ie]
  | succ i=>
   simp only[Yq] at a;have b:¬(k:Int)=(x.key:Int):=by
    intro q;have:x.key=e.key:=by omega
    exact c.1 (this▸YP (XX a))
   simp only[Yn,delM,List.eraseIdx_cons_succ];rw[if_neg (by simpa [Ent.ie] using b),ih i e c.2 a d]
theorem E4{α β:Type}{f:α->β}{l:List α}(k:(l.map f).Nodup){i j:Nat}{a b:α}(c:l[i]?=some a)(d:l[j]?=some b)(e:f a=f b):i=j:=by
 have g:=(XV.1 c).1;have h:=(XV.1 d).1;refine (List.getElem_inj (xs:=l.map f) (h₀:=by simpa using g) (h₁:=by simpa using h) k).1 ?_;simp only[AaV];rw[(XV.1 c).2,(XV.1 d).2,e]
theorem OU{z w:World}{Γ:List Ai}{D:Dsk}{bs:List UInt8}{es:List Ent}{clk:Nat}{hq:Hp}(d:D.In bs es clk hq){k:Nat}(hk:k<D.n)(H:Sep z (seps (es.map Ent.row)::Γ) w):
  ∃(v:Value) (pvs:List Value) (a0:List Ai),(Cl (es.map Ent.ie) (k:Int)).getD (.slice none 0 0)=v/\pvs.length=(D.ver k).length/\Sep z (grow 38 1 v pvs.length pvs::seps a0::Γ) w/\
   ∀(l m:Value) (p:List UInt8),p.length=256->rdH 1 m 256 (p.map u8) hq->∃a4,(D.w1 false k p).In bs a4 (putC (es.map Ent.ie) k clk) hq/\D9 (es.map Ent.ie) k l clk=a4.map Ent.ie/\
    ∀h,seps (grow 38 1 l (pvs.length+1) (pvs++[m])::[seps a0]) h->seps (a4.map Ent.row) h:=by
 rcases get_ent es k d.nodup with ⟨hg,hn⟩|⟨i,e,y,g,hg⟩
 ·have hv:D.ver k=[]:=by
   cases hvk:D.ver k with
   | nil=>rfl
   | cons p ps=>
    obtain ⟨e,g,o⟩:=d.all k hk (by rw[hvk];simp);exact absurd o (hn e g)
  refine ⟨.slice none 0 0,[],es.map Ent.row,by simp[hg],by rw[hv];rfl,H.void λh=>grow.nil _ _ h,λl m p hp hr=>?_⟩;have hh:Ce (es.map Ent.ie) (k:Int)=false:=by simp[Ce,hg]
  refine ⟨es++[⟨k,l,[m],[p],clk⟩],⟨d.len,d.own,?_,?_,?_,?_,?_⟩,?_,λh hs=>?_⟩
  ·intro e g
   rcases Yt.1 g with g|g
   ·obtain ⟨u,t,h3⟩:=d.ent e g
    exact ⟨u,t.trans (upf_other D.ver _ (hn e g)).symm,h3⟩
   rw[YA.1 g];refine ⟨hk,?_,Z,by simp,λj a6 p' u t=>?_⟩
   ·show [p]=By D.ver k (D.ver k++[p]) k
    rw[CX,hv];rfl
   have:j=0:=by have:=(XV.1 u).1;simpa using this
   subst this;simp at u t;subst u;subst t;exact ⟨hp,hr⟩
  ·intro j f a3
   by_cases e:j=k
   ·exact ⟨_,List.mem_append_right _ (YA.2 Z),e.symm⟩
   have:D.ver j≠[]:=by
    have h':By D.ver k (D.ver k++[p]) j≠[]:=a3;rwa[upf_other _ _ e] at h'
   obtain ⟨s,c,o⟩:=d.all j f this;exact ⟨s,List.mem_append_left _ c,o⟩
  ·rw[Yj]
   refine Y4.2 ⟨d.nodup,by simp,λa ha b hb=>?_⟩;simp at hb;subst hb;obtain ⟨s,c,rfl⟩:=X6.1 ha;exact hn s c
  ·rw[Yj]
   refine Y4.2 ⟨d.born,by simp,λa ha b hb=>?_⟩;simp at hb;subst hb;obtain ⟨s,c,rfl⟩:=X6.1 ha;have:=d.clk s c;omega
  ·intro e g
   simp only[putC,hh,if_false,YW];rcases Yt.1 g with g|g
   ·have:=d.clk e g;omega
   rw[YA.1 g];show clk<clk+1;omega
  ·simp[D9,hh,Ent.ie]
  rw[Yj];refine Ha ?_;have t:=Cp (As:=[grow 38 1 l 1 [m]]) (Bs:=[seps (es.map Ent.row)]) hs;have h3:=FP t;exact Cp (As:=es.map Ent.row) (Bs:=[grow 38 1 l 1 [m]]) h3
 obtain ⟨_,t,h3,h4,h5⟩:=d.ent e (XX y);subst g;have r:=(XV.1 y).1;have hh:Ce (es.map Ent.ie) (e.key:Int)=true:=by simp[Ce,hg]
 refine ⟨e.v,e.pvs,(es.map Ent.row).eraseIdx i,by simp[hg],h3.trans (congrArg _ t),?_,λl m p hp hr=>?_⟩
 ·have H1:=H.mono 0 (B:=seps (e.row::[seps ((es.map Ent.row).eraseIdx i)])) Z (λh hs=>by
   have u:=GJ hs i (A:=e.row) (by rw[Yb,y];rfl);have a7:seps ((es.map Ent.row).eraseIdx i++[e.row]) h:=Cp (As:=[e.row]) (Bs:=(es.map Ent.row).eraseIdx i) u;have a5:=G3 a7;exact Cp (As:=[seps ((es.map Ent.row).eraseIdx i)]) (Bs:=[e.row]) a5)
  exact Sep.opened (As:=[e.row,seps ((es.map Ent.row).eraseIdx i)]) H1
 refine ⟨es.set i {e with v:=l,pvs:=e.pvs++[m],ps:=e.ps++[p]},⟨d.len,d.own,?_,?_,?_,?_,?_⟩,?_,λh hs=>?_⟩
 ·intro s c
  obtain ⟨j,f⟩:=YC c;rw[YZ] at f;split at f
  ·rename_i q
   subst q;simp only[r,if_true,X2] at f;subst f;refine ⟨hk,?_,by simp[h3],by simp,λj' a6 p' q1 q2=>?_⟩
   ·show e.ps++[p]=By D.ver e.key (D.ver e.key++[p]) e.key
    rw[CX,t]
   rcases Yg j' e.pvs.length with q|q
   ·rw[Yc q] at q1
    rw[Yc U] at q2;exact h5 j' a6 p' q1 q2
   rw[Ya q] at q1;rw[Ya U] at q2;have:j'-e.pvs.length=0:=by have:=(XV.1 q1).1;simpa using this
   rw[this] at q1;rw[show j'-e.ps.length=0 from by omega] at q2;simp at q1 q2;subst q1;subst q2;exact ⟨hp,hr⟩
  rename_i q;obtain ⟨u,a5,a8⟩:=d.ent s (XX f);have a2:s.key≠e.key:=λq'=>by
   exact q (E4 d.nodup y f q'.symm)
  exact ⟨u,a5.trans (upf_other D.ver _ a2).symm,a8⟩
 ·intro j f a3
  by_cases q:j=e.key
  ·exact ⟨_,XX (YR r),q.symm⟩
  have:D.ver j≠[]:=by
   have h':By D.ver e.key (D.ver e.key++[p]) j≠[]:=a3;rwa[upf_other _ _ q] at h'
  obtain ⟨s,c,o⟩:=d.all j f this;obtain ⟨j',a1⟩:=YC c;have a2:i≠j':=λq'=>by
   subst q';rw[y] at a1;cases a1;exact q o.symm
  exact ⟨s,XX (by rw[Zd a2];exact a1),o⟩
 ·rw[Aax]
  have:(es.map Ent.key).set i e.key=es.map Ent.key:=Y0 λj=>by
   rw[YZ];split
   ·rename_i q;subst q;simp[r,(XV.1 y).2]
   rfl
  exact (show ((es.map Ent.key).set i e.key).Nodup by rw[this];exact d.nodup)
 ·rw[Aax]
  have:(es.map Ent.born).set i e.born=es.map Ent.born:=Y0 λj=>by
   rw[YZ];split
   ·rename_i q;subst q;simp[r,(XV.1 y).2]
   rfl
  exact (show ((es.map Ent.born).set i e.born).Nodup by rw[this];exact d.born)
 ·intro s c
  simp only[putC,hh,if_true];obtain ⟨j,f⟩:=YC c;rw[YZ] at f;split at f
  ·simp only[r,if_true,X2] at f
   subst f;exact d.clk e (XX y)
  exact d.clk s (XX f)
 ·simp only[D9,hh,if_true]
  exact TH es e.key l (λx=> {x with v:=l,pvs:=x.pvs++[m],ps:=x.ps++[p]}) (λx=>⟨Z,Z,Z⟩) i e d.nodup y Z
 rw[Aax];refine Kf i (by simpa using r) ?_;have t:=Cp (As:=[grow 38 1 l (e.pvs.length+1) (e.pvs++[m])]) (Bs:=[seps ((es.map Ent.row).eraseIdx i)]) hs;have h3:=FP t;have h4:=Cp (As:=(es.map Ent.row).eraseIdx i) (Bs:=[grow 38 1 l (e.pvs.length+1) (e.pvs++[m])]) h3;have e1:grow 38 1 l (e.pvs.length+1) (e.pvs++[m])=Ent.row {e with v:=l,pvs:=e.pvs++[m],ps:=e.ps++[p]} :=by simp[Ent.row]
 rw[<-e1];exact h4
theorem OV{D:Dsk}{bs bs':List UInt8}{es:List Ent}{clk:Nat}{hq:Hp}(b:D.In bs es clk hq){k:Nat}(hk:k<D.n){p:List UInt8}(hp:p.length=256)(v:bs'=bs.take (k*256)++p++bs.drop (k*256+256)):
  ∃t,(D.w1 true k p).In bs' t clk hq/\delM (es.map Ent.ie) k=t.map Ent.ie/\∀h,seps (es.map Ent.row) h->seps (t.map Ent.row) h:=by
 have hn:D.n*256=bs.length:=b.len.symm;have a2:k*256+256<=bs.length:=by omega
 have l:bs'.length=D.n*256:=by subst v;simp[hp];omega
 have m:∀i,i<D.n->(bs'.drop (i*256)).take 256=(D.w1 true k p).dur i:=λi o=>by
  show _=By D.dur k p i;subst v;have e0:(bs.take (k*256)).length=k*256:=by rw[X1];omega
  rcases Zi i k with h|h|h
  ·rw[upf_other _ _ U,<-b.own i o]
   rw[X3,Yx U,X8 (by rw[Yr,e0];omega)];rw[ZX,YE];rw[show min 256 (k*256-i*256)=256 from by omega]
  ·subst h
   rw[CX,X3,Yx U,Yk U,Yo];rw[X8 U,X0 U]
  rw[upf_other _ _ U,<-b.own i o];rw[YD,Yk (by simp[hp];omega),Yo,Aa8];congr 2;simp[hp];omega
 rcases get_ent es k b.nodup with ⟨hg,a0⟩|⟨i,e,o,he,hg⟩
 ·refine ⟨es,⟨l,m,λe he=>?_,λj g s=>?_,b.nodup,b.born,b.clk⟩,K1 _ _ hg,λh hs=>hs⟩
  ·obtain ⟨h1,w,h3⟩:=b.ent e he
   exact ⟨h1,w.trans (upf_other D.ver _ (a0 e he)).symm,h3⟩
  have h':By D.ver k [] j≠[]:=s;by_cases q:j=k
  ·subst q;rw[CX] at h';exact absurd Z h'
  rw[upf_other _ _ q] at h';exact b.all j g h'
 subst he;have a1:=(XV.1 o).1;have c:(es.eraseIdx i).Sublist es:=List.eraseIdx_sublist es i;have y:∀f∈es.eraseIdx i,f.key≠e.key:=λf a q=>by
  obtain ⟨j,g⟩:=YC a;rw[ZG] at g;have z:∀u,u≠i->es[u]?=some f->False:=λu r d=>by
   exact r (E4 b.nodup d o q)
  split at g
  ·exact z j U g
  exact z (j+1) U g
 refine ⟨es.eraseIdx i,⟨l,m,λf a=>?_,λj g s=>?_,(c.map Ent.key).nodup b.nodup,(c.map Ent.born).nodup b.born,λf a=>b.clk f (c.subset a)⟩,TI es e.key i e b.nodup o Z,λh hs=>?_⟩
 ·obtain ⟨h1,w,h3⟩:=b.ent f (c.subset a)
  exact ⟨h1,w.trans (upf_other D.ver _ (y f a)).symm,h3⟩
 ·have h':By D.ver e.key [] j≠[]:=s
  by_cases q:j=e.key
  ·subst q;rw[CX] at h';exact absurd Z h'
  rw[upf_other _ _ q] at h';obtain ⟨f,a,x⟩:=b.all j g h';refine ⟨f,?_,x⟩;obtain ⟨u,d⟩:=YC a;have r:u≠i:=λq'=>by subst q';rw[o] at d;cases d;exact q x.symm
  rw[List.mem_eraseIdx_iff_getElem?];exact ⟨u,r,d⟩
 have h1:=GJ hs i (A:=e.row) (by rw[Yb,o];rfl);have w:=OT h1;have e0:(es.map Ent.row).eraseIdx i=(es.eraseIdx i).map Ent.row:=by
  apply Y0;intro j;simp only[ZG,Yb];split<;>rfl
 rwa[e0] at w
theorem QU{z w:World}{Γ:List Ai}{hq:Hp}{b:Nat}{cs:List Value}{t:TypeId}(H:Sep z (poolA hq::blk b cs t::Γ) w):∃a,(BC hq a/\blk b cs t a)/\Sep z (poolA a::Γ) w:=by
 have H1:Sep z (seps [poolA hq,blk b cs t]::Γ) w:=Sep.shut (As:=[poolA hq,blk b cs t]) H;exact H1.exAt 0 (σ:=Hp) (p:=λa=>BC hq a/\blk b cs t a) (B:=λa=>poolA a) Z (λh hs=>by
  refine ⟨h,⟨λk o e=>?_,?_⟩,λk o e=>e⟩
  ·obtain ⟨h',c,d⟩:=Ea hs (i:=0) Z
   exact d _ _ (c _ _ e)
  obtain ⟨h',c,d⟩:=Ea hs (i:=1) Z;exact d _ _ c)

def diskQ(pd:Nat)(D:Dsk)(hq:Hp):Ai:=λh=>∃(bd m:Nat) (f0:Int) (bs:List UInt8) (es:List Ent) (clk:Nat),(D.Ok/\D.In bs es clk hq)/\seps (D5 pd bd m D f0 bs es clk hq) h
structure DskY where
 bd:Nat
 m:Nat
 f0:Int
 bs:List UInt8
 es:List Ent
 clk:Nat
theorem Sep.diskQ{z w:World}{Γ:List Ai}{pd:Nat}{D:Dsk}{hq:Hp}(H:Sep z (YthbbejpbkglmlaaGreatDoor.diskQ pd D hq::Γ) w):∃bd m f0 bs es clk,D.Ok/\D.In bs es clk hq/\Sep z (D5 pd bd m D f0 bs es clk hq++Γ) w:=by
 obtain ⟨x,⟨b,c⟩,H⟩:=H.into (σ:=DskY) (p:=λx=>D.Ok/\D.In x.bs x.es x.clk hq) (As:=λx=>D5 pd x.bd x.m D x.f0 x.bs x.es x.clk hq)
  (λh a=>by obtain ⟨bd,m,f0,bs,es,clk,hp,hs⟩:=a;exact ⟨⟨bd,m,f0,bs,es,clk⟩,hp,hs⟩)
 exact ⟨_,_,_,_,_,_,b,c,H⟩
theorem Sep.toDiskQ{z w:World}{Γ:List Ai}{pd bd m:Nat}{D:Dsk}{f0:Int}{bs:List UInt8}{es:List Ent}{clk:Nat}{hq:Hp}(H:Sep z (D5 pd bd m D f0 bs es clk hq++Γ) w)(b:D.Ok)(c:D.In bs es clk hq):Sep z (YthbbejpbkglmlaaGreatDoor.diskQ pd D hq::Γ) w:=
 H.shut.mono 0 Z (λh a=>⟨_,_,_,_,_,_,⟨b,c⟩,a⟩)
theorem Dsk.w1_ver(D:Dsk)(a:Bool){i j:Nat}(p:List UInt8)(h:j≠i):(D.w1 a i p).ver j=D.ver j:=by
 cases a
 ·exact upf_other D.ver _ h
 exact upf_other D.ver _ h
theorem Dsk.ws_ver(a:Bool)(ps:List (List UInt8)):∀(D:Dsk) (i j:Nat),j<i\/i+ps.length<=j->(D.ws a i ps).ver j=D.ver j:=by
 induction ps with
 | nil=>intro D i j _;rfl
 | cons q qs ih=>
  intro D i j h;simp only[XZ] at h;simp only[Dsk.ws];rw[ih _ _ _ U,Dsk.w1_ver _ _ _ U]
theorem Dsk.ws_take{D:Dsk}{a:Bool}{k i:Nat}{ps:List (List UInt8)}{p:List UInt8}(h:ps[i]?=some p):D.ws a k (ps.take (i+1))=(D.ws a k (ps.take i)).w1 a (k+i) p:=by
 rw[Ye,h];have b:=(XV.1 h).1;rw[show (some p).toList=[p] from Z,Dsk.ws_snoc,X1,Yz U]
theorem QV{g:Nat}{hq:Hp}{t:TypeId}{ps:List (List UInt8)}{rest:List Value}(j:blk g (ps.flatten.map u8++rest) t hq)(e:∀p∈ps,p.length=256){i:Nat}{p:List UInt8}(h:ps[i]?=some p):rdH 1 (.slice (some ⟨g,0+i*256,none⟩) 256 256) 256 (p.map u8) hq:=by
 have d:∀(ps:List (List UInt8)) (i:Nat) (p:List UInt8),(∀p∈ps,p.length=256)->ps[i]?=some p->(ps.flatten.drop (i*256)).take 256=p/\i*256+256<=ps.flatten.length:=by
  intro ps
  induction ps with
  | nil=>intro i p _ h;simp at h
  | cons q qs ih=>
   intro i p b h;have a:=b q O
   cases i with
   | zero=>
    simp only[YT,X2] at h;subst h;simp[X8,a]
   | succ i=>
    simp only[Yq] at h;obtain ⟨c,f⟩:=ih i p (λp hp=>b p (by simp[hp])) h;rw[Zz,show (i+1)*256=q.length+i*256 from by omega,YD];refine ⟨?_,by rw[XY];omega⟩;rw[Yk U,Yo];rw[show q.length+i*256-q.length=i*256 from by omega];exact c
 obtain ⟨c,f⟩:=d ps i p e h;have b:(ps.flatten.map u8).length=ps.flatten.length:=X9 u8;refine j.rd U U (by rw[XY,b];omega) ?_;rw[Ze,YQ,Yx (by rw[b];omega),X8 (by rw[Yr,b];omega),<-List.map_drop,<-ZS,c]
def CN(c:UInt32):UInt32:=(c>>>1) ^^^ ((c&&&1)*2197175160)
def Ch:Nat->UInt32->UInt32
 | 0,c=>c
 | k+1,c=>CN (Ch k c)
def crcTab:List UInt32:=(List.range 256).map λi:Nat=>Ch 8 (Dt (i:Int))
theorem GK:crcTab.length=256:=by simp[crcTab]
theorem GL{i:Nat}(h:i<256):crcTab[i]?=some (Ch 8 (Dt (i:Int))):=by simp[crcTab,h]
def C9(c:UInt32)(b:UInt8):UInt32:=(c>>>8) ^^^ (crcTab[(c.toUInt8 ^^^ b).toNat]?.getD 0)
def Db(c:UInt32)(bs:List UInt8):UInt32:=4294967295 ^^^ (bs.foldl C9 (4294967295 ^^^ c))
def Av(bs:List UInt8):UInt32:=Db 0 bs
theorem JF(c:UInt32)(a b:List UInt8):Db (Db c a) b=Db c (a++b):=by
 unfold Db;rw[<-ZN,Aa2,Aa3,Zj]
def Xq:Value:=.int .u32 0
def Bm(x0 x1 x2:Value)(i:Nat):List Value:=[x0,x1,x2]++((crcTab.take i).map u32++List.replicate (256-i) Xq)
theorem QW(b a x2:Value){i:Nat}(h:i<=256):(Bm b a x2 i).length=259:=by simp[Bm,GK];omega
theorem OW(b a x2:Value){i:Nat}(h:i<256):(Bm b a x2 i).take (3+i)++[u32 (Ch 8 (Dt (i:Int)))]++(Bm b a x2 i).drop (3+i+1)=Bm b a x2 (i+1):=by
 have d:([b,a,x2]++(crcTab.take i).map u32).length=3+i:=by simp[GK];omega
 have c:Bm b a x2 i=([b,a,x2]++(crcTab.take i).map u32)++List.replicate (256-i) Xq:=by simp[Bm]
 rw[c,X8 U,X0 U,YD,Yk U,Yo,d];rw[show 3+i+1-(3+i)=1 from by omega,ZP];unfold Bm;rw[Ye,GL h];simp;omega
def XA(pt:Nat):Ai:=blk pt (Bm (.int .u32 0) (.int .i32 0) (.int .u32 0) 0) 185
def XB(pt:Nat):Ai:=blk pt (Bm (.int .u32 1) (.int .i32 0) (.int .u32 0) 256) 185
def tblA(pt:Nat):Ai:=λh=>XA pt h\/XB pt h
theorem OX(d c x2:Value)(b:UInt8):(Bm d c x2 256)[3+b.toNat]?=some (u32 (crcTab[b.toNat]?.getD 0)):=by
 have e:=b.toNat_lt;have a:=GK;simp only[Bm];rw[Ya O];simp only[XZ,X4];rw[show 3+b.toNat-(0+1+1+1)=b.toNat from by omega];rw[Yc (by simp[a];omega),Yb,X0 U,GL U];rfl
def Ae(k:Nat)(x:Int):List UInt8:=(List.range k).map λi:Nat=>EL (x/2^(8*(k-1-i)))
theorem Ac(k:Nat)(x:Int):(Ae k x).length=k:=by simp[Ae]
theorem beN_get{k i:Nat}(x:Int)(h:i<k):(Ae k x)[i]?=some (EL (x/2^(8*(k-1-i)))):=by simp[Ae,h]
def Ff(bs T:List UInt8)(a i:Nat):List UInt8:=bs.take a++T.take i++bs.drop (a+i)
def Bp(bs T:List UInt8)(a:Nat):List UInt8:=bs.take a++T++bs.drop (a+T.length)
theorem TJ{bs T:List UInt8}{a i:Nat}(h:a+i<=bs.length)(b:i<=T.length):(Ff bs T a i).length=bs.length:=by simp[Ff];omega
theorem QX(bs T:List UInt8)(a:Nat):Ff bs T a 0=bs:=by simp[Ff]
theorem TK(bs T:List UInt8)(a:Nat){i:Nat}(h:i=T.length):Ff bs T a i=Bp bs T a:=by subst h;simp[Ff,Bp]
theorem Dj{bs T:List UInt8}{a:Nat}(h:a+T.length<=bs.length):(Bp bs T a).length=bs.length:=by simp[Bp];omega
theorem QY{bs T:List UInt8}{a i:Nat}{b:UInt8}(c:List Value)(h:a+T.length<=bs.length)(d:T[i]?=some b):
  ((Ff bs T a i).map u8++c).take (a+i)++[u8 b]++((Ff bs T a i).map u8++c).drop (a+i+1)=(Ff bs T a (i+1)).map u8++c:=by
 have g:=(XV.1 d).1;have e:(bs.take a++T.take i).length=a+i:=by simp;omega
 have f:bs.drop (a+i)=bs[a+i]'U::bs.drop (a+i+1):=YV U;unfold Ff;rw[Ye,d,f];simp only[Yj,Yn,X3];rw[<-X3 (List.map u8 (bs.take a)),<-Yj];rw[X8 (by simp;omega),X0 (by simp;omega),YD,Yk (by simp;omega)];rw[show a+i+1-(List.map u8 (bs.take a++T.take i)).length=1 from by rw[X9,e];omega];simp[ZA]
def CY(s:UInt32):List UInt8:=[s.toUInt8,(s>>>8).toUInt8,(s>>>16).toUInt8,(s>>>24).toUInt8]
def DH(l:List UInt8):Nat:=l.foldl (λn b=>256*n+b.toNat) 0
theorem I2(l:List UInt8)(b:UInt8):DH (l++[b])=256*DH l+b.toNat:=by simp[DH,Zj]
theorem Hb:∀(l:List UInt8) (a:Nat),l.foldl (λn b=>256*n+b.toNat) a<(a+1)*256^l.length
 | [],a=>by simp
 | b::l,a=>by
  have h:=Hb l (256*a+b.toNat);have e:=b.toNat_lt;simp only[List.foldl_cons,XZ,Nat.pow_succ];have d:(256*a+b.toNat+1)*256^l.length<=(256*(a+1))*256^l.length:=Zv _ U;have c:256*(a+1)*256^l.length=(a+1)*(256^l.length*256):=by
   rw[Nat.mul_comm 256 (a+1),Nat.mul_assoc,Nat.mul_comm 256]
  omega
theorem QZ(l:List UInt8):DH l<256^l.length:=by have:=Hb l 0;simpa [DH] using this
def A0(l:List UInt8):Int:=IntKind.i64.wrap (DH l)
theorem NM{l:List UInt8}(h:l.length<=7):A0 l=DH l:=by
 have a:=QZ l;have b:256^l.length<=256^7:=Nat.pow_le_pow_right U h;exact Y7 _ U
theorem FR(x:Int):∃q,IntKind.i64.wrap x=x+q*18446744073709551616/\ -9223372036854775808<=IntKind.i64.wrap x/\IntKind.i64.wrap x<=9223372036854775807:=by
 have a:IntKind.i64.wrap x=if 9223372036854775808<=x%18446744073709551616 then x%18446744073709551616-18446744073709551616 else x%18446744073709551616:=by
  show (if (true&&decide (x%(2^64:Int)>=(2^(64-1):Int)))=true then x%(2^64:Int)-(2^64:Int) else x%(2^64:Int))=_;simp only[Bool.true_and,decide_eq_true_eq,show (2:Int)^64=18446744073709551616 from Z,show (2:Int)^(64-1)=9223372036854775808 from Z,ge_iff_le]
 rw[a];by_cases h:9223372036854775808<=x%18446744073709551616
 ·rw[if_pos h];exact ⟨-(x/18446744073709551616)-1,by omega,by omega,by omega⟩
 rw[if_neg h];exact ⟨-(x/18446744073709551616),by omega,by omega,by omega⟩
theorem MG(x:Int)(b:UInt8):IntKind.i64.wrap (IntKind.i64.wrap x*256)%256=0/\IntKind.i64.wrap (IntKind.i64.wrap x*256)+b.toNat=IntKind.i64.wrap (256*x+b.toNat):=by
 have m:=b.toNat_lt;obtain ⟨l,h,j,i⟩:=FR x;obtain ⟨d,a,c,f⟩:=FR (IntKind.i64.wrap x*256);obtain ⟨g,n,k,e⟩:=FR (256*x+b.toNat);omega
theorem TL(k:Nat){x:Nat}(h:x<256^k):DH (Ae k (x:Int))=x:=by
 induction k generalizing x with
 | zero=>simp at h;subst h;rfl
 | succ k ih=>
  have e:Ae (k+1) (x:Int)=Ae k ((x/256:Nat):Int)++[EL (x:Int)]:=by
   apply Y0;intro i;rcases Zi i k with a|a|a
   ·rw[beN_get _ U,Yc (by rw[Ac];omega),beN_get _ a]
    congr 2;rw[show 8*(k+1-1-i)=8+8*(k-1-i) from by omega,Int.pow_add,<-Int.ediv_ediv_of_nonneg (by decide)];rfl
   ·subst a
    rw[beN_get _ U,Ya (by rw[Ac];omega),Ac];simp
   rw[Ys (by rw[Ac];omega),Ys (by simp[Ac];omega)]
  rw[e,I2,ih (by rw[Nat.pow_succ] at h;omega)];have:(EL (x:Int)).toNat=x%256:=by simp[EL];omega
  rw[this];omega

def AW(bs:List UInt8)(a:Int):List Value:=bs.map u8++[.int .i64 a]
theorem Em{bs:List UInt8}(a:Int)(h:bs.length=256):(AW bs a).length=257:=by simp[AW,h]
theorem K4{bs:List UInt8}(a:Int)(h:bs.length=256):(AW bs a)[256]?=some (Aa a):=by simp[AW,List.getElem?_append,h]
theorem HA{bs:List UInt8}(a a':Int)(h:bs.length=256):(AW bs a).take 256++[Aa a']++(AW bs a).drop (256+1)=AW bs a':=by
 unfold AW;rw[X8 (by simp[h]),X0 (by simp[h]),Yk (by simp[h]),YJ]
theorem Q0{bs T:List UInt8}{a i:Nat}{b:UInt8}(x:Int)(h:a+T.length<=bs.length)(c:T[i]?=some b):
  (AW (Ff bs T a i) x).take (a+i)++[u8 b]++(AW (Ff bs T a i) x).drop (a+i+1)=AW (Ff bs T a (i+1)) x:=QY _ h c
theorem K5{bs T:List UInt8}{a k:Nat}(x:Int)(h:a+T.length<=bs.length)(b:k=T.length):(AW bs x).take a++(T.map u8).take k++(AW bs x).drop (a+k)=AW (Bp bs T a) x:=by
 subst b;unfold AW Bp;rw[X8 (by simp;omega),Yx (by simp;omega),X0 (l:=T.map u8) O];simp
def wrH(pw:Nat)(a:Int):Ai:=λh=>∃bs:List UInt8,bs.length=256/\blk pw (AW bs a) 204 h
theorem wrH.at{b:Nat}{a:Int}{h:Hp}(w:wrH b a h):celH h b 256 (Aa a):=by
 obtain ⟨bs,c,d⟩:=w;exact d.celH 256 (K4 a c)
theorem Hc{b lo n c:Nat}{bs ys:List UInt8}{a:Int}{t:TypeId}{h:Hp}(q:blk b (AW bs a) t h)(f:bs.length=256)(g:lo+n<=256)(d:n<=c)(i:c<=256)(e:(bs.drop lo).take n=ys):rdH 1 (.slice (some ⟨b,lo,none⟩) n c) n (ys.map u8) h:=by
 subst e;refine q.rd d U (by rw[Em _ f];omega) ?_;unfold AW;rw[Yx (by simp;omega),X8 (by simp;omega),YQ];simp
def Kg(bs:List UInt8):List UInt8:=Bp bs (CY (Av (bs.take 252))) 252
theorem TM{bs:List UInt8}(h:bs.length=256):(Kg bs).length=256:=by
 unfold Kg;rw[Dj (by simp[CY,h])];exact h

theorem OY(x:Int):IntKind.i64.wrap (IntKind.i64.wrap x)=IntKind.i64.wrap x:=Y7 _ (by obtain ⟨q,a,c,b⟩:=FR x;omega)
theorem K6(l:List UInt8):IntKind.i64.wrap (A0 l*2^8)%256=0:=(MG (DH l) 0).1
theorem Hd{xs:List UInt8}{j:Nat}{b:UInt8}(h:xs[j]?=some b):IntKind.i64.wrap (IntKind.i64.wrap (A0 (xs.take j)*2^8)+(b.toNat:Int))=A0 (xs.take (j+1)):=by
 rw[Ye,h];show IntKind.i64.wrap (IntKind.i64.wrap (IntKind.i64.wrap (DH (xs.take j))*256)+(b.toNat:Int))=IntKind.i64.wrap (DH (xs.take j++[b]):Nat);rw[(MG _ b).2,OY,I2];congr 1

def rz:List UInt8->Nat
 | []=>0
 | x::xs=>if rz xs=0/\x=0 then 0 else rz xs+1
theorem NN:∀xs:List UInt8,rz xs<=xs.length
 | []=>Yp _
 | x::xs=>by have:=NN xs;simp only[rz,XZ];split<;>omega
theorem NO:∀(xs:List UInt8) (j:Nat) (b:UInt8),rz xs<=j->xs[j]?=some b->b=0
 | [],j,b,_,h=>by simp at h
 | x::xs,0,b,h1,h=>by
  simp only[rz] at h1;split at h1
  ·rename_i q;simp at h;exact h▸q.2
  omega
 | x::xs,j+1,b,h1,h=>by
  simp only[rz] at h1;refine NO xs j b ?_ (by simpa using h);split at h1<;>omega
theorem JG:∀(xs:List UInt8) (m:Nat),rz xs=m+1->∃b,xs[m]?=some b/\b≠0
 | [],m,h=>by simp[rz] at h
 | x::xs,m,h=>by
  simp only[rz] at h;split at h
  ·omega
  rename_i q
  cases m with
  | zero=>exact ⟨x,by simp,λe=>q ⟨by omega,e⟩⟩
  | succ m=>obtain ⟨b,h1,h2⟩:=JG xs m U;exact ⟨b,by simpa using h1,h2⟩
theorem rz_is{xs:List UInt8}{m:Nat}(f:m<=xs.length)(d:∀j b,m<=j->xs[j]?=some b->b=0)(c:m=0\/∃b,xs[m-1]?=some b/\b≠0):m=rz xs:=by
 rcases Zi m (rz xs) with q|q|q
 ·obtain ⟨b,e,a⟩:=JG xs (rz xs-1) U
  exact absurd (d _ _ U e) a
 ·exact q
 rcases c with c|⟨b,e,a⟩
 ·omega
 exact absurd (NO xs _ _ U e) a
theorem TN{xs:List UInt8}:rz xs=0↔∀b∈xs,b=0:=by
 constructor
 ·intro h b c
  obtain ⟨j,a,rfl⟩:=Zw.1 c;exact NO xs j _ U (XW a)
 intro h;exact (rz_is (Yi _) (λj b _ e=>h b (XX e)) (.inl Z)).symm
def lz:List UInt8->Nat
 | []=>0
 | x::xs=>if x=0 then lz xs+1 else 0
theorem I3:∀{xs:List UInt8} {p:Nat},p<=xs.length->(∀j b,j<p->xs[j]?=some b->b=0)->(p=xs.length\/∃b,xs[p]?=some b/\b≠0)->p=lz xs
 | [],p,hp,_,_=>by simp at hp;subst hp;rfl
 | x::xs,0,_,_,h1=>by
  rcases h1 with h1|⟨b,e,hb⟩
  ·simp at h1
  simp at e;subst e;simp[lz,hb]
 | x::xs,p+1,hp,h0,h1=>by
  have e:=h0 0 x U Z;subst e;have:=I3 (xs:=xs) (p:=p) (by simpa using hp) (λj b a e=>h0 (j+1) b U (by simpa using e)) (by simpa using h1);simp[lz,this]
theorem WP{xs:List UInt8}(h:rz xs≠0):lz (xs.take (rz xs))<rz xs:=by
 obtain ⟨b,e,d⟩:=JG xs (rz xs-1) U;rcases Yg (lz (xs.take (rz xs))) (rz xs) with q|q
 ·exact q
 have c:∀(ys:List UInt8) j b,j<lz ys->ys[j]?=some b->b=0:=by
  intro ys
  induction ys with
  | nil=>intro j b a;simp[lz] at a
  | cons y ys ih=>
   intro j b a e;simp only[lz] at a;split at a
   ·rename_i q
    cases j with
    | zero=>simp at e;exact e▸q
    | succ j=>exact ih j b U (by simpa using e)
   omega
 exact absurd (c (xs.take (rz xs)) (rz xs-1) b U (by rw[Yy,if_pos U];exact e)) d
def Il(mag sec:List UInt8):Prop:=sec.drop 252=CY (Av (sec.take 252))/\sec.take 4=mag
instance(mag sec:List UInt8):Decidable (Il mag sec):=by unfold Il;exact inferInstance
theorem K7{sec:List UInt8}(h:sec.length=256):∃a c d b,sec.drop 252=[a,c,d,b]:=by
 have e:(sec.drop 252).length=4:=by simp[h]
 match hd:sec.drop 252,e with
 | [a,c,d,b],_=>exact ⟨a,c,d,b,Z⟩

def AX(l:List UInt8):List UInt8:=l++List.replicate (256-l.length) 0
theorem A7{l:List UInt8}(h:l.length<=256):(AX l).length=256:=by simp[AX];omega
theorem B6{l t:List UInt8}{a:Nat}(b:a=l.length)(h:a+t.length<=256):Bp (AX l) t a=AX (l++t):=by
 subst b;unfold Bp AX;rw[YK Z,YD,Yk U,Yo,ZP,XY];rw[show 256-l.length-(l.length+t.length-l.length)=256-(l.length+t.length) from by omega]
theorem Q1{l t:List UInt8}{a:Nat}(b:l.length<=a)(h:a+t.length<=256):Bp (AX l) t a=AX (l++List.replicate (a-l.length) 0++t):=by
 have:AX l=AX (l++List.replicate (a-l.length) 0):=by
  unfold AX;rw[X3,XY,X5,List.replicate_append_replicate];congr 2;omega
 rw[this,B6 (by simp;omega) h]
def sect(l:List UInt8):List UInt8:=Kg (AX l)
theorem sect_len{l:List UInt8}(h:l.length<=252):(sect l).length=256:=TM (A7 U)
theorem He{l:List UInt8}(h:l.length<=252):(sect l).take 252=(AX l).take 252:=by
 unfold sect Kg Bp;rw[X3,X8 (by simp[A7 (show l.length<=256 by omega)]),YE];simp
theorem GM{l:List UInt8}(h:l.length<=252):(sect l).drop 252=CY (Av ((sect l).take 252)):=by
 rw[He h];have a:=A7 (show l.length<=256 by omega);unfold sect Kg Bp;rw[X3,YD,Yk (by simp[a])];simp[a,CY]
theorem BB{l:List UInt8}(h:l.length<=252){p k:Nat}(hp:p+k<=l.length):((sect l).drop p).take k=(l.drop p).take k:=by
 have e:((sect l).drop p).take k=(((sect l).take 252).drop p).take k:=by
  rw[ZX,YE];congr 1;omega
 rw[e,He h,ZX,YE];rw[show min k (252-p)=k from by omega];unfold AX;rw[Yx U,X8 (by simp;omega)]
theorem Kh{l:List UInt8}(h:l.length<=252):rz (((sect l).drop l.length).take (252-l.length))=0:=by
 rw[TN];intro b a;have e:((sect l).drop l.length).take (252-l.length)=(((sect l).take 252).drop l.length):=by rw[ZX]
 rw[e,He h,ZX] at a;unfold AX at a;rw[Aay Z] at a;exact (List.mem_replicate.1 (YF a)).2

theorem BD(ns:List Int):(ns.flatMap (Ae 4)).length=4*ns.length:=by
 induction ns with
 | nil=>rfl
 | cons x ns ih=>simp[Ac,ih];omega
theorem OZ{ns:List Int}{i:Nat}{x:Int}(h:ns[i]?=some x):(ns.take i).flatMap (Ae 4)++Ae 4 x=(ns.take (i+1)).flatMap (Ae 4):=by
 rw[Ye,h];simp
def Bd(sec:List UInt8):Nat:=(A0 ((sec.drop 24).take 2)).toNat
def DA(sec:List UInt8)(j:Nat):Int:=A0 ((sec.drop (26+4*j)).take 4)
def hN(sec:List UInt8)(i:Nat):List Value:=(List.range i).map λj=>Value.int .i64 (DA sec j)
theorem TO(sec:List UInt8)(i:Nat):hN sec i++[Aa (DA sec i)]=hN sec (i+1):=by simp[hN,ZT]
def GN(sec:List UInt8):Prop:=Il [80,76,79,71] sec/\(0<=A0 ((sec.drop 4).take 8)/\A0 ((sec.drop 4).take 8)<=1099511627776)/\(0<=A0 ((sec.drop 12).take 8)/\A0 ((sec.drop 12).take 8)<=1099511627776)/\(1<=Bd sec/\Bd sec<=40)/\(∀j,j<Bd sec->0<=DA sec j/\DA sec j<=1023)/\rz ((sec.drop (26+4*Bd sec)).take (252-(26+4*Bd sec)))=0
def Hf(sec:List UInt8):Prop:=sec.drop 252=CY (Av (sec.take 252))/\(1<=A0 (sec.take 1)/\A0 (sec.take 1)<=5)/\(0<=A0 ((sec.drop 1).take 2)/\A0 ((sec.drop 1).take 2)<=1023)
theorem O0{sec:List UInt8}:∃m:Nat,A0 ((sec.drop 24).take 2)=m/\Bd sec=m:=by
 have h:A0 ((sec.drop 24).take 2)=DH ((sec.drop 24).take 2):=NM (by simp;omega);exact ⟨_,h,by unfold Bd;rw[h];rfl⟩
section
section
variable{P:Program}{C:World->Prop}{o:Oper}{a:Act}{w z:World}{Γ:List Ai}{n:Nat}{ds:List Deferred}{L:List (Nat×Value)}{v:Value}{x y:Operand}{xt yt:TypeId}
theorem O1{p:Int}{k:IntKind}{q:Int}{m:Nat}(f:o.op=.binOp .shr xt x y yt)(e:ev L x=some (Aa p))(g:ev L y=some (.int k q))(hq:q=m)(h:m<64):Ao P C n ds L o (Aa (p/2^m)):=λa c w _=>by
 subst hq;simp only[execOp,f,c.ev e,c.ev g];have d:¬((m:Int)<0):=by omega
 have b:min m 64=m:=by omega
 simp[go_sem,Op.shift,IntKind.bits,d,b]
theorem O2{p:Int}{k:IntKind}{q:Int}{m:Nat}(f:o.op=.binOp .shl xt x y yt)(e:ev L x=some (Aa p))(g:ev L y=some (.int k q))(hq:q=m)(h:m<64):Ao P C n ds L o (Aa (IntKind.i64.wrap (p*2^m))):=λa c w _=>by
 subst hq;simp only[execOp,f,c.ev e,c.ev g];have d:¬((m:Int)<0):=by omega
 have b:min m 64=m:=by omega
 simp[go_sem,Op.shift,IntKind.bits,d,b]
theorem Vz{p:Int}{q:Nat}(hp:p%256=0)(hq:q<256):((BitVec.ofInt 64 p|||BitVec.ofInt 64 (q:Int)).toNat:Int)%18446744073709551616=(p+q)%18446744073709551616:=by
 have b:(BitVec.ofInt 64 p).toNat=(p%18446744073709551616).toNat:=by simp[BitVec.toNat_ofInt]
 have d:(BitVec.ofInt 64 (q:Int)).toNat=q:=by simp[BitVec.toNat_ofInt];omega
 have c:∃r,(p%18446744073709551616).toNat=r <<< 8:=⟨(p%18446744073709551616).toNat/256,by rw[Nat.shiftLeft_eq];omega⟩;obtain ⟨r,a⟩:=c;rw[BitVec.toNat_or,b,d,a,<-Nat.shiftLeft_add_eq_or_of_lt (by omega:q<2^8),<-a];omega
theorem S5{p q:Int}(f:o.op=.binOp .or xt x y yt)(e:ev L x=some (Aa p))(g:ev L y=some (Aa q))(hp:p%256=0)(hq:0<=q/\q<256):Ao P C n ds L o (Aa (IntKind.i64.wrap (p+q))):=λa d w _=>by
 obtain ⟨q,rfl⟩:=ZQ hq.1;have h:=Vz (p:=p) (q:=q) hp U;have c:IntKind.i64.wrap ((BitVec.ofInt IntKind.i64.bits p|||BitVec.ofInt IntKind.i64.bits (q:Int)).toNat:Int)=IntKind.i64.wrap (p+q):=by
  show (if (true&&decide (((BitVec.ofInt 64 p|||BitVec.ofInt 64 (q:Int)).toNat:Int)%(2^64:Int)>=(2^(64-1):Int)))=true then ((BitVec.ofInt 64 p|||BitVec.ofInt 64 (q:Int)).toNat:Int)%(2^64:Int)-(2^64:Int) else ((BitVec.ofInt 64 p|||BitVec.ofInt 64 (q:Int)).toNat:Int)%(2^64:Int))=(if (true&&decide ((p+q)%(2^64:Int)>=(2^(64-1):Int)))=true then (p+q)%(2^64:Int)-(2^64:Int) else (p+q)%(2^64:Int));simp only[show (2:Int)^64=18446744073709551616 from Z,h]
 have b:IntKind.i64.wrap ((BitVec.ofInt 64 p|||BitVec.ofInt 64 (q:Int)).toNat:Int)=IntKind.i64.wrap (p+q):=c;rw[Aaz] at b;simp only[execOp,f,d.ev e,d.ev g];simp only[binOp,Op.intBits,go_sem,c]
 first |(simp[go_sem,b];done)|(simp only[go_sem];exact congrArg (λv=>Result.ok (Aa v) _) b)|(simp[go_sem];exact b)
theorem Im{t:TypeId}{l:List UInt8}{i:Int}{k:IntKind}{j:Nat}{b:UInt8}(p:o.op=.index t x y)(c:FO P t=true)(h:ev L x=some (EO l))(q:ev L y=some (.int k i))(d:i=j)(e:l[j]?=some b):Ao P C n ds L o (u8 b):=λa f w _=>by
 have c:=Fv c;subst d;have g:j<l.length:=(XV.1 e).1;have m:(⟨l.toArray⟩:ByteArray)[j]?=some b:=by
  have hs:(⟨l.toArray⟩:ByteArray).size=l.length:=by show l.toArray.size=_;simp
  rw[getElem?_pos (⟨l.toArray⟩:ByteArray) j (by rw[hs];exact g)];show some (l.toArray[j]'_)=_;simp[(XV.1 e).2]
 simp only[execOp,p,f.ev h,f.ev q,EO,Instr.index,asIntOf,Yd,Yh,X7,run_underlying c,if_pos (Int.natCast_nonneg j),YB,m];rfl
theorem Ki{t e:TypeId}{zv:Value}{sz by_ k d m b h:Nat}{u:Value}{xs news:List Value}(H:Sep z Γ w)(ho:o.op=.call {callee:=.builtin .append,args:= #[x,y],argTypes:= #[t,t]})
  (ht:P.underlying t=some (.slice e))(hE:Elt P e zv sz by_)(hx:ev L x=some (.slice (some ⟨b,h,none⟩) k d))(hy:ev L y=some u)(l:Rd sz (.slice (some ⟨b,h,none⟩) k d) k xs w)(s:Rd sz u m news w)(hg:d<k+m)(h1:∀c∈news,c.oneCell'=true)(a6:(k+m)*by_<=140737488355328):
  BL P n ds L o w (λv' w'=>Sep z (grow e sz v' (k+m) (xs++news)::Γ) w'):=λa hF=>by
 obtain ⟨i,hi,hz,hs,hb,a8,a4,a1⟩:=hE;obtain ⟨b1,c1,e1,b3,_,a7,v⟩:=l;cases e1;obtain ⟨ao,c,rfl,b4,_,hl,a0⟩:=s;have a3:k+m<=maxLen:=by
  have:(k+m)*1<=(k+m)*by_:=ZO _ a1;unfold maxLen;omega
 have a2:0<news.length:=by
  have:1*1<=m*sz:=Nat.mul_le_mul U U;omega
 obtain ⟨b',p',e2,_⟩:=a0 0 news[0] (XW a2);subst e2;have f:∀(b p j:Nat),(Addr.add ⟨b,p,none⟩ j)=⟨b,p+j,none⟩:=λb p j=>by
  unfold Addr.add;split
  ·rename_i h0;simp[h0]
  rfl
 obtain ⟨v',w',hr,h2,h3⟩:=run_append_arg_grows (P:=P) w t o.type e i zv sz by_ ht hi hz hs hb a8 a4 ⟨b,h,none⟩ k d xs a7 (λj q hj=>by
  obtain ⟨b2,p2,e3,hc⟩:=v j q hj;cases e3;rw[f];exact hc) ⟨b',p',none⟩ m c news hl (λj q hj=>by
  obtain ⟨b2,p2,e3,hc⟩:=a0 j q hj;cases e3;rw[f];exact hc) hg a3 a6
 have a9:Ext No w w':=(Ext.of_grown h3).mono (λ_ _ q=>by cases q);refine ⟨v',w',?_,H.grow a9 ?_⟩
 ·simp only[execOp,ho,resolve,invoke,builtin,Yd,Yh,X7,Yv,Yn,Y2,hF.ev hx,hF.ev hy,hr]
 refine ⟨h2.1,?_⟩;rcases h2.2 with q|⟨g,d,a5,hv,b5,b0,r⟩
 ·exact .inl q
 refine .inr ⟨g,d,a5,hv,?_,r⟩;show (if g<w.heap.size then none else w'.heap[g]?)=_;rw[if_neg U];exact b0
theorem Kj{t:TypeId}{b d l c m:Nat}(p:o.op=.sliceToArrayPointer t x)(f:(match P.underlying t with|some (.array k _)=>Nat.beq k m|_=>false)=true)(i:ev L x=some (.slice (some ⟨b,d,none⟩) l c))(q:m<=l):Ao P C n ds L o (.pointer (some ⟨b,d,none⟩)):=λa j w _=>by
 split at f
 ·rename_i k e h
  have g:k=m:=by simpa using f
  subst g;simp only[execOp,p,j.ev i];simp[Instr.arrayAt,run_underlying h,go_sem,q]
 cases f
theorem MH{b c r g l f k m:UInt8}(ho:o.op=.binOp .neq xt x y yt)(t:(match P.underlying xt with|some (.array 4 e)=>(match P.underlying e,P.info? e with|some (.int .u8),some i=>Nat.beq i.size 1|_,_=>false)|_=>false)=true)(hg:P.eqGuardType P.depth xt=false)(hx:ev L x=some (.agg #[u8 b,u8 c,u8 r,u8 g]))(hy:ev L y=some (.agg #[u8 l,u8 f,u8 k,u8 m])):Ao P C n ds L o (.bool (decide ([b,c,r,g]≠[l,f,k,m]))):=λa hF w _=>by
 split at t
 ·rename_i e h
  split at t
  ·rename_i i h1 h2
   have hz:i.size=1:=by simpa using t
   have a2:∀w,(sizeOf e).run P w=.ok 1 w:=λw=>by simp[sizeOf,typeInfo,h2,hz,go_sem]
   have a1:∀w,(isAgg e).run P w=.ok false w:=Fu (by simp[Ft,h1]);have hp:∀(cs:Array Value) (j:Nat) (u:Value) w,cs[j]?=some u->(part e cs j).run P w=.ok u w:=λcs j u w hc=>by
    simp only[part,Yd,a1,X7,if_false,YW,hc,Yh]
   have a0:∀(d:Nat) (p q:UInt8) w,(Op.equalIn (d+1) e (u8 p) (u8 q)).run P w=.ok (decide (p=q)) w:=λd p q w=>by
    simp only[Op.equalIn,Yd,run_underlying h1,X7,u8];simp[go_sem];rw[Yf];simp;exact ⟨λh=>Aad.1 U,λh=>by rw[h]⟩
   have z:∀d,(Op.equalIn (d+1+1) xt (.agg #[u8 b,u8 c,u8 r,u8 g]) (.agg #[u8 l,u8 f,u8 k,u8 m])).run P w=.ok (decide ([b,c,r,g]=[l,f,k,m])) w:=λd=>by
    have q0:=hp #[u8 b,u8 c,u8 r,u8 g] 0 (u8 b) w Z;have q1:=hp #[u8 b,u8 c,u8 r,u8 g] 1 (u8 c) w Z;have q2:=hp #[u8 b,u8 c,u8 r,u8 g] 2 (u8 r) w Z;have q3:=hp #[u8 b,u8 c,u8 r,u8 g] 3 (u8 g) w Z;have r0:=hp #[u8 l,u8 f,u8 k,u8 m] 0 (u8 l) w Z;have r1:=hp #[u8 l,u8 f,u8 k,u8 m] 1 (u8 f) w Z;have r2:=hp #[u8 l,u8 f,u8 k,u8 m] 2 (u8 k) w Z;have r3:=hp #[u8 l,u8 f,u8 k,u8 m] 3 (u8 m) w Z;rw[Op.equalIn];simp only[Yd,run_underlying h,X7,a2,Std.Legacy.Range.forIn_eq_forIn_range',Std.Legacy.Range.size];simp[List.range',Yd,q0,q1,q2,q3,r0,r1,r2,r3,a0];by_cases g0:b=l<;>by_cases g1:c=f<;>by_cases g2:r=k<;>by_cases g3:g=m<;>simp[g0,g1,g2,g3,q0,q1,q2,q3,r0,r1,r2,r3,a0,Yd]
   have v:(Op.equal xt (.agg #[u8 b,u8 c,u8 r,u8 g]) (.agg #[u8 l,u8 f,u8 k,u8 m])).run P w=.ok (decide ([b,c,r,g]=[l,f,k,m])) w:=z 9998;have s:(eqGuard .neq xt x y (.agg #[u8 b,u8 c,u8 r,u8 g]) (.agg #[u8 l,u8 f,u8 k,u8 m])).run P w=.ok () w:=by
    simp[eqGuard,Yd,program,Sem.run,hg]
   simp only[execOp,ho,hF.ev hx,hF.ev hy];simp only[binOp,Yd,s,v,X7,Yh];simp
  cases t
 cases t
end
theorem Slc.cells{v:Value}{n:Nat}(h:Slc v n):v.cells= #[v]:=by obtain ⟨_,_,rfl⟩:=h;rfl
theorem Slc.one{v:Value}{n:Nat}(h:Slc v n):v.oneCell'=true:=by obtain ⟨_,_,rfl⟩:=h;rfl
theorem AL:∀u∈([]:List Value),u.oneCell'=true:=λ_ h=>by cases h
theorem Al{u:Value}{a:List Value}(h:u.oneCell'=true)(hs:∀u∈a,u.oneCell'=true):∀x∈u::a,x.oneCell'=true:=λx b=>by
 rcases YO.1 b with rfl|q
 ·exact h
 exact hs x q
theorem rdH.cut{b d n c lo m c':Nat}{xs:List UInt8}{h:Hp}(r:rdH 1 (.slice (some ⟨b,d,none⟩) n c) n (xs.map u8) h)(o:lo+m<=n)(i:m<=c')(q:c'<=c):rdH 1 (.slice (some ⟨b,d+lo,none⟩) m c') m (((xs.drop lo).take m).map u8) h:=by
 obtain ⟨p,v,e,s,t,l,g⟩:=r;cases e;refine ⟨_,_,Z,i,by omega,by simp at l ⊢;omega,λj u a=>?_⟩;have f:(xs.map u8)[lo+j]?=some u:=by
  rw[Yb,Yy] at a;split at a
  ·rw[YN] at a;rw[Yb];exact a
  cases a
 obtain ⟨w,p',e,k⟩:=g _ _ f;cases e;exact ⟨_,_,Z,by rw[ZA];exact k⟩
theorem rdH.pre{b a n c m c':Nat}{xs:List UInt8}{h:Hp}(r:rdH 1 (.slice (some ⟨b,a,none⟩) n c) n (xs.map u8) h)(e:m<=n)(d:m<=c'/\c'<=c):rdH 1 (.slice (some ⟨b,a,none⟩) m c') m ((xs.take m).map u8) h:=by
 have:=r.cut (lo:=0) (m:=m) (c':=c') U d.1 d.2;simpa using this
theorem rdH.at{b a n c j:Nat}{xs:List UInt8}{x:UInt8}{h:Hp}(r:rdH 1 (.slice (some ⟨b,a,none⟩) n c) n (xs.map u8) h)(g:xs[j]?=some x):celH h b (a+j) (u8 x):=by
 obtain ⟨k,o,e,l,m,q,f⟩:=r;obtain ⟨p,p',d,i⟩:=f j (u8 x) (by rw[Yb,g];rfl);cases e;cases d;exact i
theorem Sep.cell4{z w:World}{Γ:List Ai}(i:Nat){A:Ai}(H:Sep z Γ w)(k:Γ[i]?=some A){b a c:Nat}{xs:List UInt8}(f:∀h,A h->rdH 1 (.slice (some ⟨b,a,none⟩) 256 c) 256 (xs.map u8) h){ys:List UInt8}(l:xs.drop 252=ys):∀j u,(ys.map u8)[j]?=some u->EK b (a+252+j) u w:=λj u d=>by
 rw[Yb,ZV] at d;obtain ⟨y,g,rfl⟩:=d;have e:xs[252+j]?=some y:=by rw[<-YN,l];exact g
 have:=H.cell i k (λh q=>(f h q).at e);rwa[<-ZA] at this
theorem rdH.cap{b a n c:Nat}{xs:List UInt8}{h:Hp}(r:rdH 1 (.slice (some ⟨b,a,none⟩) n c) n (xs.map u8) h):n<=c/\c<=9223372036854775807:=by
 obtain ⟨_,_,e,f,d,_⟩:=r;cases e;exact ⟨f,d⟩
theorem rdH.len{v:Value}{n:Nat}{xs:List UInt8}{h:Hp}(r:rdH 1 v n (xs.map u8) h):xs.length=n:=by
 obtain ⟨_,_,_,_,_,q,_⟩:=r;simpa using q
end
theorem FS{z w:World}{Γ:List Ai}(H:Sep z Γ w):Sep z (poolA (λ_=>none)::Γ) w:=H.void λh k o e=>by cases e
theorem Io{z w:World}{Γ:List Ai}{hq:Hp}{X:Ai}(H:Sep z (poolA hq::X::Γ) w){M:Ai}(f:∀h,X h->M h)(d:∀h h',M h->BC h h'->M h'):∃a,(BC hq a/\M a)/\Sep z (poolA a::Γ) w:=by
 have H1:Sep z (seps [poolA hq,X]::Γ) w:=Sep.shut (As:=[poolA hq,X]) H;exact H1.exAt 0 (σ:=Hp) (p:=λa=>BC hq a/\M a) (B:=λa=>poolA a) Z (λh hs=>by
  refine ⟨h,⟨λk o e=>?_,?_⟩,λk o e=>e⟩
  ·obtain ⟨h',b,c⟩:=Ea hs (i:=0) Z
   exact c _ _ (b _ _ e)
  obtain ⟨h',b,c⟩:=Ea hs (i:=1) Z;exact d _ _ (f _ b) c)
theorem BW{z w:World}{Γ:List Ai}{hq:Hp}{X:Ai}(H:Sep z (poolA hq::X::Γ) w){sz n:Nat}{v:Value}{xs:List Value}(d:∀h,X h->rdH sz v n xs h):∃c,(BC hq c/\rdH sz v n xs c)/\Sep z (poolA c::Γ) w:=
 Io H d (λ_ _ a b=>a.le b)
structure Img where
 num:Int
 kind:Int
 body:List UInt8
deriving DecidableEq
def Img.Ok(m:Img):Prop:=(0<=m.num/\m.num<=1023)/\(1<=m.kind/\m.kind<=5)/\m.body.length=240
instance(m:Img):Decidable m.Ok:=by unfold Img.Ok;exact inferInstance
abbrev ImE:=Img×Value
def ImE.cells(e:ImE):List Value:=[.int .i64 e.1.num,.int .i64 e.1.kind,e.2]
def Bj(es:List ImE):List Value:=es.flatMap ImE.cells
theorem Bb:∀{es:List ImE} {j:Nat} {e:ImE},es[j]?=some e->∀k u,(ImE.cells e)[k]?=some u->(Bj es)[j*3+k]?=some u
 | x::es,0,e,h,k,u,hk=>by
  simp at h;subst h;have hl:=(XV.1 hk).1;simp only[Bj,YL];rw[Yc U];simpa using hk
 | x::es,j+1,e,h,k,u,hk=>by
  have:=Bb (es:=es) (j:=j) (by simpa using h) k u hk;simp only[Bj,YL] at this ⊢;rw[Ya (by simp[ImE.cells];omega)];rw[show (j+1)*3+k-(ImE.cells x).length=j*3+k from by simp[ImE.cells];omega];exact this
theorem Ip(es:List ImE)(e:ImE):Bj es++ImE.cells e=Bj (es++[e]):=by simp[Bj]
def imesOk(es:List ImE)(h:Hp):Prop:=∀e∈es,rdH 1 e.2 e.1.body.length (e.1.body.map u8) h
theorem imesOk.le{es:List ImE}{h h':Hp}(a:imesOk es h)(s:BC h h'):imesOk es h':=λe b=>(a e b).le s
def imgsH(v:Value)(ims:List Img):Ai:=λh=>∃es:List ImE,es.map Prod.fst=ims/\rdH 3 v ims.length (Bj es) h/\imesOk es h
theorem imgsH.le{v:Value}{ims:List Img}{h h':Hp}(a:imgsH v ims h)(s:BC h h'):imgsH v ims h':=by
 obtain ⟨es,b,d,c⟩:=a;exact ⟨es,b,d.le s,c.le s⟩
theorem imgsH.slc{v:Value}{ims:List Img}{h:Hp}(a:imgsH v ims h):∃d c,v=.slice d ims.length c:=by
 obtain ⟨es,e,b,f⟩:=a;exact b.slc
theorem imgsH.small{v:Value}{ims:List Img}{h:Hp}(a:imgsH v ims h):ims.length<=9223372036854775807:=by
 obtain ⟨es,c,b,d⟩:=a;exact b.small

structure Rc where
 seq:Int
 ims:List Img
deriving DecidableEq
abbrev RcE:=Rc×Value
def RcE.cells(e:RcE):List Value:=[.int .i64 e.1.seq,e.2]
def DT(es:List RcE):List Value:=es.flatMap RcE.cells
theorem DI:∀{es:List RcE} {j:Nat} {e:RcE},es[j]?=some e->∀k u,(RcE.cells e)[k]?=some u->(DT es)[j*2+k]?=some u
 | x::es,0,e,h,k,u,hk=>by
  simp at h;subst h;have hl:=(XV.1 hk).1;simp only[DT,YL];rw[Yc U];simpa using hk
 | x::es,j+1,e,h,k,u,hk=>by
  have:=DI (es:=es) (j:=j) (by simpa using h) k u hk;simp only[DT,YL] at this ⊢;rw[Ya (by simp[RcE.cells];omega)];rw[show (j+1)*2+k-(RcE.cells x).length=j*2+k from by simp[RcE.cells];omega];exact this
theorem K8(es:List RcE)(e:RcE):DT es++RcE.cells e=DT (es++[e]):=by simp[DT]
def rcesOk(es:List RcE)(h:Hp):Prop:=∀e∈es,imgsH e.2 e.1.ims h
theorem rcesOk.le{es:List RcE}{h h':Hp}(a:rcesOk es h)(s:BC h h'):rcesOk es h':=λe b=>(a e b).le s
def recsH(v:Value)(rs:List Rc):Ai:=λh=>∃es:List RcE,es.map Prod.fst=rs/\rdH 2 v rs.length (DT es) h/\rcesOk es h
theorem recsH.slc{v:Value}{rs:List Rc}{h:Hp}(a:recsH v rs h):∃d c,v=.slice d rs.length c:=by
 obtain ⟨es,e,b,f⟩:=a;exact b.slc

def BR(sec:List UInt8):Int:=A0 ((sec.drop 4).take 8)
def BS(sec:List UInt8):Int:=A0 ((sec.drop 12).take 8)
def CP(sec:List UInt8):UInt32:=Dt (A0 ((sec.drop 20).take 4))
def Ez(sec:List UInt8):Int:=A0 ((sec.drop 3).take 4)
def EA(sec:List UInt8):Int:=A0 ((sec.drop 7).take 5)
def BM(sec:List UInt8):Img:=⟨A0 ((sec.drop 1).take 2),A0 (sec.take 1),(sec.drop 12).take 240⟩
def ringAt(s:Sup)(x:Int):Nat:=(s.start+x%s.len).toNat
def nextP(f:Nat->List UInt8)(e sq room:Int)(ims:List Img):Prop:=
 GN (f 0)/\BR (f 0)=e/\BS (f 0)=sq/\1+(Bd (f 0):Int)<=room/\
 ims=(List.range (Bd (f 0))).map (λj=>BM (f (1+j)))/\
 (∀j,j<Bd (f 0)->Hf (f (1+j))/\Ez (f (1+j))=e/\EA (f (1+j))=sq/\(BM (f (1+j))).num=DA (f 0) j)/\
 Av ((List.range (Bd (f 0))).flatMap λj=>f (1+j))=CP (f 0)
theorem rdH.sl{sz:Nat}{v:Value}{n:Nat}{xs:List Value}{h:Hp}(r:rdH sz v n xs h)(a:0<xs.length):∃b o c,v=.slice (some ⟨b,o,none⟩) n c:=by
 obtain ⟨g,c,e,_,_,_,d⟩:=r;obtain ⟨b,p,f,_⟩:=d 0 xs[0] (XW a);subst f;exact ⟨b,p,c,e⟩
theorem DJ{g a:Nat}{sec:List UInt8}{rest:List Value}{t:TypeId}{h:Hp}(q:blk g (sec.map u8++rest) t h){k:Nat}(c:sec.length=k)(b:k<=a/\a<=9223372036854775807/\rest.length=a-k):rdH 1 (.slice (some ⟨g,0,none⟩) k a) k (sec.map u8) h:=by
 refine q.rd b.1 b.2.1 (by simp;omega) ?_;rw[Ym,YQ,X8 (by simp;omega),X0 (by simp;omega)]
def Dm(F:Nat->List UInt8)(i:Nat):List UInt8:=(List.range i).flatMap λj=>F (1+j)
theorem O3(F:Nat->List UInt8)(i:Nat):Dm F i++F (1+i)=Dm F (i+1):=by simp[Dm,ZT]
theorem Q3(F:Nat->List UInt8)(i:Nat):Db (Av (Dm F i)) (F (1+i))=Av (Dm F (i+1)):=by
 unfold Av;rw[JF,O3]
theorem XC(F:Nat->List UInt8):Value.int .u32 0=u32 (Av (Dm F 0)):=by
 have:Av (Dm F 0)=0:=by show Av []=0;decide
 rw[this];rfl
def BV(n:Nat):Dsk:=⟨n,λ_=>List.replicate 256 0,λ_=>[],0,0,0,false,0⟩
theorem TP{n:Nat}(h:1<=n/\n<=4096):(BV n).Ok:=⟨h.1,h.2,λ_ _=>by simp[BV],λ_ _ p hp=>by simp[BV] at hp,by simp[BV],by simp[BV],by simp[BV],by simp[BV]⟩
theorem TQ{n:Nat}:(BV n).In (List.replicate (n*256) 0) [] 0 (λ_=>none):=by
 refine ⟨by simp[BV],λi b=>?_,λe a=>absurd a O,λi _ h=>by simp[BV] at h,by simp,by simp,λe a=>absurd a O⟩;simp only[BV] at b ⊢;rw[ZP,List.take_replicate];congr 1;omega
theorem diskA.f1{D:Dsk}(h:D.f1=0): {D with f1:=AP D.f1} =D:=by
 cases D;simp at h;subst h;rfl

theorem Sep.tri{z w:World}{A B C:List Ai}(H:Sep z (A++(B++C)) w):Sep z (A++(C++B)) w:=by
 have g:Sep z ([seps A]++(B++C)) w:=H.shut;have i:Sep z (B++(C++[seps A])) w:=by rw[<-X3];exact g.swap
 have h:Sep z ([seps B]++(C++[seps A])) w:=i.shut;have k:Sep z (C++([seps A]++[seps B])) w:=by rw[<-X3];exact h.swap
 have n:Sep z [seps C,seps A,seps B] w:=k.shut;have f:Sep z ([seps B]++[seps A,seps C]) w:=n.pick 3 [2,1,0] Z;have j:Sep z (B++[seps A,seps C]) w:=f.opened;have m:Sep z ([seps A]++([seps C]++B)) w:=j.swap;have l:Sep z (A++([seps C]++B)) w:=m.opened;have e:Sep z ([seps C]++(B++A)) w:=by rw[<-X3];exact l.swap
 have d:Sep z (C++(B++A)) w:=e.opened;have a:Sep z ((B++A)++C) w:=d.swap;have c:Sep z (B++(A++C)) w:=by rw[<-X3];exact a
 have b:Sep z ((A++C)++B) w:=c.swap;rwa[X3] at b
def dkB(pd bd m:Nat)(D:Dsk)(f0:Int):Ai:=blk pd [.slice (some ⟨bd,0,none⟩) (D.n*256) (D.n*256),.map (some m),.int .i64 f0,.int .i64 D.f1,.int .i64 D.f2,.int .i64 D.f3,.bool D.cut,.int .i64 D.left] 106
theorem Cn.onDisk{P:Program}{f:FuncId}{args:List Value}{pre:List Ai}{pd:Nat}{D:Dsk}{post:Value->List Ai->Prop}
  (h:D.Ok->∀bd m f0,Cn P f args (dkB pd bd m D f0::pre) (λv G=>∃Γ',post v Γ'/\G=Γ'++[dkB pd bd m D f0])):
  Cn P f args (diskA pd D::pre) (λv G=>∃Γ',post v Γ'/\G=Γ'++[diskA pd D]):=λz R w H=>by
 have H0:Sep z (diskA pd D::(pre++R)) w:=H;obtain ⟨bd,m,f0,bs,es,clk,hq,b,a,H1⟩:=H0.disk;have H2:Sep z ([dkB pd bd m D f0]++((D5 pd bd m D f0 bs es clk hq).drop 1++(pre++R))) w:=H1;have H3:Sep z ((dkB pd bd m D f0::pre)++(R++(D5 pd bd m D f0 bs es clk hq).drop 1)) w:=by
  have:=H2.tri;rw[X3] at this;exact this
 refine Ret.mono (h b bd m f0 z _ w H3) ?_;rintro v w' ⟨Γ,⟨Γ',hp,rfl⟩,H4⟩;refine ⟨Γ'++[diskA pd D],⟨Γ',hp,Z⟩,?_⟩;rw[X3] at H4;have H5:Sep z ([dkB pd bd m D f0]++(R++((D5 pd bd m D f0 bs es clk hq).drop 1++Γ'))) w':=by
  have:=H4.swap;rw[X3,X3] at this;exact this
 have H6:Sep z (D5 pd bd m D f0 bs es clk hq++(Γ'++R)) w':=by
  have:=H5.tri;rw[X3] at this;exact this
 have H7:Sep z ([diskA pd D]++(Γ'++R)) w':=Sep.toDisk H6 b a;have H8:Sep z (Γ'++(R++[diskA pd D])) w':=by
  have:=H7.swap;rw[X3] at this;exact this
 have H9:=H8.tri;rw[<-X3] at H9;exact H9

def GO:List Int->Nat->List IE
 | [],_=>[]
 | k::ks,n=>(k,.bool true,n)::GO ks (n+1)
def seen(ns:List Int):List IE:=GO ns 0
theorem Hg:∀(ns:List Int) (n:Nat) (k:Int),Cl (GO ns n) k=if k∈ns then some (.bool true) else none
 | [],n,k=>rfl
 | x::xs,n,k=>by
  simp only[GO,Cl,Hg xs];by_cases h:k=x
  ·simp[h]
  by_cases h2:k∈xs
  ·simp[h,h2]
  simp[h,h2]
theorem Q4(ns:List Int)(k:Int):(Cl (seen ns) k).getD (.bool false)=.bool (decide (k∈ns)):=by
 unfold seen;rw[Hg];split
 ·rename_i h;simp[h]
 rename_i h;simp[h]
theorem I4:∀(ns:List Int) (n:Nat) (k:Int),GO (ns++[k]) n=GO ns n++[(k,.bool true,n+ns.length)]
 | [],n,k=>rfl
 | x::xs,n,k=>by
  simp only[ZD,GO,I4 xs,XZ];rw[show n+1+xs.length=n+(xs.length+1) from by omega]
theorem Q5{ns:List Int}{k:Int}(h:k∉ns):D9 (seen ns) k (.bool true) ns.length=seen (ns++[k])/\putC (seen ns) k ns.length=(ns++[k]).length:=by
 have:Ce (seen ns) k=false:=by unfold Ce seen;rw[Hg,if_neg h];rfl
 constructor
 ·unfold D9;rw[this];unfold seen;rw[I4];simp
 unfold putC;rw[this];simp
def imA(A:Ai)(v:Value)(es:List ImE):Ai:=λh=>A h/\rdH 3 v es.length (Bj es) h/\imesOk es h
theorem Sep.imA{z w:World}{Γ:List Ai}(i:Nat){A:Ai}(H:Sep z Γ w)(f:Γ[i]?=some A){v:Value}{ims:List Img}(b:∀h,A h->imgsH v ims h):∃es:List ImE,es.map Prod.fst=ims/\Sep z (Γ.set i (YthbbejpbkglmlaaGreatDoor.imA A v es)) w:=
 H.exAt i (p:=λes:List ImE=>es.map Prod.fst=ims) (B:=λes=>YthbbejpbkglmlaaGreatDoor.imA A v es) f (λh a=>by
  obtain ⟨es,c,e,d⟩:=b h a;subst c;exact ⟨es,Z,a,by simpa using e,d⟩)
theorem imA.at{A:Ai}{a:Option Addr}{n c:Nat}{es:List ImE}{j:Nat}{e:ImE}{z w:World}{Γ:List Ai}(i:Nat)(H:Sep z Γ w)(l:Γ[i]?=some (imA A (.slice a n c) es))(m:es[j]?=some e):∀k u,(ImE.cells e)[k]?=some u->At a (j*3+k) u w:=λk u b=>by
 have f:=H.rd i l (λh q=>q.2.1);obtain ⟨o,c',d,_,_,_,g⟩:=f;cases d;exact g _ _ (Bb m k u b)
def EB(ims:List Img):List Value:=ims.map λm=>.int .i64 m.num
theorem Q6{ims:List Img}{i:Nat}{m:Img}(h:ims[i]?=some m):EB (ims.take i)++[Aa m.num]=EB (ims.take (i+1)):=by
 rw[Ye,h];simp[EB]
theorem TR(ims:List Img):EB ims=(ims.map Img.num).map Aa:=by simp[EB]
def A6(e sq:Int)(m:Img):List UInt8:=Ae 1 m.kind++Ae 2 m.num++Ae 4 e++Ae 5 sq++m.body
def AE(e sq:Int)(ims:List Img):List UInt8:=ims.flatMap λm=>sect (A6 e sq m)
theorem E5{e sq:Int}{ims:List Img}{i:Nat}{m:Img}(h:ims[i]?=some m):AE e sq (ims.take i)++sect (A6 e sq m)=AE e sq (ims.take (i+1)):=by
 rw[Ye,h];simp[AE]
def Bt(e sq:Int)(ims:List Img):List UInt8:=[80,76,79,71]++Ae 8 e++Ae 8 sq++Ae 4 ((Av (AE e sq ims)).toNat:Int)++Ae 2 ((ims.map Img.num).length:Int)++(ims.map Img.num).flatMap (Ae 4)
theorem CJ{e sq:Int}{m:Img}(h:m.body.length=240):(A6 e sq m).length=252:=by simp[A6,Ac,h]
theorem DB{e sq:Int}:∀{ims:List Img},(∀m∈ims,m.Ok)->(AE e sq ims).length=ims.length*256
 | [],_=>rfl
 | m::ims,h=>by
  have h1:=DB (e:=e) (sq:=sq) (ims:=ims) (λm b=>h m (by simp[b]));have a:=sect_len (l:=A6 e sq m) (by rw[CJ (h m O).2.2];omega);simp only[AE,YL,XY,XZ] at h1 ⊢;rw[h1,a];omega
def A8(e sq:Int)(ims:List Img):List (List UInt8):=sect (Bt e sq ims)::ims.map λm=>sect (A6 e sq m)
theorem O4(e sq:Int)(ims:List Img):sect (Bt e sq ims)++AE e sq ims=(A8 e sq ims).flatten:=by
 simp[A8,AE,List.flatMap]
theorem hdL_len(e sq:Int)(ims:List Img):(Bt e sq ims).length=26+4*ims.length:=by
 simp[Bt,Ac,BD,-List.length_flatMap];omega
theorem I5{ims:List Img}{i:Nat}{m:Img}(h:(ims.map Img.num).Nodup)(a:ims[i]?=some m)(c:m.num∈(ims.take i).map Img.num):False:=by
 have b:=(XV.1 a).1;rw[<-YG i ims,Yj,Y4] at h;refine h.2.2 _ c m.num ?_ Z;rw[YV b,(XV.1 a).2];simp
def DK(ims:List Img):Prop:=(∀m∈ims,m.Ok)/\(ims.map Img.num).Nodup

def Dsk.wf(D:Dsk):Dsk:= {D with f2:=AP D.f2}
def Dsk.wr(D:Dsk)(x:Nat)(ps:List (List UInt8)):Dsk:= {Dsk.ws {D with f2:=AP D.f2} false x ps with left:=max 0 (D.left-1)}
def Dsk.bad(D:Dsk):Prop:=D.f2=1\/(D.cut=true/\D.left=0)
theorem Dsk.wr_n(D:Dsk)(x:Nat)(ps:List (List UInt8)):(D.wr x ps).n=D.n:=Dsk.ws_n _ _ _ _
theorem Dsk.ws_len(ps:List (List UInt8)):∀(D:Dsk) (i j:Nat),((D.ws false i ps).ver j).length<=(D.ver j).length+1:=by
 induction ps with
 | nil=>intro D i j;simp[Dsk.ws]
 | cons q qs ih=>
  intro D i j;rcases Yg i j with h|h
  ·have:=ih (D.w1 false i q) (i+1) j
   rw[Dsk.w1_ver _ _ _ U] at this;exact this
  simp only[Dsk.ws];rw[Dsk.ws_ver _ _ _ _ _ (.inl U)];show ((By D.ver i (D.ver i++[q])) j).length<=_;unfold By;split
  ·rename_i e;subst e;simp
  omega
theorem Dsk.wr_len(D:Dsk)(x:Nat)(ps:List (List UInt8))(j:Nat):((D.wr x ps).ver j).length<=(D.ver j).length+1:=Dsk.ws_len ps {D with f2:=AP D.f2} x j
theorem O5{ps:List (List UInt8)}(h:∀p∈ps,p.length=256):∀k,(ps.take k).flatten=ps.flatten.take (k*256):=by
 induction ps with
 | nil=>intro k;simp
 | cons q qs ih=>
  intro k
  cases k with
  | zero=>simp
  | succ k=>
   have hq:=h q O;rw[Zn,Zz,Zz,ih (λp hp=>h p (by simp[hp])),Z6,X0 (l:=q) U];rw[show (k+1)*256-q.length=k*256 from by omega]
theorem O6{ps:List (List UInt8)}(h:∀p∈ps,p.length=256):∀k,(ps.drop k).flatten=ps.flatten.drop (k*256):=by
 induction ps with
 | nil=>intro k;simp
 | cons q qs ih=>
  intro k
  cases k with
  | zero=>simp
  | succ k=>
   have hq:=h q O;rw[Zo,Zz,ih (λp hp=>h p (by simp[hp])),YD,Yk (l:=q) U,Yo];rw[show (k+1)*256-q.length=k*256 from by omega]
theorem Q7{ps:List (List UInt8)}(h:∀p∈ps,p.length=256):ps.flatten.length=ps.length*256:=by
 induction ps with
 | nil=>rfl
 | cons q qs ih=>
  have hq:=h q O;rw[Zz,XY,ih (λp hp=>h p (by simp[hp])),XZ];omega
theorem TS{e sq:Int}{ims:List Img}(h:∀m∈ims,m.Ok)(b:ims.length<=40):(∀p∈A8 e sq ims,p.length=256)/\(A8 e sq ims).length=1+ims.length:=by
 refine ⟨λp hp=>?_,by simp[A8];omega⟩;rcases YO.1 hp with rfl|hp
 ·exact sect_len (by rw[hdL_len];omega)
 obtain ⟨m,a,rfl⟩:=X6.1 hp;exact sect_len (YY (CJ (h m a).2.2))
theorem grow.rdB{e:TypeId}{b n c:Nat}{xs:List UInt8}{h:Hp}(q:grow e 1 (.slice (some ⟨b,0,none⟩) n c) n (xs.map u8) h):rdH 1 (.slice (some ⟨b,0,none⟩) n c) n (xs.map u8) h:=q.rd
theorem grow.sl{e:TypeId}{sz n:Nat}{v:Value}{xs:List Value}{h:Hp}(q:grow e sz v n xs h)(f:0<n):∃b c,v=.slice (some ⟨b,0,none⟩) n c/\n<=c/\c<=9223372036854775807:=by
 have d:=q.rd;rcases q.form with ⟨_,rfl⟩|⟨b,c,rfl,h⟩
 ·omega
 obtain ⟨_,_,e,_,a,_⟩:=d;cases e;exact ⟨b,c,Z,h,a⟩

def Cs(D:Dsk)(s:Sup)(a:Int):Nat->List UInt8:=λj=>D.cont (ringAt s (a+j))
inductive Runs(D:Dsk)(s:Sup):Int->Int->Int->List Rc->Int->Int->Int->Prop
 | nil (a q u:Int):Runs D s a q u [] a q u
 | snoc {a q u a' q' u':Int} {rs:List Rc} {ims:List Img} :Runs D s a q u rs a' q' u'->u'<s.len->nextP (Cs D s a') s.epoch q' (s.len-u') ims->Runs D s a q u (rs++[⟨q',ims⟩]) ((a'+(1+(ims.length:Int)))%s.len) (q'+1) (u'+(1+(ims.length:Int)))
theorem nextP.len{f:Nat->List UInt8}{e sq a:Int}{ims:List Img}(h:nextP f e sq a ims):1<=ims.length/\ims.length<=40/\1+(ims.length:Int)<=a:=by
 obtain ⟨b,_,_,d,c,_⟩:=h;have g:=b.2.2.2.1;have:ims.length=Bd (f 0):=by rw[c];simp
 omega
section
theorem CE{k:Nat}{x:Int}(c:0<=x)(d:x<9223372036854775808)(a:x<256^k):A0 (Ae k x)=x:=by
 obtain ⟨n,rfl⟩:=ZQ c;have b:DH (Ae k (n:Int))=n:=TL k (by exact_mod_cast a);unfold A0;rw[b];exact Y7 _ U
theorem GY(a b c:List UInt8){p k:Nat}(hp:p=a.length)(d:k=b.length):((a++b++c).drop p).take k=b:=by
 subst hp d;rw[X3,Aay Z,YK Z]
theorem Q8(ns:List Int):∀{j:Nat} {x:Int},ns[j]?=some x->((ns.flatMap (Ae 4)).drop (4*j)).take 4=Ae 4 x:=by
 induction ns with
 | nil=>intro j x h;simp at h
 | cons y ys ih=>
  intro j x h
  cases j with
  | zero=>
   simp at h;subst h;rw[YL,AaA,Ym,YK (Ac 4 y)]
  | succ j=>
   rw[YL,show 4*(j+1)=(Ae 4 y).length+4*j from by rw[Ac];omega,YD];rw[Yk U,Yo,show (Ae 4 y).length+4*j-(Ae 4 y).length=4*j from by omega];exact ih (by simpa using h)
variable{e sq:Int}{ims:List Img}
theorem K9(e sq:Int)(ims:List Img):Bt e sq ims=[80,76,79,71]++Ae 8 e++(Ae 8 sq++Ae 4 ((Av (AE e sq ims)).toNat:Int)++Ae 2 ((ims.map Img.num).length:Int)++(ims.map Img.num).flatMap (Ae 4)):=by
 simp[Bt]
theorem NP(b:ims.length<=40)(h:0<=e/\e<=1099511627776):BR (sect (Bt e sq ims))=e:=by
 have a:=hdL_len e sq ims;unfold BR;rw[BB U U,K9,GY _ _ _ O (by simp[Ac])];exact CE h.1 U U
theorem NQ(b:ims.length<=40)(h:0<=sq/\sq<=1099511627776):BS (sect (Bt e sq ims))=sq:=by
 have a:=hdL_len e sq ims;unfold BS;rw[BB U U,show Bt e sq ims=([80,76,79,71]++Ae 8 e)++Ae 8 sq++(Ae 4 ((Av (AE e sq ims)).toNat:Int)++Ae 2 ((ims.map Img.num).length:Int)++(ims.map Img.num).flatMap (Ae 4)) from by simp[Bt],GY _ _ _ (by simp[Ac]) (by simp[Ac])];exact CE h.1 U U
theorem VA(b:ims.length<=40):CP (sect (Bt e sq ims))=Av (AE e sq ims):=by
 have a:=hdL_len e sq ims;have c:=(Av (AE e sq ims)).toNat_lt;unfold CP;rw[BB U U,show Bt e sq ims=([80,76,79,71]++Ae 8 e++Ae 8 sq)++Ae 4 ((Av (AE e sq ims)).toNat:Int)++(Ae 2 ((ims.map Img.num).length:Int)++(ims.map Img.num).flatMap (Ae 4)) from by simp[Bt],GY _ _ _ (by simp[Ac]) (by simp[Ac])];rw[CE U U U];exact Vk _
theorem La(b:ims.length<=40):Bd (sect (Bt e sq ims))=ims.length:=by
 have a:=hdL_len e sq ims;unfold Bd;rw[BB U U,show Bt e sq ims=([80,76,79,71]++Ae 8 e++Ae 8 sq++Ae 4 ((Av (AE e sq ims)).toNat:Int))++Ae 2 ((ims.map Img.num).length:Int)++((ims.map Img.num).flatMap (Ae 4)) from by simp[Bt],GY _ _ _ (by simp[Ac]) (by simp[Ac])];rw[X9,CE U U U];rfl
theorem Q9(g:ims.length<=40){j:Nat}{m:Img}(b:ims[j]?=some m)(c:m.Ok):DA (sect (Bt e sq ims)) j=m.num:=by
 have d:=hdL_len e sq ims;have f:=(XV.1 b).1;unfold DA;rw[BB U U,show Bt e sq ims=([80,76,79,71]++Ae 8 e++Ae 8 sq++Ae 4 ((Av (AE e sq ims)).toNat:Int)++Ae 2 ((ims.map Img.num).length:Int))++((ims.map Img.num).flatMap (Ae 4)) from by simp[Bt]];have a:([80,76,79,71]++Ae 8 e++Ae 8 sq++Ae 4 ((Av (AE e sq ims)).toNat:Int)++Ae 2 ((ims.map Img.num).length:Int)).length=26:=by simp only[XY,Ac];rfl
 rw[YD,Yk (by rw[a];omega),Yo,a,show 26+4*j-26=4*j from by omega];rw[Q8 _ (x:=m.num) (by simp[b])];have:=c.1;exact CE U U U
theorem VB(a:1<=ims.length/\ims.length<=40)(g:0<=e/\e<=1099511627776)(hs:0<=sq/\sq<=1099511627776)(b:∀m∈ims,m.Ok):GN (sect (Bt e sq ims)):=by
 have f:=hdL_len e sq ims;have h:=NP (sq:=sq) a.2 g;have i:=NQ (e:=e) a.2 hs;have d:=La (e:=e) (sq:=sq) a.2;unfold BR at h;unfold BS at i;refine ⟨⟨GM U,?_⟩,by rw[h];exact g,by rw[i];exact hs,by rw[d];exact a,λj c=>?_,?_⟩
 ·have:=BB (l:=Bt e sq ims) U (p:=0) (k:=4) U
  rw[Ym,Ym] at this;rw[this,K9,X3];rfl
 ·rw[d] at c
  have n:=XW c;rw[Q9 a.2 n (b _ (ZE c))];exact (b _ (ZE c)).1
 rw[d,<-f];exact Kh U
theorem Lb(e sq:Int)(m:Img):A6 e sq m=Ae 1 m.kind++Ae 2 m.num++(Ae 4 e++Ae 5 sq++m.body):=by simp[A6]
theorem I6{m:Img}(a:m.Ok)(o:0<=e/\e<4294967296)(hs:0<=sq/\sq<1099511627776):Hf (sect (A6 e sq m))/\Ez (sect (A6 e sq m))=e/\EA (sect (A6 e sq m))=sq/\BM (sect (A6 e sq m))=m:=by
 have n:=a.2.2;have i:=CJ (e:=e) (sq:=sq) n;have j:=a.1;have d:=a.2.1;have b:A0 ((sect (A6 e sq m)).take 1)=m.kind:=by
  have:=BB (l:=A6 e sq m) U (p:=0) (k:=1) U;rw[Ym,Ym] at this;rw[this,Lb,X3,YK (by rw[Ac])];exact CE U U U
 have c:A0 (((sect (A6 e sq m)).drop 1).take 2)=m.num:=by
  rw[BB U U,Lb,GY _ _ _ (by simp[Ac]) (by simp[Ac])];exact CE U U U
 have f:A0 (((sect (A6 e sq m)).drop 3).take 4)=e:=by
  rw[BB U U,show A6 e sq m=(Ae 1 m.kind++Ae 2 m.num)++Ae 4 e++(Ae 5 sq++m.body) from by simp[A6],GY _ _ _ (by simp[Ac]) (by simp[Ac])];exact CE U U U
 have g:A0 (((sect (A6 e sq m)).drop 7).take 5)=sq:=by
  rw[BB U U,show A6 e sq m=(Ae 1 m.kind++Ae 2 m.num++Ae 4 e)++Ae 5 sq++m.body from by simp[A6],GY _ _ _ (by simp[Ac]) (by simp[Ac])];exact CE U U U
 have h:((sect (A6 e sq m)).drop 12).take 240=m.body:=by
  rw[BB U U,show A6 e sq m=(Ae 1 m.kind++Ae 2 m.num++Ae 4 e++Ae 5 sq)++m.body++[] from by simp[A6],GY _ _ _ (by simp[Ac]) U]
 refine ⟨⟨GM U,by rw[b];exact d,by rw[c];exact j⟩,f,g,?_⟩;unfold BM;rw[b,c,h]
theorem Lc{F:Nat->List UInt8}{h:Int}(k:1<=ims.length/\ims.length<=40)(f:∀m∈ims,m.Ok)(r:0<=e/\e<4294967296)(hs:0<=sq/\sq<1099511627776)(t:1+(ims.length:Int)<=h)
  (s:∀(j:Nat) (p:List UInt8),(A8 e sq ims)[j]?=some p->F j=p):nextP F e sq h ims:=by
 have i:F 0=sect (Bt e sq ims):=s 0 _ Z;have l:=La (e:=e) (sq:=sq) k.2;have o:∀j (g:j<ims.length),F (1+j)=sect (A6 e sq ims[j]):=λj g=>s (1+j) _ (by
  rw[ZY];simp[A8,g])
 refine ⟨?_,?_,?_,?_,?_,?_,?_⟩
 ·rw[i];exact VB k U U f
 ·rw[i];exact NP k.2 U
 ·rw[i];exact NQ k.2 U
 ·rw[i,l];exact t
 ·rw[i,l]
  apply Aaq
  ·simp
  intro j n q;simp only[AaV,List.getElem_range];rw[o j n,(I6 (f _ (ZE n)) r hs).2.2.2]
 ·intro j g
  rw[i,l] at g;obtain ⟨a,b,c,d⟩:=I6 (f _ (ZE g)) r hs;rw[o j g];refine ⟨a,b,c,?_⟩;rw[d,i,Q9 k.2 (XW g) (f _ (ZE g))]
 rw[i,l,VA k.2];congr 1;unfold AE;rw[List.flatMap_def,List.flatMap_def];congr 1;apply Aaq
 ·simp
 intro j n q;simp only[AaV,List.getElem_range];exact o j (by simpa using q)
end
theorem TT(ps:List (List UInt8)):∀(D:Dsk) (x i:Nat),(D.ws false x ps).cont i=(if x<=i then ps[i-x]? else none).getD (D.cont i):=by
 induction ps with
 | nil=>intro D x i;simp[Dsk.ws]
 | cons q qs ih=>
  intro D x i;simp only[Dsk.ws];rw[ih];have a:(D.w1 false x q).cont i=if i=x then q else D.cont i:=by
   show ((By D.ver x (D.ver x++[q])) i).getLast?.getD (D.dur i)=_;unfold By;split
   ·rename_i h;subst h;simp
   rfl
  rw[a];rcases Zi i x with h|h|h
  ·rw[if_neg (show ¬x+1<=i by omega),if_neg (show ¬i=x by omega),if_neg (show ¬x<=i by omega)]
  ·subst h
   rw[if_neg (show ¬i+1<=i by omega),if_pos Z,if_pos (Yp i),AaW];rfl
  rw[if_pos (show x+1<=i by omega),if_neg (show ¬i=x by omega),if_pos (show x<=i by omega),show i-x=(i-(x+1))+1 from by omega,Yq]
theorem wr_cont(ps:List (List UInt8))(D:Dsk)(x i:Nat):(D.wr x ps).cont i=(if x<=i then ps[i-x]? else none).getD (D.cont i):=TT ps {D with f2:=AP D.f2} x i

theorem ring_low{s:Sup}{a:Int}{j:Nat}(hs:0<=s.start)(b:0<=a)(h:a+j<s.len):ringAt s (a+j)=(s.start+a).toNat+j:=by
 unfold ringAt;rw[Y5 U h];omega
theorem ring_high{s:Sup}{a:Int}{j:Nat}(hs:0<=s.start)(b:s.len<=a+j)(h:a+j<s.len+s.len):ringAt s (a+j)=s.start.toNat+(a+j-s.len).toNat:=by
 unfold ringAt;rw[<-Int.sub_emod_right (a+j) s.len,Y5 U U];omega
theorem Iq{s:Sup}(a b:Int):ringAt s (a%s.len+b)=ringAt s (a+b):=by
 unfold ringAt;rw[AaP]
theorem GP{s:Sup}{h:Int}{i j:Nat}(hs:0<=s.start)(c:0<=h/\h<s.len)(d:(i:Int)<s.len)(f:(j:Int)<s.len)(e:ringAt s (h+i)=ringAt s (h+j)):i=j:=by
 rcases Int.lt_or_le (h+i) s.len with a|a<;>rcases Int.lt_or_le (h+j) s.len with b|b
 ·rw[ring_low hs c.1 a,ring_low hs c.1 b] at e;omega
 ·rw[ring_low hs c.1 a,ring_high hs b U] at e;omega
 ·rw[ring_high hs a U,ring_low hs c.1 b] at e;omega
 rw[ring_high hs a U,ring_high hs b U] at e;omega
def Eb(D:Dsk)(s:Sup)(a:Int)(k:Nat)(ps:List (List UInt8)):Dsk:=if k<ps.length then (D.wr (s.start+a).toNat (ps.take k)).wr s.start.toNat (ps.drop k) else D.wr (s.start+a).toNat (ps.take k)
theorem TU{D:Dsk}{s:Sup}{a:Int}{k:Nat}{ps:List (List UInt8)}(hs:0<=s.start)(e:0<=a/\a<s.len)(i:(ps.length:Int)<=s.len)(g:(k:Int)=min (ps.length:Int) (s.len-a)){j:Nat}{p:List UInt8}(c:ps[j]?=some p):(Eb D s a k ps).cont (ringAt s (a+j))=p:=by
 have f:=(XV.1 c).1;rcases Yg j k with h|h
 ·have b:ringAt s (a+j)=(s.start+a).toNat+j:=ring_low hs e.1 U
  have d:(D.wr (s.start+a).toNat (ps.take k)).cont ((s.start+a).toNat+j)=p:=by
   rw[wr_cont,if_pos U,show (s.start+a).toNat+j-(s.start+a).toNat=j from by omega,Yy,if_pos h,c];rfl
  unfold Eb;split
  ·rw[b,wr_cont]
   have:(if s.start.toNat<=(s.start+a).toNat+j then (ps.drop k)[(s.start+a).toNat+j-s.start.toNat]? else none)=none:=by
    rw[if_pos U];exact Ys (by rw[Yr];omega)
   rw[this];exact d
  rw[b];exact d
 have b:ringAt s (a+j)=s.start.toNat+(a+j-s.len).toNat:=ring_high hs U U;unfold Eb;rw[if_pos U,b,wr_cont,if_pos U,show s.start.toNat+(a+j-s.len).toNat-s.start.toNat=j-k from by omega,YN,show k+(j-k)=j from by omega,c];rfl
theorem app_old{D:Dsk}{s:Sup}{a:Int}{k:Nat}{ps:List (List UInt8)}(hs:0<=s.start)(d:0<=a/\a<s.len)(g:(ps.length:Int)<=s.len)(f:(k:Int)=min (ps.length:Int) (s.len-a)){i:Nat}(c:∀j:Nat,j<ps.length->i≠ringAt s (a+j)):(Eb D s a k ps).cont i=D.cont i:=by
 have b:(D.wr (s.start+a).toNat (ps.take k)).cont i=D.cont i:=by
  rw[wr_cont];split
  ·rename_i h
   rw[Ys];rfl;rw[X1];rcases Yg (i-(s.start+a).toNat) (min k ps.length) with q|q
   ·exact absurd (by rw[ring_low hs d.1 U];omega) (c (i-(s.start+a).toNat) U)
   exact q
  rfl
 unfold Eb;split
 ·rw[wr_cont]
  split
  ·rename_i e h
   rw[Ys];exact b;rw[Yr];rcases Yg (i-s.start.toNat) (ps.length-k) with q|q
   ·exact absurd (by rw[ring_high hs U U];omega) (c (k+(i-s.start.toNat)) U)
   exact q
  exact b
 exact b

theorem Ra{F:Nat->List UInt8}{e sq c:Int}{a b:List Img}(d:nextP F e sq c a)(f:nextP F e sq c b):a=b:=by
 rw[d.2.2.2.2.1,f.2.2.2.2.1]
theorem Runs.pos{D:Dsk}{s:Sup}{h c:Int}{rs:List Rc}{a q u:Int}(b:0<=h/\h<s.len)(r:Runs D s h c 0 rs a q u):a=(h+u)%s.len/\q=c+rs.length/\0<=u/\u<=s.len/\(rs.length:Int)<=u:=by
 induction r with
 | nil=>exact ⟨by rw[AaX,Y5 b.1 b.2],by simp,by omega,by omega,by simp⟩
 | snoc r hlt hn ih=>
  obtain ⟨d,e,f,i,j⟩:=ih;have g:=hn.len;refine ⟨?_,by rw[e];simp;omega,by omega,by omega,by simp;omega⟩;rw[d,AaP,Int.add_assoc]
theorem Kk:¬GN (List.replicate 256 0):=λh=>by
 have:=h.1.2;simp at this
end Go.Proofs.YthbbejpbkglmlaaGreatDoor
