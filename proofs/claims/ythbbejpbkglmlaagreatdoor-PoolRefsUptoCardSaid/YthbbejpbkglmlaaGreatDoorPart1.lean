/-
  Steps to: A page of a pool that is referred to so many times more. No condition.
-/
import Derived.Test.YthbbejpbkglmlaaGreatDoorCards
import Derived.Test.YthbbejpbkglmlaaGreatDoorTie
import Derived.WalkKit
import Derived.WalkSpells
import Derived.Deep.Quiet
import Derived.KernelRfl
import Derived.IntWalk
import Derived.Maps.AppendAt
import Derived.Laws.AppendOwnNone
import Derived.Laws.CopyRow
import Derived.StillTail
import Derived.Deep.RegionHeld
import Derived.Laws.IdiomStrings
import Derived.Laws.BytesArg
import Derived.Laws.OwnMore
import Derived.Lib.Strings
import Derived.ArgAppend
import Derived.RangeFuncLeaves
import Derived.RangeFuncRecord
import Derived.RangeFuncCalls
import Derived.RangeFuncSeq
import Derived.OrdersIn
import Derived.TacticsIn
import Derived.Laws.IdiomRangeMap
import Derived.Defers
import Derived.Laws.LoneSync
import Derived.LoopN
import Derived.Test.YthbbejpbkglmlaaGreatDoorRows
import Derived.Test.YthbbejpbkglmlaaGreatDoorProg
import Derived.Shelf.Sort.Plain
import Derived.Shelf.Slices.In.SortNone
import Derived.Lib.TrailingZeros
import Derived.DataReads
import Derived.ProofKit
import Derived.OpenShut
import Derived.Lib.SmallJoins
import Derived.Deep.DeepHandedRow
import Derived.Lib.LaidTab
set_option maxRecDepth 100000
set_option linter.unusedSimpArgs false
set_option linter.unusedVariables false
open Go.Proofs.Tryz
namespace Go.Proofs.YthbbejpbkglmlaaGreatDoor
open Go.RowKit
section
theorem Z{α : Sort _}{a : α}: a=a := rfl
theorem U {p : Prop} (h : p := by omega) : p := h
theorem J {p : Prop} (h : p := by kernel_rfl) : p := h
theorem O {p : Prop} (h : p := by simp) : p := h
abbrev XU:=@List.getElem?_eq_some_iff
abbrev XV:=@List.getElem?_eq_getElem
abbrev XW:=@List.mem_of_getElem?
abbrev XX:=@List.length_append
abbrev XY:=@List.length_cons
abbrev XZ:=@List.take_of_length_le
abbrev X0:=@Option.some.injEq
abbrev X1:=@List.append_assoc
abbrev X2:=@List.length_take
abbrev X3:=@List.length_nil
abbrev X4:=@List.length_replicate
abbrev X5:=@List.mem_map
abbrev X6:=@Result.andThen_ok
abbrev X7:=@List.take_append_of_le_length
abbrev X8:=@List.length_map
abbrev X9:=@List.getElem?_map
abbrev Ya:=@List.getElem?_append_right
abbrev Yb:=@List.getElem?_append_left
abbrev Yc:=@Sem.run_bind
abbrev Yd:=@List.take_add_one
abbrev Ye:=@Nat.zero_le
abbrev Yf:=@Bool.eq_iff_iff
abbrev Yg:=@Nat.lt_or_ge
abbrev Yh:=@Sem.run_pure
abbrev Yi:=@List.map_append
abbrev Yj:=@List.drop_of_length_le
abbrev Yk:=@Bool.and_eq_true
abbrev Yl:=@List.drop_zero
abbrev Ym:=@List.nil_append
abbrev Yn:=@List.map_cons
abbrev Yo:=@Nat.le_refl
abbrev Yp:=@List.getElem?_eq_none
abbrev Yq:=@List.getElem?_cons_succ
abbrev Yr:=@List.mem_append
abbrev Ys:=@Option.map_some
abbrev Yt:=@List.map_toArray
abbrev Yu:=@Array.getElem?_eq_none
abbrev Yv:=@List.length_drop
abbrev Yw:=@Int.toNat_natCast
abbrev Yx:=@List.getElem?_of_mem
abbrev Yy:=@List.drop_append
abbrev Yz:=@List.drop_append_of_le_length
abbrev YA:=@List.take_take
abbrev YB:=@List.getElem?_take
abbrev YC:=@Nat.min_eq_left
abbrev YD:=@List.mem_singleton
abbrev YE:=@Option.isSome_iff_exists
abbrev YF:=@Array.getElem?_eq_some_iff
abbrev YG:=@List.append_nil
abbrev YH:=@List.mem_of_mem_take
abbrev YI:=@List.flatMap_cons
abbrev YJ:=@List.take_left'
abbrev YK:=@List.getElem?_toArray
abbrev YL:=@List.mem_cons
abbrev YM:=@List.mem_map_of_mem
abbrev YN:=@List.take_length
abbrev YO:=@List.take_append_drop
abbrev YP:=@List.getElem?_cons_zero
abbrev YQ:=@List.getElem?_drop
abbrev YR:=@Nat.mul_one
abbrev YS:=@Bool.false_eq_true
abbrev YT:=@Option.map_none
abbrev YU:=@Nat.le_of_eq
abbrev YV:=@List.getElem?_set
abbrev YW:=@List.map_nil
abbrev YX:=@Nat.mod_eq_of_lt
abbrev YY:=@List.ext_getElem?
abbrev YZ:=@Int.emod_eq_of_lt
abbrev Y0:=@Nat.eq_of_beq_eq_true
abbrev Y1:=@IntWalk.i64_in
abbrev Y2:=@List.mem_range
abbrev Y3:=@Nat.add_sub_cancel_left
abbrev Y4:=@Array.getElem?_setIfInBounds_ne
abbrev Y5:=@List.getElem?_set_self
abbrev Y6:=@List.nodup_append
abbrev Y7:=@Nat.shiftRight_eq_div_pow
abbrev Y8:=@Nat.zero_add
abbrev Y9:=@List.foldl_append
abbrev Zb:=@List.pairwise_map
abbrev Zd:=@List.nodup_cons
abbrev Ze:=@List.toList_toArray
abbrev Zg:=@List.take_succ_cons
abbrev Zh:=@List.drop_succ_cons
abbrev Zi:=@List.map_map
abbrev Zj:=@List.set_eq_take_append_cons_drop
abbrev Zk:=@Int.emod_lt_of_pos
abbrev Zm:=@Array.getElem?_modify
abbrev Zn:=@List.mem_iff_getElem
abbrev Zo:=@List.mem_cons_of_mem
abbrev Zp:=@BitVec.toNat_ushiftRight
abbrev Zq:=@Nat.lt_trichotomy
abbrev Zs:=@List.flatten_cons
abbrev Zt:=@Nat.add_assoc
abbrev Zu:=@List.map_congr_left
abbrev Zv:=@UInt32.toNat_inj
abbrev Zw:=@List.cons_append
abbrev Zx:=@List.getElem_mem
abbrev Zy:=@BitVec.toNat_and
abbrev Zz:=@List.getElem?_eraseIdx
abbrev ZA:=@List.map_replicate
abbrev ZB:=@Ne.symm
abbrev ZC:=@Int.emod_nonneg
abbrev ZD:=@Nat.mul_le_mul_right
abbrev ZE:=@List.drop_eq_getElem_cons
abbrev ZF:=@List.mem_of_mem_drop
abbrev ZG:=@Nat.mul_add
abbrev ZH:=@UInt32.xor_assoc
abbrev ZI:=@Nat.mul_le_mul_left
abbrev ZJ:=@List.drop_replicate
abbrev ZK:=@Int.eq_ofNat_of_zero_le
abbrev ZL:=@List.length_eq_zero_iff
abbrev ZM:=@List.map_take
abbrev ZN:=@List.range_succ
abbrev ZO:=@Nat.ne_of_beq_eq_false
abbrev ZP:=@Option.map_eq_some_iff
abbrev ZQ:=@List.eq_nil_of_length_eq_zero
abbrev ZR:=@List.drop_take
abbrev ZS:=@Nat.add_comm
abbrev ZT:=@List.length_singleton
abbrev ZU:=@List.singleton_append
abbrev ZV:=@List.take_append
abbrev ZW:=@Decidable.of_not_not
abbrev ZX:=@Nat.add_mul_div_left
abbrev ZY:=@BitVec.toNat_add
abbrev ZZ:=@Function.comp_apply
abbrev Z6:=@Oper.upon_value
abbrev Z7:=@Array.getElem?_eq_getElem
abbrev Z8:=@UInt8.toNat_inj
abbrev Z9:=@Nat.add_mul_mod_self_left
abbrev Aaa:=@Nat.two_pow_pos
abbrev Aab:=@Classical.byContradiction
abbrev Aac:=@Bool.false_ne_true
abbrev Aad:=@Nat.eq_zero_or_pos
abbrev Aae:=@BitVec.getLsbD_and
abbrev Aaf:=@BitVec.getLsbD_xor
abbrev Aag:=@BitVec.eq_of_getLsbD_eq
abbrev Aah:=@List.length_range
abbrev Aai:=@Option.bind_some
abbrev Aaj:=@List.all_eq_true
abbrev Aak:=@List.ext_getElem
abbrev Aal:=@List.mem_flatMap
abbrev Aam:=@Nat.div_eq_of_lt
abbrev Aan:=@BitVec.getLsbD_twoPow
abbrev Aao:=@BitVec.eq_of_toNat_eq
abbrev Aap:=@List.cons.injEq
abbrev Aaq:=@Calls.mono
abbrev Aar:=@Nat.add_zero
abbrev Aas:=@List.getElem?_set_ne
abbrev Aat:=@List.drop_left'
abbrev Aau:=@BitVec.ofInt_natCast
abbrev Aav:=@Nat.mul_zero
abbrev Aaw:=@Option.some.inj
abbrev Aax:=@BitVec.getLsbD_of_ge
abbrev Aay:=@Nat.and_two_pow_sub_one_eq_mod
abbrev Aaz:=@Array.getElem?_push
abbrev AaA:=@UInt32.toBitVec_xor
abbrev AaB:=@List.find?_eq_none
abbrev AaC:=@Int.tmod_lt_of_pos
abbrev AaD:=@Array.getElem?_append_left
abbrev AaE:=@Prod.mk.injEq
abbrev AaF:=@Int.tdiv_eq_ediv_of_nonneg
abbrev AaG:=@Int.tmod_eq_emod_of_nonneg
abbrev AaH:=@Addr.mk.injEq
abbrev AaI:=@UInt32.toBitVec_shiftRight
abbrev AaJ:=@Int.emod_add_emod
abbrev AaK:=@Decidable.not_not
abbrev AaL:=@Int.shiftRight_eq_div_pow
abbrev AaM:=@List.getLast?_eq_getElem?
abbrev AaN:=@List.mem_take_iff_getElem
abbrev AaO:=@UInt32.toNat_and
abbrev AaP:=@List.getElem_map
abbrev AaQ:=@List.map_set
abbrev AaR:=@Nat.sub_self
abbrev AaS:=@Int.add_zero
abbrev AaT:=@Option.getD_some
abbrev AaU:=@Nat.le_trans
abbrev AaV:=@List.set_set
abbrev AaW:=@Oper.upon_enter
abbrev AaX:=@Nat.mul_eq_zero
abbrev AaY:=@UInt32.xor_self
abbrev AaZ:=@UInt32.zero_xor
abbrev Aa0:=@List.mem_filter
abbrev Aa1:=@List.map_const'
abbrev Aa2:=@Int.tmod_nonneg
abbrev Aa3:=@List.take_zero
abbrev Aa(x:Int):Value:=.int .i64 x
abbrev V (b:Nat):Value:=.pointer (some ⟨b,0,none⟩)
def BZ:List (Nat×Value)->Nat->Option Value
 | [],_=>none
 | (t,v)::l,k=>bif Nat.beq t k then some v else BZ l k
theorem U3{d t:Nat}(h:d≠t):Nat.beq d t=false:=by
 cases hb:Nat.beq d t with
 | false=>rfl
 | true=>exact absurd (Y0 hb) h
structure Fr(n:Nat)(ds:List Deferred)(L:List (Nat×Value))(a:Act):Prop where
 size:a.tmps.size=n
 defers:a.defers=ds
 get:∀t v,BZ L t=some v->a.tmps[t]?=some v
theorem Fr.put{n:Nat}{ds:List Deferred}{L:List (Nat×Value)}{a:Act}(h:Fr n ds L a)(d:Nat)(v:Value)(f:Nat.blt d n=true):Fr n ds ((d,v)::L) (a.put (some d) v):=by
 have c:d<n:=by simpa using f
 refine ⟨by simp[Act.put,h.size],by simp[Act.put,h.defers],λt u b=>?_⟩;simp only[BZ] at b;by_cases e:d=t
 ·subst e
  have:Nat.beq d d=true:=by simp
  rw[this] at b;simp only[cond_true,X0] at b;subst b;simp[Act.put,h.size,c]
 rw[U3 e] at b;simp only[cond_false] at b;simp[Act.put,Y4 e,h.get t u b]
theorem Fr.nil{n:Nat}{ds:List Deferred}{L:List (Nat×Value)}{a:Act}(h:Fr n ds L a):Fr n ds [] a:=⟨h.size,h.defers,λt v b=>by simp[BZ] at b⟩
theorem Fr.cons{n:Nat}{ds:List Deferred}{L L':List (Nat×Value)}{a:Act}(h:Fr n ds L a)(h':Fr n ds L' a)(t:Nat)(v u:Value)(b:BZ L t=some u)(e:u=v):Fr n ds ((t,v)::L') a:=by
 refine ⟨h.size,h.defers,λs x hs=>?_⟩;simp only[BZ] at hs
 cases hb:Nat.beq t s with
 | true=>rw[hb] at hs;simp at hb;subst hb;simp at hs;subst hs;subst e;exact h.get t u b
 | false=>rw[hb] at hs;exact h'.get s x (by simpa using hs)
theorem Fr.co{n:Nat}{ds:List Deferred}{L L':List (Nat×Value)}{a:Act}{t:Nat}{v u:Value}(h:Fr n ds L a)(b:BZ L t=some u)(e:u=v)(h':Fr n ds L' a):Fr n ds ((t,v)::L') a:=h.cons h' t v u b e
theorem Fr.all{n:Nat}{ds:List Deferred}{L:List (Nat×Value)}{a:Act}(h:Fr n ds L a):∀{L':List (Nat×Value)},L'.map (λe=>BZ L e.1)=L'.map (λe=>some e.2)->Fr n ds L' a
 | [],_=>h.nil
 | e::L',q=>by
  simp only[Yn,Aap] at q;exact h.cons (h.all q.2) e.1 e.2 e.2 q.1 Z
theorem Fr.cz{n:Nat}{ds:List Deferred}{L L':List (Nat×Value)}{a:Act}{t:Nat}{v u:Value}(h:Fr n ds L a)(b:BZ L t=some u:=by exact Z)(e:u=v:=by go_num)(q:L'.map (λe=>BZ L e.1)=L'.map (λe=>some e.2):=by exact Z):Fr n ds ((t,v)::L') a:=h.co b e (h.all q)
theorem fr_z {n:Nat} {ds:List Deferred} {L L':List (Nat×Value)} {t:Nat} {v u:Value} (b:BZ L t=some u:=by exact Z) (e:u=v:=by go_num) (q:L'.map (λe=>BZ L e.1)=L'.map (λe=>some e.2):=by exact Z):∀a,Fr n ds L a->Fr n ds ((t,v)::L') a:=λ_ h=>h.co b e (h.all q)
theorem Fr.upd{n:Nat}{ds:List Deferred}{L:List (Nat×Value)}{a:Act}(h:Fr n ds L a)(t:Nat){v u:Value}(b:BZ L t=some u)(e:u=v):Fr n ds ((t,v)::L) a:=h.cons h t v u b e
def ev(L:List (Nat×Value)):Operand->Option Value
 | .tmp t=>BZ L t
 | .const v=>some v
 | .global g=>some (.pointer (some ⟨g,0,none⟩))
 | .func f=>some (.func (.func f) #[] #[])
theorem Fr.ev{n:Nat}{ds:List Deferred}{L:List (Nat×Value)}{a:Act}(h:Fr n ds L a){x:Operand}{v:Value}(b:ev L x=some v):a.eval x=v:=by
 cases x with
 | tmp t=>simp only[YthbbejpbkglmlaaGreatDoor.ev] at b;simp[Act.eval,h.get t v b]
 | const u=>simp only[YthbbejpbkglmlaaGreatDoor.ev,X0] at b;simp[Act.eval,b]
 | global g=>simp only[YthbbejpbkglmlaaGreatDoor.ev,X0] at b;simp[Act.eval,b]
 | func f=>simp only[YthbbejpbkglmlaaGreatDoor.ev,X0] at b;simp[Act.eval,b]
def evs(L:List (Nat×Value)):List Operand->Option (List Value)
 | []=>some []
 | x::xs=>match YthbbejpbkglmlaaGreatDoor.ev L x,evs L xs with
  | some v,some vs=>some (v::vs)
  | _,_=>none
theorem Fr.evs{n:Nat}{ds:List Deferred}{L:List (Nat×Value)}{a:Act}(h:Fr n ds L a):∀{xs:List Operand} {vs:List Value},evs L xs=some vs->xs.map a.eval=vs
 | [],vs,e=>by simp only[YthbbejpbkglmlaaGreatDoor.evs,X0] at e;subst e;rfl
 | x::xs,vs,e=>by
  simp only[YthbbejpbkglmlaaGreatDoor.evs] at e
  cases h1:YthbbejpbkglmlaaGreatDoor.ev L x with
  | none=>rw[h1] at e;cases e
  | some v=>
   cases h2:YthbbejpbkglmlaaGreatDoor.evs L xs with
   | none=>rw[h1,h2] at e;cases e
   | some us=>
    rw[h1,h2] at e;simp only[X0] at e;subst e;simp[h.ev h1,h.evs h2]
def first:Nat->List Value->List (Nat×Value)
 | _,[]=>[]
 | k,v::vs=>(k,v)::first (k+1) vs
theorem IM:∀(vs:List Value) (k t:Nat) (v:Value),BZ (first k vs) t=some v->k<=t/\vs[t-k]?=some v
 | [],_,_,_,h=>by simp[first,BZ] at h
 | u::us,k,t,v,h=>by
  simp only[first,BZ] at h
  cases hb:Nat.beq k t with
  | true=>rw[hb] at h;simp at hb h;subst hb;subst h;simp
  | false=>
   rw[hb] at h;have:=IM us (k+1) t v (by simpa using h);refine ⟨by omega,?_⟩;rw[show t-k=(t-(k+1))+1 from by omega];simpa using this.2
theorem Fr.start(args:List Value)(n:Nat)(h:args.length<=n):Fr n [] (first 0 args) {tmps:=args.toArray++Array.replicate (n-args.toArray.size) undef,defers:=[]} :=by
 refine ⟨by simp;omega,Z,λt v b=>?_⟩;have:=(IM args 0 t v b).2;simp only[Nat.sub_zero] at this;have a:t<args.length:=by
  rcases Yg t args.length with h|h
  ·exact h
  rw[Yp h] at this;cases this
 rw[AaD (by simpa using a)];simpa using this

def Qp(N:Act->World->Prop)(X:Nat->Act->World->Prop)(R:Act->World->Prop):Exit->Act->World->Prop
 | .normal,a,w=>N a w
 | .exit id,a,w=>X id a w
 | .ret,a,w=>R a w
 | _,_,_=>False
def GR:Nat->Act->World->Prop:=λ_ _ _=>False
def upd(X:Nat->Act->World->Prop)(id:Nat)(N:Act->World->Prop):Nat->Act->World->Prop:=λj a w=>if j=id then N a w else X j a w
section
variable{P:Program}{N R:Act->World->Prop}{X:Nat->Act->World->Prop}{a:Act}{w:World}
theorem Wz{x y:Code}(h:x.wp P (Qp (λa w=>y.wp P (Qp N X R) a w) X R) a w):(Code.seq x y).wp P (Qp N X R) a w:=
 wp_seq (wp_mono h λe a w q=>by cases e<;>exact q)
theorem U4(h:N a w):Code.skip.wp P (Qp N X R) a w:=wp_skip h
theorem U5{id:Nat}(h:X id a w):(Code.exit id).wp P (Qp N X R) a w:=wp_exit h
theorem WA(h:R a w):Code.ret.wp P (Qp N X R) a w:=wp_ret h
theorem Tc{id:Nat}{c:Code}(h:c.wp P (Qp N (upd X id N) R) a w):(Code.block id c).wp P (Qp N X R) a w:=
 wp_block (wp_mono h λe a w q=>by
  cases e<;>exact q)
theorem U6{id:Nat}(h:N a w):upd X id N id a w:=by simp only[upd,if_true];exact h
theorem WB{id j:Nat}{M:Act->World->Prop}(b:Nat.beq j id=false)(h:X j a w):upd X id M j a w:=by
 have:j≠id:=ZO b;simp only[upd,if_neg this];exact h
theorem Oc{n:Nat}{ds:List Deferred}{L:List (Nat×Value)}(b:Fr n ds L a){c:Operand}{x y:Code}(d:ev L c=some (.bool true))(h:x.wp P (Qp N X R) a w):(Code.cond c x y).wp P (Qp N X R) a w:=wp_cond_true (b.ev d) h
theorem Mr{n:Nat}{ds:List Deferred}{L:List (Nat×Value)}(b:Fr n ds L a){c:Operand}{x y:Code}(d:ev L c=some (.bool false))(h:y.wp P (Qp N X R) a w):(Code.cond c x y).wp P (Qp N X R) a w:=wp_cond_false (b.ev d) h
theorem Od{n:Nat}{ds:List Deferred}{L:List (Nat×Value)}(d:Fr n ds L a){c:Operand}{x y:Code}{b:Bool}(e:ev L c=some (.bool b))(f:b=true->x.wp P (Qp N X R) a w)(g:b=false->y.wp P (Qp N X R) a w):(Code.cond c x y).wp P (Qp N X R) a w:=by
 cases b with
 | true=>exact Oc d e (f Z)
 | false=>exact Mr d e (g Z)
theorem WC{n:Nat}{ds:List Deferred}{L:List (Nat×Value)}(e:Fr n ds L a){c:Operand}{x y:Code}{p:Prop}[hp:Decidable p](f:ev L c=some (.bool (decide p)))(b:p->x.wp P (Qp N X R) a w)(d:¬p->y.wp P (Qp N X R) a w):(Code.cond c x y).wp P (Qp N X R) a w:=
 Od e f (λh=>b (of_decide_eq_true h)) (λh=>d (of_decide_eq_false h))

section framed
variable{n:Nat}{ds:List Deferred}{L:List (Nat×Value)}
theorem AN{x y:Code}(h:∀a,Fr n ds L a->x.wp P (Qp (λa w=>y.wp P (Qp N X R) a w) X R) a w):∀a,Fr n ds L a->(Code.seq x y).wp P (Qp N X R) a w:=λa b=>Wz (h a b)
theorem C3(h:∀a,Fr n ds L a->N a w):∀a,Fr n ds L a->Code.skip.wp P (Qp N X R) a w:=λa b=>U4 (h a b)
theorem Oe{id:Nat}(h:∀a,Fr n ds L a->X id a w):∀a,Fr n ds L a->(Code.exit id).wp P (Qp N X R) a w:=λa b=>U5 (h a b)
theorem DV(h:∀a,Fr n ds L a->R a w):∀a,Fr n ds L a->Code.ret.wp P (Qp N X R) a w:=λa b=>WA (h a b)
theorem Fi{id:Nat}{c:Code}(h:∀a,Fr n ds L a->c.wp P (Qp N (upd X id N) R) a w):∀a,Fr n ds L a->(Code.block id c).wp P (Qp N X R) a w:=λa b=>Tc (h a b)
theorem IN{id:Nat}(h:∀a,Fr n ds L a->N a w):∀a,Fr n ds L a->upd X id N id a w:=λa b=>U6 (h a b)
theorem WD{id j:Nat}{M:Act->World->Prop}(b:Nat.beq j id=false)(h:∀a,Fr n ds L a->X j a w):∀a,Fr n ds L a->upd X id M j a w:=λa c=>WB b (h a c)
theorem Of{c:Operand}{x y:Code}(d:ev L c=some (.bool true))(h:∀a,Fr n ds L a->x.wp P (Qp N X R) a w):∀a,Fr n ds L a->(Code.cond c x y).wp P (Qp N X R) a w:=λa b=>Oc b d (h a b)
theorem Ef{c:Operand}{x y:Code}(d:ev L c=some (.bool false))(h:∀a,Fr n ds L a->y.wp P (Qp N X R) a w):∀a,Fr n ds L a->(Code.cond c x y).wp P (Qp N X R) a w:=λa b=>Mr b d (h a b)
theorem Og{c:Operand}{x y:Code}{b:Bool}(g:ev L c=some (.bool b))(e:b=true->∀a,Fr n ds L a->x.wp P (Qp N X R) a w)(f:b=false->∀a,Fr n ds L a->y.wp P (Qp N X R) a w):∀a,Fr n ds L a->(Code.cond c x y).wp P (Qp N X R) a w:=
 λa d=>Od d g (λh=>e h a d) (λh=>f h a d)
theorem Fe{c:Operand}{x y:Code}{p:Prop}[hp:Decidable p](f:ev L c=some (.bool (decide p)))(d:p->∀a,Fr n ds L a->x.wp P (Qp N X R) a w)(e:¬p->∀a,Fr n ds L a->y.wp P (Qp N X R) a w):∀a,Fr n ds L a->(Code.cond c x y).wp P (Qp N X R) a w:=
 λa b=>WC b f (λh=>d h a b) (λh=>e h a b)
end framed
theorem Oh{n:Nat}{ds:List Deferred}{L:List (Nat×Value)}{c:Code}{σ:Type}(h:σ->List (Nat×Value))(G:σ->World->Prop)(m:σ->Nat)(v:σ)
  (h₀:∀a,Fr n ds L a->Fr n ds (h v) a)(g₀:G v w)
  (g:∀s w,G s w->∀a,Fr n ds (h s) a->c.wp P (Qp (λa' w'=>∃o,Fr n ds (h o) a'/\G o w'/\m o<m s) X R) a w):∀a,Fr n ds L a->(Code.loop c).wp P (Qp N X R) a w:=by
 intro a hF b k cs;have p:∀n' s a w,m s=n'->Fr n ds (h s) a->G s w->
   ∃e a' w',Qp N X R e a' w'/\Arrives P (lone (b.at a (.code c:: .inLoop c::k)) cs w) b k cs e a' w':=by
  intro n'
  induction n' using Nat.strongRecOn with
  | _ n' ih=>
   intro s a w z hI hG;obtain ⟨e,u,r,hq,d⟩:=g s w hG a hI b (.inLoop c::k) cs
   cases e with
   | normal=>
    obtain ⟨y,i,q,j⟩:=hq;obtain ⟨e₂,a₂,w₂,t,f⟩:=ih (m y) (z▸j) y u r Z i q;exact ⟨e₂,a₂,w₂,t,.of_steps (Steps.trans d (.one step_inLoop)) f⟩
   | exit id=>exact ⟨.exit id,u,r,hq,.pass (x:=.inLoop c) Z (λ_ _=>.inl O) d⟩
   | ret=>exact ⟨.ret,u,r,hq,.pass (x:=.inLoop c) Z (λ_ _=>.inl O) d⟩
   | goto l=>exact hq.elim
   | panic ch=>exact hq.elim
   | outgrown=>exact hq.elim
 obtain ⟨e,a',w',hq,d⟩:=p _ v a w Z (h₀ a hF) g₀;exact ⟨e,a',w',hq,.of_steps (.one step_loop) d⟩
end
def Ret(R:Value->World->Prop):Ending->World->Prop
 | .returned v,w=>R v w
 | _,_=>False
theorem Ret.mono{P:Program}{f:FuncId}{args:Array Value}{w:World}{R R':Value->World->Prop}(h:Calls P f args w (Ret R))(a:∀v w',R v w'->R' v w'):Calls P f args w (Ret R'):=
 Aaq h λe w' q=>by cases e<;>first|exact a _ _ q|exact q
def E8(P:Program)(fn:Func)(R:Value->World->Prop)(a:Act)(w:World):Prop:=
 a.defers=[]/\∃v,(results fn a.tmps).run P w=.ok v w/\R v w
theorem enter{P:Program}{f:FuncId}{b:Func}{c:Code}{args:List Value}{w:World}{R:Value->World->Prop}(m:P.funcs[f]?=some b)(o:b.body=some c)(n:Nat)(k:b.ntmps=n)(d:Nat.ble args.length n=true)
  (h:∀a,Fr n [] (first 0 args) a->c.wp P (Qp (E8 P b R) GR (E8 P b R)) a w):Calls P f args.toArray w (Ret R):=by
 refine calls_of_wp m o (wp_mono (h _ (by rw[k];exact Fr.start args n (by simpa using d))) λe a w q=>?_)
 cases e with
 | normal=>obtain ⟨j,v,g,i⟩:=q;exact ⟨j,v,g,i⟩
 | ret=>obtain ⟨j,v,g,i⟩:=q;exact ⟨j,v,g,i⟩
 | exit id=>exact q.elim
 | goto l=>exact q.elim
 | panic ch=>exact q.elim
 | outgrown=>exact q.elim
def U7(P:Program)(L:List (Nat×Value))(w:World):ResultVar->Value->Prop
 | .tmp t,v=>BZ L t=some v
 | .cell t ty,v=>∃b p,BZ L t=some (.pointer (some ⟨b,p,none⟩))/\(loadVar ty ⟨b,p,none⟩).run P w=.ok v w
def DN(P:Program)(L:List (Nat×Value))(w:World):List ResultVar->List Value->Prop
 | [],[]=>True
 | r::rs,v::vs=>U7 P L w r v/\DN P L w rs vs
 | _,_=>False
theorem IP{P:Program}{n:Nat}{ds:List Deferred}{L:List (Nat×Value)}{a:Act}{w:World}(c:Fr n ds L a):∀(rs:List ResultVar) (vs:List Value),DN P L w rs vs->
  (rs.mapM (λx=>match x with
   | ResultVar.tmp t=>(Pure.pure (a.tmps.getD t undef):Sem Value)
   | ResultVar.cell p t=>do loadVar t (<-asAddr (a.tmps.getD p undef)))).run P w=.ok vs w
 | [],[],_=>by simp[go_sem]
 | [],_::_,h=>h.elim
 | _::_,[],h=>h.elim
 | r::rs,v::vs,h=>by
  have ih:=IP c rs vs h.2;have d:=h.1
  cases r with
  | tmp t=>
   simp only[U7] at d;simp only[List.mapM_cons,Yc,Yh,X6,ih];simp[Array.getD,c.get t v d];have:=c.get t v d;rw[YF] at this;obtain ⟨f,k⟩:=this;simp[f,k]
  | cell t ty=>
   obtain ⟨b,p,j,i⟩:=d;have l:=c.get t _ j;have e:a.tmps.getD t undef=.pointer (some ⟨b,p,none⟩):=by simp[l]
   have g:(asAddr (a.tmps.getD t undef)).run P w=.ok ⟨b,p,none⟩ w:=by rw[e];rfl
   simp only[List.mapM_cons,Yc,Yh,X6,g,i,ih]
def FM:List Value->Value
 | [v]=>v
 | vs=>.tuple vs.toArray
theorem FY{P:Program}{b:Func}{n:Nat}{ds:List Deferred}{L:List (Nat×Value)}{a:Act}{w:World}(c:Fr n ds L a){rs:List ResultVar}(e:b.results=rs.toArray){vs:List Value}(g:DN P L w rs vs):(results b a.tmps).run P w=.ok (FM vs) w:=by
 have d:=IP c rs vs g;have f:(List.toArray<$> (rs.mapM (λx=>match x with
   | ResultVar.tmp t=>(Pure.pure (a.tmps.getD t undef):Sem Value)
   | ResultVar.cell p t=>do loadVar t (<-asAddr (a.tmps.getD p undef))))).run P w=.ok vs.toArray w:=by
  show (Sem.bind _ _).run P w=_;have:=Yc (P:=P) (w:=w) (rs.mapM (λx=>match x with
   | ResultVar.tmp t=>(Pure.pure (a.tmps.getD t undef):Sem Value)
   | ResultVar.cell p t=>do loadVar t (<-asAddr (a.tmps.getD p undef)))) (λx=>(Pure.pure x.toArray:Sem (Array Value)))
  refine this.trans ?_;rw[d];rfl
 unfold results;rw[e,List.mapM_toArray,Yc]
 erw [f]
 simp only[X6,Yh]
 cases vs with
 | nil=>rfl
 | cons x xs=>cases xs with
  | nil=>rfl
  | cons y ys=>simp[FM]
theorem FN{P:Program}{c:Func}{R:Value->World->Prop}{n:Nat}{L:List (Nat×Value)}{w:World}{rs:List ResultVar}(d:c.results=rs.toArray)(vs:List Value)(f:DN P L w rs vs){v:Value}(e:FM vs=v)(h:R v w):∀a,Fr n [] L a->E8 P c R a w:=λa b=>
 ⟨b.defers,v,by rw[<-e];exact FY b d f,h⟩
theorem WE{P:Program}{b:Func}{R:Value->World->Prop}{n:Nat}{L:List (Nat×Value)}{a:Act}{w:World}(c:Fr n [] L a)(d:b.results= #[])(h:R (.tuple #[]) w):E8 P b R a w:=
 ⟨c.defers,_,by simp[results,d,go_sem],h⟩
theorem U8{P:Program}{b:Func}{R:Value->World->Prop}{n:Nat}{L:List (Nat×Value)}{w:World}(d:b.results= #[])(h:R (.tuple #[]) w):∀a,Fr n [] L a->E8 P b R a w:=λ_ c=>WE c d h
end
section
structure Ext(F:Nat->Prop)(w w':World):Prop where
 os:w'.os=w.os
 tape:w'.tape=w.tape
 output:w'.output=w.output
 size:w.heap.size<=w'.heap.size
 block:∀k,k<w.heap.size->¬F k->w'.heap[k]?=w.heap[k]?
def No:Nat->Prop:=λ_=>False
theorem Ext.refl(F:Nat->Prop)(w:World):Ext F w w:=⟨Z,Z,Z,Yo _,λ_ _ _=>rfl⟩
theorem Ext.mono{F b:Nat->Prop}{w w':World}(h:Ext F w w')(d:∀k,k<w.heap.size->F k->b k):Ext b w w':=
 ⟨h.os,h.tape,h.output,h.size,λk a c=>h.block k a (λq=>c (d k a q))⟩
theorem Ext.below{w w':World}(h:Ext No w w'):Below w.heap.size w w':=⟨h.os,h.tape,h.output,h.size,λk a=>h.block k a (λq=>q)⟩
theorem Ext.of_grown{w w':World}{a:Option Nat}(h:w.grownBy w' a):Ext (λk=>some k=a) w w':=⟨h.os,h.tape,h.output,h.size,λk c b=>h.block k c b⟩
theorem Ext.drawn(F:Nat->Prop)(w:World):Ext F w {w with drawn:=w.drawn+1} :=⟨Z,Z,Z,Yo _,λ_ _ _=>rfl⟩
def Blk(b:Nat)(cs:List Value)(ty:TypeId)(w:World):Prop:=w.heap[b]?=some (.cells cs.toArray ty (0,0))
def EI(b o:Nat)(v:Value)(w:World):Prop:=w.cell? ⟨b,o,none⟩=some v
theorem Oi{w:World}{b:Nat}{o:Obj}(h:w.heap[b]?=some o):b<w.heap.size:=by
 rcases Yg b w.heap.size with h'|h'
 ·exact h'
 rw[Yu h'] at h;cases h
theorem Blk.lt{b:Nat}{cs:List Value}{ty:TypeId}{w:World}(h:Blk b cs ty w):b<w.heap.size:=Oi h
theorem Blk.cel{b:Nat}{cs:List Value}{ty:TypeId}{w:World}(h:Blk b cs ty w)(o:Nat){v:Value}(a:cs[o]?=some v):EI b o v w:=by
 unfold EI World.cell?;have h':w.heap[b]?=some (.cells cs.toArray ty (0,0)):=h;simp[h',a]
theorem Blk.free{b:Nat}{cs:List Value}{ty:TypeId}{w:World}(h:Blk b cs ty w)(o:Nat):w.frozen? ⟨b,o,none⟩=false:=by
 unfold World.frozen?;have h':w.heap[b]?=some (.cells cs.toArray ty (0,0)):=h;simp[h']
def Xs(P:Program)(C:World->Prop)(o:Oper)(a:Act)(v:Value):Prop:=∀w,C w->(execOp a.eval o).run P w=.ok (.value v) w
def Ao(P:Program)(C:World->Prop)(n:Nat)(ds:List Deferred)(L:List (Nat×Value))(o:Oper)(v:Value):Prop:=∀a,Fr n ds L a->Xs P C o a v
def Xt(P:Program)(o:Oper)(a:Act)(w:World)(R:Value->World->Prop):Prop:=∃v w',(execOp a.eval o).run P w=.ok (.value v) w'/\R v w'
def Xu(P:Program)(o:Oper)(a:Act)(w:World)(R:World->Prop):Prop:=∃w',(execOp a.eval o).run P w=.ok .skip w'/\R w'
def BJ(P:Program)(n:Nat)(ds:List Deferred)(L:List (Nat×Value))(o:Oper)(w:World)(R:Value->World->Prop):Prop:=∀a,Fr n ds L a->Xt P o a w R
def Dj(P:Program)(n:Nat)(ds:List Deferred)(L:List (Nat×Value))(o:Oper)(w:World)(R:World->Prop):Prop:=∀a,Fr n ds L a->Xu P o a w R
def Bv(ops:List Oper)(L:List (Nat×Value)):Option (Nat×Bool)->Bool
 | none=>true
 | some (j,b)=>match (ops[j]?).bind (·.dst) with
  | some t=>match BZ L t with
   | some (.bool c)=>(match c,b with|true,true=>true|false,false=>true|_,_=>false)
   | _=>false
  | none=>false
def DW(ops:List Oper)(L:List (Nat×Value)):Option (Nat×Bool)->Bool
 | none=>false
 | some (j,b)=>match (ops[j]?).bind (·.dst) with
  | some t=>match BZ L t with
   | some (.bool c)=>(match c,b with|true,false=>true|false,true=>true|_,_=>false)
   | some (.tuple _)=>true
   | _=>false
  | none=>false
theorem wantL_ok{ops:List Oper}{L:List (Nat×Value)}{n:Nat}{ds:List Deferred}{a:Act}{o:Oper}(d:Fr n ds L a)(h:Bv ops L o.guard=true):Region.wanted o (yielded ops.toArray a.tmps)=true:=by
 unfold Region.wanted
 cases hg:o.guard with
 | none=>rfl
 | some g=>
  obtain ⟨j,b⟩:=g;rw[hg] at h;simp only[Bv] at h;simp only[yielded,YK]
  cases ht:(ops[j]?).bind (·.dst) with
  | none=>rw[ht] at h;cases h
  | some t=>
   rw[ht] at h;simp only at h
   cases hl:BZ L t with
   | none=>rw[hl] at h;cases h
   | some v=>
    rw[hl] at h;have e:=d.get t v hl;cases v<;>simp at h;rename_i c;simp only[Aai,e];cases c<;>cases b<;>simp at h ⊢
theorem skipL_ok{ops:List Oper}{L:List (Nat×Value)}{n:Nat}{ds:List Deferred}{a:Act}{o:Oper}(d:Fr n ds L a)(h:DW ops L o.guard=true):Region.wanted o (yielded ops.toArray a.tmps)=false:=by
 unfold Region.wanted
 cases hg:o.guard with
 | none=>rw[hg] at h;cases h
 | some g=>
  obtain ⟨j,b⟩:=g;rw[hg] at h;simp only[DW] at h;simp only[yielded,YK]
  cases ht:(ops[j]?).bind (·.dst) with
  | none=>rw[ht] at h;cases h
  | some t=>
   rw[ht] at h;simp only at h
   cases hl:BZ L t with
   | none=>rw[hl] at h;cases h
   | some v=>
    rw[hl] at h;have e:=d.get t v hl;simp only[Aai,e];cases v<;>simp at h ⊢;rename_i c;cases c<;>cases b<;>simp at h ⊢
section steps
variable{P:Program}{ops:List Oper}{Q:Exit->Act->World->Prop}{a:Act}{w:World}{rest:List Oper}{o:Oper}{n d:Nat}{ds:List Deferred}{L:List (Nat×Value)}{v:Value}
theorem AB{p:World->Prop}{w:World}(h:p w):∀w',w'=w->p w':=λw' e=>by subst e;exact h
theorem s_do(f:Bv ops L o.guard=true)(g:o.dst=some d)(e:Nat.blt d n=true)(c:Ao P (· =w) n ds L o v)(K:∀a',Fr n ds ((d,v)::L) a'->wpList P ops.toArray Q rest a' w):∀a,Fr n ds L a->wpList P ops.toArray Q (o::rest) a w:=by
 intro a b;unfold wpList;rw[if_pos (wantL_ok b f)];left;unfold Oper.wp;rw[c a b w Z,Z6,g];exact K _ (b.put d v e)
theorem Oj(e:DW ops L o.guard=true)(f:o.dst=some d)(b:Nat.blt d n=true)(K:∀a',Fr n ds ((d,undef)::L) a'->wpList P ops.toArray Q rest a' w):∀a,Fr n ds L a->wpList P ops.toArray Q (o::rest) a w:=by
 intro a c;unfold wpList;rw[if_neg (by rw[skipL_ok c e];exact Aac),f];exact K _ (c.put d undef b)
theorem Td(d:DW ops L o.guard=true)(c:o.dst=none)(K:∀a,Fr n ds L a->wpList P ops.toArray Q rest a w):∀a,Fr n ds L a->wpList P ops.toArray Q (o::rest) a w:=by
 intro a b;unfold wpList;rw[if_neg (by rw[skipL_ok b d];exact Aac),c];exact K a b
theorem E9{R:Value->World->Prop}(f:Bv ops L o.guard=true)(i:o.dst=some d)(c:Nat.blt d n=true)(h:BJ P n ds L o w R)(K:∀v w',R v w'->∀a',Fr n ds ((d,v)::L) a'->wpList P ops.toArray Q rest a' w'):∀a,Fr n ds L a->wpList P ops.toArray Q (o::rest) a w:=by
 intro a b;obtain ⟨v,w',e,g⟩:=h a b;unfold wpList;rw[if_pos (wantL_ok b f)];left;unfold Oper.wp;rw[e,Z6,i];exact K v w' g _ (b.put d v c)
theorem EX{R:World->Prop}(e:Bv ops L o.guard=true)(c:o.dst=none)(h:Dj P n ds L o w R)(K:∀w',R w'->∀a,Fr n ds L a->wpList P ops.toArray Q rest a w'):∀a,Fr n ds L a->wpList P ops.toArray Q (o::rest) a w:=by
 intro a b;obtain ⟨w',d,f⟩:=h a b;unfold wpList;rw[if_pos (wantL_ok b e)];left;unfold Oper.wp;rw[d,Oper.upon_skip,c];exact K w' f a b
theorem Ol{p:Prop}[Decidable p](t:Nat)(b:BZ L t=some (.bool (decide p)))(e:p->∀a,Fr n ds ((t,.bool true)::L) a->wpList P ops.toArray Q (o::rest) a w)(d:¬p->∀a,Fr n ds ((t,.bool false)::L) a->wpList P ops.toArray Q (o::rest) a w):∀a,Fr n ds L a->wpList P ops.toArray Q (o::rest) a w:=by
 intro a c;by_cases h:p
 ·exact e h a (c.upd t b (by simp[h]))
 exact d h a (c.upd t b (by simp[h]))
theorem Qj{b:Bool}(t:Nat)(c:BZ L t=some (.bool b))(f:b=true->∀a,Fr n ds ((t,.bool true)::L) a->wpList P ops.toArray Q (o::rest) a w)(e:b=false->∀a,Fr n ds ((t,.bool false)::L) a->wpList P ops.toArray Q (o::rest) a w):∀a,Fr n ds L a->wpList P ops.toArray Q (o::rest) a w:=by
 intro a d
 cases b with
 | true=>exact f Z a (d.upd t c Z)
 | false=>exact e Z a (d.upd t c Z)
theorem AM{N R:Act->World->Prop}{X:Nat->Act->World->Prop}(h:∀a,Fr n ds L a->N a w):∀a,Fr n ds L a->wpList P ops.toArray (Qp N X R) [] a w:=h
theorem AF{id:Nat}{N R:Act->World->Prop}{X:Nat->Act->World->Prop}(h:∀a,Fr n ds L a->wpList P ops.toArray (Qp N X R) ops a w):∀a,Fr n ds L a->(Code.region id ops.toArray false).wp P (Qp N X R) a w:=λa b=>wp_region_lit (h a b)
theorem Om{R:Value->World->Prop}{f:FuncId}{args:List Operand}{vs:List Value}{tys:Array TypeId}(p:Bv ops L o.guard=true)(m:o.dst=some d)(i:Nat.blt d n=true)
  (l:o.op=.call {callee:=.value (.func f),args:=args.toArray,argTypes:=tys})(b:evs L args=some vs)(k:∀w,(callFunc f vs.toArray).run P w=.ok (.enter f vs.toArray) w)(h:Calls P f vs.toArray w (Ret R))
  (K:∀v w',R v w'->∀a',Fr n ds ((d,v)::L) a'->wpList P ops.toArray Q rest a' w'):∀a,Fr n ds L a->wpList P ops.toArray Q (o::rest) a w:=by
 intro a j;unfold wpList;rw[if_pos (wantL_ok j p)];left;have g:(execOp a.eval o).run P w=.ok (.enter f vs.toArray) w:=by
  unfold execOp;have e:=j.evs b;simp only[l,resolve,Act.eval,Deferred.ofValue,invoke];simp only[go_sem,Yt,e,Ym,YG,k];simpa using k w
 unfold Oper.wp;rw[g,AaW];exact Aaq h λe w' q=>by
  cases e with
  | returned v=>simp only[m];exact K v w' q _ (j.put d v i)
  | panicked c=>exact q.elim
  | outgrown=>exact q.elim
end steps

section quiet
variable{P:Program}{ops:List Oper}{C:World->Prop}{Q:Act->Prop}{a:Act}{rest:List Oper}{o:Oper}{n d:Nat}{ds:List Deferred}{L:List (Nat×Value)}{v:Value}
theorem Bd(g:Bv ops L o.guard=true)(h:o.dst=some d)(e:Nat.blt d n=true)(c:Ao P C n ds L o v)(K:∀a',Fr n ds ((d,v)::L) a'->wpQuiet P ops.toArray C Q rest a'):∀a,Fr n ds L a->wpQuiet P ops.toArray C Q (o::rest) a:=λa b=>
 wpQuiet_step λK' i=>by
  rw[if_pos (wantL_ok b g)];refine ⟨v,λw f=>?_,i _ ?_⟩
  ·unfold Oper.quietAt;rw[c a b w f];exact ⟨Z,Z⟩
  rw[h];exact K _ (b.put d v e)
theorem On(g:DW ops L o.guard=true)(f:o.dst=some d)(b:Nat.blt d n=true)(K:∀a',Fr n ds ((d,undef)::L) a'->wpQuiet P ops.toArray C Q rest a'):∀a,Fr n ds L a->wpQuiet P ops.toArray C Q (o::rest) a:=λa c=>
 wpQuiet_step λK' e=>by
  rw[if_neg (by rw[skipL_ok c g];exact Aac)];exact e _ (by rw[f];exact K _ (c.put d undef b))
theorem Co{p:Prop}[Decidable p](t:Nat)(b:BZ L t=some (.bool (decide p)))(e:p->∀a,Fr n ds ((t,.bool true)::L) a->wpQuiet P ops.toArray C Q (o::rest) a)(d:¬p->∀a,Fr n ds ((t,.bool false)::L) a->wpQuiet P ops.toArray C Q (o::rest) a):∀a,Fr n ds L a->wpQuiet P ops.toArray C Q (o::rest) a:=by
 intro a c;by_cases h:p
 ·exact e h a (c.upd t b (by simp[h]))
 exact d h a (c.upd t b (by simp[h]))
theorem CN{f:FuncId}{args:List Operand}{vs:List Value}{tys:Array TypeId}(s:Bv ops L o.guard=true)(r:o.dst=some d)(i:Nat.blt d n=true)
  (l:o.op=.call {callee:=.value (.func f),args:=args.toArray,argTypes:=tys})(b:evs L args=some vs)(k:∀w,(callFunc f vs.toArray).run P w=.ok (.enter f vs.toArray) w)(h:∀w,C w->Calls P f vs.toArray w (Ret λu w'=>u=v/\C w'))
  (K:∀a',Fr n ds ((d,v)::L) a'->wpQuiet P ops.toArray C Q rest a'):∀a,Fr n ds L a->wpQuiet P ops.toArray C Q (o::rest) a:=λa j=>
 wpQuiet_step λK' p=>by
  rw[if_pos (wantL_ok j s)];refine ⟨v,λw m=>?_,p _ ?_⟩
  ·have g:(execOp a.eval o).run P w=.ok (.enter f vs.toArray) w:=by
    unfold execOp;have e:=j.evs b;simp only[l,resolve,Act.eval,Deferred.ofValue,invoke];simp only[go_sem,Yt,e,Ym,YG,k];simpa using k w
   unfold Oper.quietAt;rw[g];refine ⟨Z,Aaq (h w m) λe w' q=>?_⟩
   cases e with
   | returned u=>exact ⟨by rw[q.1],q.2⟩
   | panicked c=>exact q.elim
   | outgrown=>exact q.elim
  rw[r];exact K _ (j.put d v i)
theorem Bn{N:Act->World->Prop}(h:∀w',C w'->∀a,Fr n ds L a->N a w'):∀a,Fr n ds L a->wpQuiet P ops.toArray C (λa'=>∀w',C w'->N a' w') [] a:=λa b w' c=>h w' c a b
theorem A4{id:Nat}{N R:Act->World->Prop}{X:Nat->Act->World->Prop}{w:World}(C:World->Prop)(c:P.follows .mixedOrders=true)(e:Region.lexB .any ops.toArray=true)(d:C w.drew)
  (h:∀a,Fr n ds L a->wpQuiet P ops.toArray C (λa'=>∀w',C w'->N a' w') ops a):∀a,Fr n ds L a->(Code.region id ops.toArray true).wp P (Qp N X R) a w:=λa b=>
 wp_region_quiet (C:=C) c e d (h a b)
end quiet
end
section
section
variable{P:Program}{C:World->Prop}{o:Oper}{a:Act}{n:Nat}{ds:List Deferred}{L:List (Nat×Value)}{v:Value}
theorem C4{x:Operand}(d:o.op=.move x)(c:ev L x=some v):Ao P C n ds L o v:=λa b w _=>by
 simp only[execOp,d,b.ev c];rfl
theorem Bq{x:Operand}(d:o.op=.assign x)(c:ev L x=some v):Ao P C n ds L o v:=λa b w _=>by
 simp only[execOp,d,b.ev c];rfl
theorem KN{c x y:Operand}(d:o.op=.pick c x y)(f:ev L c=some (.bool true))(e:ev L x=some v):Ao P C n ds L o v:=λa b w _=>by
 simp only[execOp,d,b.ev f,b.ev e];simp[go_sem]
theorem KO{c x y:Operand}(d:o.op=.pick c x y)(f:ev L c=some (.bool false))(e:ev L y=some v):Ao P C n ds L o v:=λa b w _=>by
 simp only[execOp,d,b.ev f,b.ev e];simp[go_sem]

def CZ(P:Program)(s t:TypeId):Option IntKind:=match P.underlying s,P.underlying t with
 | some _,some (.int k)=>some k
 | _,_=>none
theorem D4{s t:TypeId}{k:IntKind}(h:CZ P s t=some k):∃d,P.underlying s=some d/\P.underlying t=some (.int k):=by
 unfold CZ at h;split at h
 ·rename_i d c a b;simp only[X0] at h;subst h;exact ⟨d,a,b⟩
 cases h
def CE(P:Program)(t:TypeId):Option Nat:=match P.underlying t with
 | some (.slice e)=>(P.info? e).map (·.size)
 | _=>none
theorem Eg{t:TypeId}{z:Nat}(h:CE P t=some z):∃e i,P.underlying t=some (.slice e)/\P.info? e=some i/\i.size=z:=by
 unfold CE at h;split at h
 ·rename_i e a
  cases hi:P.info? e with
  | none=>rw[hi] at h;cases h
  | some i=>rw[hi] at h;exact ⟨e,i,a,hi,by simpa using h⟩
 cases h
def Gs(P:Program)(t:TypeId):Option (Nat×Nat):=match P.underlying t with
 | some (.array l e)=>(P.info? e).map λi=>(l,i.size)
 | _=>none
theorem Gt{t:TypeId}{l z:Nat}(h:Gs P t=some (l,z)):∃e i,P.underlying t=some (.array l e)/\P.info? e=some i/\i.size=z:=by
 unfold Gs at h;split at h
 ·rename_i l' e a
  cases hi:P.info? e with
  | none=>rw[hi] at h;cases h
  | some i=>
   rw[hi] at h;simp only[Ys,X0,AaE] at h;obtain ⟨rfl,b⟩:=h;exact ⟨e,i,a,hi,b⟩
 cases h
def Du(P:Program)(s:TypeId)(f:Nat):Option Nat:=match P.underlying s with
 | some (.struct fs)=>match fs[f]? with
  | some fd=>match P.info? fd.type with
   | some i=>bif Nat.beq i.size 0 then none else some fd.offset
   | none=>none
  | none=>none
 | _=>none
theorem Mb{s:TypeId}{f k:Nat}(h:Du P s f=some k):∃b a i,P.underlying s=some (.struct b)/\b[f]?=some a/\P.info? a.type=some i/\i.size≠0/\a.offset=k:=by
 unfold Du at h;split at h
 ·rename_i b c
  split at h
  ·rename_i a d
   split at h
   ·rename_i i e
    cases hb:Nat.beq i.size 0 with
    | true=>rw[hb] at h;cases h
    | false=>
     rw[hb] at h;exact ⟨b,a,i,c,d,e,ZO hb,by simpa using h⟩
   cases h
  cases h
 cases h
def Gu(P:Program)(t:TypeId):Option Nat:=match P.underlying t with
 | some (.struct _)=>(P.info? t).map (·.size)
 | some (.array _ _)=>(P.info? t).map (·.size)
 | _=>none
theorem KP{t:TypeId}{z:Nat}(h:Gu P t=some z)(w:World):(isAgg t).run P w=.ok true w/\(sizeOf t).run P w=.ok z w:=by
 have a:∀d,P.underlying t=some d->((d matches .struct _)=true\/(d matches .array _ _)=true)->(P.info? t).map (·.size)=some z->(isAgg t).run P w=.ok true w/\(sizeOf t).run P w=.ok z w:=by
  intro d e b hs
  cases hi:P.info? t with
  | none=>rw[hi] at hs;cases hs
  | some i=>
   rw[hi] at hs;simp only[Ys,X0] at hs;refine ⟨?_,by simp[sizeOf,typeInfo,hi,go_sem,hs]⟩;unfold isAgg;simp only[run_underlying e,go_sem,Yc,X6];rcases b with b|b<;>(cases d<;>simp at b ⊢)
 unfold Gu at h;split at h
 ·rename_i c;exact a _ c (.inl Z) h
 ·rename_i c;exact a _ c (.inr Z) h
 cases h

section ints
variable{x y:Operand}{xt yt:TypeId}{k:IntKind}{p q:Int}
theorem SE(d:o.op=.binOp .add xt x y yt)(c:ev L x=some (.int k p))(e:ev L y=some (.int k q)):Ao P C n ds L o (.int k (k.wrap (p+q))):=λa b w _=>by
 simp only[execOp,d,b.ev c,b.ev e];simp[go_sem]
theorem WF(d:o.op=.binOp .sub xt x y yt)(c:ev L x=some (.int k p))(e:ev L y=some (.int k q)):Ao P C n ds L o (.int k (k.wrap (p-q))):=λa b w _=>by
 simp only[execOp,d,b.ev c,b.ev e];simp[go_sem]
theorem SF(d:o.op=.binOp .mul xt x y yt)(c:ev L x=some (.int k p))(e:ev L y=some (.int k q)):Ao P C n ds L o (.int k (k.wrap (p*q))):=λa b w _=>by
 simp only[execOp,d,b.ev c,b.ev e];simp[go_sem]
theorem SG(d:o.op=.binOp .quo xt x y yt)(e:ev L x=some (.int k p))(f:ev L y=some (.int k q))(c:q≠0):Ao P C n ds L o (.int k (k.wrap (p.tdiv q))):=λa b w _=>by
 simp only[execOp,d,b.ev e,b.ev f];simp[go_sem,c]
theorem KD(d:o.op=.binOp .rem xt x y yt)(e:ev L x=some (.int k p))(f:ev L y=some (.int k q))(c:q≠0):Ao P C n ds L o (.int k (p.tmod q)):=λa b w _=>by
 simp only[execOp,d,b.ev e,b.ev f];simp[go_sem,c]
theorem Nr(d:o.op=.binOp .lss xt x y yt)(c:ev L x=some (.int k p))(e:ev L y=some (.int k q)):Ao P C n ds L o (.bool (decide (p<q))):=λa b w _=>by
 simp only[execOp,d,b.ev c,b.ev e];simp[go_sem]
theorem SH(d:o.op=.binOp .leq xt x y yt)(c:ev L x=some (.int k p))(e:ev L y=some (.int k q)):Ao P C n ds L o (.bool (decide (p<=q))):=λa b w _=>by
 simp only[execOp,d,b.ev c,b.ev e];simp[go_sem]
theorem SI(d:o.op=.binOp .gtr xt x y yt)(c:ev L x=some (.int k p))(e:ev L y=some (.int k q)):Ao P C n ds L o (.bool (decide (q<p))):=λa b w _=>by
 simp only[execOp,d,b.ev c,b.ev e];simp[go_sem]
theorem SJ(d:o.op=.binOp .geq xt x y yt)(c:ev L x=some (.int k p))(e:ev L y=some (.int k q)):Ao P C n ds L o (.bool (decide (q<=p))):=λa b w _=>by
 simp only[execOp,d,b.ev c,b.ev e];simp[go_sem]
theorem SK(d:o.op=.binOp .eql xt x y yt)(c:ev L x=some (.int k p))(e:ev L y=some (.int k q)):Ao P C n ds L o (.bool (decide (p=q))):=λa b w _=>by
 simp only[execOp,d,b.ev c,b.ev e];simp[go_sem];rw[Yf];simp
theorem Ns(d:o.op=.binOp .neq xt x y yt)(c:ev L x=some (.int k p))(e:ev L y=some (.int k q)):Ao P C n ds L o (.bool (decide (p≠q))):=λa b w _=>by
 simp only[execOp,d,b.ev c,b.ev e];simp[go_sem];rw[Yf];simp
theorem Cm(c:o.op=.binOp .add xt x y yt)(b:ev L x=some (Aa p))(d:ev L y=some (Aa q)){r:Int}(e:p+q=r)(a: -9223372036854775808<=r/\r<=9223372036854775807):Ao P C n ds L o (Aa r):=by
 have:=SE (P:=P) (C:=C) (n:=n) (ds:=ds) (L:=L) c b d;rwa[e,Y1 _ a] at this
theorem Js(c:o.op=.binOp .sub xt x y yt)(b:ev L x=some (Aa p))(d:ev L y=some (Aa q)){r:Int}(e:p-q=r)(a: -9223372036854775808<=r/\r<=9223372036854775807):Ao P C n ds L o (Aa r):=by
 have:=WF (P:=P) (C:=C) (n:=n) (ds:=ds) (L:=L) c b d;rwa[e,Y1 _ a] at this
theorem Jt(c:o.op=.binOp .mul xt x y yt)(b:ev L x=some (Aa p))(d:ev L y=some (Aa q)){r:Int}(e:p*q=r)(a: -9223372036854775808<=r/\r<=9223372036854775807):Ao P C n ds L o (Aa r):=by
 have:=SF (P:=P) (C:=C) (n:=n) (ds:=ds) (L:=L) c b d;rwa[e,Y1 _ a] at this
theorem Ms(b:o.op=.binOp .quo xt x y yt)(d:ev L x=some (Aa p))(e:ev L y=some (Aa q)){r:Int}(a:0<=p)(g:0<q)(c:p/q=r)(f:p<=9223372036854775807):Ao P C n ds L o (Aa r):=by
 have:=SG (P:=P) (C:=C) (n:=n) (ds:=ds) (L:=L) b d e U;rw[AaF a] at this;have i:0<=p/q:=Int.ediv_nonneg a U;have h:p/q<=p:=Int.ediv_le_self q a;rwa[c,Y1 _ U] at this
theorem Mt(d:o.op=.binOp .rem xt x y yt)(b:ev L x=some (.int k p))(e:ev L y=some (.int k q)){r:Int}(c:0<=p)(a:q≠0)(f:p%q=r):Ao P C n ds L o (.int k r):=by
 have:=KD (P:=P) (C:=C) (n:=n) (ds:=ds) (L:=L) d b e a;rwa[AaG c,f] at this
theorem SL(d:o.op=.unOp .neg xt x)(c:ev L x=some (.int k p)):Ao P C n ds L o (.int k (k.wrap (0-p))):=λa b w _=>by
 simp only[execOp,d,b.ev c];simp[go_sem]
theorem Mu(c:o.op=.unOp .neg xt x)(b:ev L x=some (Aa p)){r:Int}(d: -p=r)(a: -9223372036854775808<=r/\r<=9223372036854775807):Ao P C n ds L o (Aa r):=by
 have:=SL (P:=P) (C:=C) (n:=n) (ds:=ds) (L:=L) c b;rwa[show (0:Int)-p=r from by omega,Y1 _ a] at this
theorem GV{d:TypeId}{c:IntKind}(g:o.op=.convert xt d x)(b:CZ P xt d=some c)(h:ev L x=some (.int k p)):Ao P C n ds L o (.int c (c.wrap p)):=λa e w _=>by
 obtain ⟨i,f,b⟩:=D4 b;simp only[execOp,g,e.ev h];simp[convert,run_underlying f,run_underlying b,go_sem]
end ints

def IQ(P:Program)(t:TypeId):Bool:=match P.underlying t with|some .bool=>true|_=>false
theorem J5{t:TypeId}(h:IQ P t=true):P.underlying t=some .bool:=by
 unfold IQ at h;split at h
 ·assumption
 cases h
theorem KE{xt:TypeId}{x:Operand}(d:o.op=.unOp .not xt x){b:Bool}(e:ev L x=some (.bool b)):Ao P C n ds L o (.bool !b):=λa c w _=>by
 simp only[execOp,d,c.ev e];simp[go_sem]
theorem AL{xt:TypeId}{x:Operand}(c:o.op=.unOp .not xt x){p:Prop}[Decidable p](d:ev L x=some (.bool (decide p))):Ao P C n ds L o (.bool (decide (¬p))):=λa b w _=>by
 simp only[execOp,c,b.ev d];simp[go_sem]
theorem U9{xt yt:TypeId}{x y:Operand}(f:o.op=.binOp .eql xt x y yt){b c:Bool}(d:IQ P xt=true)(g:ev L x=some (.bool b))(h:ev L y=some (.bool c)):Ao P C n ds L o (.bool (decide (b=c))):=λa e w _=>by
 have d:=J5 d;simp only[execOp,f,e.ev g,e.ev h];simp[d,go_sem];cases b<;>cases c<;>rfl
theorem Va{xt yt:TypeId}{x y:Operand}(f:o.op=.binOp .neq xt x y yt){b c:Bool}(d:IQ P xt=true)(g:ev L x=some (.bool b))(h:ev L y=some (.bool c)):Ao P C n ds L o (.bool (decide (b≠c))):=λa e w _=>by
 have d:=J5 d;simp only[execOp,f,e.ev g,e.ev h];simp[d,go_sem];cases b<;>cases c<;>rfl

def Fq(P:Program)(t:TypeId):Bool:=match P.underlying t with
 | some (.struct _)=>false
 | some (.array _ _)=>false
 | some _=>true
 | none=>false
theorem Fs{t:TypeId}(h:Fq P t=true)(w:World):(isAgg t).run P w=.ok false w:=by
 unfold Fq at h;unfold isAgg
 cases hu:P.underlying t with
 | none=>rw[hu] at h;cases h
 | some d=>rw[hu] at h;simp[run_underlying hu,go_sem];cases d<;>simp at h ⊢
theorem AY{t:TypeId}{x:Operand}{b p:Nat}(e:o.op=.load t x)(g:ev L x=some (.pointer (some ⟨b,p,none⟩)))(c:Fq P t=true)(h:∀w,C w->EI b p v w):Ao P C n ds L o v:=λa d w f=>by
 have:=h w f;unfold EI at this;simp only[execOp,e,d.ev g];simp[Instr.loadAt,Instr.sureAddr,loadVar,Fs c,go_sem,this]
theorem Bz{t:TypeId}{x:Operand}{b p:Nat}{vs:List Value}(h:o.op=.load t x)(q:ev L x=some (.pointer (some ⟨b,p,none⟩)))
  (f:Gu P t=some vs.length)(r:∀w,C w->∀j u,vs[j]?=some u->EI b (p+j) u w):Ao P C n ds L o (.agg vs.toArray):=λa k w l=>by
 have i:=run_loadCells_list (P:=P) w ⟨b,p,none⟩ vs (λj u m=>by
  have:=r w l j u m;have e:(Addr.add ⟨b,p,none⟩ j)=⟨b,p+j,none⟩:=by
   unfold Addr.add;split
   ·rename_i g;simp[g]
   rfl
  rw[e];exact this)
 obtain ⟨c,d⟩:=KP f w;simp only[execOp,h,k.ev q,Instr.loadAt,Instr.sureAddr,loadVar,Yc,Yh,X6,c,if_true,d,i]
theorem Blk.part{b:Nat}{cs:List Value}{ty:TypeId}{w:World}(h:Blk b cs ty w)(p k:Nat)(vs:List Value)(c:vs=(cs.drop p).take k):∀j u,vs[j]?=some u->EI b (p+j) u w:=λj u a=>by
 subst c;refine h.cel _ ?_;rw[YB] at a;split at a
 ·rw[YQ] at a;exact a
 cases a
def FO(P:Program)(t:TypeId):Bool:=match P.underlying t with|some .string=>true|_=>false
theorem Ft{t:TypeId}(h:FO P t=true):P.underlying t=some .string:=by
 unfold FO at h;split at h
 ·assumption
 cases h

theorem DX{x:Operand}{t z:TypeId}{g:Option Addr}{l c:Nat}(d:o.op=.call {callee:=.builtin .len,args:= #[x],argTypes:= #[t]})(b:CE P t=some z)(h:ev L x=some (.slice g l c)):Ao P C n ds L o (Aa l):=λa f w _=>by
 obtain ⟨e,i,b,_,_⟩:=Eg b;simp only[execOp,d,f.ev h,resolve,Yt,Yn,YW];simp[invoke,builtin,Builtin.len_,run_underlying b,goInt,go_sem]
theorem Vb{x:Operand}{t:TypeId}{s:ByteArray}(d:o.op=.call {callee:=.builtin .len,args:= #[x],argTypes:= #[t]})(b:FO P t=true)(e:ev L x=some (.string s)):Ao P C n ds L o (Aa s.size):=λa c w _=>by
 have b:=Ft b;simp only[execOp,d,c.ev e,resolve,Yt,Yn,YW];simp[invoke,builtin,Builtin.len_,run_underlying b,goInt,go_sem]
theorem SM{x y:Operand}{t u:TypeId}{k d:IntKind}{p q:Int}(c:o.op=.call {callee:=.builtin .max,args:= #[x,y],argTypes:= #[t,u]})(e:ev L x=some (.int k p))(f:ev L y=some (.int d q)):Ao P C n ds L o (.int k (max p q)):=λa b w _=>by
 simp only[execOp,c,b.ev e,b.ev f,resolve,Yt,Yn,YW];simp[invoke,builtin,Builtin.max_,Builtin.max2,go_sem];omega
theorem Nt{x y:Operand}{t u:TypeId}{k d:IntKind}{p q:Int}(c:o.op=.call {callee:=.builtin .min,args:= #[x,y],argTypes:= #[t,u]})(e:ev L x=some (.int k p))(f:ev L y=some (.int d q)):Ao P C n ds L o (.int k (min p q)):=λa b w _=>by
 simp only[execOp,c,b.ev e,b.ev f,resolve,Yt,Yn,YW];simp[invoke,builtin,Builtin.min_,Builtin.min2,go_sem];omega
theorem Ju{s:TypeId}{x:Operand}{f:Nat}{b p k r:Nat}(d:o.op=.fieldAddr s x f)(hs:Du P s f=some k)(l:ev L x=some (.pointer (some ⟨b,p,none⟩)))(t:p+k=r):Ao P C n ds L o (.pointer (some ⟨b,r,none⟩)):=λa i w _=>by
 obtain ⟨u,g,v,hs,h,j,c,q⟩:=Mb hs;have e:(Addr.add ⟨b,p,none⟩ g.offset)=⟨b,r,none⟩:=by
  unfold Addr.add;split
  ·rename_i m;simp only[AaH,true_and,and_true];omega
  simp only[AaH,true_and,and_true];omega
 simp only[execOp,d,i.ev l];simp[Instr.fieldAt,run_underlying hs,h,Instr.sureAddr,fieldPlace,sizeOf,typeInfo,j,c,e,go_sem]
theorem Te{t:TypeId}{x y:Operand}{b p l c j z:Nat}{i:Int}{k:IntKind}(m:o.op=.indexAddr t x y)(d:CE P t=some z)
  (hx:ev L x=some (.slice (some ⟨b,p,none⟩) l c))(u:ev L y=some (.int k i))(f:i=j)(s:j<l){r:Nat}(q:p+j*z=r):Ao P C n ds L o (.pointer (some ⟨b,r,none⟩)):=λa g w _=>by
 obtain ⟨e,i0,d,hi,h⟩:=Eg d;subst f;have v:(0:Int)<=(j:Int)/\(j:Int)<(l:Int):=by omega
 simp only[execOp,m,g.ev hx,g.ev u];simp[Instr.indexAt,run_underlying d,sizeOf,typeInfo,hi,h,v,s,q,go_sem,asIntOf]
def At(ao:Option Addr)(k:Nat)(v:Value)(w:World):Prop:=∃b p,ao=some ⟨b,p,none⟩/\EI b (p+k) v w
def Fu(ao:Option Addr)(k:Nat):Value:=.pointer (ao.map λa=>⟨a.block,a.off+k,none⟩)
theorem Az{t:TypeId}{x y:Operand}{h:Option Addr}{l c j z:Nat}{i:Int}{k:IntKind}{u:Value}{w0:World}{q:Nat}(ho:o.op=.indexAddr t x y)(d:CE P t=some z)
  (hx:ev L x=some (.slice h l c))(hy:ev L y=some (.int k i))(g:i=j)(hl:j<l)(f:At h q u w0){r:Nat}(v:j*z=r):Ao P C n ds L o (Fu h r):=λa m w _=>by
 obtain ⟨e,i0,d,hi,s⟩:=Eg d;obtain ⟨b,p,rfl,_⟩:=f;subst g;have h1:(0:Int)<=(j:Int)/\(j:Int)<(l:Int):=by omega
 simp only[execOp,ho,m.ev hx,m.ev hy];simp[Instr.indexAt,run_underlying d,sizeOf,typeInfo,hi,s,h1,hl,v,Fu,go_sem,asIntOf]
theorem CF{s:TypeId}{x:Operand}{f:Nat}{c:Option Addr}{p k r q:Nat}{u:Value}{j:World}(e:o.op=.fieldAddr s x f)(hs:Du P s f=some k)(i:ev L x=some (Fu c p))(d:At c q u j)(l:p+k=r):Ao P C n ds L o (Fu c r):=λa g w h=>by
 obtain ⟨b,p',rfl,_⟩:=d;have:=Ju (P:=P) (C:=C) (r:=p'+r) e hs (show ev L x=some (.pointer (some ⟨b,p'+p,none⟩)) from i) U a g w h;simpa [Fu] using this
theorem AS{t:TypeId}{x:Operand}{c:Option Addr}{k:Nat}(f:o.op=.load t x)(i:ev L x=some (Fu c k))(d:Fq P t=true)(j:∀w,C w->At c k v w):Ao P C n ds L o v:=λa e w g=>by
 obtain ⟨b,p,rfl,h⟩:=j w g;exact AY (P:=P) (C:=(· =w)) f i d (AB h) a e w Z
theorem B7{t:TypeId}{x:Operand}{f:Option Addr}{k:Nat}{vs:List Value}(l:o.op=.load t x)(r:ev L x=some (Fu f k))
  (i:Gu P t=some vs.length)(c:vs≠[])(g:∀w,C w->∀j u,vs[j]?=some u->At f (k+j) u w):Ao P C n ds L o (.agg vs.toArray):=λa m w d=>by
 cases vs with
 | nil=>exact absurd Z c
 | cons u us=>
  obtain ⟨b,p,rfl,_⟩:=g w d 0 u Z;refine Bz (P:=P) (C:=(· =w)) l r i (AB λj x q=>?_) a m w Z;obtain ⟨s,p',e,h⟩:=g w d j x q;simp only[X0,AaH,and_true] at e;obtain ⟨rfl,rfl⟩:=e;rw[Zt];exact h
theorem Ib{t:TypeId}{x y:Operand}{b p l j z:Nat}{i:Int}{k:IntKind}(h:o.op=.indexAddr t x y)(c:Gs P t=some (l,z))
  (hx:ev L x=some (.pointer (some ⟨b,p,none⟩)))(s:ev L y=some (.int k i))(d:i=j)(q:j<l){r:Nat}(m:p+j*z=r):Ao P C n ds L o (.pointer (some ⟨b,r,none⟩)):=λa f w _=>by
 obtain ⟨e,i0,c,v,g⟩:=Gt c;subst d;have u:(0:Int)<=(j:Int)/\(j:Int)<(l:Int):=by omega
 simp only[execOp,h,f.ev hx,f.ev s];simp[Instr.indexAt,run_underlying c,Instr.sureAddr,sizeOf,typeInfo,v,g,u,q,m,go_sem,asIntOf]
theorem E0{x:Operand}{i:Nat}{vs:List Value}(c:o.op=.extract x i)(e:ev L x=some (.tuple vs.toArray))(d:vs[i]?=some v):Ao P C n ds L o v:=λa b w _=>by
 simp only[execOp,c,b.ev e];simp[Instr.extract,d,go_sem]
theorem IR{x:Operand}{b:Addr}(d:o.op=.nilCheck x)(e:ev L x=some (.pointer (some b))):Ao P C n ds L o (.pointer (some b)):=λa c w _=>by
 simp only[execOp,d,c.ev e];simp[go_sem]
theorem Jv{t:TypeId}{x:Operand}{lo v:Option Operand}{ao:Option Addr}{l c p q z:Nat}(r:o.op=.slice t x lo v none)(h:CE P t=some z)
  (s:ev L x=some (.slice ao l c))(a0:(lo=none/\p=0)\/∃y k i,lo=some y/\ev L y=some (.int k i)/\i=(p:Int))(u:(v=none/\q=l)\/∃y k i,v=some y/\ev L y=some (.int k i)/\i=(q:Int))(d:p<=q)(f:q<=c):
  Ao P C n ds L o (.slice (if c=p then ao else ao.map (·.add (p*z))) (q-p) (c-p)):=λa g w _=>by
 obtain ⟨e,i0,h,b,m⟩:=Eg h;have h1:(0:Int)<=(p:Int)/\(p:Int)<=(q:Int):=by omega
 have h2:(0:Int)<=(q:Int)/\(q:Int)<=(c:Int):=by omega
 rcases a0 with ⟨rfl,rfl⟩|⟨y,k,i,rfl,hy,rfl⟩<;>rcases u with ⟨rfl,rfl⟩|⟨y',k',i',rfl,j,rfl⟩
 ·simp only[execOp,r,Ys,YT,g.ev s];simp[Instr.sliceAt,Instr.slice,run_underlying h,Instr.sliceBounds,sizeOf,typeInfo,b,m,d,f,go_sem]<;>(try (intro;omega))
 ·simp only[execOp,r,Ys,YT,g.ev s,g.ev j];simp[Instr.sliceAt,Instr.slice,run_underlying h,Instr.sliceBounds,Instr.sliceBound,asIntOf,h2,sizeOf,typeInfo,b,m,d,f,go_sem]<;>(try (intro;omega))
 ·simp only[execOp,r,Ys,YT,g.ev s,g.ev hy];simp[Instr.sliceAt,Instr.slice,run_underlying h,Instr.sliceBounds,Instr.sliceBound,asIntOf,h1,sizeOf,typeInfo,b,m,d,f,go_sem]<;>(try (intro;omega))
 simp only[execOp,r,Ys,YT,g.ev s,g.ev hy,g.ev j];simp[Instr.sliceAt,Instr.slice,run_underlying h,Instr.sliceBounds,Instr.sliceBound,asIntOf,h1,h2,sizeOf,typeInfo,b,m,d,f,go_sem]<;>(try (intro;omega))
end
end
section
def Elt(P:Program)(e:TypeId)(z:Value)(sz by_:Nat):Prop:=∃i,P.info? e=some i/\i.zero=some z/\i.size=sz/\i.bytes=by_/\z.cells.size=sz/\0<sz/\0<by_
theorem Elt.mk{P:Program}{e:TypeId}{z:Value}{sz by_:Nat}(h:(P.info? e).map (λi=>(i.zero,i.size,i.bytes))=some (some z,sz,by_))(a:z.cells.size=sz)(c:0<sz)(b:0<by_):Elt P e z sz by_:=by
 cases hi:P.info? e with
 | none=>rw[hi] at h;cases h
 | some i=>
  rw[hi] at h;simp only[Ys,X0,AaE] at h;exact ⟨i,hi,h.1,h.2.1,h.2.2,a,c,b⟩
def Rd(sz:Nat)(v:Value)(n:Nat)(xs:List Value)(w:World):Prop:=
 ∃ao c,v=.slice ao n c/\n<=c/\c<=9223372036854775807/\xs.length=n*sz/\∀j u,xs[j]?=some u->At ao j u w
def SN(B:Nat)(e:TypeId)(sz:Nat)(v:Value)(n:Nat)(xs:List Value)(w:World):Prop:=w.ownsRow B e sz v n xs
theorem Rd.nil(sz:Nat)(w:World):Rd sz (.slice none 0 0) 0 [] w:=⟨none,0,Z,Ye _,by omega,by simp,λj u h=>by simp at h⟩
section
variable{P:Program}{o:Oper}{a:Act}{w:World}{n:Nat}{ds:List Deferred}{L:List (Nat×Value)}
def KQ(cs:List Value)(ty:TypeId)(w:World)(v:Value)(w':World):Prop:=∃b,v=.pointer (some ⟨b,0,none⟩)/\w.heap.size=b/\w'.heap.size=b+1/\Blk b cs ty w'/\Ext No w w'
def Oo(cs:List Value)(ty:TypeId)(len:Nat)(w:World)(v:Value)(w':World):Prop:=∃b,v=.slice (some ⟨b,0,none⟩) len len/\w.heap.size=b/\w'.heap.size=b+1/\Blk b cs ty w'/\Ext No w w'
theorem CG(w:World)(o:Obj):Ext No w {w with heap:=w.heap.push o} :=⟨Z,Z,Z,by simp,λk a _=>by
 show (w.heap.push o)[k]?=_;rw[Aaz,if_neg U]⟩
theorem Mv(w:World)(cs:List Value)(ty:TypeId):KQ cs ty w (.pointer (some ⟨w.heap.size,0,none⟩)) {w with heap:=w.heap.push (.cells cs.toArray ty)} :=
 ⟨_,Z,Z,by simp,by show (w.heap.push _)[w.heap.size]?=_;simp,CG w _⟩
theorem Tf(w:World)(cs:List Value)(ty:TypeId)(a:Nat):Oo cs ty a w (.slice (some ⟨w.heap.size,0,none⟩) a a) {w with heap:=w.heap.push (.cells cs.toArray ty)} :=
 ⟨_,Z,Z,by simp,by show (w.heap.push _)[w.heap.size]?=_;simp,CG w _⟩
def zeroCells(P:Program)(e:TypeId):Option (Array Value):=((P.info? e).bind (·.zero)).map Value.cells
theorem Th{e:TypeId}{zs:List Value}(c:o.op=.alloc e)(b:zeroCells P e=some zs.toArray):BJ P n ds L o w (KQ zs e w):=by
 intro a d;refine ⟨_,_,?_,Mv w zs e⟩;unfold zeroCells at b
 cases hi:P.info? e with
 | none=>rw[hi] at b;cases b
 | some i0=>
  rw[hi] at b;simp only[Aai] at b
  cases hq:i0.zero with
  | none=>rw[hq] at b;cases b
  | some z=>
   rw[hq] at b;simp only[Ys,X0] at b;simp only[execOp,c];simp[Instr.alloc,zeroValue,typeInfo,hi,hq,newVar,newRow,newObj,go_sem,Sem.run];rw[<-b];rfl
theorem Mc{ty:TypeId}{b p:Nat}{cs vs:List Value}{t:TypeId}(d:Gu P ty=some vs.length)(g:Blk b cs t w)(k:vs=(cs.drop p).take vs.length):(loadVar ty ⟨b,p,none⟩).run P w=.ok (.agg vs.toArray) w:=by
 have i:=run_loadCells_list (P:=P) w ⟨b,p,none⟩ vs (λj u h=>by
  have:=g.part p vs.length vs k j u h;have e:(Addr.add ⟨b,p,none⟩ j)=⟨b,p+j,none⟩:=by
   unfold Addr.add;split
   ·rename_i f;simp[f]
   rfl
  rw[e];exact this)
 obtain ⟨a,c⟩:=KP d w;simp only[loadVar,Yc,Yh,X6,a,if_true,c,i]
theorem WG{e:TypeId}{x:Operand}{v:Value}{cs:List Value}(c:o.op=.box e x)(d:ev L x=some v)(f:v.cells=cs.toArray):BJ P n ds L o w (KQ cs e w):=by
 intro a b;refine ⟨_,_,?_,Mv w cs e⟩;simp only[execOp,c,b.ev d];simp[Instr.box,newVar,newRow,newObj,go_sem,Sem.run];rw[<-f];rfl
theorem AR{C:World->Prop}{t:TypeId}{parts:List (Nat×Operand)}{vs:List (Nat×Value)}{out:List Value}(d:o.op=.build t parts.toArray)
  (b:(evs L (parts.map (·.2))).map (List.zip (parts.map (·.1)))=some vs)(c:P.built t vs=some out.toArray):Ao P C n ds L o (.agg out.toArray):=λa f w _=>by
 cases he:evs L (parts.map (·.2)) with
 | none=>rw[he] at b;cases b
 | some us=>
  rw[he] at b;simp only[Ys,X0] at b;have e:=f.evs he;have:(parts.map λx=>(x.1,a.eval x.2))=vs:=by
   rw[<-b,<-e,Zi];clear b he e c d
   induction parts with
   | nil=>rfl
   | cons x xs ih=>simp[ih]
  have g:=run_build (P:=P) w t vs.toArray out.toArray (by simpa using c);simp only[execOp,d,Yt];rw[show (List.map (λx=>match x with|(i,x)=>(i,a.eval x)) parts)=vs from this];simp only[Yc,g,X6,Yh]
theorem Ql{x y:Operand}{t e:TypeId}{z:Value}{sz by_ B k m:Nat}{v u:Value}{xs news:List Value}(ho:o.op=.call {callee:=.builtin .append,args:= #[x,y],argTypes:= #[t,t]})
  (ht:P.underlying t=some (.slice e))(hE:Elt P e z sz by_)(hx:ev L x=some v)(hy:ev L y=some u)(f:SN B e sz v k xs w)(a1:Rd sz u m news w)(h1:∀c∈news,c.oneCell'=true)(hB:B<=w.heap.size)(a3:(k+m)*by_<=140737488355328):
  BJ P n ds L o w λl w'=>SN B e sz l (k+m) (xs++news) w'/\Ext (λi=>v.ownBlock=some i) w w'/\(l.ownBlock=v.ownBlock\/l.ownBlock=some w.heap.size):=by
 intro a hF;obtain ⟨i,hi,hz,hs,hb,a7,a6,a9⟩:=hE;obtain ⟨ao,c,rfl,b1,_,hl,a2⟩:=a1;have d:∀r w',(Builtin.append_ #[t,t] o.type #[v,.slice ao m c]).run P w=.ok r w'->(execOp a.eval o).run P w=.ok (.value r) w':=λr w' h=>by
  simp only[execOp,ho,resolve,invoke,builtin,Yc,Yh,X6,Yt,Yn,YW,hF.ev hx,hF.ev hy,h]
 have a4:k+m<=maxLen:=by
  have:(k+m)*1<=(k+m)*by_:=ZI _ a9;unfold maxLen;omega
 have s:news=[]->∀l,l=v->SN B e sz l (k+m) (xs++news) w/\Ext (λi=>v.ownBlock=some i) w w/\(l.ownBlock=v.ownBlock\/l.ownBlock=some w.heap.size):=by
  intro hn l a8;subst a8;have hm:m=0:=by
   rw[hn] at hl;simp only[X3] at hl;rcases AaX.1 hl.symm with h|h<;>omega
  subst hm;rw[hn,YG];exact ⟨f,Ext.refl _ _,.inl Z⟩
 cases ao with
 | none=>
  have hn:news=[]:=by
   cases news with
   | nil=>rfl
   | cons q qs=>obtain ⟨b,p,hh,_⟩:=a2 0 q Z;cases hh
  have hm:m=0:=by
   rw[hn] at hl;simp only[X3] at hl;rcases AaX.1 hl.symm with h|h<;>omega
  subst hm;refine ⟨v,w,d _ _ ?_,s hn v Z⟩;rcases f.2 with ⟨rfl,rfl⟩|⟨g,b2,b0,rfl,_,_,a5,_⟩
  ·simp[Builtin.append_,run_underlying ht,sizeOf,typeInfo,hi,Builtin.lenOf,Builtin.firstCells]
  simp[Builtin.append_,run_underlying ht,sizeOf,typeInfo,hi,Builtin.lenOf,Builtin.firstCells,a5,storeCells]
 | some ad=>
  have a0:∀j q,news[j]?=some q->w.cell? (ad.add j)=some q:=λj q hj=>by
   obtain ⟨b,p,hh,hc⟩:=a2 j q hj;simp only[X0] at hh;subst hh;have e:(Addr.add ⟨b,p,none⟩ j)=⟨b,p+j,none⟩:=by
    unfold Addr.add;split
    ·rename_i h0;simp[h0]
    rfl
   rw[e];exact hc
  obtain ⟨l,w',hr,h2,h3,_,h5⟩:=run_append_own_at (P:=P) w B t o.type e i z sz by_ ht hi hz hs hb a7 a6 v k xs f ad m c news hl a0 h1 a4 a3 hB;exact ⟨l,w',d _ _ hr,h2,(Ext.of_grown h3).mono (λ_ _ q=>q.symm),h5⟩
theorem Mw{x y:Operand}{t ty:TypeId}{b p:Nat}{cs vs:List Value}{v:Value}(h:o.op=.store t x y)(q:ev L x=some (.pointer (some ⟨b,p,none⟩)))(l:ev L y=some v)(j:v.cells=vs.toArray)(m:∀u∈vs,u.oneCell'=true)
  (hs:(P.info? t).map (·.size)=some vs.length)(e:Blk b cs ty w)(hp:p+vs.length<=cs.length){out:List Value}(d:cs.take p++vs++cs.drop (p+vs.length)=out):
  Dj P n ds L o w λw'=>Blk b out ty w'/\Ext (· =b) w w'/\w'.heap.size=w.heap.size:=by
 intro a f;have c:=run_storeCells_at P b p ty vs 0 cs.toArray w e (by simpa using hp) m;simp only[Aar,Ze] at c;rw[d] at c;refine ⟨_,?_,setRow_heap w b _ _ ty (0,0) e,⟨Z,Z,Z,by simp,λk _ g=>setRow_other w b k _ g⟩,by simp⟩
 cases hq:P.info? t with
 | none=>rw[hq] at hs;cases hs
 | some i=>
  rw[hq] at hs;simp only[Ys,X0] at hs;simp only[execOp,h,f.ev q,f.ev l,Instr.storeAt,Instr.sureAddr,storeVar,sizeOf,typeInfo,Yc,Yh,X6,j];simp[hq,hs,go_sem,c]
end
end
section
abbrev Hp:=Nat->Option Obj
abbrev Ai:=Hp->Prop
def Hp.part(h:Hp)(own:Nat->Nat)(i:Nat):Hp:=λk=>if own k=i then h k else none
def seps(Γ:List Ai):Ai:=λh=>∃own:Nat->Nat,∀(i:Nat) (A:Ai),Γ[i]?=some A->A (h.part own i)
def hp(w:World):Hp:=λk=>w.heap[k]?
structure Sep(z:World)(Γ:List Ai)(w:World):Prop where
 os:w.os=z.os
 tape:w.tape=z.tape
 output:w.output=z.output
 own:seps Γ (hp w)
def bk(b:Nat)(o:Obj):Ai:=λh=>h b=some o
def blk(b:Nat)(cs:List Value)(ty:TypeId):Ai:=bk b (.cells cs.toArray ty (0,0))
def base(z:World):Ai:=λh=>∀k,k<z.heap.size->h k=z.heap[k]?
def emp:Ai:=λ_=>True
theorem Cq{h h':Hp}{own own':Nat->Nat}{i j:Nat}(e:∀k,own k=i↔own' k=j)(a:∀k,own k=i->h k=h' k):h.part own i=h'.part own' j:=by
 funext k;unfold Hp.part;by_cases q:own k=i
 ·rw[if_pos q,if_pos ((e k).1 q),a k q]
 rw[if_neg q,if_neg (λb=>q ((e k).2 b))]
theorem Eh{h:Hp}{own:Nat->Nat}{i k:Nat}{o:Obj}(e:h.part own i k=some o):own k=i/\h k=some o:=by
 unfold Hp.part at e;split at e
 ·exact ⟨by assumption,e⟩
 cases e

def pos:List Nat->Nat->Option Nat
 | [],_=>none
 | x::xs,y=>if y=x then some 0 else (pos xs y).map (· +1)
theorem Ic:∀(is:List Nat) (y j:Nat),pos is y=some j->is[j]?=some y
 | [],_,_,h=>by simp[pos] at h
 | x::xs,y,j,h=>by
  unfold pos at h;split at h
  ·rename_i e;simp at h;subst h;simp[e]
  cases hp:pos xs y with
  | none=>rw[hp] at h;cases h
  | some q=>rw[hp] at h;simp at h;subst h;simpa using Ic xs y q hp
theorem Vc(a:List Nat)(y j:Nat)(h:pos a y=some j):j<a.length:=(XU.1 (Ic a y j h)).1
def Fv(n:Nat)(is:List Nat):Bool:=(List.range is.length).all λj=>match is[j]? with
 | some y=>Nat.blt y n&&(match pos is y with|some q=>Nat.beq q j|none=>false)
 | none=>false
theorem Oq{n:Nat}{b:List Nat}(h:Fv n b=true)(j y:Nat)(e:b[j]?=some y):y<n/\pos b y=some j:=by
 unfold Fv at h;rw[Aaj] at h;have:=h j (by have:=(XU.1 e).1;simpa using this);rw[e] at this;simp only[Yk] at this;obtain ⟨c,a⟩:=this;refine ⟨by simpa using c,?_⟩
 cases hq:pos b y with
 | none=>rw[hq] at a;cases a
 | some q=>rw[hq] at a;simp at a;rw[a]
def C2(Γ:List Ai):List Nat->List Ai
 | []=>[]
 | i::is=>(match Γ[i]? with|some A=>A|none=>emp)::C2 Γ is
theorem J6(Γ:List Ai):∀(a:List Nat) (j:Nat) (A:Ai),(C2 Γ a)[j]?=some A->∃i,a[j]?=some i/\(Γ[i]?=some A\/A=emp)
 | [],_,_,h=>by simp[C2] at h
 | i::a,0,A,h=>by
  simp only[C2,YP,X0] at h;refine ⟨i,Z,?_⟩
  cases hi:Γ[i]? with
  | none=>rw[hi] at h;exact .inr h.symm
  | some B=>rw[hi] at h;exact .inl (congrArg some h)
 | i::a,j+1,A,h=>by
  simp only[C2,Yq] at h;obtain ⟨q,hq,hA⟩:=J6 Γ a j A h;exact ⟨q,by simpa using hq,hA⟩
theorem picks_len(Γ:List Ai):∀is:List Nat,(C2 Γ is).length=is.length
 | []=>rfl
 | _::is=>by simp[C2,picks_len Γ is]
theorem J7{Γ:List Ai}{h:Hp}(hs:seps Γ h)(n:Nat)(a:List Nat)(d:Fv n a=true):seps (C2 Γ a++Γ.drop n) h:=by
 obtain ⟨own,c⟩:=hs;refine ⟨λk=>if own k<n then (match pos a (own k) with|some j=>j|none=>a.length+Γ.length) else a.length+(own k-n),λj A b=>?_⟩;rcases Yg j a.length with l|l
 ·rw[Yb (by rw[picks_len];exact l)] at b
  obtain ⟨i,m,b⟩:=J6 Γ a j A b;obtain ⟨f,g⟩:=Oq d j i m;rcases b with b|rfl
  ·have:=c i A b
   rw[Cq (h':=h) (own':=λk=>if own k<n then (match pos a (own k) with|some j=>j|none=>a.length+Γ.length) else a.length+(own k-n)) (j:=j) (λk=>?_) (λ_ _=>rfl)] at this
   ·exact this
   constructor
   ·intro e;subst e;simp[f,g]
   intro e;split at e
   ·cases hp:pos a (own k) with
    | none=>rw[hp] at e;simp at e;omega
    | some q=>rw[hp] at e;simp at e;subst e;have:=Ic _ _ _ hp;rw[m] at this;simpa using this.symm
   omega
  trivial
 rw[Ya (by rw[picks_len];exact l),picks_len,YQ] at b;have:=c _ A b;have o:=(XU.1 b).1;rw[Cq (h':=h) (own':=λk=>if own k<n then (match pos a (own k) with|some j=>j|none=>a.length+Γ.length) else a.length+(own k-n)) (j:=j) (λk=>?_) (λ_ _=>rfl)] at this
 ·exact this
 constructor
 ·intro e;rw[if_neg U];omega
 intro e;split at e
 ·cases hp:pos a (own k) with
  | none=>rw[hp] at e;simp at e;omega
  | some q=>rw[hp] at e;simp at e;have:=Vc _ _ _ hp;omega
 omega
theorem FP{As Γ:List Ai}{h:Hp}(hs:seps (seps As::Γ) h):seps (As++Γ) h:=by
 obtain ⟨own,b⟩:=hs;obtain ⟨a,f⟩:=b 0 _ Z;refine ⟨λk=>if own k=0 then (if a k<As.length then a k else As.length+Γ.length) else As.length+(own k-1),λj A c=>?_⟩;rcases Yg j As.length with d|d
 ·rw[Yb d] at c
  have:=f j A c;have e:(h.part own 0).part a j=h.part (λk=>if own k=0 then (if a k<As.length then a k else As.length+Γ.length) else As.length+(own k-1)) j:=by
   funext k;unfold Hp.part;dsimp only;by_cases q:own k=0
   ·by_cases q':a k=j
    ·simp[q,q',d]
    have:¬(if a k<As.length then a k else As.length+Γ.length)=j:=by split<;>omega
    simp[q,q',this]
   have:¬As.length+(own k-1)=j:=by omega
   simp[q,this]
  rwa[e] at this
 rw[Ya d] at c;have g:=(XU.1 c).1;have:=b (j-As.length+1) A (by simpa using c);rw[Cq (h':=h) (own':=λk=>if own k=0 then (if a k<As.length then a k else As.length+Γ.length) else As.length+(own k-1)) (j:=j) (λk=>?_) (λ_ _=>rfl)] at this
 ·exact this
 constructor
 ·intro e;rw[if_neg U];omega
 intro e;split at e
 ·split at e<;>omega
 omega
theorem GW{As Γ:List Ai}{h:Hp}(hs:seps (As++Γ) h):seps (seps As::Γ) h:=by
 obtain ⟨own,a⟩:=hs;refine ⟨λk=>if own k<As.length then 0 else own k-As.length+1,λj A c=>?_⟩
 cases j with
 | zero=>
  simp only[YP,X0] at c;subst c;refine ⟨own,λi A d=>?_⟩;have b:=(XU.1 d).1;have:=a i A (by rw[Yb b];exact d);have e:h.part own i=(h.part (λk=>if own k<As.length then 0 else own k-As.length+1) 0).part own i:=by
   funext k;unfold Hp.part;dsimp only;by_cases q:own k=i
   ·simp[q,b]
   simp[q]
  rwa[e] at this
 | succ j=>
  simp only[Yq] at c;have:=a (As.length+j) A (by rw[Ya U];simpa using c);rw[Cq (h':=h) (own':=λk=>if own k<As.length then 0 else own k-As.length+1) (j:=j+1) (λk=>?_) (λ_ _=>rfl)] at this
  ·exact this
  constructor
  ·intro e;rw[if_neg U];omega
  intro e;split at e<;>omega
theorem Cp{As Bs:List Ai}{h:Hp}(hs:seps (As++Bs) h):seps (Bs++As) h:=by
 obtain ⟨own,a⟩:=hs;refine ⟨λk=>if own k<As.length then own k+Bs.length else if own k<As.length+Bs.length then own k-As.length else own k,λj A b=>?_⟩;rcases Yg j Bs.length with c|c
 ·rw[Yb c] at b
  have:=a (As.length+j) A (by rw[Ya U];simpa using b);rw[Cq (h':=h) (own':=λk=>if own k<As.length then own k+Bs.length else if own k<As.length+Bs.length then own k-As.length else own k) (j:=j) (λk=>?_) (λ_ _=>rfl)] at this
  ·exact this
  constructor
  ·intro e;rw[if_neg U,if_pos U];omega
  intro e;split at e
  ·omega
  split at e<;>omega
 rw[Ya c] at b;have d:=(XU.1 b).1;have:=a (j-Bs.length) A (by rw[Yb d];exact b);rw[Cq (h':=h) (own':=λk=>if own k<As.length then own k+Bs.length else if own k<As.length+Bs.length then own k-As.length else own k) (j:=j) (λk=>?_) (λ_ _=>rfl)] at this
 ·exact this
 constructor
 ·intro e;rw[if_pos U];omega
 intro e;split at e
 ·omega
 split at e<;>omega
theorem Ti{Γ:List Ai}{h:Hp}(hs:seps Γ h)(i:Nat){A:Ai}(c:Γ[i]?=some A){σ:Type}{B:σ->Ai}(d:∀h',(∀k o,h' k=some o->h k=some o)->A h'->∃x,B x h'):∃x,seps (Γ.set i (B x)) h:=by
 obtain ⟨own,a⟩:=hs;obtain ⟨x,f⟩:=d _ (λk o e=>(Eh e).2) (a i A c);refine ⟨x,own,λj C b=>?_⟩;rw[YV] at b;split at b
 ·rename_i e;subst e
  split at b
  ·cases b;exact f
  cases b
 exact a j C b

section
variable{z w:World}{Γ:List Ai}
theorem Sep.same{w':World}(H:Sep z Γ w)(b:w'.os=w.os)(c:w'.tape=w.tape)(d:w'.output=w.output)(a:∀k:Nat,w'.heap[k]?=w.heap[k]?):Sep z Γ w':=
 ⟨b.trans H.os,c.trans H.tape,d.trans H.output,(show hp w'=hp w from funext a)▸H.own⟩
theorem Sep.drew(H:Sep z Γ w):Sep z Γ w.drew:=H.same Z Z Z λ_=>rfl
theorem Sep.pick(n:Nat)(a:List Nat)(H:Sep z Γ w)(b:Fv n a=true):Sep z (C2 Γ a++Γ.drop n) w:=⟨H.os,H.tape,H.output,J7 H.own n a b⟩
theorem Sep.perm(n:Nat)(a:List Nat){Γ':List Ai}(H:Sep z Γ w)(b:Fv n a=true)(e:C2 Γ a++Γ.drop n=Γ'):Sep z Γ' w:=e▸H.pick n a b
theorem Sep.opened{As:List Ai}(H:Sep z (seps As::Γ) w):Sep z (As++Γ) w:=⟨H.os,H.tape,H.output,FP H.own⟩
theorem Sep.shut{As:List Ai}(H:Sep z (As++Γ) w):Sep z (seps As::Γ) w:=⟨H.os,H.tape,H.output,GW H.own⟩
theorem Sep.swap{As Bs:List Ai}(H:Sep z (As++Bs) w):Sep z (Bs++As) w:=⟨H.os,H.tape,H.output,Cp H.own⟩
theorem Sep.front{As Bs:List Ai}(H:Sep z (As++Bs) w):Sep z As w:=by
 have b:=H.swap;have:seps As (hp w):=by
  obtain ⟨own,c⟩:=b.own;refine ⟨λk=>if own k<Bs.length then As.length else own k-Bs.length,λj A a=>?_⟩;have d:=(XU.1 a).1;have:=c (Bs.length+j) A (by rw[Ya U];simpa using a);rwa[Cq (h':=hp w) (own':=λk=>if own k<Bs.length then As.length else own k-Bs.length) (j:=j) (λk=>⟨λe=>by rw[if_neg U];omega,λe=>by split at e<;>omega⟩) (λ_ _=>rfl)] at this
 exact ⟨H.os,H.tape,H.output,this⟩
theorem Sep.ex(i:Nat){A:Ai}{σ:Type}{B:σ->Ai}(H:Sep z Γ w)(c:Γ[i]?=some A)(a:∀h,A h->∃x,B x h):∃x,Sep z (Γ.set i (B x)) w:=by
 obtain ⟨x,b⟩:=Ti H.own i c (λh _ q=>a h q);exact ⟨x,H.os,H.tape,H.output,b⟩
theorem Sep.mono(i:Nat){A B:Ai}(H:Sep z Γ w)(c:Γ[i]?=some A)(a:∀h,A h->B h):Sep z (Γ.set i B) w:=by
 obtain ⟨_,b⟩:=H.ex i (σ:=Unit) (B:=λ_=>B) c (λh q=>⟨(),a h q⟩);exact b
theorem Sep.exAt(i:Nat){A:Ai}{σ:Type}{p:σ->Prop}{B:σ->Ai}(H:Sep z Γ w)(d:Γ[i]?=some A)(b:∀h,A h->∃x,p x/\B x h):∃x,p x/\Sep z (Γ.set i (B x)) w:=by
 obtain ⟨⟨x,hp⟩,c⟩:=H.ex i (σ:= {x:σ // p x}) (B:=λx=>B x.1) d (λh q=>by obtain ⟨x,a,e⟩:=b h q;exact ⟨⟨x,a⟩,e⟩);exact ⟨x,hp,c⟩
theorem Sep.into{σ:Type}{A:Ai}{p:σ->Prop}{As:σ->List Ai}(H:Sep z (A::Γ) w)(c:∀h,A h->∃x,p x/\seps (As x) h):∃x,p x/\Sep z (As x++Γ) w:=by
 obtain ⟨⟨x,hp⟩,b⟩:=H.ex 0 (σ:= {x:σ // p x}) (B:=λx=>seps (As x.1)) Z (λh q=>by obtain ⟨x,a,d⟩:=c h q;exact ⟨⟨x,a⟩,d⟩);exact ⟨x,hp,b.opened⟩
theorem Sep.made(n:Nat){A:Ai}(H:Sep z Γ w)(a:∀h,seps (Γ.take n) h->A h):Sep z (A::Γ.drop n) w:=by
 have:Sep z (Γ.take n++Γ.drop n) w:=by rw[YO];exact H
 exact this.shut.mono 0 Z a
theorem Sep.get(i:Nat){A:Ai}(H:Sep z Γ w)(b:Γ[i]?=some A):∃h,A h/\∀k o,h k=some o->w.heap[k]?=some o:=by
 obtain ⟨own,a⟩:=H.own;exact ⟨_,a i A b,λk o e=>(Eh e).2⟩
theorem Sep.bk(i:Nat){b:Nat}{o:Obj}(H:Sep z Γ w)(c:Γ[i]?=some (bk b o)):w.heap[b]?=some o:=by
 obtain ⟨h,a,d⟩:=H.get i c;exact d _ _ a
theorem Sep.blk(i:Nat){b:Nat}{cs:List Value}{ty:TypeId}(H:Sep z Γ w)(a:Γ[i]?=some (blk b cs ty)):Blk b cs ty w:=H.bk i a
theorem Sep.cel(i:Nat){b:Nat}{cs:List Value}{ty:TypeId}(H:Sep z Γ w)(c:Γ[i]?=some (YthbbejpbkglmlaaGreatDoor.blk b cs ty))(o:Nat){v:Value}(a:cs[o]?=some v):EI b o v w:=(H.blk i c).cel o a
theorem Sep.write(i:Nat){b:Nat}{o o':Obj}{w':World}(H:Sep z Γ w)(l:Γ[i]?=some (YthbbejpbkglmlaaGreatDoor.bk b o))(p:w'.os=w.os)(m:w'.tape=w.tape)(r:w'.output=w.output)
  (n:w'.heap[b]?=some o')(h:∀k,k≠b->w'.heap[k]?=w.heap[k]?):Sep z (Γ.set i (YthbbejpbkglmlaaGreatDoor.bk b o')) w':=by
 refine ⟨p.trans H.os,m.trans H.tape,r.trans H.output,?_⟩;obtain ⟨own,a⟩:=H.own;have d:=(Eh (a i _ l)).1;refine ⟨own,λj C c=>?_⟩;rw[YV] at c;split at c
 ·rename_i e;subst e
  split at c
  ·cases c
   unfold YthbbejpbkglmlaaGreatDoor.bk Hp.part hp;rw[if_pos d,n]
  cases c
 rename_i e;have:=a j C c;have g:(hp w).part own j=(hp w').part own j:=Cq (λ_=>Iff.rfl) (λk f=>(h k (λq=>e (by rw[<-f,q,d]))).symm);rwa[g] at this
theorem Sep.grow{A:Ai}{w':World}(H:Sep z Γ w)(x:Ext No w w')(c:A (λk=>if k<w.heap.size then none else w'.heap[k]?)):Sep z (A::Γ) w':=by
 refine ⟨x.os.trans H.os,x.tape.trans H.tape,x.output.trans H.output,?_⟩;obtain ⟨own,a⟩:=H.own;refine ⟨λk=>if k<w.heap.size then own k+1 else 0,λj C b=>?_⟩
 cases j with
 | zero=>
  simp only[YP,X0] at b;subst b;have e:(hp w').part (λk=>if k<w.heap.size then own k+1 else 0) 0=λk=>if k<w.heap.size then none else w'.heap[k]? :=by
   funext k;unfold Hp.part hp;dsimp only;by_cases q:k<w.heap.size
   ·simp[q]
   simp[q]
  rw[e];exact c
 | succ j=>
  simp only[Yq] at b;have:=a j C b;have e:(hp w').part (λk=>if k<w.heap.size then own k+1 else 0) (j+1)=(hp w).part own j:=by
   funext k;unfold Hp.part hp;dsimp only;by_cases q:k<w.heap.size
   ·simp only[q,if_true,Nat.add_right_cancel_iff]
    by_cases q':own k=j
    ·simp only[q',if_true];exact x.block k q (λr=>r)
    simp[q']
   have:w.heap[k]?=none:=Yu U;simp[q,this]
  rwa[e]
theorem Sep.ext0{w':World}(H:Sep z Γ w)(x:Ext No w w'):Sep z Γ w':=by
 have:=H.grow (A:=emp) x trivial;have:=this.perm 1 [] (Γ':=Γ) Z Z;exact this
theorem A8{K:World->Prop}(H:Sep z Γ w)(h:∀w,Sep z Γ w->K w):∀w',Ext No w w'->w'.heap.size=w.heap.size->K w':=λw' x _=>h w' (H.ext0 x)
theorem Sep.new{b:Nat}{o:Obj}{w':World}(H:Sep z Γ w)(x:Ext No w w')(c:w.heap.size<=b)(a:w'.heap[b]?=some o):Sep z (YthbbejpbkglmlaaGreatDoor.bk b o::Γ) w':=
 H.grow x (show (if b<w.heap.size then none else w'.heap[b]?)=some o by rw[if_neg U];exact a)
theorem Sep.done(i:Nat)(H:Sep z Γ w)(d:Γ[i]?=some (base z)):Ext No z w:=by
 obtain ⟨h,c,f⟩:=H.get i d;have a:∀k,k<z.heap.size->w.heap[k]?=z.heap[k]? :=λk b=>by
  have e:z.heap[k]?=some z.heap[k]:=Z7 b;rw[e];exact f k _ ((c k b).trans e)
 refine ⟨H.os,H.tape,H.output,?_,λk b _=>a k b⟩;rcases Yg w.heap.size z.heap.size with q|q
 ·have:=a w.heap.size q
  rw[Yu (Yo _),Z7 q] at this;cases this
 exact q
end

section
variable{z w:World}{Γ:List Ai}{a0 a1 a2 a3 a4 a5 a6 a7 a8 a9 a10 a11 a12 a13 a14 a15 a16 a17 a18 a19 a20 a21 a22 a23 a24 a25 a26:Ai}
theorem Sep.l1(H:Sep z (a0::Γ) w):Sep z (a0::Γ) w:=H
theorem Sep.l2(H:Sep z (a0::a1::Γ) w):Sep z (a0::a1::Γ) w:=H
theorem Sep.l3(H:Sep z (a0::a1::a2::Γ) w):Sep z (a0::a1::a2::Γ) w:=H
theorem Sep.l4(H:Sep z (a0::a1::a2::a3::Γ) w):Sep z (a0::a1::a2::a3::Γ) w:=H
theorem Sep.l5(H:Sep z (a0::a1::a2::a3::a4::Γ) w):Sep z (a0::a1::a2::a3::a4::Γ) w:=H
theorem Sep.l6(H:Sep z (a0::a1::a2::a3::a4::a5::Γ) w):Sep z (a0::a1::a2::a3::a4::a5::Γ) w:=H
theorem Sep.l7(H:Sep z (a0::a1::a2::a3::a4::a5::a6::Γ) w):Sep z (a0::a1::a2::a3::a4::a5::a6::Γ) w:=H
theorem Sep.l8(H:Sep z (a0::a1::a2::a3::a4::a5::a6::a7::Γ) w):Sep z (a0::a1::a2::a3::a4::a5::a6::a7::Γ) w:=H
theorem Sep.l9(H:Sep z (a0::a1::a2::a3::a4::a5::a6::a7::a8::Γ) w):Sep z (a0::a1::a2::a3::a4::a5::a6::a7::a8::Γ) w:=H
theorem Sep.l10(H:Sep z (a0::a1::a2::a3::a4::a5::a6::a7::a8::a9::Γ) w):Sep z (a0::a1::a2::a3::a4::a5::a6::a7::a8::a9::Γ) w:=H
theorem Sep.l11(H:Sep z (a0::a1::a2::a3::a4::a5::a6::a7::a8::a9::a10::Γ) w):Sep z (a0::a1::a2::a3::a4::a5::a6::a7::a8::a9::a10::Γ) w:=H
theorem Sep.l12(H:Sep z (a0::a1::a2::a3::a4::a5::a6::a7::a8::a9::a10::a11::Γ) w):Sep z (a0::a1::a2::a3::a4::a5::a6::a7::a8::a9::a10::a11::Γ) w:=H
theorem Sep.f1(H:Sep z (a0::a1::Γ) w):Sep z (a1::a0::Γ) w:=H.pick 2 [1,0] Z
theorem Sep.f2(H:Sep z (a0::a1::a2::Γ) w):Sep z (a2::a0::a1::Γ) w:=H.pick 3 [2,0,1] Z
theorem Sep.f3(H:Sep z (a0::a1::a2::a3::Γ) w):Sep z (a3::a0::a1::a2::Γ) w:=H.pick 4 [3,0,1,2] Z
theorem Sep.f4(H:Sep z (a0::a1::a2::a3::a4::Γ) w):Sep z (a4::a0::a1::a2::a3::Γ) w:=H.pick 5 [4,0,1,2,3] Z
theorem Sep.f5(H:Sep z (a0::a1::a2::a3::a4::a5::Γ) w):Sep z (a5::a0::a1::a2::a3::a4::Γ) w:=H.pick 6 [5,0,1,2,3,4] Z
theorem Sep.f6(H:Sep z (a0::a1::a2::a3::a4::a5::a6::Γ) w):Sep z (a6::a0::a1::a2::a3::a4::a5::Γ) w:=H.pick 7 [6,0,1,2,3,4,5] Z
theorem Sep.f7(H:Sep z (a0::a1::a2::a3::a4::a5::a6::a7::Γ) w):Sep z (a7::a0::a1::a2::a3::a4::a5::a6::Γ) w:=H.pick 8 [7,0,1,2,3,4,5,6] Z
theorem Sep.f8(H:Sep z (a0::a1::a2::a3::a4::a5::a6::a7::a8::Γ) w):Sep z (a8::a0::a1::a2::a3::a4::a5::a6::a7::Γ) w:=H.pick 9 [8,0,1,2,3,4,5,6,7] Z
theorem Sep.f9(H:Sep z (a0::a1::a2::a3::a4::a5::a6::a7::a8::a9::Γ) w):Sep z (a9::a0::a1::a2::a3::a4::a5::a6::a7::a8::Γ) w:=H.pick 10 [9,0,1,2,3,4,5,6,7,8] Z
theorem Sep.f10(H:Sep z (a0::a1::a2::a3::a4::a5::a6::a7::a8::a9::a10::Γ) w):Sep z (a10::a0::a1::a2::a3::a4::a5::a6::a7::a8::a9::Γ) w:=H.pick 11 [10,0,1,2,3,4,5,6,7,8,9] Z
theorem Sep.l0(H:Sep z Γ w):Sep z Γ w:=H
theorem Sep.d(H:Sep z (a0::Γ) w):Sep z Γ w:=H.pick 1 [] Z
end

def Cn(P:Program)(f:FuncId)(args:List Value)(pre:List Ai)(post:Value->List Ai->Prop):Prop:=
 ∀z R w,Sep z (pre++R) w->Calls P f args.toArray w (Ret λv w'=>∃Γ',post v Γ'/\Sep z (Γ'++R) w')
abbrev An:=Cn prog
theorem Cn.mono{P:Program}{f:FuncId}{args:List Value}{pre:List Ai}{post a:Value->List Ai->Prop}(h:Cn P f args pre post)(hp:∀v Γ,post v Γ->a v Γ):Cn P f args pre a:=
 λz R w H=>Ret.mono (h z R w H) λ_ _ ⟨Γ',q,b⟩=>⟨Γ',hp _ _ q,b⟩
theorem k_updA{n:Nat}{ds:List Deferred}{L:List (Nat×Value)}{K:Act->Prop}(t:Nat){v u:Value}(b:BZ L t=some u)(e:u=v)(h:∀a,Fr n ds ((t,v)::L) a->K a):∀a,Fr n ds L a->K a:=λa c=>h a (c.upd t b e)
theorem Xv{n:Nat}{ds:List Deferred}{L:List (Nat×Value)}{K:Act->Prop}(t:Nat){p:Prop}{b:Decidable p}(c:BZ L t=some (.bool (@decide p b)))(e: @decide p b=true)(h:∀a,Fr n ds ((t,.bool true)::L) a->K a):∀a,Fr n ds L a->K a:=k_updA t c (congrArg _ e) h
theorem Qm{n:Nat}{ds:List Deferred}{L:List (Nat×Value)}{K:Act->Prop}(t:Nat){p:Prop}{b:Decidable p}(c:BZ L t=some (.bool (@decide p b)))(e: @decide p b=false)(h:∀a,Fr n ds ((t,.bool false)::L) a->K a):∀a,Fr n ds L a->K a:=k_updA t c (congrArg _ e) h
end
section
section more
variable{P:Program}{o:Oper}{a:Act}{w:World}{n:Nat}{ds:List Deferred}{L:List (Nat×Value)}
theorem KR{t:TypeId}{e:TypeId}{z:Value}{b sz by_:Nat}{parts:List (Nat×Operand)}{vs:List (Nat×Value)}{out:List Value}(l:o.op=.buildSlice t b parts.toArray)(r:P.underlying t=some (.slice e))(v:Elt P e z sz by_)
  (c:(evs L (parts.map (·.2))).map (List.zip (parts.map (·.1)))=some vs)(a1:b*sz<=16777216)(hl:0<b)(m:Instr.fill (λi=>some (i*sz,sz)) ((Array.range (b*sz)).map (z.cells[· % z.cells.size]!)) vs=some out.toArray):BJ P n ds L o w (Oo out e b w):=by
 intro a hF;obtain ⟨i,p,q,hs,hb,y,u,a0⟩:=v;refine ⟨_,_,?_,Tf w out e b⟩
 cases he:evs L (parts.map (·.2)) with
 | none=>rw[he] at c;cases c
 | some us=>
  rw[he] at c;simp only[Ys,X0] at c;have k:=hF.evs he;have:(parts.map λx=>(x.1,a.eval x.2))=vs:=by
   rw[<-c,<-k,Zi];clear c he k m l
   induction parts with
   | nil=>rfl
   | cons x xs ih=>simp[ih]
  simp only[execOp,l,Yt];rw[show (List.map (λx=>match x with|(i,x)=>(i,a.eval x)) parts)=vs from this];have g:b*sz≠0:=by
   intro s;rcases AaX.1 s with h|h<;>omega
  have d:¬b*sz > 2^24:=by omega
  have j:∀w,(zeroValue e).run P w=.ok z w:=λw=>by simp[zeroValue,typeInfo,p,q,go_sem]
  have f:∀w,(sizeOf e).run P w=.ok sz w:=λw=>by simp[sizeOf,typeInfo,p,hs,go_sem]
  simp only[Instr.buildSlice,Yc,run_underlying r,X6,f,if_neg d,Yh,if_neg g,j,m,newRow,newObj,Sem.run]
end more
section tail
variable{P:Program}{ops:List Oper}{Q:Act->Prop}{a:Act}{w:World}{rest:List Oper}{o:Oper}{n d:Nat}{ds:List Deferred}{L:List (Nat×Value)}{v:Value}
theorem B3(g:Bv ops L o.guard=true)(h:o.dst=some d)(e:Nat.blt d n=true)(c:Ao P (· =w) n ds L o v)(K:∀a',Fr n ds ((d,v)::L) a'->wpStill P ops.toArray w Q rest a'):∀a,Fr n ds L a->wpStill P ops.toArray w Q (o::rest) a:=λa b=>
 wpStill_step λK' f=>by
  rw[if_pos (wantL_ok b g)];unfold Oper.still;rw[c a b w Z,Oper.stillUpon_value,h];exact f _ (K _ (b.put d v e))
theorem Or(g:DW ops L o.guard=true)(f:o.dst=some d)(b:Nat.blt d n=true)(K:∀a',Fr n ds ((d,undef)::L) a'->wpStill P ops.toArray w Q rest a'):∀a,Fr n ds L a->wpStill P ops.toArray w Q (o::rest) a:=λa c=>
 wpStill_step λK' e=>by
  rw[if_neg (by rw[skipL_ok c g];exact Aac),f];exact e _ (K _ (c.put d undef b))
theorem Ce(h:∀a,Fr n ds L a->Q a):∀a,Fr n ds L a->wpStill P ops.toArray w Q [] a:=h
theorem Bo{id:Nat}{N R:Act->World->Prop}{X:Nat->Act->World->Prop}(k:Nat)(c:P.follows .mixedOrders=true)(d:Region.lexTailB .any ops.toArray k=true)
  (h:∀w',Ext No w w'->w'.heap.size=w.heap.size->∀a,Fr n ds L a->wpStill P ops.toArray w' (λa'=>wpList P ops.toArray (Qp N X R) (ops.drop k) a' w') (ops.take k) a):∀a,Fr n ds L a->(Code.region id ops.toArray true).wp P (Qp N X R) a w:=λa b=>
 wp_region_still_tail k c d (h _ (Ext.drawn No w) Z a b)
end tail
section held
variable{P:Program}{ops:List Oper}{N R:Act->World->Prop}{X:Nat->Act->World->Prop}{S:World->Prop}{a:Act}{w:World}{fuel:Nat}{listed:Array Bool}{n d i:Nat}{ds:List Deferred}{L:List (Nat×Value)}{v:Value}{o:Oper}
theorem BO{id:Nat}(S:World->Prop)(k:Nat)(c:ops.length=k)(d:P.follows .mixedOrders=true)
  (h:∀w',Ext No w w'->w'.heap.size=w.heap.size->∀a,Fr n ds L a->wpAnyH P .any ops.toArray (Qp N X R) S k (Array.replicate k false) a w'):∀a,Fr n ds L a->(Code.region id ops.toArray true).wp P (Qp N X R) a w:=λa b=>
 wp_region_held (S:=S) d (by have:=h _ (Ext.drawn No w) Z a b;simpa [c] using this)
theorem Id(i:Nat)(k:ops[i]?=some o)(hs:Region.noSelect ops.toArray=true)(j:Region.free .any ops.toArray listed i=true)(f:(Region.ready .any ops.toArray listed).contains i=true)
  (m:Bv ops L o.guard=true)(l:o.dst=some d)(c:Nat.blt d n=true)(b:Ao P S n ds L o v)(g:S w)
  (K:∀a',Fr n ds ((d,v)::L) a'->wpAnyH P .any ops.toArray (Qp N X R) S fuel (listed.setIfInBounds i true) a' w):∀a,Fr n ds L a->wpAnyH P .any ops.toArray (Qp N X R) S (fuel+1) listed a w:=λa e=>
 wpAnyH_take (i:=i) (oi:=o) (v:=v) (by simpa using k) hs j f (λ_ _ _ h=>h.elim) (.inl ⟨wantL_ok e m,λw' h=>b a e w' h⟩) g (by rw[l];exact K _ (e.put d v c))
theorem Ot(i:Nat)(f:ops[i]?=some o)(hs:Region.noSelect ops.toArray=true)(e:Region.free .any ops.toArray listed i=true)(k:(Region.ready .any ops.toArray listed).contains i=true)
  (j:DW ops L o.guard=true)(g:o.dst=some d)(b:Nat.blt d n=true)(l:S w)
  (K:∀a',Fr n ds ((d,undef)::L) a'->wpAnyH P .any ops.toArray (Qp N X R) S fuel (listed.setIfInBounds i true) a' w):∀a,Fr n ds L a->wpAnyH P .any ops.toArray (Qp N X R) S (fuel+1) listed a w:=λa c=>
 wpAnyH_take (i:=i) (oi:=o) (v:=undef) (by simpa using f) hs e k (λ_ _ _ h=>h.elim) (.inr ⟨skipL_ok c j,Z⟩) l (by rw[g];exact K _ (c.put d undef b))
theorem Cf(rs:List Nat)(e:Region.ready .any ops.toArray listed=rs)(b:rs≠[])
  (h:∀i∈rs,∀a,Fr n ds L a->wpOp P ops.toArray (Qp N X R) i (λa' w'=>S w'/\wpAnyH P .any ops.toArray (Qp N X R) S fuel (listed.setIfInBounds i true) a' w') a w):∀a,Fr n ds L a->wpAnyH P .any ops.toArray (Qp N X R) S (fuel+1) listed a w:=λa c=>
 wpAnyH_all e b (λi d=>h i d a c)
theorem Ay{p:Nat->Prop}{i:Nat}(h:p i):∀j∈[i],p j:=λj a=>by simp at a;subst a;exact h
theorem Xw{p:Nat->Prop}{i k:Nat}(h:p i)(h':p k):∀j∈[i,k],p j:=λj a=>by
 simp at a;rcases a with rfl|rfl
 ·exact h
 exact h'
theorem a_done{fuel:Nat}(c:Region.ready .any ops.toArray listed=[])(h:∀a,Fr n ds L a->N a w):∀a,Fr n ds L a->wpAnyH P .any ops.toArray (Qp N X R) S fuel listed a w:=λa b=>wpAnyH_done c (h a b) _
theorem B0{Z_:Act->World->Prop}(b:S w)(h:∀a,Fr n ds L a->Z_ a w):∀a,Fr n ds L a->S w/\Z_ a w:=λa c=>⟨b,h a c⟩
theorem Cj{K:Act->World->Prop}{Rr:Value->World->Prop}(e:ops[i]?=some o)(j:Bv ops L o.guard=true)(k:o.dst=some d)(c:Nat.blt d n=true)(h:BJ P n ds L o w Rr)(l:∀v w',Rr v w'->∀a',Fr n ds ((d,v)::L) a'->K a' w'):∀a,Fr n ds L a->wpOp P ops.toArray (Qp N X R) i K a w:=by
 intro a b;obtain ⟨v,w',f,g⟩:=h a b;unfold wpOp;rw[YK,e];simp only;rw[if_pos (wantL_ok b j)];left;unfold Oper.wp;rw[f,Z6,k];exact l v w' g _ (b.put d v c)
theorem Cy{K:Act->World->Prop}{Rr:World->Prop}(c:ops[i]?=some o)(e:Bv ops L o.guard=true)(f:o.dst=none)(h:Dj P n ds L o w Rr)(j:∀w',Rr w'->∀a,Fr n ds L a->K a w'):∀a,Fr n ds L a->wpOp P ops.toArray (Qp N X R) i K a w:=by
 intro a b;obtain ⟨w',d,g⟩:=h a b;unfold wpOp;rw[YK,c];simp only;rw[if_pos (wantL_ok b e)];left;unfold Oper.wp;rw[d,Oper.upon_skip,f];exact j w' g a b
theorem Vd{K:Act->World->Prop}{Rr:Value->World->Prop}{f:FuncId}{args:List Operand}{vs:List Value}{tys:Array TypeId}(p:ops[i]?=some o)(r:Bv ops L o.guard=true)(s:o.dst=some d)(j:Nat.blt d n=true)
  (m:o.op=.call {callee:=.value (.func f),args:=args.toArray,argTypes:=tys})(b:evs L args=some vs)(l:∀w,(callFunc f vs.toArray).run P w=.ok (.enter f vs.toArray) w)(h:Calls P f vs.toArray w (Ret Rr))
  (t:∀v w',Rr v w'->∀a',Fr n ds ((d,v)::L) a'->K a' w'):∀a,Fr n ds L a->wpOp P ops.toArray (Qp N X R) i K a w:=by
 intro a k;have g:(execOp a.eval o).run P w=.ok (.enter f vs.toArray) w:=by
  unfold execOp;have e:=k.evs b;simp only[m,resolve,Act.eval,Deferred.ofValue,invoke];simp only[go_sem,Yt,e,Ym,YG,l];simpa using l w
 unfold wpOp;rw[YK,p];simp only;rw[if_pos (wantL_ok k r)];left;unfold Oper.wp;rw[g,AaW];exact Aaq h λe w' q=>by
  cases e with
  | returned v=>simp only[s];exact t v w' q _ (k.put d v j)
  | panicked c=>exact q.elim
  | outgrown=>exact q.elim
end held

section last
variable{P:Program}{ops:Array Oper}{Q:Exit->Act->World->Prop}{S:World->Prop}
def Dc(ops:Array Oper)(listed:Array Bool):Prop:=∀k o,ops[k]?=some o->listed.getD k true=true->k<listed.size->∀e∈o.after,Region.binds .any e=true->listed.getD e.on false=true
theorem Dc.start(ops:Array Oper)(k:Nat):Dc ops (Array.replicate k false):=λj o _ h a=>by
 simp at a;simp[Array.getD,a] at h
theorem Dc.next{listed:Array Bool}{i:Nat}(h:Dc ops listed)(l:i∈Region.ready .any ops listed):Dc ops (listed.setIfInBounds i true):=λk o g f m e j d=>by
 have b:k<listed.size:=by simpa using m
 by_cases hki:k=i
 ·subst hki
  obtain ⟨_,o',a,c⟩:=mem_ready.1 l;rw[g] at a;cases a;have:=c e j d;by_cases hei:e.on=k
  ·rw[hei];simp[b]
  rw[getD_set_ne false (ZB hei)];exact this
 rw[getD_set_ne true (ZB hki)] at f;have:=h k o g f b e j d;by_cases hei:e.on=i
 ·rw[hei]
  rcases Yg i listed.size with h'|h'
  ·simp[h']
  rw[hei] at this;simp[Yu h'] at this
 rw[getD_set_ne false (ZB hei)];exact this
def Gv(ops:Array Oper):Bool:=(List.range (ops.size-1)).all λk=>(List.range ops.size).any λj=>k<j&&(match ops[j]? with|some o=>o.after.any λe=>Region.binds .any e&&e.on==k|none=>false)
theorem Nu(h:Gv ops=true)(k:Nat)(d:k+1<ops.size):∃j o,k<j/\ops[j]?=some o/\∃e∈o.after,Region.binds .any e=true/\e.on=k:=by
 simp only[Gv,Aaj,Y2] at h;have:=h k U;simp only[List.any_eq_true,Y2,Yk,decide_eq_true_eq] at this;obtain ⟨j,_,c,a⟩:=this
 cases ho:ops[j]? with
 | none=>rw[ho] at a;cases a
 | some o=>
  rw[ho] at a;simp only[Array.any_eq_true] at a;obtain ⟨q,hq,b⟩:=a;simp only[Yk,beq_iff_eq] at b;exact ⟨j,o,c,ho,_,Array.getElem_mem hq,b.1,b.2⟩
theorem Nv(h:Gv ops=true){listed:Array Bool}(p:Dc ops listed)(hs:listed.size=ops.size)(m:ops.size-1∈Region.ready .any ops listed):∀n k,ops.size-k<=n->k+1<ops.size->listed.getD k false=true:=by
 intro n
 induction n with
 | zero=>intro k l b;omega
 | succ n ih=>
  intro k l b;obtain ⟨j,o,q,f,e,g,i,c⟩:=Nu h k b;have s:j<ops.size:=(YF.1 f).1;by_cases hjl:j=ops.size-1
  ·subst hjl
   obtain ⟨_,o',a,d⟩:=mem_ready.1 m;rw[f] at a;cases a;rw[<-c];exact d e g i
  have:=ih j U U;rw[<-c];exact p j o f (by
   have r:j<listed.size:=by omega
   simp[r] at this ⊢;exact this) U e g i
def F5(P:Program)(ops:Array Oper)(Q:Exit->Act->World->Prop)(S:World->Prop):Nat->Array Bool->Act->World->Prop
 | 0,listed,a,w=>Region.ready .any ops listed=[]/\Q .normal a w
 | fuel+1,listed,a,w=>
  (Region.ready .any ops listed=[]->Q .normal a w)/\
  ∀i∈Region.ready .any ops listed,wpOp P ops Q i (λa' w'=>(i≠ops.size-1->S w')/\F5 P ops Q S fuel (listed.setIfInBounds i true) a' w') a w
theorem Gw:∀(fuel:Nat) (listed:Array Bool) (a:Act) (w:World),F5 P ops Q S fuel listed a w->wpAny P .any ops Q fuel listed a w
 | 0,_,_,_,h=>h
 | fuel+1,_,_,_,h=>⟨h.1,λi hi=>wpOp_mono (λa' w' h'=>Gw fuel _ a' w' h'.2) (h.2 i hi)⟩
theorem KS(s:Gv ops=true){i:Nat}{oi:Oper}{v:Value}(hi:ops[i]?=some oi)(a6:i≠ops.size-1)(m:∀(j:Nat) (o:Oper) cs b,ops[j]?=some o->o.op≠ .select cs b)
  (hQ:∀c a w,Q (.panic c) (a.put oi.dst v) w->Q (.panic c) a w):
  ∀(fuel:Nat) (listed:Array Bool) (a:Act) (w:World),Dc ops listed->listed.size=ops.size->
   (∀j n,ops[j]?=some n->j≠i->listed.getD j true=false->(∀e∈n.after,Region.binds .any e=true->e.on≠i)->oi.apart ops n=true)->
   i∈Region.ready .any ops listed->YieldsIf P ops S oi v a->S w->
   F5 P ops Q S fuel (listed.setIfInBounds i true) (a.put oi.dst v) w->F5 P ops Q S (fuel+1) listed a w:=by
 have a5:i<ops.size:=(YF.1 hi).1;intro fuel
 induction fuel with
 | zero=>
  intro listed a w hd q _ g hy hS H;refine ⟨λh=>(by rw[h] at g;cases g),λj u=>?_⟩;by_cases hji:j=i
  ·subst hji;exact hy.wpOp hi hS ⟨λ_=>hS,H⟩
  have:=ready_mono u hji;rw[H.1] at this;cases this
 | succ fuel ih=>
  intro listed a w hd q d g hy hS H;refine ⟨λh=>(by rw[h] at g;cases g),λj u=>?_⟩;by_cases hji:j=i
  ·subst hji;exact hy.wpOp hi hS ⟨λ_=>hS,H⟩
  have p:=H.2 j (ready_mono u hji);have z:j≠ops.size-1:=λe=>by
   subst e;have:=Nv s hd q u (ops.size-i) i (Yo _) U;have t:=(mem_ready.1 g).1;have hh:i<listed.size:=by omega
   simp[hh] at this t;rw[this] at t;cases t
  obtain ⟨l,n,r,a1⟩:=mem_ready.1 u;have a0:∀e∈n.after,Region.binds .any e=true->e.on≠i:=λe he hb a3=>by
   have p:=a1 e he hb;have t:=(mem_ready.1 g).1;rw[a3] at p;rcases Yg i listed.size with h'|h'
   ·simp[h'] at t p;rw[t] at p;cases p
   simp[Yu h'] at p
  have h2:=wpOp_putIf r (d j n r hji l a0) (λcs b=>m i oi cs b hi) (λcs b=>m j n cs b r) hQ hy p;have f:∀k x,ops[k]?=some x->k≠i->(listed.setIfInBounds j true).getD k true=false->
    (∀e∈x.after,Region.binds .any e=true->e.on≠i)->oi.apart ops x=true:=λk x hk a4 y a2=>by
   refine d k x hk a4 ?_ a2;by_cases hjk:j=k
   ·subst hjk;exact l
   rw[getD_set_ne true hjk] at y;exact y
  refine wpOp_mono (λa' w' h3=>⟨λ_=>h3.2.1 z,ih (listed.setIfInBounds j true) a' w' (hd.next u) (by simpa using q) f (ready_mono g (ZB hji)) h3.1 (h3.2.1 z) ?_⟩) h2;rw[Array.setIfInBounds_comm _ _ hji];exact h3.2.2
theorem Md{listed:Array Bool}{a:Act}{w:World}(hr:Region.ready .any ops listed=[])(h:Q .normal a w):∀fuel,F5 P ops Q S fuel listed a w
 | 0=>⟨hr,h⟩
 | _+1=>⟨λ_=>h,by rw[hr];simp⟩
end last
section last2
variable{P:Program}{ops:List Oper}{N R:Act->World->Prop}{X:Nat->Act->World->Prop}{S:World->Prop}{a:Act}{w:World}{fuel:Nat}{listed:Array Bool}{n d i:Nat}{ds:List Deferred}{L:List (Nat×Value)}{v:Value}{o:Oper}
def Fw(P:Program)(ops:List Oper)(Q:Exit->Act->World->Prop)(S:World->Prop)(fuel:Nat)(listed:Array Bool)(a:Act)(w:World):Prop:=Dc ops.toArray listed->listed.size=ops.length->F5 P ops.toArray Q S fuel listed a w
theorem A1{id:Nat}(S:World->Prop)(k:Nat)(b:ops.length=k)(d:P.follows .mixedOrders=true)
  (h:∀w',Ext No w w'->w'.heap.size=w.heap.size->∀a,Fr n ds L a->Fw P ops (Qp N X R) S k (Array.replicate k false) a w'):∀a,Fr n ds L a->(Code.region id ops.toArray true).wp P (Qp N X R) a w:=λa c=>
 wp_region_any d (Gw (S:=S) _ _ _ _ (by have:=h _ (Ext.drawn No w) Z a c (Dc.start _ _) (by simp[b]);simpa [b] using this))
theorem Bg(i:Nat)(b:Gv ops.toArray=true)(s:ops[i]?=some o)(j:Nat.beq i (ops.length-1)=false)(hs:Region.noSelect ops.toArray=true)(r:Region.free .any ops.toArray listed i=true)(p:(Region.ready .any ops.toArray listed).contains i=true)
  (u:Bv ops L o.guard=true)(t:o.dst=some d)(l:Nat.blt d n=true)(k:Ao P S n ds L o v)(q:S w)
  (K:∀a',Fr n ds ((d,v)::L) a'->Fw P ops (Qp N X R) S fuel (listed.setIfInBounds i true) a' w):∀a,Fr n ds L a->Fw P ops (Qp N X R) S (fuel+1) listed a w:=λa m f c=>
 have e:ops.toArray[i]?=some o:=by simpa using s
 have g:i∈Region.ready .any ops.toArray listed:=by simpa using p
 KS b (i:=i) (oi:=o) (v:=v) e (by simpa using ZO j) (Region.noSelect_spec hs) (λ_ _ _ h=>h.elim) fuel listed a w f (by simpa using c) (Region.free_spec e r) g (.inl ⟨wantL_ok m u,λw' h=>k a m w' h⟩) q
  (by rw[t];exact K _ (m.put d v l) (f.next g) (by simpa using c))
theorem Ax(rs:List Nat)(g:Region.ready .any ops.toArray listed=rs)(d:rs≠[])
  (h:∀i∈rs,∀a,Fr n ds L a->wpOp P ops.toArray (Qp N X R) i (λa' w'=>(i≠ops.length-1->S w')/\Fw P ops (Qp N X R) S fuel (listed.setIfInBounds i true) a' w') a w):∀a,Fr n ds L a->Fw P ops (Qp N X R) S (fuel+1) listed a w:=λa j b c=>
 ⟨λe=>absurd (g▸e) d,λi f=>wpOp_mono (λa' w' q=>⟨by simpa using q.1,q.2 (b.next f) (by simpa using c)⟩) (h i (g▸f) a j)⟩
theorem Bi{fuel:Nat}(c:Region.ready .any ops.toArray listed=[])(h:∀a,Fr n ds L a->N a w):∀a,Fr n ds L a->Fw P ops (Qp N X R) S fuel listed a w:=λa b _ _=>Md c (h a b) _
theorem Aw{q:Prop}{Z_:Act->World->Prop}(b:q->S w)(h:∀a,Fr n ds L a->Z_ a w):∀a,Fr n ds L a->(q->S w)/\Z_ a w:=λa c=>⟨b,h a c⟩
end last2
end
section
def u8(b:UInt8):Value:=.int .u8 b.toNat
def u32(b:UInt32):Value:=.int .u32 b.toNat
def EJ(x:Int):UInt8:=UInt8.ofNat (x%256).toNat
def Dr(x:Int):UInt32:=UInt32.ofNat (x%4294967296).toNat
theorem WH(x:Int):IntKind.u8.wrap x=(EJ x).toNat:=by
 simp[EJ,IntKind.wrap,IntKind.bits,IntKind.signed];omega
theorem Tj(x:Int):IntKind.u32.wrap x=(Dr x).toNat:=by
 simp[Dr,IntKind.wrap,IntKind.bits,IntKind.signed];omega
theorem Ve(b:UInt32):Dr b.toNat=b:=by
 apply Zv.1;have:=b.toNat_lt;simp[Dr];omega
theorem Tk(x:Int):Value.int .u8 (IntKind.u8.wrap x)=u8 (EJ x):=congrArg _ (WH x)
theorem Qn(x:Int):Value.int .u32 (IntKind.u32.wrap x)=u32 (Dr x):=congrArg _ (Tj x)
theorem XO{a b:UInt8}(h:u8 a=u8 b):a=b:=by
 simp only[u8,Value.int.injEq,true_and] at h;exact Z8.1 U
section
variable{P:Program}{C:World->Prop}{o:Oper}{a:Act}{w z:World}{Γ:List Ai}{n:Nat}{ds:List Deferred}{L:List (Nat×Value)}{v:Value}{x y:Operand}{xt yt:TypeId}
theorem Vf{p q:UInt8}(c:o.op=.binOp .xor xt x y yt)(d:ev L x=some (u8 p))(e:ev L y=some (u8 q)):Ao P C n ds L o (u8 (p ^^^ q)):=λa b w _=>by
 simp only[execOp,c,b.ev d,b.ev e,u8];simp[go_sem,Op.intBits,IntKind.wrap,IntKind.bits,IntKind.signed];have:=(p ^^^ q).toNat_lt;rw[<-UInt8.toNat_xor];show (((p ^^^ q).toNat:Int))%256=((p ^^^ q).toNat:Int);omega
theorem Ou{p q:UInt8}(f:o.op=.binOp .eql xt x y yt){k:IntKind}(c:CZ P xt xt=some k)(g:ev L x=some (u8 p))(i:ev L y=some (u8 q)):Ao P C n ds L o (.bool (decide (p=q))):=λa b w _=>by
 obtain ⟨d,j,e⟩:=D4 c;simp only[execOp,f,b.ev g,b.ev i,u8];simp[e,go_sem];rw[Yf];simp;exact ⟨λh=>Z8.1 U,λh=>by rw[h]⟩
theorem Vg{p q:UInt8}(g:o.op=.binOp .neq xt x y yt){k:IntKind}(c:CZ P xt xt=some k)(i:ev L x=some (u8 p))(j:ev L y=some (u8 q)):Ao P C n ds L o (.bool (decide (p≠q))):=λa b w _=>by
 obtain ⟨d,l,f⟩:=D4 c;simp only[execOp,g,b.ev i,b.ev j,u8];simp[f,go_sem];rw[Yf];simp;exact ⟨λh e=>h (by rw[e]),λh e=>h (Z8.1 U)⟩
theorem Tl{p q:UInt32}(f:o.op=.binOp .eql xt x y yt){k:IntKind}(c:CZ P xt xt=some k)(g:ev L x=some (u32 p))(i:ev L y=some (u32 q)):Ao P C n ds L o (.bool (decide (p=q))):=λa b w _=>by
 obtain ⟨d,j,e⟩:=D4 c;simp only[execOp,f,b.ev g,b.ev i,u32];simp[e,go_sem];rw[Yf];simp;exact ⟨λh=>Zv.1 U,λh=>by rw[h]⟩
theorem Mx{p q:UInt32}(g:o.op=.binOp .neq xt x y yt){k:IntKind}(c:CZ P xt xt=some k)(i:ev L x=some (u32 p))(j:ev L y=some (u32 q)):Ao P C n ds L o (.bool (decide (p≠q))):=λa b w _=>by
 obtain ⟨d,l,f⟩:=D4 c;simp only[execOp,g,b.ev i,b.ev j,u32];simp[f,go_sem];rw[Yf];simp;exact ⟨λh e=>h (by rw[e]),λh e=>h (Zv.1 U)⟩
theorem Hm{p q:UInt32}(c:o.op=.binOp .xor xt x y yt)(d:ev L x=some (u32 p))(e:ev L y=some (u32 q)):Ao P C n ds L o (u32 (p ^^^ q)):=λa b w _=>by
 simp only[execOp,c,b.ev d,b.ev e,u32];simp[go_sem,Op.intBits,IntKind.wrap,IntKind.bits,IntKind.signed];have:=(p ^^^ q).toNat_lt;rw[<-UInt32.toNat_xor];show (((p ^^^ q).toNat:Int))%4294967296=((p ^^^ q).toNat:Int);omega
theorem Tm{p q:UInt32}(c:o.op=.binOp .and xt x y yt)(d:ev L x=some (u32 p))(e:ev L y=some (u32 q)):Ao P C n ds L o (u32 (p&&&q)):=λa b w _=>by
 simp only[execOp,c,b.ev d,b.ev e,u32];simp[go_sem,Op.intBits,IntKind.wrap,IntKind.bits,IntKind.signed];have:=(p&&&q).toNat_lt;rw[<-AaO];show (((p&&&q).toNat:Int))%4294967296=((p&&&q).toNat:Int);omega
theorem Tn{p q:UInt32}(c:o.op=.binOp .mul xt x y yt)(d:ev L x=some (u32 p))(e:ev L y=some (u32 q)):Ao P C n ds L o (u32 (p*q)):=λa b w _=>by
 simp only[execOp,c,b.ev d,b.ev e,u32];simp[go_sem,IntKind.wrap,IntKind.bits,IntKind.signed,UInt32.toNat_mul]
theorem Fj{p:UInt32}{k:IntKind}{m:Int}{n':UInt32}(e:o.op=.binOp .shr xt x y yt)(h:ev L x=some (u32 p))(i:ev L y=some (.int k m))(f:0<=m/\m<32/\n'=UInt32.ofNat m.toNat):Ao P C n ds L o (u32 (p>>>n')):=λa c w _=>by
 obtain ⟨d,l,rfl⟩:=f;obtain ⟨j,rfl⟩:=ZK d;simp only[execOp,e,c.ev h,c.ev i,u32];have g:¬((j:Int)<0):=by omega
 have b:min j 32=j:=by omega
 simp[go_sem,Op.shift,IntKind.bits,g,b,UInt32.toNat_shiftRight];rw[AaL];simp;rw[YX U]
theorem Hn{p:UInt32}(d:o.op=.unOp .xor xt x)(c:ev L x=some (u32 p)):Ao P C n ds L o (u32 (4294967295 ^^^ p)):=λa b w _=>by
 simp only[execOp,d,b.ev c,u32];simp[go_sem,Op.intBits,IntKind.max,IntKind.wrap,IntKind.bits,IntKind.signed];have:=(4294967295 ^^^ p).toNat_lt;have e:(4294967295 ^^^ p).toNat=4294967295 ^^^ p.toNat:=UInt32.toNat_xor _ _;rw[<-e];show (((4294967295 ^^^ p).toNat:Int))%4294967296=((4294967295 ^^^ p).toNat:Int);omega

theorem KF{a:TypeId}{k:IntKind}{p:Int}(d:o.op=.convert xt a x)(b:CZ P xt a=some .u8)(c:ev L x=some (.int k p)):Ao P C n ds L o (u8 (EJ p)):=by
 have:=GV (P:=P) (C:=C) (n:=n) (ds:=ds) (L:=L) d b c;rwa[Tk] at this
theorem GX{a:TypeId}{k:IntKind}{p:Int}(d:o.op=.convert xt a x)(b:CZ P xt a=some .u32)(c:ev L x=some (.int k p)):Ao P C n ds L o (u32 (Dr p)):=by
 have:=GV (P:=P) (C:=C) (n:=n) (ds:=ds) (L:=L) d b c;rwa[Qn] at this
theorem KG{a:TypeId}{p:UInt8}(b:o.op=.convert xt a x)(d:CZ P xt a=some .i64)(c:ev L x=some (u8 p)):Ao P C n ds L o (Aa p.toNat):=by
 have:=GV (P:=P) (C:=C) (n:=n) (ds:=ds) (L:=L) b d c;have hp:=p.toNat_lt;rwa[Y1 _ U] at this
theorem Ov{a:TypeId}{p:UInt32}(b:o.op=.convert xt a x)(d:CZ P xt a=some .i64)(c:ev L x=some (u32 p)):Ao P C n ds L o (Aa p.toNat):=by
 have:=GV (P:=P) (C:=C) (n:=n) (ds:=ds) (L:=L) b d c;have hp:=p.toNat_lt;rwa[Y1 _ U] at this
theorem Fk{a:TypeId}{p:UInt32}(b:o.op=.convert xt a x)(d:CZ P xt a=some .u8)(c:ev L x=some (u32 p)):Ao P C n ds L o (u8 p.toUInt8):=by
 have:=KF (P:=P) (C:=C) (n:=n) (ds:=ds) (L:=L) b d c;have e:EJ p.toNat=p.toUInt8:=by
  apply Z8.1;simp[EJ];omega
 rwa[e] at this
theorem To{a:TypeId}{p:UInt8}(b:o.op=.convert xt a x)(d:CZ P xt a=some .u32)(c:ev L x=some (u8 p)):Ao P C n ds L o (u32 p.toUInt32):=by
 have:=GX (P:=P) (C:=C) (n:=n) (ds:=ds) (L:=L) b d c;have hp:=p.toNat_lt;have e:Dr p.toNat=p.toUInt32:=by
  apply Zv.1;simp[Dr];omega
 rwa[e] at this

def EY(P:Program)(t:TypeId):Bool:=match P.underlying t with|some (.pointer _)=>true|_=>false
theorem Gx{t:TypeId}(h:EY P t=true):∃e,P.underlying t=some (.pointer e):=by
 unfold EY at h;split at h
 ·exact ⟨_,by assumption⟩
 cases h
def Qo(P:Program)(t:TypeId):Bool:=match P.underlying t with|some (.slice _)=>true|_=>false
theorem Tp{t:TypeId}(h:Qo P t=true):∃e,P.underlying t=some (.slice e):=by
 unfold Qo at h;split at h
 ·exact ⟨_,by assumption⟩
 cases h
theorem KT{g:Addr}(d:o.op=.binOp .eql xt x y yt)(b:EY P xt=true)(f:ev L x=some (.pointer (some g)))(h:ev L y=some (.pointer none)):Ao P C n ds L o (.bool false):=λa c w _=>by
 obtain ⟨e,b⟩:=Gx b;simp only[execOp,d,c.ev f,c.ev h];simp[b,go_sem]
theorem Qq{g:Addr}(d:o.op=.binOp .neq xt x y yt)(b:EY P xt=true)(f:ev L x=some (.pointer (some g)))(h:ev L y=some (.pointer none)):Ao P C n ds L o (.bool true):=λa c w _=>by
 obtain ⟨e,b⟩:=Gx b;simp only[execOp,d,c.ev f,c.ev h];simp[b,go_sem]
theorem Qr(d:o.op=.binOp .eql xt x y yt)(b:EY P xt=true)(f:ev L x=some (.pointer none))(g:ev L y=some (.pointer none)):Ao P C n ds L o (.bool true):=λa c w _=>by
 obtain ⟨e,b⟩:=Gx b;simp only[execOp,d,c.ev f,c.ev g];simp[b,go_sem]
theorem Qt(d:o.op=.binOp .neq xt x y yt)(b:EY P xt=true)(f:ev L x=some (.pointer none))(g:ev L y=some (.pointer none)):Ao P C n ds L o (.bool false):=λa c w _=>by
 obtain ⟨e,b⟩:=Gx b;simp only[execOp,d,c.ev f,c.ev g];simp[b,go_sem]
theorem KU{h:Addr}{l c:Nat}(f:o.op=.binOp .eql xt x y yt)(b:Qo P xt=true)(g:ev L x=some (.slice (some h) l c))(i:ev L y=some (.slice none 0 0)):Ao P C n ds L o (.bool false):=λa d w _=>by
 obtain ⟨e,b⟩:=Tp b;simp only[execOp,f,d.ev g,d.ev i];simp[Lib.run_eql_slice_nil _ _ e _ _ _ _ _ b,go_sem]
theorem Gy{f:Fn}{bs cs:List Operand}{c vs:List Value}(h:o.op=.makeFunc f bs.toArray cs.toArray)(g:evs L bs=some c)(i:evs L cs=some vs):Ao P C n ds L o (.func f c.toArray vs.toArray):=λa b w _=>by
 have e:=b.evs g;have d:=b.evs i;simp only[execOp,h,Yt,e,d];rfl

def KV(P:Program)(t:TypeId):Option (Nat×Nat):=match P.underlying t with
 | some (.pointer a)=>Gs P a
 | _=>none
theorem Ow{t:TypeId}{l z:Nat}(h:KV P t=some (l,z)):∃a e i,P.underlying t=some (.pointer a)/\P.underlying a=some (.array l e)/\P.info? e=some i/\i.size=z:=by
 unfold KV at h;split at h
 ·rename_i a c
  obtain ⟨e,i,f,d,b⟩:=Gt h;exact ⟨a,e,i,c,f,d,b⟩
 cases h
theorem A9{t:TypeId}{lo m:Option Operand}{b a l c p q z o' l' c':Nat}(v:o.op=.slice t x lo m none)(s:CE P t=some z)
  (hx:ev L x=some (.slice (some ⟨b,a,none⟩) l c))(f:(lo=none/\p=0)\/∃y k i,lo=some y/\ev L y=some (.int k i)/\i=(p:Int))(g:(m=none/\q=l)\/∃y k i,m=some y/\ev L y=some (.int k i)/\i=(q:Int))(j:p<=q)(r:q<=c)
  (h1:a+p*z=o')(w:q-p=l')(h3:c-p=c')(d:p<c\/p*z=0):Ao P C n ds L o (.slice (some ⟨b,o',none⟩) l' c'):=by
 have:=Jv (P:=P) (C:=C) (n:=n) (ds:=ds) (L:=L) v s hx f g j r;rw[w,h3] at this;have e:(if c=p then (some ⟨b,a,none⟩:Option Addr) else (some ⟨b,a,none⟩:Option Addr).map (·.add (p*z)))=some ⟨b,o',none⟩:=by
  subst h1;split
  ·rename_i h;rcases d with d|d
   ·omega
   simp[d]
  simp only[Ys,X0];unfold Addr.add;split
  ·rename_i u;simp[u]
  rfl
 rwa[e] at this
theorem Xx{t:TypeId}{lo hi:Option Operand}{b j n' p q z o' l' c':Nat}(ho:o.op=.slice t x lo hi none)(ht:KV P t=some (n',z))
  (hx:ev L x=some (.pointer (some ⟨b,j,none⟩)))(a0:(lo=none/\p=0)\/∃y k i,lo=some y/\ev L y=some (.int k i)/\i=(p:Int))(a1:(hi=none/\q=n')\/∃y k i,hi=some y/\ev L y=some (.int k i)/\i=(q:Int))(d:p<=q)(m:q<=n')
  (h1:j+p*z=o')(h2:q-p=l')(v:n'-p=c')(h4:p<n'\/p*z=0):Ao P C n ds L o (.slice (some ⟨b,o',none⟩) l' c'):=λa r w _=>by
 obtain ⟨ar,e,i0,l,g,c,u⟩:=Ow ht;have g1:(0:Int)<=(p:Int)/\(p:Int)<=(q:Int):=by omega
 have g2:(0:Int)<=(q:Int)/\(q:Int)<=(n':Int):=by omega
 have f:((if n'=p then (⟨b,j,none⟩:Addr) else (⟨b,j,none⟩:Addr).add (p*z)))=⟨b,o',none⟩:=by
  subst h1;split
  ·rename_i h;rcases h4 with h4|h4
   ·omega
   simp[h4]
  unfold Addr.add;split
  ·rename_i h0;simp[h0]
  rfl
 rcases a0 with ⟨rfl,rfl⟩|⟨y,k,i,rfl,hy,rfl⟩<;>rcases a1 with ⟨rfl,rfl⟩|⟨y',k',i',rfl,s,rfl⟩
 ·simp only[execOp,ho,Ys,YT,r.ev hx];simp[Instr.sliceAt,Instr.slice,run_underlying l,run_underlying g,Instr.sureAddr,Instr.sliceBounds,sizeOf,typeInfo,c,u,d,m,go_sem,f,h2,v]<;>(try simp_all)<;>(try omega)
 ·simp only[execOp,ho,Ys,YT,r.ev hx,r.ev s];simp[Instr.sliceAt,Instr.slice,run_underlying l,run_underlying g,Instr.sureAddr,Instr.sliceBounds,Instr.sliceBound,asIntOf,g2,sizeOf,typeInfo,c,u,d,m,go_sem,f,h2,v]<;>(try simp_all)<;>(try omega)
 ·simp only[execOp,ho,Ys,YT,r.ev hx,r.ev hy];simp[Instr.sliceAt,Instr.slice,run_underlying l,run_underlying g,Instr.sureAddr,Instr.sliceBounds,Instr.sliceBound,asIntOf,g1,sizeOf,typeInfo,c,u,d,m,go_sem,f,h2,v]<;>(try simp_all)<;>(try omega)
 simp only[execOp,ho,Ys,YT,r.ev hx,r.ev hy,r.ev s];simp[Instr.sliceAt,Instr.slice,run_underlying l,run_underlying g,Instr.sureAddr,Instr.sliceBounds,Instr.sliceBound,asIntOf,g1,g2,sizeOf,typeInfo,c,u,d,m,go_sem,f,h2,v]<;>(try simp_all)<;>(try omega)
theorem Fx{t:TypeId}{lo hi:Option Operand}{b j n' p q z o' l' c':Nat}(ho:o.op=.slice t x lo hi none)(ht:Gs P t=some (n',z))
  (hx:ev L x=some (.pointer (some ⟨b,j,none⟩)))(a0:(lo=none/\p=0)\/∃y k i,lo=some y/\ev L y=some (.int k i)/\i=(p:Int))(a1:(hi=none/\q=n')\/∃y k i,hi=some y/\ev L y=some (.int k i)/\i=(q:Int))(d:p<=q)(l:q<=n')
  (h1:j+p*z=o')(h2:q-p=l')(u:n'-p=c')(v:p<n'\/p*z=0):Ao P C n ds L o (.slice (some ⟨b,o',none⟩) l' c'):=λa m w _=>by
 obtain ⟨e,i0,g,c,s⟩:=Gt ht;have g1:(0:Int)<=(p:Int)/\(p:Int)<=(q:Int):=by omega
 have g2:(0:Int)<=(q:Int)/\(q:Int)<=(n':Int):=by omega
 have f:((if n'=p then (⟨b,j,none⟩:Addr) else (⟨b,j,none⟩:Addr).add (p*z)))=⟨b,o',none⟩:=by
  subst h1;split
  ·rename_i h;rcases v with v|v
   ·omega
   simp[v]
  unfold Addr.add;split
  ·rename_i h0;simp[h0]
  rfl
 rcases a0 with ⟨rfl,rfl⟩|⟨y,k,i,rfl,hy,rfl⟩<;>rcases a1 with ⟨rfl,rfl⟩|⟨y',k',i',rfl,r,rfl⟩
 ·simp only[execOp,ho,Ys,YT,m.ev hx];simp[Instr.sliceAt,Instr.slice,run_underlying g,Instr.sureAddr,Instr.sliceBounds,sizeOf,typeInfo,c,s,d,l,go_sem,f,h2,u]<;>(try simp_all)<;>(try omega)
 ·simp only[execOp,ho,Ys,YT,m.ev hx,m.ev r];simp[Instr.sliceAt,Instr.slice,run_underlying g,Instr.sureAddr,Instr.sliceBounds,Instr.sliceBound,asIntOf,g2,sizeOf,typeInfo,c,s,d,l,go_sem,f,h2,u]<;>(try simp_all)<;>(try omega)
 ·simp only[execOp,ho,Ys,YT,m.ev hx,m.ev hy];simp[Instr.sliceAt,Instr.slice,run_underlying g,Instr.sureAddr,Instr.sliceBounds,Instr.sliceBound,asIntOf,g1,sizeOf,typeInfo,c,s,d,l,go_sem,f,h2,u]<;>(try simp_all)<;>(try omega)
 simp only[execOp,ho,Ys,YT,m.ev hx,m.ev hy,m.ev r];simp[Instr.sliceAt,Instr.slice,run_underlying g,Instr.sureAddr,Instr.sliceBounds,Instr.sliceBound,asIntOf,g1,g2,sizeOf,typeInfo,c,s,d,l,go_sem,f,h2,u]<;>(try simp_all)<;>(try omega)

theorem BL(H:Sep z Γ w){e:TypeId}{zs:List Value}(f:o.op=.alloc e)(c:zeroCells P e=some zs.toArray):BJ P n ds L o w (λv w'=>∃b,v=V b/\Sep z (blk b zs e::Γ) w'):=λa d=>by
 obtain ⟨v,w',g,b,rfl,hs,_,h,i⟩:=Th (w:=w) f c a d;exact ⟨_,w',g,b,Z,H.new i U h⟩
theorem Ff(H:Sep z Γ w){e:TypeId}{cs:List Value}(f:o.op=.box e x)(c:ev L x=some v)(i:v.cells=cs.toArray):BJ P n ds L o w (λv w'=>∃b,v=V b/\Sep z (blk b cs e::Γ) w'):=λa d=>by
 obtain ⟨v,w',g,b,rfl,hs,_,h,c⟩:=WG (P:=P) (w:=w) f c i a d;exact ⟨_,w',g,b,Z,H.new c U h⟩
theorem AE(i:Nat)(H:Sep z Γ w){t ty:TypeId}{b p:Nat}{cs vs:List Value}(e:Γ[i]?=some (blk b cs ty))(g:o.op=.store t x y)(c:ev L x=some (.pointer (some ⟨b,p,none⟩)))(j:ev L y=some v)(s:v.cells=vs.toArray)(m:∀u∈vs,u.oneCell'=true)
  (hs:(P.info? t).map (·.size)=some vs.length)(hp:p+vs.length<=cs.length){out:List Value}(d:cs.take p++vs++cs.drop (p+vs.length)=out):
  Dj P n ds L o w (λw'=>Sep z (Γ.set i (blk b out ty)) w'):=λa l=>by
 obtain ⟨w',h,r,c,_⟩:=Mw g c j s m hs (H.blk i e) hp d a l;refine ⟨w',h,H.write i e c.os c.tape c.output r (λk f=>?_)⟩;rcases Yg k w.heap.size with q|q
 ·exact c.block k q f
 rw[Yu q,Yu U]
theorem Nw(i:Nat)(H:Sep z Γ w){t ty:TypeId}{b:Nat}{a:Value}{xs:List Value}(e:Γ[i]?=some (blk b (a::xs) ty))(c:o.op=.store t x y)(f:ev L x=some (V b))(g:ev L y=some v)(h:v.cells= #[v])(d:v.oneCell'=true)(hs:(P.info? t).map (·.size)=some 1):Dj P n ds L o w (λw'=>Sep z (Γ.set i (blk b (v::xs) ty)) w'):=
 AE i H e c f g (vs:=[v]) h (by simp[d]) hs O Z
theorem Xy(i:Nat)(H:Sep z Γ w){t ty:TypeId}{b:Nat}{a j:Value}{xs:List Value}(f:Γ[i]?=some (blk b (a::j::xs) ty))(c:o.op=.store t x y)(g:ev L x=some (.pointer (some ⟨b,1,none⟩)))(h:ev L y=some v)(e:v.cells= #[v])(d:v.oneCell'=true)(hs:(P.info? t).map (·.size)=some 1):Dj P n ds L o w (λw'=>Sep z (Γ.set i (blk b (a::v::xs) ty)) w'):=
 AE i H f c g h (vs:=[v]) e (by simp[d]) hs O Z
theorem Jw(i:Nat)(H:Sep z Γ w){t ty:TypeId}{b:Nat}{a c x2:Value}{xs:List Value}(g:Γ[i]?=some (blk b (a::c::x2::xs) ty))(d:o.op=.store t x y)(h:ev L x=some (.pointer (some ⟨b,2,none⟩)))(e:ev L y=some v)(j:v.cells= #[v])(f:v.oneCell'=true)(hs:(P.info? t).map (·.size)=some 1):Dj P n ds L o w (λw'=>Sep z (Γ.set i (blk b (a::c::v::xs) ty)) w'):=
 AE i H g d h e (vs:=[v]) j (by simp[f]) hs O Z
theorem Xz(i:Nat)(H:Sep z Γ w){t ty:TypeId}{b:Nat}{c g x2 e a f d l:Value}{xs:List Value}(p:Γ[i]?=some (blk b (c::g::x2::e::a::f::d::l::xs) ty))(h:o.op=.store t x y)(q:ev L x=some (.pointer (some ⟨b,7,none⟩)))(k:ev L y=some v)(j:v.cells= #[v])(m:v.oneCell'=true)(hs:(P.info? t).map (·.size)=some 1):Dj P n ds L o w (λw'=>Sep z (Γ.set i (blk b (c::g::x2::e::a::f::d::v::xs) ty)) w'):=
 AE i H p h q k (vs:=[v]) j (by simp[m]) hs O Z
theorem Qu(i:Nat)(H:Sep z Γ w){t ty:TypeId}{b:Nat}{c j x2 e a h d g f s:Value}{xs:List Value}(q:Γ[i]?=some (blk b (c::j::x2::e::a::h::d::g::f::s::xs) ty))(k:o.op=.store t x y)(r:ev L x=some (.pointer (some ⟨b,9,none⟩)))(m:ev L y=some v)(l:v.cells= #[v])(p:v.oneCell'=true)(hs:(P.info? t).map (·.size)=some 1):Dj P n ds L o w (λw'=>Sep z (Γ.set i (blk b (c::j::x2::e::a::h::d::g::f::v::xs) ty)) w'):=
 AE i H q k r m (vs:=[v]) l (by simp[p]) hs O Z
theorem SO(i:Nat)(H:Sep z Γ w){t ty:TypeId}{b:Nat}{e m x2 k d j f h g l a c:Value}{xs:List Value}(u:Γ[i]?=some (blk b (e::m::x2::k::d::j::f::h::g::l::a::c::xs) ty))(p:o.op=.store t x y)(hx:ev L x=some (.pointer (some ⟨b,11,none⟩)))(r:ev L y=some v)(q:v.cells= #[v])(s:v.oneCell'=true)(hs:(P.info? t).map (·.size)=some 1):Dj P n ds L o w (λw'=>Sep z (Γ.set i (blk b (e::m::x2::k::d::j::f::h::g::l::a::v::xs) ty)) w'):=
 AE i H u p hx r (vs:=[v]) q (by simp[s]) hs O Z
theorem WI(i:Nat)(H:Sep z Γ w){t ty:TypeId}{b:Nat}{f p x2 l e k g j h m c a d:Value}{xs:List Value}(hi:Γ[i]?=some (blk b (f::p::x2::l::e::k::g::j::h::m::c::a::d::xs) ty))(q:o.op=.store t x y)(hx:ev L x=some (.pointer (some ⟨b,12,none⟩)))(s:ev L y=some v)(r:v.cells= #[v])(u:v.oneCell'=true)(hs:(P.info? t).map (·.size)=some 1):Dj P n ds L o w (λw'=>Sep z (Γ.set i (blk b (f::p::x2::l::e::k::g::j::h::m::c::a::v::xs) ty)) w'):=
 AE i H hi q hx s (vs:=[v]) r (by simp[u]) hs O Z
end

section calls
variable{P:Program}{ops:List Oper}{Q:Exit->Act->World->Prop}{a:Act}{w z:World}{rest:List Oper}{o:Oper}{n d:Nat}{ds:List Deferred}{L:List (Nat×Value)}{v:Value}{Γ pre R':List Ai}{post:Value->List Ai->Prop}{f:FuncId}{args:List Operand}{vs:List Value}{tys:Array TypeId}
theorem Cn.or{A B:Ai}(c:Cn P f vs (A::pre) post)(a:Cn P f vs (B::pre) post):Cn P f vs ((λh=>A h\/B h)::pre) post:=λz R w H=>by
 obtain ⟨b,H⟩:=H.ex 0 (σ:=Bool) (B:=λb=>bif b then A else B) Z (λh q=>by rcases q with q|q;exact ⟨true,q⟩;exact ⟨false,q⟩)
 cases b with
 | true=>exact c z R w H
 | false=>exact a z R w H
theorem Cn.at(c:Cn P f vs pre post)(H:Sep z Γ w)(k:Nat)(b:List Nat)(a:Fv k b=true)(e:C2 Γ b++Γ.drop k=pre++R'):Calls P f vs.toArray w (Ret λv w'=>∃Γ',post v Γ'/\Sep z (Γ'++R') w'):=
 c z R' w (H.perm k b a e)
theorem XN(p:Bv ops L o.guard=true)(m:o.dst=some d)(c:Nat.blt d n=true)(i:o.op=.call {callee:=.value (.func f),args:=args.toArray,argTypes:=tys})(b:evs L args=some vs)(j:∀w,(callFunc f vs.toArray).run P w=.ok (.enter f vs.toArray) w)
  (r:Cn P f vs pre post)(H:Sep z Γ w)(k:Nat)(h:List Nat)(g:Fv k h=true)(e:C2 Γ h++Γ.drop k=pre++R')
  (K:∀v w' Γ',post v Γ'->Sep z (Γ'++R') w'->∀a',Fr n ds ((d,v)::L) a'->wpList P ops.toArray Q rest a' w'):∀a,Fr n ds L a->wpList P ops.toArray Q (o::rest) a w:=
 Om p m c i b j (r.at H k h g e) λv w' ⟨Γ',q,l⟩=>K v w' Γ' q l
theorem Cn.use(a:Cn P f vs pre post)(H:Sep z (pre++R') w):Calls P f vs.toArray w (Ret λv w'=>∃Γ',post v Γ'/\Sep z (Γ'++R') w'):=a z R' w H
theorem E1(k:Bv ops L o.guard=true)(j:o.dst=some d)(c:Nat.blt d n=true)(g:o.op=.call {callee:=.value (.func f),args:=args.toArray,argTypes:=tys})(b:evs L args=some vs)(h:∀w,(callFunc f vs.toArray).run P w=.ok (.enter f vs.toArray) w)
  (l:Cn P f vs pre post)(H:Sep z Γ w)(e:Γ=pre++R')
  (K:∀v w' Γ',post v Γ'->Sep z (Γ'++R') w'->∀a',Fr n ds ((d,v)::L) a'->wpList P ops.toArray Q rest a' w'):∀a,Fr n ds L a->wpList P ops.toArray Q (o::rest) a w:=
 Om k j c g b h (l.use (e▸H)) λv w' ⟨Γ',q,i⟩=>K v w' Γ' q i
theorem cq(i:Cn P f vs pre post)(hq:∀u Γ',post u Γ'->u=v/\Γ'=pre)(k:Nat)(d a:List Nat)(c:Fv k d=true)(e:C2 Γ d++Γ.drop k=pre++R')(b:Fv k a=true)(g:C2 (pre++R') a++(pre++R').drop k=Γ):
  ∀w,Sep z Γ w->Calls P f vs.toArray w (Ret λu w'=>u=v/\Sep z Γ w'):=λw H=>
 Ret.mono (i.at H k d c e) λu w' ⟨Γ',q,h⟩=>by
  obtain ⟨rfl,rfl⟩:=hq u Γ' q;exact ⟨Z,h.perm k a b g⟩
theorem WJ{Rr:Value->World->Prop}(f:Bv ops L o.guard=true)(d:o.dst=none)(h:BJ P n ds L o w Rr)(K:∀v w',Rr v w'->∀a,Fr n ds L a->wpList P ops.toArray Q rest a w'):∀a,Fr n ds L a->wpList P ops.toArray Q (o::rest) a w:=by
 intro a b;obtain ⟨v,w',c,e⟩:=h a b;unfold wpList;rw[if_pos (wantL_ok b f)];left;unfold Oper.wp;rw[c,Z6,d];exact K v w' e a b
end calls
section callsH
variable{P:Program}{ops:List Oper}{N R:Act->World->Prop}{X:Nat->Act->World->Prop}{a:Act}{w z:World}{n d i:Nat}{ds:List Deferred}{L:List (Nat×Value)}{v:Value}{o:Oper}{Γ pre R':List Ai}{post:Value->List Ai->Prop}{f:FuncId}{args:List Operand}{vs:List Value}{tys:Array TypeId}{K:Act->World->Prop}
theorem BF(k:ops[i]?=some o)(m:Bv ops L o.guard=true)(l:o.dst=some d)(c:Nat.blt d n=true)(g:o.op=.call {callee:=.value (.func f),args:=args.toArray,argTypes:=tys})(b:evs L args=some vs)(h:∀w,(callFunc f vs.toArray).run P w=.ok (.enter f vs.toArray) w)
  (r:Cn P f vs pre post)(H:Sep z Γ w)(e:Γ=pre++R')
  (p:∀v w' Γ',post v Γ'->Sep z (Γ'++R') w'->∀a',Fr n ds ((d,v)::L) a'->K a' w'):∀a,Fr n ds L a->wpOp P ops.toArray (Qp N X R) i K a w:=
 Vd k m l c g b h (r.use (e▸H)) λv w' ⟨Γ',q,j⟩=>p v w' Γ' q j
theorem Dp(h:ops[i]?=some o)(j:Bv ops L o.guard=true)(k:o.dst=some d)(c:Nat.blt d n=true)(b:Ao P (· =w) n ds L o v)(l:∀a',Fr n ds ((d,v)::L) a'->K a' w):∀a,Fr n ds L a->wpOp P ops.toArray (Qp N X R) i K a w:=
 Cj h j k c (Rr:=λu w'=>u=v/\w'=w) (λa g=>⟨v,w,b a g w Z,Z,Z⟩) λ_ _ ⟨f,e⟩=>by subst f;subst e;exact l
theorem WK{Rr:Value->World->Prop}(c:ops[i]?=some o)(f:Bv ops L o.guard=true)(d:o.dst=none)(h:BJ P n ds L o w Rr)(j:∀v w',Rr v w'->∀a,Fr n ds L a->K a w'):∀a,Fr n ds L a->wpOp P ops.toArray (Qp N X R) i K a w:=by
 intro a b;obtain ⟨v,w',e,g⟩:=h a b;unfold wpOp;rw[YK,c];simp only;rw[if_pos (wantL_ok b f)];left;unfold Oper.wp;rw[e,Z6,d];exact j v w' g a b
end callsH
end
section
def J8:IntKind->IntKind->Bool
 | .i64,.i64=>true
 | .u8,.u8=>true
 | .u32,.u32=>true
 | .u64,.u64=>true
 | .i32,.i32=>true
 | .u16,.u16=>true
 | _,_=>false
theorem F6{k a:IntKind}(h:J8 k a=true):k=a:=by unfold J8 at h;split at h<;>first|rfl|cases h
def icmp(b:BinOp)(p q:Int):Option Value:=match b with
 | .lss=>some (.bool (decide (p<q)))
 | .leq=>some (.bool (decide (p<=q)))
 | .gtr=>some (.bool (decide (q<p)))
 | .geq=>some (.bool (decide (q<=p)))
 | .eql=>some (.bool (decide (p=q)))
 | .neq=>some (.bool (decide (p≠q)))
 | _=>none
def Xl(n:Option Nat)(p r:Nat):Bool:=match n with
 | some k=>Nat.beq (p+k) r
 | none=>false
abbrev Mm:=List (Nat×List Value×TypeId)
def MemL(w:World):Mm->Prop
 | []=>True
 | e::M=>Blk e.1 e.2.1 e.2.2 w/\MemL w M
theorem AU{w:World}:MemL w []:=trivial
theorem A3{w:World}{b:Nat}{cs:List Value}{t:TypeId}{M:Mm}(h:Blk b cs t w)(g:MemL w M):MemL w ((b,cs,t)::M):=⟨h,g⟩
theorem MemL.get{w:World}:∀{M:Mm} {j:Nat} {e:Nat×List Value×TypeId},MemL w M->M[j]?=some e->Blk e.1 e.2.1 e.2.2 w
 | [],_,_,_,h=>by simp at h
 | _::_,0,_,g,h=>by simp at h;subst h;exact g.1
 | _::_,j+1,_,g,h=>MemL.get (j:=j) g.2 (by simpa using h)
structure Qv where
 v:Value
 hs:List Nat
 ok:Bool
 a:List (Nat×Nat)
def Nx(P:Program)(M:Mm)(L:List (Nat×Value))(hs:List Nat):Op->Option Qv
 | .move x=>match ev L x with|some v=>some ⟨v,hs,true,[]⟩|none=>none
 | .assign x=>match ev L x with|some v=>some ⟨v,hs,true,[]⟩|none=>none
 | .pick c x y=>match ev L c with
  | some (.bool true)=>(match ev L x with|some v=>some ⟨v,hs,true,[]⟩|none=>none)
  | some (.bool false)=>(match ev L y with|some v=>some ⟨v,hs,true,[]⟩|none=>none)
  | _=>none
 | .extract x i=>match ev L x with
  | some (.tuple vs)=>(match vs.toList[i]? with|some v=>some ⟨v,hs,true,[]⟩|none=>none)
  | _=>none
 | .nilCheck x=>match ev L x with
  | some (.pointer (some ad))=>some ⟨.pointer (some ad),hs,true,[]⟩
  | _=>none
 | .unOp b _ x=>match b with
  | .not=>(match ev L x with|some (.bool c)=>some ⟨.bool !c,hs,true,[]⟩|_=>none)
  | _=>none
 | .binOp b _ x y _=>match ev L x with
  | some (.int k p)=>(match ev L y with
   | some (.int k' q)=>(match icmp b p q with|some v=>some ⟨v,hs,J8 k k',[]⟩|none=>none)
   | _=>none)
  | _=>none
 | .fieldAddr s x f=>match hs with
  | r::hs=>(match ev L x with
   | some (.pointer (some ⟨b,p,none⟩))=>some ⟨.pointer (some ⟨b,r,none⟩),hs,Xl (Du P s f) p r,[]⟩
   | _=>none)
  | []=>none
 | .load t x=>match hs with
  | j::hs=>(match ev L x with
   | some (.pointer (some ⟨b,p,none⟩))=>(match M[j]? with
    | some e=>(match e.2.1[p]? with
     | some v=>some ⟨v,hs,Fq P t,[(b,e.1)]⟩
     | none=>none)
    | none=>none)
   | _=>none)
  | []=>none
 | _=>none
def Bw:List (Nat×Nat)->Prop
 | []=>True
 | e::l=>e.1=e.2/\Bw l
theorem BM:∀{l m:List (Nat×Nat)},Bw (l++m)->Bw l/\Bw m
 | [],_,h=>⟨trivial,h⟩
 | _::_,_,h=>⟨⟨h.1,(BM h.2).1⟩,(BM h.2).2⟩
section
variable{P:Program}{M:Mm}{L:List (Nat×Value)}{n:Nat}{ds:List Deferred}{w:World}
theorem F7{C:World->Prop}{o:Oper}{hs:List Nat}{q:Qv}(hM:∀w,C w->MemL w M)(h:Nx P M L hs o.op=some q)(i:q.ok=true)(u:Bw q.a):Ao P C n ds L o q.v:=by
 unfold Nx at h;split at h
 ·rename_i d
  split at h
  ·rename_i c;cases h;exact C4 d c
  cases h
 ·rename_i d
  split at h
  ·rename_i c;cases h;exact Bq d c
  cases h
 ·rename_i d
  split at h
  ·rename_i l
   split at h
   ·rename_i c;cases h;exact KN d l c
   cases h
  ·rename_i l
   split at h
   ·rename_i c;cases h;exact KO d l c
   cases h
  cases h
 ·rename_i d
  split at h
  ·rename_i vs c
   split at h
   ·rename_i g;cases h
    exact E0 (vs:=vs.toList) d (by simpa using c) g
   cases h
  cases h
 ·rename_i d
  split at h
  ·rename_i c;cases h;exact IR d c
  cases h
 ·rename_i d
  split at h
  ·split at h
   ·rename_i c;cases h;exact KE d c
   cases h
  cases h
 ·rename_i b _ x y _ d
  split at h
  ·rename_i k p c
   split at h
   ·rename_i k' r j
    split at h
    ·rename_i v g
     cases h
     obtain rfl:=F6 i;unfold icmp at g;split at g<;>first|(cases g;first|exact Nr d c j|exact SH d c j|exact SI d c j|exact SJ d c j|exact SK d c j|exact Ns d c j)|cases g
    cases h
   cases h
  cases h
 ·rename_i s x f d
  split at h
  ·split at h
   ·rename_i b p c
    cases h
    dsimp only at i
    cases hf:Du P s f with
    | none=>rw[hf] at i;cases i
    | some k=>
     rw[hf] at i;exact Ju d hf c (Y0 i)
   cases h
  cases h
 ·rename_i t x d
  split at h
  ·split at h
   ·rename_i b p c
    split at h
    ·rename_i e z
     split at h
     ·rename_i v g
      cases h
      have m:b=e.1:=u.1;exact AY d c i (λw hw=>by rw[m];exact ((hM w hw).get z).cel p g)
     cases h
    cases h
   cases h
  cases h
 cases h
structure Qs where
 L:List (Nat×Value)
 os:List Oper
 ok:Bool
 a:List (Nat×Nat)
def quiet(P:Program)(M:Mm)(ops:List Oper)(n:Nat):Nat->List Nat->Bool->List (Nat×Nat)->List (Nat×Value)->List Oper->Option Qs
 | 0,_,ok,a,L,os=>some ⟨L,os,ok,a⟩
 | _+1,_,_,_,_,[]=>none
 | k+1,hs,ok,a,L,o::os=>match o.dst with
  | none=>none
  | some d=>match Nat.blt d n with
   | false=>none
   | true=>match Bv ops L o.guard with
    | true=>(match Nx P M L hs o.op with
     | some q=>quiet P M ops n k q.hs (q.ok&&ok) (q.a++a) ((d,q.v)::L) os
     | none=>none)
    | false=>(match DW ops L o.guard with
     | true=>quiet P M ops n k hs ok a ((d,undef)::L) os
     | false=>none)
theorem Gz{ops:List Oper}:∀{k:Nat} {hs:List Nat} {e:Bool} {a:List (Nat×Nat)} {L:List (Nat×Value)} {b:List Oper} {q:Qs},quiet P M ops n k hs e a L b=some q->q.ok=true->Bw q.a->e=true/\Bw a:=by
 intro k
 induction k with
 | zero=>intro hs e a L b q h d c;simp only[quiet,X0] at h;subst h;exact ⟨d,c⟩
 | succ k ih=>
  intro hs e a L b q h d c
  cases b with
  | nil=>simp[quiet] at h
  | cons o b=>
   simp only[quiet] at h;split at h
   ·cases h
   split at h
   ·cases h
   split at h
   ·split at h
    ·obtain ⟨f,g⟩:=ih h d c
     exact ⟨by simp at f;exact f.2,(BM g).2⟩
    cases h
   split at h
   ·exact ih h d c
   cases h
theorem Vh{ops:List Oper}{Q:Exit->Act->World->Prop}(p:MemL w M):∀(k:Nat) (hs:List Nat) {i:Bool} {a:List (Nat×Nat)} {L L':List (Nat×Value)} {c b:List Oper} {ok':Bool} {a':List (Nat×Nat)},quiet P M ops n k hs i a L c=some ⟨L',b,ok',a'⟩->ok'=true->Bw a'->
  (∀x,Fr n ds L' x->wpList P ops.toArray Q b x w)->∀x,Fr n ds L x->wpList P ops.toArray Q c x w:=by
 intro k
 induction k with
 | zero=>
  intro hs i a L L' c b ok' a' h _ _ K;simp only[quiet,X0,Qs.mk.injEq] at h;obtain ⟨rfl,rfl,_,_⟩:=h;exact K
 | succ k ih=>
  intro hs i a L L' c b ok' a' h g j K
  cases c with
  | nil=>simp[quiet] at h
  | cons o c=>
   simp only[quiet] at h;split at h
   ·cases h
   rename_i d m;split at h
   ·cases h
   rename_i f;split at h
   ·rename_i r
    split at h
    ·rename_i q hq
     obtain ⟨l,t⟩:=Gz h g j;simp at l;exact s_do r m f (F7 (λ_ e=>e▸p) hq l.1 (BM t).1) (ih _ h g j K)
    cases h
   split at h
   ·rename_i s
    exact Oj s m f (ih _ h g j K)
   cases h
theorem CH:∀{l:List (Nat×Nat)},l.map Prod.fst=l.map Prod.snd->Bw l
 | [],_=>trivial
 | _::_,h=>by
  simp only[Yn,Aap] at h;exact ⟨h.1,CH h.2⟩
theorem F8{ops:List Oper}{Q:Exit->Act->World->Prop}(k:Nat)(hs:List Nat)(e:MemL w M){L L':List (Nat×Value)}{b a:List Oper}{ok':Bool}{a':List (Nat×Nat)}(h:quiet P M ops n k hs true [] L b=some ⟨L',a,ok',a'⟩)(c:ok'=true)(d:a'.map Prod.fst=a'.map Prod.snd)(K:∀x,Fr n ds L' x->wpList P ops.toArray Q a x w):∀x,Fr n ds L x->wpList P ops.toArray Q b x w:=Vh e k hs h c (CH d) K
theorem J9{ops:List Oper}{Q:Exit->Act->World->Prop}(k:Nat)(hs:List Nat){L L':List (Nat×Value)}{b a:List Oper}{ok':Bool}(h:quiet P [] ops n k hs true [] L b=some ⟨L',a,ok',[]⟩)(c:ok'=true)(K:∀x,Fr n ds L' x->wpList P ops.toArray Q a x w):∀x,Fr n ds L x->wpList P ops.toArray Q b x w:=Vh AU k hs h c trivial K
theorem BH{ops:List Oper}{Q:Exit->Act->World->Prop}(k:Nat){L L':List (Nat×Value)}{b a:List Oper}{ok':Bool}(h:quiet P [] ops n k [] true [] L b=some ⟨L',a,ok',[]⟩)(c:ok'=true)(K:∀x,Fr n ds L' x->wpList P ops.toArray Q a x w):∀x,Fr n ds L x->wpList P ops.toArray Q b x w:=Vh AU k [] h c trivial K

theorem Xm{ops:List Oper}{C:World->Prop}{Q:Act->Prop}(m:∀w,C w->MemL w M):∀(k:Nat) (hs:List Nat) {g:Bool} {a:List (Nat×Nat)} {L L':List (Nat×Value)} {c b:List Oper} {ok':Bool} {a':List (Nat×Nat)},quiet P M ops n k hs g a L c=some ⟨L',b,ok',a'⟩->ok'=true->Bw a'->
  (∀x,Fr n ds L' x->wpQuiet P ops.toArray C Q b x)->∀x,Fr n ds L x->wpQuiet P ops.toArray C Q c x:=by
 intro k
 induction k with
 | zero=>
  intro hs g a L L' c b ok' a' h _ _ K;simp only[quiet,X0,Qs.mk.injEq] at h;obtain ⟨rfl,rfl,_,_⟩:=h;exact K
 | succ k ih=>
  intro hs g a L L' c b ok' a' h f i K
  cases c with
  | nil=>simp[quiet] at h
  | cons o c=>
   simp only[quiet] at h;split at h
   ·cases h
   rename_i d l;split at h
   ·cases h
   rename_i e;split at h
   ·rename_i p
    split at h
    ·rename_i q hq
     obtain ⟨j,s⟩:=Gz h f i;simp at j;exact Bd p l e (F7 m hq j.1 (BM s).1) (ih _ h f i K)
    cases h
   split at h
   ·rename_i r
    exact On r l e (ih _ h f i K)
   cases h
theorem EK{ops:List Oper}{C:World->Prop}{Q:Act->Prop}(k:Nat)(hs:List Nat)(e:∀w,C w->MemL w M){L L':List (Nat×Value)}{b a:List Oper}{ok':Bool}{a':List (Nat×Nat)}(h:quiet P M ops n k hs true [] L b=some ⟨L',a,ok',a'⟩)(d:ok'=true)(c:a'.map Prod.fst=a'.map Prod.snd)(K:∀x,Fr n ds L' x->wpQuiet P ops.toArray C Q a x):∀x,Fr n ds L x->wpQuiet P ops.toArray C Q b x:=Xm e k hs h d (CH c) K
theorem B9{ops:List Oper}{C:World->Prop}{Q:Act->Prop}(k:Nat)(hs:List Nat){L L':List (Nat×Value)}{b a:List Oper}{ok':Bool}(h:quiet P [] ops n k hs true [] L b=some ⟨L',a,ok',[]⟩)(c:ok'=true)(K:∀x,Fr n ds L' x->wpQuiet P ops.toArray C Q a x):∀x,Fr n ds L x->wpQuiet P ops.toArray C Q b x:=Xm (λ_ _=>AU) k hs h c trivial K
theorem Xn{ops:List Oper}{Q:Act->Prop}(p:MemL w M):∀(k:Nat) (hs:List Nat) {i:Bool} {a:List (Nat×Nat)} {L L':List (Nat×Value)} {c b:List Oper} {ok':Bool} {a':List (Nat×Nat)},quiet P M ops n k hs i a L c=some ⟨L',b,ok',a'⟩->ok'=true->Bw a'->
  (∀x,Fr n ds L' x->wpStill P ops.toArray w Q b x)->∀x,Fr n ds L x->wpStill P ops.toArray w Q c x:=by
 intro k
 induction k with
 | zero=>
  intro hs i a L L' c b ok' a' h _ _ K;simp only[quiet,X0,Qs.mk.injEq] at h;obtain ⟨rfl,rfl,_,_⟩:=h;exact K
 | succ k ih=>
  intro hs i a L L' c b ok' a' h g j K
  cases c with
  | nil=>simp[quiet] at h
  | cons o c=>
   simp only[quiet] at h;split at h
   ·cases h
   rename_i d m;split at h
   ·cases h
   rename_i f;split at h
   ·rename_i r
    split at h
    ·rename_i q hq
     obtain ⟨l,t⟩:=Gz h g j;simp at l;exact B3 r m f (F7 (λ_ e=>e▸p) hq l.1 (BM t).1) (ih _ h g j K)
    cases h
   split at h
   ·rename_i s
    exact Or s m f (ih _ h g j K)
   cases h
theorem Vi{ops:List Oper}{Q:Act->Prop}(k:Nat)(hs:List Nat)(e:MemL w M){L L':List (Nat×Value)}{b a:List Oper}{ok':Bool}{a':List (Nat×Nat)}(h:quiet P M ops n k hs true [] L b=some ⟨L',a,ok',a'⟩)(c:ok'=true)(d:a'.map Prod.fst=a'.map Prod.snd)(K:∀x,Fr n ds L' x->wpStill P ops.toArray w Q a x):∀x,Fr n ds L x->wpStill P ops.toArray w Q b x:=Xn e k hs h c (CH d) K
theorem SP{ops:List Oper}{Q:Act->Prop}(k:Nat)(hs:List Nat){L L':List (Nat×Value)}{b a:List Oper}{ok':Bool}(h:quiet P [] ops n k hs true [] L b=some ⟨L',a,ok',[]⟩)(c:ok'=true)(K:∀x,Fr n ds L' x->wpStill P ops.toArray w Q a x):∀x,Fr n ds L x->wpStill P ops.toArray w Q b x:=Xn AU k hs h c trivial K
structure Qa where
 L:List (Nat×Value)
 listed:Array Bool
 ok:Bool
 a:List (Nat×Nat)
def quietA(P:Program)(M:Mm)(ops:List Oper)(n:Nat)(g:Nat->Bool):List Nat->List Nat->Bool->List (Nat×Nat)->List (Nat×Value)->Array Bool->Option Qa
 | [],_,ok,a,L,li=>some ⟨L,li,ok,a⟩
 | i::is,hs,ok,a,L,li=>match ops[i]? with
  | none=>none
  | some o=>match o.dst with
   | none=>none
   | some d=>match Nat.blt d n with
    | false=>none
    | true=>match Bv ops L o.guard with
     | true=>(match Nx P M L hs o.op with
      | some q=>quietA P M ops n g is q.hs (((q.ok&&g i)&&(Region.noSelect ops.toArray&&(Region.free .any ops.toArray li i&&(Region.ready .any ops.toArray li).contains i)))&&ok) (q.a++a) ((d,q.v)::L) (li.setIfInBounds i true)
      | none=>none)
     | false=>(match DW ops L o.guard with
      | true=>quietA P M ops n g is hs ((g i&&(Region.noSelect ops.toArray&&(Region.free .any ops.toArray li i&&(Region.ready .any ops.toArray li).contains i)))&&ok) a ((d,undef)::L) (li.setIfInBounds i true)
      | false=>none)
theorem EZ{ops:List Oper}{g:Nat->Bool}:∀{d hs:List Nat} {e:Bool} {a:List (Nat×Nat)} {L:List (Nat×Value)} {f:Array Bool} {q:Qa},quietA P M ops n g d hs e a L f=some q->q.ok=true->Bw q.a->e=true/\Bw a:=by
 intro d
 induction d with
 | nil=>intro hs e a L f q h c b;simp only[quietA,X0] at h;subst h;exact ⟨c,b⟩
 | cons i d ih=>
  intro hs e a L f q h c b;simp only[quietA] at h;split at h
  ·cases h
  split at h
  ·cases h
  split at h
  ·cases h
  split at h
  ·split at h
   ·obtain ⟨k,j⟩:=ih h c b
    exact ⟨(Yk _ _▸k).2,(BM j).2⟩
   cases h
  split at h
  ·obtain ⟨k,j⟩:=ih h c b
   exact ⟨(Yk _ _▸k).2,j⟩
  cases h
section
variable{ops:List Oper}{N R:Act->World->Prop}{X:Nat->Act->World->Prop}{S:World->Prop}
theorem XP(t:∀w,S w->MemL w M)(s:S w):∀(e hs:List Nat) {l:Bool} {a:List (Nat×Nat)} {L L':List (Nat×Value)} {k c:Array Bool} {ok':Bool} {a':List (Nat×Nat)} {fuel:Nat},quietA P M ops n (λ_=>true) e hs l a L k=some ⟨L',c,ok',a'⟩->ok'=true->Bw a'->
  (∀x,Fr n ds L' x->wpAnyH P .any ops.toArray (Qp N X R) S fuel c x w)->∀x,Fr n ds L x->wpAnyH P .any ops.toArray (Qp N X R) S (fuel+e.length) k x w:=by
 intro e
 induction e with
 | nil=>
  intro hs l a L L' k c ok' a' fuel h _ _ K;simp only[quietA,X0,Qa.mk.injEq] at h;obtain ⟨rfl,rfl,_,_⟩:=h;exact K
 | cons i e ih=>
  intro hs l a L L' k c ok' a' fuel h g j K;simp only[quietA] at h;split at h
  ·cases h
  rename_i o p;split at h
  ·cases h
  rename_i d m;split at h
  ·cases h
  rename_i f;split at h
  ·rename_i u
   split at h
   ·rename_i q hq
    obtain ⟨b,r⟩:=EZ h g j;simp only[Yk] at b;exact Id (fuel:=fuel+e.length) i p b.1.2.1 b.1.2.2.1 b.1.2.2.2 u m f (F7 t hq b.1.1.1 (BM r).1) s (ih _ h g j K)
   cases h
  split at h
  ·rename_i v
   obtain ⟨b,r⟩:=EZ h g j;simp only[Yk] at b;exact Ot (fuel:=fuel+e.length) i p b.1.2.1 b.1.2.2.1 b.1.2.2.2 v m f s (ih _ h g j K)
  cases h
theorem XQ(b hs:List Nat)(j:∀w,S w->MemL w M)(f:S w){L L':List (Nat×Value)}{c a:Array Bool}{ok':Bool}{a':List (Nat×Nat)}{fuel d:Nat}(h:quietA P M ops n (λ_=>true) b hs true [] L c=some ⟨L',a,ok',a'⟩)(i:ok'=true)(e:a'.map Prod.fst=a'.map Prod.snd)(g:fuel+b.length=d)(K:∀x,Fr n ds L' x->wpAnyH P .any ops.toArray (Qp N X R) S fuel a x w):∀x,Fr n ds L x->wpAnyH P .any ops.toArray (Qp N X R) S d c x w:=g▸XP j f b hs h i (CH e) K
def KH(ops:List Oper)(i:Nat):Bool:= !(Nat.beq i (ops.length-1))&&(match ops[i]? with|some o=>o.guard.isNone|none=>false)
theorem XR(f:Gv ops.toArray=true)(v:∀w,S w->MemL w M)(z:S w):∀(j hs:List Nat) {r:Bool} {a:List (Nat×Nat)} {L L':List (Nat×Value)} {l c:Array Bool} {ok':Bool} {a':List (Nat×Nat)} {fuel:Nat},quietA P M ops n (KH ops) j hs r a L l=some ⟨L',c,ok',a'⟩->ok'=true->Bw a'->
  (∀x,Fr n ds L' x->Fw P ops (Qp N X R) S fuel c x w)->∀x,Fr n ds L x->Fw P ops (Qp N X R) S (fuel+j.length) l x w:=by
 intro j
 induction j with
 | nil=>
  intro hs r a L L' l c ok' a' fuel h _ _ K;simp only[quietA,X0,Qa.mk.injEq] at h;obtain ⟨rfl,rfl,_,_⟩:=h;exact K
 | cons i j ih=>
  intro hs r a L L' l c ok' a' fuel h p s K;simp only[quietA] at h;split at h
  ·cases h
  rename_i o t;split at h
  ·cases h
  rename_i d y;split at h
  ·cases h
  rename_i m;split at h
  ·rename_i k
   split at h
   ·rename_i q hq
    obtain ⟨e,u⟩:=EZ h p s;simp only[Yk] at e;exact Bg (fuel:=fuel+j.length) i f t (by have:=e.1.1.2;unfold KH at this;simp only[Yk] at this;simpa using this.1) e.1.2.1 e.1.2.2.1 e.1.2.2.2 k y m (F7 v hq e.1.1.1 (BM u).1) z (ih _ h p s K)
   cases h
  rename_i k;split at h
  ·obtain ⟨e,u⟩:=EZ h p s
   simp only[Yk] at e;exfalso;have b:=e.1.1;unfold KH at b;rw[t] at b;simp only[Yk] at b
   cases hgd:o.guard with
   | none=>rw[hgd] at k;simp[Bv] at k
   | some g=>have:=b.2;rw[hgd] at this;cases this
  cases h
theorem BA(c hs:List Nat)(a:Gv ops.toArray=true)(k:∀w,S w->MemL w M)(g:S w){L L':List (Nat×Value)}{d b:Array Bool}{ok':Bool}{a':List (Nat×Nat)}{fuel e:Nat}(h:quietA P M ops n (KH ops) c hs true [] L d=some ⟨L',b,ok',a'⟩)(j:ok'=true)(f:a'.map Prod.fst=a'.map Prod.snd)(i:fuel+c.length=e)(K:∀x,Fr n ds L' x->Fw P ops (Qp N X R) S fuel b x w):∀x,Fr n ds L x->Fw P ops (Qp N X R) S e d x w:=i▸XR a k g c hs h j (CH f) K
end
end
end
section
inductive Pt where
 | b (b:Nat) (cs:List Value) (ty:TypeId)
 | a (A:Ai)
def CU:List Pt->List Ai->List Ai
 | [],R=>R
 | .b b cs ty::G,R=>blk b cs ty::CU G R
 | .a A::G,R=>A::CU G R
class Rf(Γ:List Ai)(G:outParam (List Pt))(R:outParam (List Ai)):Prop where
 e:Γ=CU G R
instance rf0 {R:List Ai}:Rf R [] R:=⟨Z⟩
instance rf1 {A:Ai}{Γ R:List Ai}{G:List Pt}[h:Rf Γ G R]:Rf (A::Γ) (.a A::G) R:=⟨congrArg (A:: ·) h.e⟩
instance rf2 {b:Nat}{cs:List Value}{ty:TypeId}{Γ R:List Ai}{G:List Pt}[h:Rf Γ G R]:Rf (blk b cs ty::Γ) (.b b cs ty::G) R:=⟨congrArg (blk b cs ty:: ·) h.e⟩
instance rf3 {Γ R:List Ai}{G:List Pt}[h:Rf Γ G R]:Rf ([]++Γ) G R:=h
instance rf4 {A:Ai}{Γ Γ' R:List Ai}{G:List Pt}[h:Rf (Γ++Γ') G R]:Rf ((A::Γ)++Γ') (.a A::G) R:=⟨congrArg (A:: ·) h.e⟩
instance rf5 {b:Nat}{cs:List Value}{ty:TypeId}{Γ Γ' R:List Ai}{G:List Pt}[h:Rf (Γ++Γ') G R]:Rf ((blk b cs ty::Γ)++Γ') (.b b cs ty::G) R:=⟨congrArg (blk b cs ty:: ·) h.e⟩
theorem Cv{R:List Ai}:∀{G:List Pt} {j b:Nat} {cs:List Value} {ty:TypeId},G[j]?=some (.b b cs ty)->(CU G R)[j]?=some (blk b cs ty)
 | [],_,_,_,_,h=>by simp at h
 | .b b' cs' ty'::G,0,b,cs,ty,h=>by simp at h;obtain ⟨rfl,rfl,rfl⟩:=h;rfl
 | .a A::G,0,b,cs,ty,h=>by simp at h
 | .b b' cs' ty'::G,j+1,b,cs,ty,h=>by simpa [CU] using Cv (j:=j) (by simpa using h)
 | .a A::G,j+1,b,cs,ty,h=>by simpa [CU] using Cv (j:=j) (by simpa using h)
theorem Ie{R:List Ai}:∀{G:List Pt} {j b:Nat} {cs:List Value} {ty:TypeId},j<G.length->(CU G R).set j (blk b cs ty)=CU (G.set j (.b b cs ty)) R
 | [],_,_,_,_,h=>by simp at h
 | .b b' cs' ty'::G,0,b,cs,ty,h=>rfl
 | .a A::G,0,b,cs,ty,h=>rfl
 | .b b' cs' ty'::G,j+1,b,cs,ty,h=>by simp[CU,Ie (j:=j) (by simpa using h)]
 | .a A::G,j+1,b,cs,ty,h=>by simp[CU,Ie (j:=j) (by simpa using h)]

inductive Kd where
 | fin
 | seq (c:Code) (k:Kd)
 | blk (i:Nat) (k:Kd)
inductive Pos where
 | c (c:Code) (k:Kd)
 | o (ops os:List Oper) (k:Kd)
 | n (k:Kd)
 | x (i:Nat) (k:Kd)
 | r
section
variable(P:Program)(N:Act->World->Prop)(X:Nat->Act->World->Prop)(R:Act->World->Prop)
def kQ:Kd->(Act->World->Prop)×(Nat->Act->World->Prop)
 | .fin=>(N,X)
 | .seq c k=>(λa w=>c.wp P (Qp (kQ k).1 (kQ k).2 R) a w,(kQ k).2)
 | .blk i k=>((kQ k).1,upd (kQ k).2 i (kQ k).1)
def Bu:Pos->Act->World->Prop
 | .c c k=>c.wp P (Qp (kQ P N X R k).1 (kQ P N X R k).2 R)
 | .o ops os k=>wpList P ops.toArray (Qp (kQ P N X R k).1 (kQ P N X R k).2 R) os
 | .n k=>(kQ P N X R k).1
 | .x i k=>(kQ P N X R k).2 i
 | .r=>R
end
def SQ(L:List (Nat×Value))(k:Kd):Code->Option Pos
 | .seq x y=>some (.c x (.seq y k))
 | .skip=>some (.n k)
 | .ret=>some .r
 | .exit i=>some (.x i k)
 | .block i c=>some (.c c (.blk i k))
 | .cond o x y=>match ev L o with
  | some (.bool true)=>some (.c x k)
  | some (.bool false)=>some (.c y k)
  | _=>none
 | .region _ ops false=>some (.o ops.toList ops.toList k)
 | _=>none
def Ny(L:List (Nat×Value)):Pos->Option Pos
 | .c c k=>SQ L k c
 | .n (.seq c k)=>some (.c c k)
 | .n (.blk _ k)=>some (.n k)
 | .x i (.seq _ k)=>some (.x i k)
 | .x i (.blk j k)=>bif Nat.beq i j then some (.n k) else some (.x i k)
 | .o _ [] k=>some (.n k)
 | _=>none
theorem pstep_ok{P:Program}{N R:Act->World->Prop}{X:Nat->Act->World->Prop}{n:Nat}{ds:List Deferred}{L:List (Nat×Value)}{w:World}{p p':Pos}(h:Ny L p=some p')(K:∀x,Fr n ds L x->Bu P N X R p' x w):∀x,Fr n ds L x->Bu P N X R p x w:=by
 unfold Ny at h;split at h
 ·rename_i c k
  unfold SQ at h;split at h
  ·cases h;exact AN K
  ·cases h;exact C3 K
  ·cases h;exact DV K
  ·cases h;exact Oe K
  ·cases h;exact Fi K
  ·split at h
   ·rename_i a;cases h;exact Of a K
   ·rename_i a;cases h;exact Ef a K
   cases h
  ·rename_i id ops;cases h
   have:=AF (id:=id) (ops:=ops.toList) (P:=P) (N:=(kQ P N X R k).1) (X:=(kQ P N X R k).2) (R:=R) K;simp only[Array.toArray_toList] at this;exact this
  cases h
 ·cases h;exact K
 ·cases h;exact K
 ·cases h;exact K
 ·rename_i i j k
  cases hb:Nat.beq i j with
  | true=>rw[hb] at h;cases h;rw[Y0 hb];exact IN K
  | false=>rw[hb] at h;cases h;exact WD hb K
 ·cases h;exact K
 cases h

def EL:Option Prop->Prop
 | none=>True
 | some p=>p
def cj:Option Prop->Option Prop->Option Prop
 | none,q=>q
 | some p,none=>some p
 | some p,some q=>some (p/\q)
theorem GB{p q:Option Prop}(h:EL (cj p q)):EL p/\EL q:=by
 cases p<;>cases q<;>simp[cj,EL] at h ⊢ <;>exact h

def FQ{α β:Type}:List α->(List α->β)->β
 | [],k=>k []
 | x::xs,k=>FQ xs λys=>k (x::ys)
theorem D5{α β:Type}:∀(l:List α) (k:List α->β),FQ l k=k l
 | [],_=>rfl
 | x::xs,k=>D5 xs λys=>k (x::ys)
def Ox{β:Type}(v:Value)(k:Value->β):β:=match v with
 | .bool b=>k (.bool b)
 | .int i n=>k (.int i n)
 | .pointer a=>k (.pointer a)
 | .slice a l c=>k (.slice a l c)
 | .map r=>k (.map r)
 | .agg cs=>k (.agg cs)
 | v=>k v
theorem Oy{β:Type}(v:Value)(k:Value->β):Ox v k=k v:=by cases v<;>rfl
def Ho{β:Type}:List Value->(List Value->β)->β
 | [],k=>k []
 | x::xs,k=>Ox x λy=>Ho xs λys=>k (y::ys)
theorem IS{β:Type}:∀(l:List Value) (k:List Value->β),Ho l k=k l
 | [],_=>rfl
 | x::xs,k=>by rw[Ho,Oy,IS xs]
structure OvR where
 v:Value
 hs:List Nat
 zs:List Int
 ok:Bool
 a:List (Nat×Nat)
 ob:Option Prop
def Vk(b:BinOp)(p q:Int):Option Prop:=match b with
 | .lss=>some (p<q)
 | .leq=>some (p<=q)
 | .gtr=>some (q<p)
 | .geq=>some (q<=p)
 | .eql=>some (p=q)
 | .neq=>some (p≠q)
 | _=>none
theorem Oz{b:BinOp}{p q:Int}{a:Prop}(h:Vk b p q=some a):(a->icmp b p q=some (.bool true))/\(¬a->icmp b p q=some (.bool false)):=by
 unfold Vk at h;split at h<;>first|cases h|skip
 all_goals (constructor<;>intro hp<;>simp only[icmp,X0,Value.bool.injEq]<;>first|exact decide_eq_true hp|exact decide_eq_false hp)
def Xo(b:BinOp)(p q r:Int):Option Prop:=match b with
 | .add=>some (p+q=r/\ -9223372036854775808<=r/\r<=9223372036854775807)
 | .sub=>some (p-q=r/\ -9223372036854775808<=r/\r<=9223372036854775807)
 | .mul=>some (p*q=r/\ -9223372036854775808<=r/\r<=9223372036854775807)
 | .quo=>some (0<=p/\0<q/\p/q=r/\p<=9223372036854775807)
 | .rem=>some (0<=p/\q≠0/\p%q=r)
 | _=>none
def i64:IntKind->Bool
 | .i64=>true
 | _=>false
theorem OA{k:IntKind}(h:i64 k=true):k=.i64:=by cases k<;>first|rfl|cases h
def Qx(P:Program)(b:BinOp)(xt:TypeId)(u v:Value)(hs:List Nat)(zs:List Int):Option OvR:=match u,v with
 | .int k p,.int k' q=>match Vk b p q with
  | some pr=>match hs with
   | 0::hs=>match icmp b p q with
    | some c=>some ⟨c,hs,zs,J8 k k',[],none⟩
    | none=>none
   | 1::hs=>some ⟨.bool true,hs,zs,J8 k k',[],some pr⟩
   | 2::hs=>some ⟨.bool false,hs,zs,J8 k k',[],some (¬pr)⟩
   | 3::hs=>match icmp b p q with
    | some (.bool c)=>some ⟨.bool true,hs,zs,c&&J8 k k',[],none⟩
    | _=>none
   | 4::hs=>match icmp b p q with
    | some (.bool c)=>some ⟨.bool false,hs,zs,!c&&J8 k k',[],none⟩
    | _=>none
   | _=>none
  | none=>match zs with
   | r::zs=>match Xo b p q r with
    | some pr=>some ⟨.int .i64 r,hs,zs,i64 k&&i64 k',[],some pr⟩
    | none=>none
   | []=>none
 | .pointer (some _),.pointer none=>match b with
  | .eql=>some ⟨.bool false,hs,zs,EY P xt,[],none⟩
  | .neq=>some ⟨.bool true,hs,zs,EY P xt,[],none⟩
  | _=>none
 | .pointer none,.pointer none=>match b with
  | .eql=>some ⟨.bool true,hs,zs,EY P xt,[],none⟩
  | .neq=>some ⟨.bool false,hs,zs,EY P xt,[],none⟩
  | _=>none
 | _,_=>none
def OB:Option Nat->Nat->Bool
 | some x,z=>Nat.beq x z
 | none,_=>false
theorem IT{x:Option Nat}{z:Nat}(h:OB x z=true):x=some z:=by
 cases x with
 | none=>cases h
 | some y=>rw[Y0 (n:=y) (m:=z) h]
def Qy:Option (Nat×Nat)->Nat->Nat->Bool
 | some x,l,z=>Nat.beq x.1 l&&Nat.beq x.2 z
 | none,_,_=>false
theorem Tq{x:Option (Nat×Nat)}{l z:Nat}(h:Qy x l z=true):x=some (l,z):=by
 cases x with
 | none=>cases h
 | some y=>
  simp only[Qy,Yk] at h;rw[<-Y0 h.1,<-Y0 h.2]
def Qz(P:Program)(G:List Pt)(L:List (Nat×Value))(hs:List Nat)(zs:List Int):Op->Option OvR
 | .move x=>match ev L x with|some v=>some ⟨v,hs,zs,true,[],none⟩|none=>none
 | .assign x=>match ev L x with|some v=>some ⟨v,hs,zs,true,[],none⟩|none=>none
 | .pick c x y=>match ev L c with
  | some (.bool true)=>(match ev L x with|some v=>some ⟨v,hs,zs,true,[],none⟩|none=>none)
  | some (.bool false)=>(match ev L y with|some v=>some ⟨v,hs,zs,true,[],none⟩|none=>none)
  | _=>none
 | .extract x i=>match ev L x with
  | some (.tuple vs)=>(match vs.toList[i]? with|some v=>some ⟨v,hs,zs,true,[],none⟩|none=>none)
  | _=>none
 | .nilCheck x=>match ev L x with
  | some (.pointer (some ad))=>some ⟨.pointer (some ad),hs,zs,true,[],none⟩
  | _=>none
 | .unOp b _ x=>match b with
  | .not=>(match ev L x with|some (.bool c)=>some ⟨.bool !c,hs,zs,true,[],none⟩|_=>none)
  | _=>none
 | .binOp b xt x y _=>match ev L x with
  | some u=>(match ev L y with|some v=>Qx P b xt u v hs zs|none=>none)
  | none=>none
 | .fieldAddr s x f=>match hs with
  | r::hs=>(match ev L x with
   | some (.pointer (some ⟨b,p,none⟩))=>some ⟨.pointer (some ⟨b,r,none⟩),hs,zs,Xl (Du P s f) p r,[],none⟩
   | _=>none)
  | []=>none
 | .load t x=>match hs with
  | j::0::hs=>(match ev L x with
   | some (.pointer (some ⟨b,p,none⟩))=>(match G[j]? with
    | some (.b b' cs _)=>(match cs[p]? with
     | some v=>some ⟨v,hs,zs,Fq P t,[(b,b')],none⟩
     | none=>none)
    | _=>none)
   | _=>none)
  | j::m::hs=>(match ev L x with
   | some (.pointer (some ⟨b,p,none⟩))=>(match G[j]? with
    | some (.b b' cs _)=>FQ ((cs.drop p).take m) λvs=>some ⟨.agg vs.toArray,hs,zs,OB (Gu P t) m&&Nat.beq vs.length m,[(b,b')],none⟩
    | _=>none)
   | _=>none)
  | _=>none
 | .indexAddr t x y=>match ev L x with
  | some (.slice (some ⟨b,p,none⟩) l _)=>(match ev L y with
   | some (.int _ i)=>(match hs with
    | z::j::r::hs=>some ⟨.pointer (some ⟨b,r,none⟩),hs,zs,OB (CE P t) z,[],some (i=(j:Int)/\j<l/\p+j*z=r)⟩
    | _=>none)
   | _=>none)
  | some (.pointer (some ⟨b,p,none⟩))=>(match ev L y with
   | some (.int _ i)=>(match hs with
    | l::z::j::r::hs=>some ⟨.pointer (some ⟨b,r,none⟩),hs,zs,Qy (Gs P t) l z,[],some (i=(j:Int)/\j<l/\p+j*z=r)⟩
    | _=>none)
   | _=>none)
  | _=>none
 | .call ⟨.builtin .len,⟨[x]⟩,⟨[t]⟩⟩=>match ev L x with
  | some (.slice _ l _)=>some ⟨.int .i64 l,hs,zs,(CE P t).isSome,[],none⟩
  | _=>none
 | .build t ⟨ps⟩=>match (evs L (ps.map (·.2))).map (List.zip (ps.map (·.1))) with
  | some us=>match P.built t us with
   | some cs=>Ho cs.toList λcs=>some ⟨.agg cs.toArray,hs,zs,true,[],none⟩
   | none=>none
  | none=>none
 | _=>none
section
variable{P:Program}{G:List Pt}{L:List (Nat×Value)}{n:Nat}{ds:List Deferred}{w:World}{C:World->Prop}{o:Oper}{hs:List Nat}{zs:List Int}{q:OvR}
theorem Tr{b:BinOp}{xt yt:TypeId}{x y:Operand}{u v:Value}(f:o.op=.binOp b xt x y yt)(d:ev L x=some u)(a:ev L y=some v)(h:Qx P b xt u v hs zs=some q)(e:q.ok=true)(hq:EL q.ob):Ao P C n ds L o q.v:=by
 have i:∀{k:IntKind} {p r:Int} {c:Value},ev L x=some (.int k p)->ev L y=some (.int k r)->icmp b p r=some c->Ao P C n ds L o c:=by
  intro k p r c d a l;unfold icmp at l;split at l<;>first|(cases l;first|exact Nr f d a|exact SH f d a|exact SI f d a|exact SJ f d a|exact SK f d a|exact Ns f d a)|cases l
 unfold Qx at h;split at h
 ·rename_i k p s r
  split at h
  ·rename_i m g
   split at h
   ·split at h
    ·rename_i j;cases h;obtain rfl:=F6 e;exact i d a j
    cases h
   ·cases h;obtain rfl:=F6 e;exact i d a ((Oz g).1 hq)
   ·cases h;obtain rfl:=F6 e;exact i d a ((Oz g).2 hq)
   ·split at h
    ·rename_i c j;cases h;simp only[Yk] at e;obtain rfl:=F6 e.2;rw[e.1] at j;exact i d a j
    cases h
   ·split at h
    ·rename_i c j;cases h;simp only[Yk,Bool.not_eq_true'] at e;obtain rfl:=F6 e.2;rw[e.1] at j;exact i d a j
    cases h
   cases h
  split at h
  ·split at h
   ·rename_i m g
    cases h
    simp only[Yk] at e;obtain rfl:=OA e.1;obtain rfl:=OA e.2;unfold Xo at g;split at g<;>first|cases g|skip
    ·exact Cm f d a hq.1 hq.2
    ·exact Js f d a hq.1 hq.2
    ·exact Jt f d a hq.1 hq.2
    ·exact Ms f d a hq.1 hq.2.1 hq.2.2.1 hq.2.2.2
    exact Mt f d a hq.1 hq.2.1 hq.2.2
   cases h
  cases h
 ·split at h
  ·cases h;exact KT f e d a
  ·cases h;exact Qq f e d a
  cases h
 ·split at h
  ·cases h;exact Qr f e d a
  ·cases h;exact Qt f e d a
  cases h
 cases h
theorem oval_ok(hM:∀w,C w->∀(j b:Nat) (cs:List Value) (ty:TypeId),G[j]?=some (Pt.b b cs ty)->Blk b cs ty w)(h:Qz P G L hs zs o.op=some q)(e:q.ok=true)(ha:Bw q.a)(hq:EL q.ob):Ao P C n ds L o q.v:=by
 unfold Qz at h;split at h
 ·rename_i d
  split at h
  ·rename_i c;cases h;exact C4 d c
  cases h
 ·rename_i d
  split at h
  ·rename_i c;cases h;exact Bq d c
  cases h
 ·rename_i d
  split at h
  ·rename_i hc
   split at h
   ·rename_i c;cases h;exact KN d hc c
   cases h
  ·rename_i hc
   split at h
   ·rename_i c;cases h;exact KO d hc c
   cases h
  cases h
 ·rename_i d
  split at h
  ·rename_i vs c
   split at h
   ·rename_i m;cases h
    exact E0 (vs:=vs.toList) d (by simpa using c) m
   cases h
  cases h
 ·rename_i d
  split at h
  ·rename_i c;cases h;exact IR d c
  cases h
 ·rename_i d
  split at h
  ·split at h
   ·rename_i c;cases h;exact KE d c
   cases h
  cases h
 ·rename_i b xt x y _ d
  split at h
  ·rename_i u c
   split at h
   ·rename_i v i;exact Tr d c i h e hq
   cases h
  cases h
 ·rename_i s x f d
  split at h
  ·split at h
   ·rename_i b p c
    cases h
    dsimp only at e
    cases g:Du P s f with
    | none=>rw[g] at e;cases e
    | some k=>
     rw[g] at e;exact Ju d g c (Y0 e)
   cases h
  cases h
 ·rename_i t x d
  split at h
  ·split at h
   ·rename_i b p c
    split at h
    ·rename_i b' cs ty r
     split at h
     ·rename_i v m
      cases h
      have e1:b=b':=ha.1;exact AY d c e (λw hw=>by rw[e1];exact (hM w hw _ _ _ _ r).cel p m)
     cases h
    cases h
   cases h
  ·split at h
   ·rename_i b p c
    split at h
    ·rename_i b' cs ty r
     rw[D5] at h;cases h;have e1:b=b':=ha.1;simp only[Yk] at e;have hl:=Y0 e.2;refine Bz d c (by rw[IT e.1,hl]) (λw hw=>?_);rw[e1];exact (hM w hw _ _ _ _ r).part p _ _ Z
    cases h
   cases h
  cases h
 ·rename_i t x y d
  split at h
  ·rename_i b p l _ c
   split at h
   ·rename_i i
    split at h
    ·cases h
     exact Te d (IT e) c i hq.1 hq.2.1 hq.2.2
    cases h
   cases h
  ·rename_i b p c
   split at h
   ·rename_i i
    split at h
    ·cases h
     exact Ib d (Tq e) c i hq.1 hq.2.1 hq.2.2
    cases h
   cases h
  cases h
 ·rename_i x t d
  split at h
  ·rename_i l _ c
   cases h
   dsimp only at e
   cases hz:CE P t with
   | none=>rw[hz] at e;cases e
   | some z=>exact DX d hz c
  cases h
 ·rename_i t ps d
  split at h
  ·rename_i us m
   split at h
   ·rename_i cs g
    rw[IS] at h;cases h;exact AR (parts:=ps) d m (by simpa using g)
   cases h
  cases h
 cases h
end

def GY:Value->List Value
 | .agg cs=>cs.toList
 | v=>[v]
theorem My(v:Value):v.cells=(GY v).toArray:=by cases v<;>simp[GY,Value.cells]
def If:List Value->Nat->List Value->List Value
 | cs,_,[]=>cs
 | [],_,_::_=>[]
 | _::cs,0,v::vs=>v::If cs 0 vs
 | c::cs,p+1,v::vs=>c::If cs p (v::vs)
theorem Jx:∀(cs:List Value) (p:Nat) (vs:List Value),p+vs.length<=cs.length->cs.take p++vs++cs.drop (p+vs.length)=If cs p vs
 | cs,p,[],h=>by simp[If]
 | [],p,v::vs,h=>by simp at h
 | c::cs,0,v::vs,h=>by
  have:=Jx cs 0 vs (by simp at h ⊢;omega);simp only[Aa3,Ym,Y8] at this;simp[If,this]
 | c::cs,p+1,v::vs,h=>by
  have:=Jx cs p (v::vs) (by simp at h ⊢;omega);simp only[If,Zg,Zw];rw[<-this];simp only[XY,Zw];rw[show p+1+(vs.length+1)=(p+(vs.length+1))+1 from by omega,Zh]
structure OtR where
 G:List Pt
 hs:List Nat
 ok:Bool
 a:List (Nat×Nat)
def Vl(P:Program)(G:List Pt)(L:List (Nat×Value))(hs:List Nat):Op->Option OtR
 | .store t x y=>match hs with
  | j::hs=>(match ev L x with
   | some (.pointer (some ⟨b,p,none⟩))=>(match ev L y with
    | some v=>(match G[j]? with
     | some (.b b' cs ty)=>FQ (If cs p (GY v)) λcs'=>FQ (G.set j (.b b' cs' ty)) λG=>some ⟨G,hs,(OB ((P.info? t).map (·.size)) (GY v).length&&Nat.ble (p+(GY v).length) cs.length)&&(GY v).all (·.oneCell'),[(b,b')]⟩
     | _=>none)
    | none=>none)
   | _=>none)
  | []=>none
 | _=>none
structure Mo(wr:Bool)(S:List Pt->World->Prop):Prop where
 ld:∀{G:List Pt} {w:World} {j b:Nat} {cs:List Value} {ty:TypeId},S G w->G[j]?=some (.b b cs ty)->Blk b cs ty w
 st:wr=true->∀{G:List Pt} {w w':World} {j b:Nat} {cs cs':List Value} {ty:TypeId},S G w->G[j]?=some (.b b cs ty)->w'.os=w.os->w'.tape=w.tape->w'.output=w.output->Blk b cs' ty w'->(∀k:Nat,k≠b->w'.heap[k]?=w.heap[k]?)->S (G.set j (.b b cs' ty)) w'
section
variable{P:Program}{G:List Pt}{L:List (Nat×Value)}{n:Nat}{ds:List Deferred}{o:Oper}{hs:List Nat}{zs:List Int}{S:List Pt->World->Prop}{wr:Bool}
theorem Vm(g:Mo true S){q:OtR}(h:Vl P G L hs o.op=some q)(i:q.ok=true)(l:Bw q.a){w:World}(j:S G w):Dj P n ds L o w (λw'=>S q.G w'):=by
 unfold Vl at h;split at h
 ·rename_i t x y r
  split at h
  ·split at h
   ·rename_i b p hx
    split at h
    ·rename_i v u
     split at h
     ·rename_i b' cs ty f
      rw[D5,D5] at h;cases h;have e:b=b':=l.1;subst e;simp only[Yk] at i;obtain ⟨⟨h1,d⟩,h3⟩:=i;have d:p+(GY v).length<=cs.length:=Nat.le_of_ble_eq_true d;intro a z;obtain ⟨w',s,hB,c,_⟩:=Mw (w:=w) r hx u (My v) (by simpa using h3) (IT h1) (g.ld j f) d (Jx cs p _ d) a z;refine ⟨w',s,g.st Z j f c.os c.tape c.output hB (λk m=>?_)⟩;rcases Yg k w.heap.size with q|q
      ·exact c.block k q m
      rw[Yu q,Yu U]
     cases h
    cases h
   cases h
  cases h
 cases h

structure OsR where
 L:List (Nat×Value)
 G:List Pt
 hs:List Nat
 zs:List Int
 ok:Bool
 a:List (Nat×Nat)
 ob:Option Prop
def ostep(P:Program)(wr:Bool)(n:Nat)(ops:List Oper)(o:Oper)(hs:List Nat)(zs:List Int)(L:List (Nat×Value))(G:List Pt):Option OsR:=match o.dst with
 | some d=>(match Bv ops L o.guard with
  | true=>(match Qz P G L hs zs o.op with
   | some ⟨v,hs,zs,ok,a,ob⟩=>some ⟨(d,v)::L,G,hs,zs,Nat.blt d n&&ok,a,ob⟩
   | none=>none)
  | false=>(match DW ops L o.guard with
   | true=>some ⟨(d,undef)::L,G,hs,zs,Nat.blt d n,[],none⟩
   | false=>none))
 | none=>(match Bv ops L o.guard with
  | true=>(match wr with
   | true=>(match Vl P G L hs o.op with
    | some ⟨G,hs,ok,a⟩=>some ⟨L,G,hs,zs,ok,a,none⟩
    | none=>none)
   | false=>none)
  | false=>(match DW ops L o.guard with
   | true=>some ⟨L,G,hs,zs,true,[],none⟩
   | false=>none))
theorem QA(l:Mo wr S){Q:Exit->Act->World->Prop}{ops m:List Oper}{q:OsR}(h:ostep P wr n ops o hs zs L G=some q)(b:q.ok=true)(k:Bw q.a)(hq:EL q.ob)(K:∀w,S q.G w->∀x,Fr n ds q.L x->wpList P ops.toArray Q m x w):∀w,S G w->∀x,Fr n ds L x->wpList P ops.toArray Q (o::m) x w:=by
 intro w f;unfold ostep at h;split at h
 ·rename_i d c
  split at h
  ·rename_i i
   split at h
   ·rename_i j
    cases h
    simp only[Yk] at b;exact s_do i c b.1 (oval_ok (λw' p _ _ _ _ e=>by subst p;exact l.ld f e) j b.2 k hq) (K w f)
   cases h
  split at h
  ·rename_i g;cases h;exact Oj g c b (K w f)
  cases h
 rename_i c;split at h
 ·rename_i i
  split at h
  ·split at h
   ·rename_i j
    cases h
    exact EX i c (Vm l j b k f) K
   cases h
  cases h
 split at h
 ·rename_i g;cases h;exact Td g c (K w f)
 cases h
def SR:Pos->Option (List Oper×Oper×List Oper×Kd)
 | .o ops (o::os) k=>some (ops,o,os,k)
 | _=>none
theorem OC{p:Pos}{ops a:List Oper}{o:Oper}{k:Kd}(h:SR p=some (ops,o,a,k)):p=.o ops (o::a) k:=by
 unfold SR at h;split at h<;>cases h;rfl
structure GsR where
 L:List (Nat×Value)
 G:List Pt
 p:Pos
 ok:Bool
 a:List (Nat×Nat)
 ob:Option Prop
def go(P:Program)(wr:Bool)(n:Nat):Nat->List Nat->List Int->List (Nat×Value)->List Pt->Pos->Bool->List (Nat×Nat)->Option Prop->Option GsR
 | 0,_,_,L,G,p,ok,a,ob=>some ⟨L,G,p,ok,a,ob⟩
 | k+1,hs,zs,L,G,p,ok,a,ob=>match SR p with
  | some (ops,o,os,kk)=>(match ostep P wr n ops o hs zs L G with
   | some ⟨L,G,hs,zs,ok',a',ob'⟩=>go P wr n k hs zs L G (.o ops os kk) (ok'&&ok) (a'++a) (cj ob' ob)
   | none=>none)
  | none=>(match Ny L p with
   | some p=>go P wr n k hs zs L G p ok a ob
   | none=>none)
theorem Ts:∀{k:Nat} {hs:List Nat} {zs:List Int} {L:List (Nat×Value)} {G:List Pt} {p:Pos} {d:Bool} {a:List (Nat×Nat)} {ob:Option Prop} {q:GsR},go P wr n k hs zs L G p d a ob=some q->q.ok=true->Bw q.a->EL q.ob->d=true/\Bw a/\EL ob:=by
 intro k
 induction k with
 | zero=>intro hs zs L G p d a ob q h c b hq;simp only[go,X0] at h;subst h;exact ⟨c,b,hq⟩
 | succ k ih=>
  intro hs zs L G p d a ob q h c b hq;simp only[go] at h;split at h
  ·split at h
   ·obtain ⟨e,f,g⟩:=ih h c b hq
    simp only[Yk] at e;exact ⟨e.2,(BM f).2,(GB g).2⟩
   cases h
  split at h
  ·exact ih h c b hq
  cases h
theorem GC{N R:Act->World->Prop}{X:Nat->Act->World->Prop}(l:Mo wr S):∀(k:Nat) {hs:List Nat} {zs:List Int} {L:List (Nat×Value)} {G:List Pt} {p:Pos} {d:Bool} {a:List (Nat×Nat)} {ob:Option Prop} {q:GsR},go P wr n k hs zs L G p d a ob=some q->q.ok=true->Bw q.a->EL q.ob->(∀w,S q.G w->∀x,Fr n ds q.L x->Bu P N X R q.p x w)->∀w,S G w->∀x,Fr n ds L x->Bu P N X R p x w:=by
 intro k
 induction k with
 | zero=>intro hs zs L G p d a ob q h b c hq K;simp only[go,X0] at h;subst h;exact K
 | succ k ih=>
  intro hs zs L G p d a ob q h b c hq K;simp only[go] at h;split at h
  ·rename_i f
   obtain rfl:=OC f;split at h
   ·rename_i m
    obtain ⟨e,j,g⟩:=Ts h b c hq;simp only[Yk] at e;exact QA l m e.1 (BM j).1 (GB g).1 (ih h b c hq K)
   cases h
  split at h
  ·rename_i hp
   intro w i;exact pstep_ok hp (ih h b c hq K w i)
  cases h
end

section
variable{P:Program}{G:List Pt}{L:List (Nat×Value)}{n:Nat}{ds:List Deferred}{o:Oper}{hs:List Nat}{zs:List Int}
theorem Jy{C:World->Prop}{ops:List Oper}{q:OsR}(l:∀w,C w->∀(j b:Nat) (cs:List Value) (ty:TypeId),G[j]?=some (Pt.b b cs ty)->Blk b cs ty w){d:Nat}(f:o.dst=some d)(h:ostep P false n ops o hs zs L G=some q)(e:q.ok=true)(g:Bw q.a)(hq:EL q.ob):
  ∃v,q.L=(d,v)::L/\Nat.blt d n=true/\((Bv ops L o.guard=true/\Ao P C n ds L o v)\/(DW ops L o.guard=true/\v=undef)):=by
 unfold ostep at h;split at h
 ·rename_i p c
  rw[f] at c;cases c;split at h
  ·rename_i k
   split at h
   ·rename_i m
    cases h
    simp only[Yk] at e;exact ⟨_,Z,e.1,.inl ⟨k,oval_ok l m e.2 g hq⟩⟩
   cases h
  split at h
  ·rename_i i;cases h;exact ⟨_,Z,e,.inr ⟨i,Z⟩⟩
  cases h
 rename_i c;rw[f] at c;cases c
structure QrR where
 L:List (Nat×Value)
 os:List Oper
 ok:Bool
 a:List (Nat×Nat)
 ob:Option Prop
def Dv(P:Program)(G:List Pt)(ops:List Oper)(n:Nat):Nat->List Nat->List Int->List (Nat×Value)->List Oper->Bool->List (Nat×Nat)->Option Prop->Option QrR
 | 0,_,_,L,os,ok,a,ob=>some ⟨L,os,ok,a,ob⟩
 | _+1,_,_,_,[],_,_,_=>none
 | k+1,hs,zs,L,o::os,ok,a,ob=>match o.dst with
  | some _=>(match ostep P false n ops o hs zs L G with
   | some ⟨L,_,hs,zs,ok',a',ob'⟩=>Dv P G ops n k hs zs L os (ok'&&ok) (a'++a) (cj ob' ob)
   | none=>none)
  | none=>none
theorem Ka{ops:List Oper}:∀{k:Nat} {hs:List Nat} {zs:List Int} {L:List (Nat×Value)} {b:List Oper} {c:Bool} {a:List (Nat×Nat)} {ob:Option Prop} {q:QrR},Dv P G ops n k hs zs L b c a ob=some q->q.ok=true->Bw q.a->EL q.ob->c=true/\Bw a/\EL ob:=by
 intro k
 induction k with
 | zero=>intro hs zs L b c a ob q h e d hq;simp only[Dv,X0] at h;subst h;exact ⟨e,d,hq⟩
 | succ k ih=>
  intro hs zs L b c a ob q h e d hq
  cases b with
  | nil=>simp[Dv] at h
  | cons o b=>
   simp only[Dv] at h;split at h
   ·split at h
    ·obtain ⟨f,g,i⟩:=ih h e d hq
     simp only[Yk] at f;exact ⟨f.2,(BM g).2,(GB i).2⟩
    cases h
   cases h
theorem SS{ops:List Oper}{C:World->Prop}{Q:Act->Prop}(s:∀w,C w->∀(j b:Nat) (cs:List Value) (ty:TypeId),G[j]?=some (Pt.b b cs ty)->Blk b cs ty w):∀(k:Nat) {hs:List Nat} {zs:List Int} {L:List (Nat×Value)} {c:List Oper} {m:Bool} {a:List (Nat×Nat)} {ob:Option Prop} {q:QrR},Dv P G ops n k hs zs L c m a ob=some q->q.ok=true->Bw q.a->EL q.ob->(∀x,Fr n ds q.L x->wpQuiet P ops.toArray C Q q.os x)->∀x,Fr n ds L x->wpQuiet P ops.toArray C Q c x:=by
 intro k
 induction k with
 | zero=>intro hs zs L c m a ob q h i p hq K;simp only[Dv,X0] at h;subst h;exact K
 | succ k ih=>
  intro hs zs L c m a ob q h i p hq K
  cases c with
  | nil=>simp[Dv] at h
  | cons o c=>
   simp only[Dv] at h;split at h
   ·rename_i d l
    split at h
    ·rename_i hv
     obtain ⟨r,z,t⟩:=Ka h i p hq;simp only[Yk] at r;obtain ⟨v,e,f,hx⟩:=Jy (ds:=ds) s l hv r.1 (BM z).1 (GB t).1;dsimp only at e;subst e;have K':=ih h i p hq K;rcases hx with ⟨u,g⟩|⟨y,rfl⟩
     ·exact Bd u l f g K'
     exact On y l f K'
    cases h
   cases h
theorem ST{ops:List Oper}{w:World}{Q:Act->Prop}(s:∀(j b:Nat) (cs:List Value) (ty:TypeId),G[j]?=some (Pt.b b cs ty)->Blk b cs ty w):∀(k:Nat) {hs:List Nat} {zs:List Int} {L:List (Nat×Value)} {c:List Oper} {m:Bool} {a:List (Nat×Nat)} {ob:Option Prop} {q:QrR},Dv P G ops n k hs zs L c m a ob=some q->q.ok=true->Bw q.a->EL q.ob->(∀x,Fr n ds q.L x->wpStill P ops.toArray w Q q.os x)->∀x,Fr n ds L x->wpStill P ops.toArray w Q c x:=by
 intro k
 induction k with
 | zero=>intro hs zs L c m a ob q h i p hq K;simp only[Dv,X0] at h;subst h;exact K
 | succ k ih=>
  intro hs zs L c m a ob q h i p hq K
  cases c with
  | nil=>simp[Dv] at h
  | cons o c=>
   simp only[Dv] at h;split at h
   ·rename_i d l
    split at h
    ·rename_i hv
     obtain ⟨r,z,t⟩:=Ka h i p hq;simp only[Yk] at r;obtain ⟨v,e,f,hx⟩:=Jy (C:=(· =w)) (ds:=ds) (λw' e=>by subst e;exact s) l hv r.1 (BM z).1 (GB t).1;dsimp only at e;subst e;have K':=ih h i p hq K;rcases hx with ⟨u,g⟩|⟨y,rfl⟩
     ·exact B3 u l f g K'
     exact Or y l f K'
    cases h
   cases h
structure ArR where
 L:List (Nat×Value)
 li:Array Bool
 ok:Bool
 a:List (Nat×Nat)
 ob:Option Prop
def arun(P:Program)(G:List Pt)(ops:List Oper)(n:Nat)(g:Nat->Bool):List Nat->List Nat->List Int->List (Nat×Value)->Array Bool->Bool->List (Nat×Nat)->Option Prop->Option ArR
 | [],_,_,L,li,ok,a,ob=>some ⟨L,li,ok,a,ob⟩
 | i::is,hs,zs,L,li,ok,a,ob=>match ops[i]? with
  | some o=>(match o.dst with
   | some _=>(match ostep P false n ops o hs zs L G with
    | some ⟨L,_,hs,zs,ok',a',ob'⟩=>arun P G ops n g is hs zs L (li.setIfInBounds i true) ((ok'&&(g i&&(Region.noSelect ops.toArray&&(Region.free .any ops.toArray li i&&(Region.ready .any ops.toArray li).contains i))))&&ok) (a'++a) (cj ob' ob)
    | none=>none)
   | none=>none)
  | none=>none
theorem OD{ops:List Oper}{g:Nat->Bool}:∀{b hs:List Nat} {zs:List Int} {L:List (Nat×Value)} {e:Array Bool} {c:Bool} {a:List (Nat×Nat)} {ob:Option Prop} {q:ArR},arun P G ops n g b hs zs L e c a ob=some q->q.ok=true->Bw q.a->EL q.ob->c=true/\Bw a/\EL ob:=by
 intro b
 induction b with
 | nil=>intro hs zs L e c a ob q h f d hq;simp only[arun,X0] at h;subst h;exact ⟨f,d,hq⟩
 | cons i b ih=>
  intro hs zs L e c a ob q h f d hq;simp only[arun] at h;split at h
  ·split at h
   ·split at h
    ·obtain ⟨j,k,l⟩:=ih h f d hq
     simp only[Yk] at j;exact ⟨j.2,(BM k).2,(GB l).2⟩
    cases h
   cases h
  cases h
theorem SU{ops:List Oper}{N R:Act->World->Prop}{X:Nat->Act->World->Prop}{S:World->Prop}{w:World}(y:∀w,S w->∀(j b:Nat) (cs:List Value) (ty:TypeId),G[j]?=some (Pt.b b cs ty)->Blk b cs ty w)(u:S w):∀(f:List Nat) {hs:List Nat} {zs:List Int} {L:List (Nat×Value)} {k:Array Bool} {r:Bool} {a:List (Nat×Nat)} {ob:Option Prop} {q:ArR} {fuel:Nat},arun P G ops n (λ_=>true) f hs zs L k r a ob=some q->q.ok=true->Bw q.a->EL q.ob->
  (∀x,Fr n ds q.L x->wpAnyH P .any ops.toArray (Qp N X R) S fuel q.li x w)->∀x,Fr n ds L x->wpAnyH P .any ops.toArray (Qp N X R) S (fuel+f.length) k x w:=by
 intro f
 induction f with
 | nil=>intro hs zs L k r a ob q fuel h m s hq K;simp only[arun,X0] at h;subst h;exact K
 | cons i f ih=>
  intro hs zs L k r a ob q fuel h m s hq K;simp only[arun] at h;split at h
  ·rename_i o t
   split at h
   ·rename_i d p
    split at h
    ·rename_i hv
     obtain ⟨c,h2,z⟩:=OD h m s hq;simp only[Yk] at c;obtain ⟨v,e,g,hx⟩:=Jy (ds:=ds) y p hv c.1.1 (BM h2).1 (GB z).1;dsimp only at e;subst e;have K':=ih h m s hq K;rcases hx with ⟨hw,l⟩|⟨hk,rfl⟩
     ·exact Id (fuel:=fuel+f.length) i t c.1.2.2.1 c.1.2.2.2.1 c.1.2.2.2.2 hw p g l u K'
     exact Ot (fuel:=fuel+f.length) i t c.1.2.2.1 c.1.2.2.2.1 c.1.2.2.2.2 hk p g u K'
    cases h
   cases h
  cases h
section
variable{ops:List Oper}{L':List (Nat×Value)}{ok':Bool}{a':List (Nat×Nat)}{ob:Prop}{z w:World}{Γ F:List Ai}
theorem CL(h:(ok',a'.map Prod.fst)=(true,a'.map Prod.snd)):ok'=true/\Bw a':=⟨congrArg Prod.fst h,CH (congrArg Prod.snd h)⟩
theorem IU{Q:Act->Prop}(k:Nat)(hs:List Nat)(zs:List Int)[e:Rf Γ G F]{c a:List Oper}(h:Dv P G ops n k hs zs L c true [] none=some ⟨L',a,ok',a',none⟩)(b:(ok',a'.map Prod.fst)=(true,a'.map Prod.snd))(K:∀x,Fr n ds L' x->wpQuiet P ops.toArray (Sep z Γ) Q a x):∀x,Fr n ds L x->wpQuiet P ops.toArray (Sep z Γ) Q c x:=
 SS (λ_ H _ _ _ _ q=>(show Sep z (CU G F) _ from e.e▸H).blk _ (Cv q)) k h (CL b).1 (CL b).2 trivial K
theorem Xp{Q:Act->Prop}(k:Nat)(hs:List Nat)(zs:List Int)(H:Sep z Γ w)[e:Rf Γ G F]{c a:List Oper}(h:Dv P G ops n k hs zs L c true [] none=some ⟨L',a,ok',a',none⟩)(b:(ok',a'.map Prod.fst)=(true,a'.map Prod.snd))(K:∀x,Fr n ds L' x->wpStill P ops.toArray w Q a x):∀x,Fr n ds L x->wpStill P ops.toArray w Q c x:=
 ST (λ_ _ _ _ q=>(show Sep z (CU G F) _ from e.e▸H).blk _ (Cv q)) k h (CL b).1 (CL b).2 trivial K
theorem CB{N R:Act->World->Prop}{X:Nat->Act->World->Prop}(b hs:List Nat)(zs:List Int)(H:Sep z Γ w)[e:Rf Γ G F]{c a:Array Bool}{fuel f:Nat}(h:arun P G ops n (λ_=>true) b hs zs L c true [] none=some ⟨L',a,ok',a',none⟩)(d:(ok',a'.map Prod.fst)=(true,a'.map Prod.snd))(g:fuel+b.length=f)(K:∀x,Fr n ds L' x->wpAnyH P .any ops.toArray (Qp N X R) (Sep z Γ) fuel a x w):∀x,Fr n ds L x->wpAnyH P .any ops.toArray (Qp N X R) (Sep z Γ) f c x w:=
 g▸SU (S:=Sep z Γ) (λ_ H _ _ _ _ q=>(show Sep z (CU G F) _ from e.e▸H).blk _ (Cv q)) H b h (CL d).1 (CL d).2 trivial K
theorem F9{Q:Act->Prop}(k:Nat)(hs:List Nat)(zs:List Int)[e:Rf Γ G F]{c a:List Oper}(h:Dv P G ops n k hs zs L c true [] none=some ⟨L',a,ok',a',some ob⟩)(b:(ok',a'.map Prod.fst)=(true,a'.map Prod.snd))(hq:ob)(K:∀x,Fr n ds L' x->wpQuiet P ops.toArray (Sep z Γ) Q a x):∀x,Fr n ds L x->wpQuiet P ops.toArray (Sep z Γ) Q c x:=
 SS (λ_ H _ _ _ _ q=>(show Sep z (CU G F) _ from e.e▸H).blk _ (Cv q)) k h (CL b).1 (CL b).2 hq K
theorem CC{Q:Act->Prop}(k:Nat)(hs:List Nat)(zs:List Int)(H:Sep z Γ w)[e:Rf Γ G F]{c a:List Oper}(h:Dv P G ops n k hs zs L c true [] none=some ⟨L',a,ok',a',some ob⟩)(b:(ok',a'.map Prod.fst)=(true,a'.map Prod.snd))(hq:ob)(K:∀x,Fr n ds L' x->wpStill P ops.toArray w Q a x):∀x,Fr n ds L x->wpStill P ops.toArray w Q c x:=
 ST (λ_ _ _ _ q=>(show Sep z (CU G F) _ from e.e▸H).blk _ (Cv q)) k h (CL b).1 (CL b).2 hq K
theorem OE{N R:Act->World->Prop}{X:Nat->Act->World->Prop}(b hs:List Nat)(zs:List Int)(H:Sep z Γ w)[e:Rf Γ G F]{c a:Array Bool}{fuel f:Nat}(h:arun P G ops n (λ_=>true) b hs zs L c true [] none=some ⟨L',a,ok',a',some ob⟩)(d:(ok',a'.map Prod.fst)=(true,a'.map Prod.snd))(hq:ob)(g:fuel+b.length=f)(K:∀x,Fr n ds L' x->wpAnyH P .any ops.toArray (Qp N X R) (Sep z Γ) fuel a x w):∀x,Fr n ds L x->wpAnyH P .any ops.toArray (Qp N X R) (Sep z Γ) f c x w:=
 g▸SU (S:=Sep z Γ) (λ_ H _ _ _ _ q=>(show Sep z (CU G F) _ from e.e▸H).blk _ (Cv q)) H b h (CL d).1 (CL d).2 hq K
end
end

structure FiR where
 L:List (Nat×Value)
 G:List Pt
 p:Pos
 a:List Nat
 b:List Nat
 ob:Option Prop
def fin:Option GsR->Option FiR
 | some ⟨L,G,p,true,a,ob⟩=>some ⟨L,G,p,a.map Prod.fst,a.map Prod.snd,ob⟩
 | _=>none
def KI{β:Type}:List Pt->List Ai->(List Ai->β)->β
 | [],R,k=>k R
 | .b b cs ty::G,R,k=>KI G R λΓ=>k (blk b cs ty::Γ)
 | .a A::G,R,k=>KI G R λΓ=>k (A::Γ)
theorem QB{β:Type}{R:List Ai}(G:List Pt):∀(k:List Ai->β),KI G R k=k (CU G R):=by
 induction G with
 | nil=>intro k;rfl
 | cons x G ih=>intro k;cases x<;>exact ih _
structure FwR where
 L:List (Nat×Value)
 Γ:List Ai
 p:Pos
 a:List Nat
 b:List Nat
 ob:Option Prop
def OF(F:List Ai):Option GsR->Option FwR
 | some ⟨L,G,p,true,a,ob⟩=>KI G F λΓ=>some ⟨L,Γ,p,a.map Prod.fst,a.map Prod.snd,ob⟩
 | _=>none
theorem KW{F Γ:List Ai}{q:Option GsR}{L:List (Nat×Value)}{p:Pos}{al:List Nat}{ob:Option Prop}(h:OF F q=some ⟨L,Γ,p,al,al,ob⟩):∃a G,q=some ⟨L,G,p,true,a,ob⟩/\Bw a/\CU G F=Γ:=by
 unfold OF at h;split at h
 ·rename_i a _
  rw[QB] at h;simp only[X0,FwR.mk.injEq] at h;obtain ⟨rfl,b,rfl,c,d,rfl⟩:=h;exact ⟨_,_,Z,CH (c.trans d.symm),b⟩
 cases h
theorem IV{q:Option GsR}{L:List (Nat×Value)}{G:List Pt}{p:Pos}{al:List Nat}{ob:Option Prop}(h:fin q=some ⟨L,G,p,al,al,ob⟩):∃a,q=some ⟨L,G,p,true,a,ob⟩/\Bw a:=by
 unfold fin at h;split at h
 ·rename_i a _
  simp only[X0,FiR.mk.injEq] at h;obtain ⟨rfl,rfl,rfl,b,c,rfl⟩:=h;exact ⟨_,Z,CH (b.trans c.symm)⟩
 cases h
section
variable{P:Program}{N R:Act->World->Prop}{X:Nat->Act->World->Prop}{n:Nat}{ds:List Deferred}{L L':List (Nat×Value)}{w z:World}{p p':Pos}{al:List Nat}{G G':List Pt}{Γ F:List Ai}
theorem Vn(w:World):Mo false (λG w'=>G=[]/\w'=w):=⟨λh e=>by rw[h.1] at e;simp at e,λh=>by cases h⟩
theorem Vo(z:World)(F:List Ai)(w:World):Mo false (λG w'=>Sep z (CU G F) w'/\w'=w):=⟨λH e=>H.1.blk _ (Cv e),λh=>by cases h⟩
theorem QC(z:World)(F:List Ai):Mo true (λG w=>Sep z (CU G F) w):=⟨λH e=>H.blk _ (Cv e),λ_ {G w w' j b cs a ty} H e f d g h c=>by
 have:=H.write j (Cv e) f d g h c;have i:j<G.length:=(XU.1 e).1;exact (Ie (R:=F) (b:=b) (cs:=a) (ty:=ty) i)▸this⟩
theorem Z0(k:Nat)(hs:List Nat)(h:fin (go P false n k hs [] L [] p true [] none)=some ⟨L',[],p',[],[],none⟩)(K:∀x,Fr n ds L' x->Bu P N X R p' x w):∀x,Fr n ds L x->Bu P N X R p x w:=by
 obtain ⟨a,h,b⟩:=IV h;exact GC (Vn w) k h Z b trivial (λ_ c=>c.2▸K) w ⟨Z,Z⟩
theorem Zc(k:Nat)(h:fin (go P false n k [] [] L [] p true [] none)=some ⟨L',[],p',[],[],none⟩)(K:∀x,Fr n ds L' x->Bu P N X R p' x w):∀x,Fr n ds L x->Bu P N X R p x w:=Z0 k [] h K
theorem Z1(k:Nat)(hs:List Nat)(zs:List Int){ob:Prop}(h:fin (go P false n k hs zs L [] p true [] none)=some ⟨L',[],p',[],[],some ob⟩)(hq:ob)(K:∀x,Fr n ds L' x->Bu P N X R p' x w):∀x,Fr n ds L x->Bu P N X R p x w:=by
 obtain ⟨a,h,b⟩:=IV h;exact GC (Vn w) k h Z b hq (λ_ c=>c.2▸K) w ⟨Z,Z⟩
theorem Z2(k:Nat)(hs:List Nat)(H:Sep z Γ w)[e:Rf Γ G F](h:fin (go P false n k hs [] L G p true [] none)=some ⟨L',G',p',al,al,none⟩)(K:∀x,Fr n ds L' x->Bu P N X R p' x w):∀x,Fr n ds L x->Bu P N X R p x w:=by
 obtain ⟨a,h,b⟩:=IV h;exact GC (Vo z F w) k h Z b trivial (λ_ c=>c.2▸K) w ⟨e.e▸H,Z⟩
theorem Z3(k:Nat)(hs:List Nat)(zs:List Int)(H:Sep z Γ w)[e:Rf Γ G F]{ob:Prop}(h:fin (go P false n k hs zs L G p true [] none)=some ⟨L',G',p',al,al,some ob⟩)(hq:ob)(K:∀x,Fr n ds L' x->Bu P N X R p' x w):∀x,Fr n ds L x->Bu P N X R p x w:=by
 obtain ⟨a,h,b⟩:=IV h;exact GC (Vo z F w) k h Z b hq (λ_ c=>c.2▸K) w ⟨e.e▸H,Z⟩
theorem Z4(k:Nat)(hs:List Nat)(H:Sep z Γ w)[e:Rf Γ G F]{Γ':List Ai}(h:OF F (go P true n k hs [] L G p true [] none)=some ⟨L',Γ',p',al,al,none⟩)(K:∀w,Sep z Γ' w->∀x,Fr n ds L' x->Bu P N X R p' x w):∀x,Fr n ds L x->Bu P N X R p x w:=by
 obtain ⟨a,G',c,b,rfl⟩:=KW h;exact GC (QC z F) k c Z b trivial K w (e.e▸H)
theorem Z5(k:Nat)(hs:List Nat)(zs:List Int)(H:Sep z Γ w)[e:Rf Γ G F]{Γ':List Ai}{ob:Prop}(h:OF F (go P true n k hs zs L G p true [] none)=some ⟨L',Γ',p',al,al,some ob⟩)(hq:ob)(K:∀w,Sep z Γ' w->∀x,Fr n ds L' x->Bu P N X R p' x w):∀x,Fr n ds L x->Bu P N X R p x w:=by
 obtain ⟨a,G',c,b,rfl⟩:=KW h;exact GC (QC z F) k c Z b hq K w (e.e▸H)
end

section
variable{P:Program}{N R:Act->World->Prop}{X:Nat->Act->World->Prop}{n d:Nat}{ds:List Deferred}{L:List (Nat×Value)}{w z:World}{k:Kd}{ops rest:List Oper}{o:Oper}{v:Value}
theorem Af{f:FuncId}{b:Func}{c:Code}{args:List Value}{R:Value->World->Prop}(e:P.funcs[f]?=some b)(g:b.body=some c)(i:b.ntmps=n)(d:Nat.ble args.length n=true)
  (h:∀a,Fr n [] (first 0 args) a->Bu P (E8 P b R) GR (E8 P b R) (.c c .fin) a w):Calls P f args.toArray w (Ret R):=enter e g n i d h
theorem gf(K:∀x,Fr n ds L x->N x w):∀x,Fr n ds L x->Bu P N X R (.n .fin) x w:=K
theorem gx{a R':Act->World->Prop}{i:Nat}(K:∀x,Fr n ds L x->Bu P N X R (.x i k) x w):∀x,Fr n ds L x->Bu P a (kQ P N X R k).2 R' (.x i .fin) x w:=K
theorem gn(K:∀x,Fr n ds L x->Bu P N X R (.n k) x w):∀x,Fr n ds L x->(kQ P N X R k).1 x w:=K
theorem gw(K:∀x,Fr n ds L x->Bu P N X R (.o ops rest k) x w):∀x,Fr n ds L x->wpList P ops.toArray (Qp (kQ P N X R k).1 (kQ P N X R k).2 R) rest x w:=K
theorem Fy{c:Operand}{x y:Code}{b:Bool}(f:ev L c=some (.bool b))(d:b=true->∀a,Fr n ds L a->Bu P N X R (.c x k) a w)(e:b=false->∀a,Fr n ds L a->Bu P N X R (.c y k) a w):∀a,Fr n ds L a->Bu P N X R (.c (.cond c x y) k) a w:=Og f d e
theorem Ag{c:Operand}{x y:Code}{p:Prop}[hp:Decidable p](e:ev L c=some (.bool (decide p)))(b:p->∀a,Fr n ds L a->Bu P N X R (.c x k) a w)(d:¬p->∀a,Fr n ds L a->Bu P N X R (.c y k) a w):∀a,Fr n ds L a->Bu P N X R (.c (.cond c x y) k) a w:=Fe e b d
theorem Aq{c:Code}{σ:Type}(d:σ->List (Nat×Value))(G:σ->World->Prop)(m:σ->Nat)(f:σ)
  (h₀:∀a,Fr n ds L a->Fr n ds (d f) a)(g:G f w)
  (b:∀s w,G s w->∀a,Fr n ds (d s) a->Bu P (λa' w'=>∃e,Fr n ds (d e) a'/\G e w'/\m e<m s) (kQ P N X R k).2 R (.c c .fin) a w):∀a,Fr n ds L a->Bu P N X R (.c (.loop c) k) a w:=Oh d G m f h₀ g b
def Ig(ops:List Oper)(L:List (Nat×Value))(n:Nat)(o:Oper):Option Nat:=match o.dst with
 | some d=>match Bv ops L o.guard with
  | true=>bif Nat.blt d n then some d else none
  | false=>none
 | none=>none
theorem DD(h:Ig ops L n o=some d):Bv ops L o.guard=true/\o.dst=some d/\Nat.blt d n=true:=by
 unfold Ig at h;split at h
 ·rename_i a b
  split at h
  ·rename_i c
   cases hb:Nat.blt a n with
   | true=>rw[hb] at h;simp at h;subst h;exact ⟨c,b,hb⟩
   | false=>rw[hb] at h;cases h
  cases h
 cases h
theorem Ae(h:Ig ops L n o=some d)(b:Ao P (· =w) n ds L o v)(K:∀a',Fr n ds ((d,v)::L) a'->Bu P N X R (.o ops rest k) a' w):∀a,Fr n ds L a->Bu P N X R (.o ops (o::rest) k) a w:=s_do (DD h).1 (DD h).2.1 (DD h).2.2 b K
theorem AC{Rr:Value->World->Prop}(h:Ig ops L n o=some d)(b:BJ P n ds L o w Rr)(K:∀v w',Rr v w'->∀a',Fr n ds ((d,v)::L) a'->Bu P N X R (.o ops rest k) a' w'):∀a,Fr n ds L a->Bu P N X R (.o ops (o::rest) k) a w:=E9 (DD h).1 (DD h).2.1 (DD h).2.2 b K
theorem IW{Rr:Value->World->Prop}(c:Bv ops L o.guard=true)(b:o.dst=none)(h:BJ P n ds L o w Rr)(K:∀v w',Rr v w'->∀a,Fr n ds L a->Bu P N X R (.o ops rest k) a w'):∀a,Fr n ds L a->Bu P N X R (.o ops (o::rest) k) a w:=WJ c b h K
theorem A0{Rr:World->Prop}(c:Bv ops L o.guard=true)(b:o.dst=none)(h:Dj P n ds L o w Rr)(K:∀w',Rr w'->∀a,Fr n ds L a->Bu P N X R (.o ops rest k) a w'):∀a,Fr n ds L a->Bu P N X R (.o ops (o::rest) k) a w:=EX c b h K
theorem Am{p:Prop}[Decidable p](t:Nat)(b:BZ L t=some (.bool (decide p)))(d:p->∀a,Fr n ds ((t,.bool true)::L) a->Bu P N X R (.o ops (o::rest) k) a w)(c:¬p->∀a,Fr n ds ((t,.bool false)::L) a->Bu P N X R (.o ops (o::rest) k) a w):∀a,Fr n ds L a->Bu P N X R (.o ops (o::rest) k) a w:=Ol t b d c
theorem GD{b:Bool}(t:Nat)(c:BZ L t=some (.bool b))(e:b=true->∀a,Fr n ds ((t,.bool true)::L) a->Bu P N X R (.o ops (o::rest) k) a w)(d:b=false->∀a,Fr n ds ((t,.bool false)::L) a->Bu P N X R (.o ops (o::rest) k) a w):∀a,Fr n ds L a->Bu P N X R (.o ops (o::rest) k) a w:=Qj t c e d
variable{Γ pre R':List Ai}{post:Value->List Ai->Prop}{f:FuncId}{vs:List Value}
def KJ(ops:List Oper)(L:List (Nat×Value))(n:Nat)(o:Oper):Option (Nat×FuncId×List Value):=match Ig ops L n o with
 | some d=>match o.op with
  | .call ⟨.value (.func f),⟨xs⟩,_⟩=>match evs L xs with
   | some vs=>some (d,f,vs)
   | none=>none
  | _=>none
 | none=>none
theorem QD(h:KJ ops L n o=some (d,f,vs)):Ig ops L n o=some d/\∃xs tys,o.op=.call {callee:=.value (.func f),args:=(xs:List Operand).toArray,argTypes:=tys} /\evs L xs=some vs:=by
 unfold KJ at h;split at h
 ·rename_i g b
  split at h
  ·rename_i i xs tys a
   split at h
   ·rename_i c e
    simp only[X0,AaE] at h;obtain ⟨rfl,rfl,rfl⟩:=h;exact ⟨b,xs,tys,a,e⟩
   cases h
  cases h
 cases h
theorem AA(h:KJ ops L n o=some (d,f,vs))(e:∀w,(callFunc f vs.toArray).run P w=.ok (.enter f vs.toArray) w)(g:Cn P f vs pre post)(H:Sep z (pre++R') w)
  (K:∀v w' Γ',post v Γ'->Sep z (Γ'++R') w'->∀a',Fr n ds ((d,v)::L) a'->Bu P N X R (.o ops rest k) a' w'):∀a,Fr n ds L a->Bu P N X R (.o ops (o::rest) k) a w:=by
 obtain ⟨b,xs,tys,c,i⟩:=QD h;exact E1 (DD b).1 (DD b).2.1 (DD b).2.2 c i e g H Z K
theorem Ah{V_:Value}{G:List Ai}(h:KJ ops L n o=some (d,f,vs))(b:∀w,(callFunc f vs.toArray).run P w=.ok (.enter f vs.toArray) w)(c:Cn P f vs pre (λv X=>v=V_/\X=G))(H:Sep z (pre++R') w)
  (K:∀w',Sep z (G++R') w'->∀a',Fr n ds ((d,V_)::L) a'->Bu P N X R (.o ops rest k) a' w'):∀a,Fr n ds L a->Bu P N X R (.o ops (o::rest) k) a w:=
 AA h b c H λv w' Γ' e=>by obtain ⟨rfl,rfl⟩:=e;exact K w'
def Jz(L:List (Nat×Value)):List ResultVar->Option (List Value)
 | []=>some []
 | .tmp t::rs=>match BZ L t with
  | some v=>match Jz L rs with
   | some vs=>some (v::vs)
   | none=>none
  | none=>none
 | _::_=>none
theorem JA{L:List (Nat×Value)}:∀{rs:List ResultVar} {vs:List Value},Jz L rs=some vs->DN P L w rs vs
 | [],vs,h=>by simp only[Jz,X0] at h;subst h;trivial
 | .tmp t::rs,vs,h=>by
  simp only[Jz] at h;split at h
  ·rename_i v hv
   split at h
   ·rename_i us hu;cases h;exact ⟨hv,JA hu⟩
   cases h
  cases h
 | .cell _ _::_,_,h=>by simp[Jz] at h
def Nz(L:List (Nat×Value))(rs:List ResultVar):Option Value:=match Jz L rs with
 | some [v]=>some v
 | some vs=>some (.tuple vs.toArray)
 | none=>none
theorem Mz{rs:List ResultVar}(h:Nz L rs=some v):∃vs,DN P L w rs vs/\FM vs=v:=by
 unfold Nz at h;split at h
 ·rename_i u a;cases h;exact ⟨_,JA a,Z⟩
 ·rename_i vs b a;cases h;exact ⟨_,JA a,by cases vs with
   | nil=>rfl
   | cons x xs=>cases xs with
    | nil=>exact (b x Z).elim
    | cons y ys=>rfl⟩
 cases h
theorem Zr{b:Func}{R:Value->World->Prop}(h:Nz L b.results.toList=some v)(q:R v w):∀a,Fr n [] L a->Bu P N X (E8 P b R) .r a w:=by
 obtain ⟨vs,c,d⟩:=Mz (P:=P) (w:=w) h;exact FN O vs c d q
theorem Zf{b:Func}{R':Act->World->Prop}{R:Value->World->Prop}(h:Nz L b.results.toList=some v)(q:R v w):∀a,Fr n [] L a->Bu P (E8 P b R) X R' (.n .fin) a w:=by
 obtain ⟨vs,c,d⟩:=Mz (P:=P) (w:=w) h;exact FN O vs c d q

structure RmR where
 vs:List Value
 ok:Bool
 a:List (Nat×Nat)
def GE(P:Program)(L:List (Nat×Value))(G:List Pt):List Nat->List ResultVar->Option RmR
 | _,[]=>some ⟨[],true,[]⟩
 | hs,.tmp t::rs=>match BZ L t with
  | some v=>match GE P L G hs rs with
   | some ⟨vs,ok,a⟩=>some ⟨v::vs,ok,a⟩
   | none=>none
  | none=>none
 | j::m::hs,.cell t ty::rs=>match BZ L t with
  | some (.pointer (some ⟨b,p,none⟩))=>match G[j]? with
   | some (.b b' cs _)=>match GE P L G hs rs with
    | some ⟨us,ok,a⟩=>FQ ((cs.drop p).take m) λvs=>some ⟨.agg vs.toArray::us,OB (Gu P ty) vs.length&&ok,(b,b')::a⟩
    | none=>none
   | _=>none
  | _=>none
 | _,_=>none
theorem JB{G:List Pt}(c:∀(j b:Nat) (cs:List Value) (ty:TypeId),G[j]?=some (Pt.b b cs ty)->Blk b cs ty w):∀{rs:List ResultVar} {hs:List Nat} {q:RmR},GE P L G hs rs=some q->q.ok=true->Bw q.a->DN P L w rs q.vs
 | [],hs,q,h,_,_=>by simp only[GE,X0] at h;subst h;trivial
 | .tmp t::rs,hs,q,h,hb,ha=>by
  simp only[GE] at h;split at h
  ·rename_i v hv
   split at h
   ·rename_i hu;cases h;exact ⟨hv,JB c hu hb ha⟩
   cases h
  cases h
 | .cell t ty::rs,j::m::hs,q,h,hb,ha=>by
  simp only[GE] at h;split at h
  ·rename_i b p hv
   split at h
   ·rename_i b' cs ty' hG
    split at h
    ·rename_i hu
     rw[D5] at h;cases h;simp only[Yk] at hb;have e:b=b':=ha.1;subst e;exact ⟨⟨b,p,hv,Mc (IT hb.1) (c _ _ _ _ hG) (by rw[X2,List.take_eq_take_iff];simp)⟩,JB c hu hb.2 ha.2⟩
    cases h
   cases h
  cases h
 | .cell t ty::rs,[],q,h,_,_=>by simp[GE] at h
 | .cell t ty::rs,[_],q,h,_,_=>by simp[GE] at h
structure RvR where
 v:Value
 a:List Nat
 b:List Nat
def QE:Option RmR->Option RvR
 | some ⟨[v],true,a⟩=>some ⟨v,a.map Prod.fst,a.map Prod.snd⟩
 | some ⟨vs,true,a⟩=>some ⟨.tuple vs.toArray,a.map Prod.fst,a.map Prod.snd⟩
 | _=>none
theorem Tt{q:Option RmR}{al:List Nat}(h:QE q=some ⟨v,al,al⟩):∃vs a,q=some ⟨vs,true,a⟩/\Bw a/\FM vs=v:=by
 unfold QE at h;split at h
 ·simp only[X0,RvR.mk.injEq] at h
  obtain ⟨rfl,b,c⟩:=h;exact ⟨_,_,Z,CH (b.trans c.symm),Z⟩
 ·rename_i vs a d
  simp only[X0,RvR.mk.injEq] at h;obtain ⟨rfl,b,c⟩:=h;refine ⟨_,_,Z,CH (b.trans c.symm),?_⟩
  cases vs with
  | nil=>rfl
  | cons x xs=>cases xs with
   | nil=>exact (d x Z).elim
   | cons y ys=>rfl
 cases h
theorem Zl(hs:List Nat){G:List Pt}{F:List Ai}{al:List Nat}(H:Sep z Γ w)[e:Rf Γ G F]{b:Func}{R:Value->World->Prop}(h:QE (GE P L G hs b.results.toList)=some ⟨v,al,al⟩)(q:R v w):∀a,Fr n [] L a->Bu P N X (E8 P b R) .r a w:=by
 obtain ⟨vs,a,c,d,f⟩:=Tt h;have H:Sep z (CU G F) w:=e.e▸H;exact FN O vs (JB (λ_ _ _ _ e=>H.blk _ (Cv e)) c Z d) f q
structure AlR where
 L:List (Nat×Value)
 Γ:List Ai
 ops:List Oper
 os:List Oper
 k:Kd
 d:Nat
 zs:List Value
 e:TypeId
 ob:Option Prop
 a:List Nat
 b:List Nat
def Vp(P:Program)(n:Nat):Option FwR->Option AlR
 | some ⟨L,G,p,a,b,ob⟩=>match SR p with
  | some (ops,o,os,k)=>match Ig ops L n o with
   | some d=>match o.op with
    | .alloc e=>match zeroCells P e with
     | some zs=>FQ zs.toList λzs=>some ⟨L,G,ops,os,k,d,zs,e,ob,a,b⟩
     | none=>none
    | .box e x=>match ev L x with
     | some v=>FQ (GY v) λzs=>some ⟨L,G,ops,os,k,d,zs,e,ob,a,b⟩
     | none=>none
    | _=>none
   | none=>none
  | none=>none
 | none=>none
theorem Vq{q:Option FwR}{L':List (Nat×Value)}{G':List Ai}{l:List Oper}{zs:List Value}{e:TypeId}{ob:Option Prop}{al:List Nat}(h:Vp P n q=some ⟨L',G',ops,l,k,d,zs,e,ob,al,al⟩)(K:∀b w,Sep z (blk b zs e::G') w->∀x,Fr n ds ((d,V b)::L') x->Bu P N X R (.o ops l k) x w):
  ∃p',q=some ⟨L',G',p',al,al,ob⟩/\∀w,Sep z G' w->∀x,Fr n ds L' x->Bu P N X R p' x w:=by
 unfold Vp at h;split at h
 ·rename_i L1 G1 p a b s
  split at h
  ·rename_i j o u k1 m
   obtain rfl:=OC m;split at h
   ·rename_i d1 i
    split at h
    ·rename_i t f
     split at h
     ·rename_i c r
      rw[D5] at h;simp only[X0,AlR.mk.injEq] at h;obtain ⟨rfl,rfl,rfl,rfl,rfl,rfl,rfl,rfl,rfl,rfl,rfl⟩:=h;refine ⟨_,Z,λw H=>AC i (BL H f (zs:=c.toList) (by simpa using r)) ?_⟩;rintro _ w' ⟨b,rfl,g⟩;exact K b w' g
     cases h
    ·rename_i t x1 f
     split at h
     ·rename_i y v
      rw[D5] at h;simp only[X0,AlR.mk.injEq] at h;obtain ⟨rfl,rfl,rfl,rfl,rfl,rfl,rfl,rfl,rfl,rfl,rfl⟩:=h;refine ⟨_,Z,λw H=>AC i (Ff H f v (My _)) ?_⟩;rintro _ w' ⟨b,rfl,g⟩;exact K b w' g
     cases h
    cases h
   cases h
  cases h
 cases h
theorem Za(m:Nat)(hs:List Nat){L':List (Nat×Value)}{G:List Pt}{G':List Ai}{p:Pos}{c:List Oper}{zs:List Value}{e:TypeId}{al:List Nat}{F:List Ai}(H:Sep z Γ w)[r:Rf Γ G F](h:Vp P n (OF F (go P true n m hs [] L G p true [] none))=some ⟨L',G',ops,c,k,d,zs,e,none,al,al⟩)
  (K:∀b w,Sep z (blk b zs e::G') w->∀x,Fr n ds ((d,V b)::L') x->Bu P N X R (.o ops c k) x w):∀x,Fr n ds L x->Bu P N X R p x w:=by
 obtain ⟨p',i,g⟩:=Vq h K;obtain ⟨a,G1,j,f,rfl⟩:=KW i;exact GC (QC z F) m j Z f trivial g w (r.e▸H)
theorem gr(K:∀x,Fr n ds L x->R x w):∀x,Fr n ds L x->Bu P N X R .r x w:=K
end
end
section
def celH(h:Hp)(b o:Nat)(v:Value):Prop:=∃cs ty fr,h b=some (.cells cs ty fr)/\cs[o]?=some v
def BC(h h':Hp):Prop:=∀k o,h k=some o->h' k=some o
theorem celH.le{h h':Hp}{b o:Nat}{v:Value}(c:celH h b o v)(s:BC h h'):celH h' b o v:=by
 obtain ⟨cs,ty,d,a,e⟩:=c;exact ⟨cs,ty,d,s _ _ a,e⟩
theorem celH.cel{h:Hp}{b o:Nat}{v:Value}{w:World}(c:celH h b o v)(s:BC h (hp w)):EI b o v w:=by
 obtain ⟨cs,ty,e,d,f⟩:=c.le s;have a:w.heap[b]?=some (.cells cs ty e):=d;unfold EI World.cell?;simp[a,f]
def rdH(sz:Nat)(v:Value)(n:Nat)(xs:List Value)(h:Hp):Prop:=
 ∃ao c,v=.slice ao n c/\n<=c/\c<=9223372036854775807/\xs.length=n*sz/\∀(j:Nat) (u:Value),xs[j]?=some u->∃b p,ao=some ⟨b,p,none⟩/\celH h b (p+j) u
theorem rdH.le{sz:Nat}{v:Value}{n:Nat}{xs:List Value}{h h':Hp}(r:rdH sz v n xs h)(s:BC h h'):rdH sz v n xs h':=by
 obtain ⟨k,c,e,f,d,g,a⟩:=r;exact ⟨k,c,e,f,d,g,λj u i=>by obtain ⟨b,p,e,l⟩:=a j u i;exact ⟨b,p,e,l.le s⟩⟩
theorem rdH.rd{sz:Nat}{v:Value}{n:Nat}{xs:List Value}{h:Hp}{w:World}(r:rdH sz v n xs h)(s:BC h (hp w)):Rd sz v n xs w:=by
 obtain ⟨k,c,e,f,d,g,a⟩:=r;exact ⟨k,c,e,f,d,g,λj u i=>by obtain ⟨b,p,e,l⟩:=a j u i;exact ⟨b,p,e,l.cel s⟩⟩
theorem rdH.small{sz:Nat}{v:Value}{n:Nat}{xs:List Value}{h:Hp}(r:rdH sz v n xs h):n<=9223372036854775807:=by
 obtain ⟨b,c,e,a,d,_⟩:=r;omega
theorem rdH.nil(sz:Nat)(h:Hp):rdH sz (.slice none 0 0) 0 [] h:=⟨none,0,Z,Yo _,by omega,by simp,λj u a=>by simp at a⟩
theorem blk.celH{b:Nat}{cs:List Value}{ty:TypeId}{h:Hp}(a:blk b cs ty h)(o:Nat){v:Value}(c:cs[o]?=some v):celH h b o v:=⟨_,_,_,a,by simpa using c⟩
theorem blk.rd{b a l c sz:Nat}{cs xs:List Value}{ty:TypeId}{h:Hp}(f:blk b cs ty h)(e:l<=c)(i:c<=9223372036854775807)(k:a+l*sz<=cs.length)(g:(cs.drop a).take (l*sz)=xs):rdH sz (.slice (some ⟨b,a,none⟩) l c) l xs h:=by
 subst g;refine ⟨_,_,Z,e,i,by simp;omega,λj u d=>⟨b,a,Z,f.celH _ ?_⟩⟩;rw[YB] at d;split at d
 ·rw[YQ] at d;exact d
 cases d
section
variable{P:Program}{C:World->Prop}{o:Oper}{a:Act}{w z:World}{Γ:List Ai}{n:Nat}{ds:List Deferred}{L:List (Nat×Value)}{v:Value}{x y:Operand}{xt yt:TypeId}{A:Ai}
theorem Sep.get'(i:Nat)(H:Sep z Γ w)(a:Γ[i]?=some A):∃h,A h/\BC h (hp w):=H.get i a
def JC:List Ai->Nat->Ai
 | [],_=>λ_=>True
 | a::_,0=>a
 | _::l,i+1=>JC l i
theorem SV:∀(Γ:List Ai) (i:Nat),Γ[i]?=none/\(∀h,JC Γ i h)\/Γ[i]?=some (JC Γ i)
 | [],_=>.inl ⟨Z,λ_=>trivial⟩
 | _::_,0=>.inr Z
 | _::l,i+1=>SV l i
theorem SW{Γ:List Ai}{z w:World}(i:Nat)(H:Sep z Γ w):∃h,JC Γ i h/\BC h (hp w):=(SV Γ i).elim (λq=>⟨_,q.2 _,λ_ _ e=>e⟩) (λq=>H.get' i q)
theorem Sep.rd(i:Nat)(H:Sep z Γ w)(c:Γ[i]?=some A){sz m:Nat}{u:Value}{xs:List Value}(b:∀h,A h->rdH sz u m xs h):Rd sz u m xs w:=by
 obtain ⟨h,a,d⟩:=H.get' i c;exact (b h a).rd d
theorem Sep.rv{Γ:List Ai}{z w:World}(i:Nat)(H:Sep z Γ w){sz m:Nat}{u:Value}{xs:List Value}(r:∀{h},JC Γ i h->rdH sz u m xs h):Rd sz u m xs w:=by
 obtain ⟨_,q,e⟩:=SW i H;exact (r q).rd e
theorem Sep.cell(i:Nat)(H:Sep z Γ w)(d:Γ[i]?=some A){b p:Nat}{u:Value}(c:∀h,A h->celH h b p u):EI b p u w:=by
 obtain ⟨h,a,e⟩:=H.get' i d;exact (c h a).cel e
theorem Sep.says(i:Nat)(H:Sep z Γ w)(c:Γ[i]?=some A){p:Prop}(b:∀h,A h->p):p:=by
 obtain ⟨h,a,_⟩:=H.get' i c;exact b h a

theorem Sep.sy{Γ:List Ai}{z w:World}(i:Nat)(H:Sep z Γ w){p:Prop}(r:∀{h},JC Γ i h->p):p:=by
 obtain ⟨_,q,_⟩:=SW i H;exact r q
def grow(e:TypeId)(sz:Nat)(v:Value)(n:Nat)(xs:List Value):Ai:=λh=>xs.length=n*sz/\
 ((v=.slice none 0 0/\n=0)\/∃g cap cur,v=.slice (some ⟨g,0,none⟩) n cap/\h g=some (.cells cur e (0,0))/\n<=cap/\cap<=maxLen/\cur.size=cap*sz/\cur.toList.take (n*sz)=xs)
theorem grow.form{e:TypeId}{sz m:Nat}{u:Value}{xs:List Value}{h:Hp}(g:grow e sz u m xs h):(u=.slice none 0 0/\m=0)\/∃b c,u=.slice (some ⟨b,0,none⟩) m c/\m<=c:=by
 rcases g.2 with g|⟨b,c,a,f,_,d,_⟩
 ·exact .inl g
 exact .inr ⟨b,c,f,d⟩
theorem grow.len{e:TypeId}{sz m:Nat}{u:Value}{xs:List Value}{h:Hp}(g:grow e sz u m xs h):xs.length=m*sz:=g.1
theorem grow.nil(e:TypeId)(sz:Nat)(h:Hp):grow e sz (.slice none 0 0) 0 [] h:=⟨by simp,.inl ⟨Z,Z⟩⟩
theorem grow.rd{e:TypeId}{sz m:Nat}{u:Value}{xs:List Value}{h:Hp}(g:grow e sz u m xs h):rdH sz u m xs h:=by
 have d:=g.1;rcases g.2 with ⟨rfl,rfl⟩|⟨b,c,i,rfl,k,n,l,hs,f⟩
 ·have:xs=[]:=by simpa using d
  subst this;exact rdH.nil sz h
 refine ⟨_,c,Z,n,(by unfold maxLen at l;omega),d,λj u a=>⟨b,0,Z,_,_,_,k,?_⟩⟩;rw[<-f] at a;rw[YB] at a;split at a
 ·simpa using a
 cases a
theorem grow.own{e:TypeId}{sz m:Nat}{u:Value}{xs:List Value}{h:Hp}(g:grow e sz u m xs h)(s:BC h (hp w)):SN 0 e sz u m xs w:=by
 refine ⟨g.1,?_⟩;rcases g.2 with g|⟨b,c,a,f,d,r⟩
 ·exact .inl g
 exact .inr ⟨b,c,a,f,Ye _,s _ _ d,r⟩
theorem Sep.void{B:Ai}(H:Sep z Γ w)(a:∀h,B h):Sep z (B::Γ) w:=H.grow (Ext.refl No w) (a _)
theorem Sep.nilg(H:Sep z Γ w)(e:TypeId)(sz:Nat):Sep z (YthbbejpbkglmlaaGreatDoor.grow e sz (.slice none 0 0) 0 []::Γ) w:=H.void λh=>grow.nil e sz h
theorem blk.grow{b k c sz:Nat}{cs xs:List Value}{ty:TypeId}{h:Hp}(f:blk b cs ty h)(a:k<=c)(g:c<=9223372036854775807)(d:cs.length=c*sz)(e:cs.take (k*sz)=xs):grow ty sz (.slice (some ⟨b,0,none⟩) k c) k xs h:=by
 refine ⟨?_,.inr ⟨b,c,cs.toArray,Z,f,a,(by unfold maxLen;omega),by simpa using d,by simpa using e⟩⟩;rw[<-e,X2,d];exact YC (ZD _ a)
theorem AJ(i:Nat){t e:TypeId}{zv:Value}{sz by_ k m:Nat}{u:Value}{xs news:List Value}(H:Sep z Γ w)(hi:Γ[i]?=some (grow e sz v k xs))(ho:o.op=.call {callee:=.builtin .append,args:= #[x,y],argTypes:= #[t,t]})
  (ht:P.underlying t=some (.slice e))(hE:Elt P e zv sz by_)(hx:ev L x=some v)(hy:ev L y=some u)(a0:Rd sz u m news w)(h1:∀c∈news,c.oneCell'=true)(a5:(k+m)*by_<=140737488355328):
  BJ P n ds L o w (λv' w'=>Sep z (Γ.set i (grow e sz v' (k+m) (xs++news))) w'):=λa hF=>by
 obtain ⟨own,f⟩:=H.own;have hg:=f i _ hi;have a3:BC ((hp w).part own i) (hp w):=λq o' e=>(Eh e).2;have hO:=hg.own a3;obtain ⟨v',w',hr,a1,d,b0⟩:=Ql (B:=0) ho ht hE hx hy hO a0 h1 (Ye _) a5 a hF;refine ⟨v',w',hr,d.os.trans H.os,d.tape.trans H.tape,d.output.trans H.output,λq=>if q<w.heap.size then own q else i,λj B l=>?_⟩;have s:∀q,v.ownBlock=some q->own q=i:=λq hq=>by
  rcases hg.2 with ⟨rfl,_⟩|⟨b,a2,p,rfl,a9,_⟩
  ·simp[Value.ownBlock] at hq
  simp[Value.ownBlock] at hq;subst hq;exact (Eh a9).1
 rw[YV] at l;split at l
 ·rename_i e;subst e
  split at l
  ·cases l
   refine ⟨a1.1,?_⟩;rcases a1.2 with q|⟨g,a2,p,h,_,a8,r⟩
   ·exact .inl q
   refine .inr ⟨g,a2,p,h,?_,r⟩;unfold Hp.part hp;have a7:(if g<w.heap.size then own g else i)=i:=by
    split
    ·rename_i b1
     rcases b0 with q|q
     ·exact s g (by rw[<-q,h];rfl)
     rw[h] at q;simp[Value.ownBlock] at q;omega
    rfl
   rw[if_pos a7];exact a8
  cases l
 rename_i a4;have:=f j B l;have e:(hp w').part (λq=>if q<w.heap.size then own q else i) j=(hp w).part own j:=by
  funext q;unfold Hp.part hp;dsimp only;by_cases hq:q<w.heap.size
  ·simp only[hq,if_true]
   by_cases hqj:own q=j
   ·simp only[hqj,if_true]
    exact d.block q hq (λa6=>a4 ((s q a6).symm.trans hqj))
   simp[hqj]
  have:w.heap[q]?=none:=Yu U;simp[hq,this,a4]
 rwa[e]
theorem AI(H:Sep z Γ w){t e:TypeId}{zv:Value}{c sz by_:Nat}{parts:List (Nat×Operand)}{vs:List (Nat×Value)}{out:List Value}(g:o.op=.buildSlice t c parts.toArray)(f:P.underlying t=some (.slice e))(h:Elt P e zv sz by_)
  (r:(evs L (parts.map (·.2))).map (List.zip (parts.map (·.1)))=some vs)(d:c*sz<=16777216)(k:0<c)(l:Instr.fill (λi=>some (i*sz,sz)) ((Array.range (c*sz)).map (zv.cells[· % zv.cells.size]!)) vs=some out.toArray):
  BJ P n ds L o w (λv w'=>∃b,v=.slice (some ⟨b,0,none⟩) c c/\Sep z (blk b out e::Γ) w'):=λa m=>by
 obtain ⟨v,w',j,b,rfl,hs,_,p,q⟩:=KR (w:=w) g f h r d k l a m;exact ⟨_,w',j,b,Z,H.new q U p⟩
theorem GS(H:Sep z Γ w){t e:TypeId}{zv:Value}{sz by_:Nat}(f:o.op=.buildSlice t 0 #[])(d:P.underlying t=some (.slice e))(g:Elt P e zv sz by_):
  BJ P n ds L o w (λv w'=>∃b,v=.slice (some ⟨b,0,none⟩) 0 0/\Sep z (blk b [] e::Γ) w'):=λa q=>by
 obtain ⟨i,l,m,hs,p,j,h,k⟩:=g;refine ⟨_,_,?_,w.heap.size,Z,H.new (CG w (.cells #[] e)) (Yo _) (by show (w.heap.push _)[w.heap.size]?=_;simp)⟩;simp only[execOp,f,Yt];have c:∀w,(sizeOf e).run P w=.ok sz w:=λw=>by simp[sizeOf,typeInfo,l,hs,go_sem]
 simp[Instr.buildSlice,run_underlying d,c,newRow,newObj,go_sem,Sem.run,Instr.fill]
end
end
section
def EM(l:List UInt8):Value:=.string ⟨l.toArray⟩
def NA(P:Program)(t:TypeId):Bool:=match P.underlying t with
 | some (.slice e)=>(match P.underlying e with|some (.int .u8)=>(match P.info? e with|some i=>Nat.beq i.size 1|none=>false)|_=>false)
 | _=>false
theorem MA{P:Program}{t:TypeId}(h:NA P t=true):∃e i,P.underlying t=some (.slice e)/\P.underlying e=some (.int .u8)/\P.info? e=some i/\i.size=1:=by
 unfold NA at h;split at h
 ·rename_i e a
  split at h
  ·rename_i c
   split at h
   ·rename_i i b;exact ⟨e,i,a,c,b,by simpa using h⟩
   cases h
  cases h
 cases h
section
variable{P:Program}{C:World->Prop}{o:Oper}{a:Act}{w z:World}{Γ:List Ai}{n:Nat}{ds:List Deferred}{L:List (Nat×Value)}{v:Value}{x y:Operand}{xt yt:TypeId}{A:Ai}

theorem Ev{d:TypeId}{l:List UInt8}{u:Value}(y:o.op=.convert xt d x)(h1:NA P xt=true)(h2:FO P d=true)(hx:ev L x=some u)(z:∀w,C w->Rd 1 u l.length (l.map u8) w):Ao P C n ds L o (EM l):=λa hF w hw=>by
 obtain ⟨e,i,h,m,_,_⟩:=MA h1;have r:=Ft h2;obtain ⟨s,c,rfl,a0,_,_,t⟩:=z w hw;have g:(convert xt d (.slice s l.length c)).run P w=.ok (EM l) w:=by
  cases s with
  | none=>
   have:l=[]:=by
    cases l with
    | nil=>rfl
    | cons p q=>obtain ⟨b,p',e,_⟩:=t 0 (u8 p) O;cases e
   subst this;exact run_convert_bytes_nil _ xt e h m _ _ d r
  | some ad=>
   refine run_convert_bytes_back w xt d e ad c l h m r λj hj=>?_;obtain ⟨b,p,k,f⟩:=t j (u8 l[j]) (by simp[hj]);simp only[X0] at k;subst k;have e3:(Addr.add ⟨b,p,none⟩ j)=⟨b,p+j,none⟩:=by
    unfold Addr.add;split
    ·rename_i v;simp[v]
    rfl
   rw[e3];exact f
 simp only[execOp,y,hF.ev hx,Yc,g,X6,Yh]
theorem OG{l m:List UInt8}(d:o.op=.binOp .eql xt x y yt)(b:FO P xt=true)(e:ev L x=some (EM l))(f:ev L y=some (EM m)):Ao P C n ds L o (.bool (decide (l=m))):=λa c w _=>by
 have b:=Ft b;simp only[execOp,d,c.ev e,c.ev f,EM];simp[b,go_sem]
 first |(rw[Yf];simp;done)|skip
theorem Vr{l m:List UInt8}(d:o.op=.binOp .neq xt x y yt)(b:FO P xt=true)(e:ev L x=some (EM l))(f:ev L y=some (EM m)):Ao P C n ds L o (.bool (decide (l≠m))):=λa c w _=>by
 have b:=Ft b;simp only[execOp,d,c.ev e,c.ev f,EM];simp[b,go_sem]
 first |(rw[Yf];simp;done)|skip
theorem QF{t:TypeId}{l:List UInt8}(c:o.op=.call {callee:=.builtin .len,args:= #[x],argTypes:= #[t]})(a:FO P t=true)(b:ev L x=some (EM l)):Ao P C n ds L o (Aa l.length):=Vb c a b

theorem HQ{dT sT ty:TypeId}{b f a dc m:Nat}{t:TypeId}{cs news:List Value}{u:Value}(hd:∃e i,P.underlying dT=some (.slice e)/\P.info? e=some i/\i.size=1)(d:(Rd 1 u m news w)\/(∃l,u=EM l/\news=l.map u8/\m=l.length))(h1:∀c∈news,c.oneCell'=true)(hb:Blk b cs t w)(hl:f+min m a<=cs.length):
  ∃w',(Builtin.copy_ #[dT,sT] ty #[.slice (some ⟨b,f,none⟩) a dc,u]).run P w=.ok (Aa (min m a:Nat)) w'/\Blk b (cs.take f++news.take (min m a)++cs.drop (f+min m a)) t w'/\Ext (· =b) w w'/\w'.heap.size=w.heap.size:=by
 obtain ⟨e,i,ht,hi,hs⟩:=hd;have z:∀w,(sizeOf e).run P w=.ok 1 w:=λw=>by simp[sizeOf,typeInfo,hi,hs,go_sem]
 have g:(news.take (min m a)).length=min m a:=by
  have:news.length=m:=by
   rcases d with ⟨_,_,_,_,_,hl,_⟩|⟨l,_,rfl,rfl⟩
   ·simpa using hl
   simp
  rw[X2,this];omega
 have h:=run_storeCells_at P b f t (news.take (min m a)) 0 cs.toArray w hb (by rw[g];simpa using hl) (λc hc=>h1 c (YH hc));rw[g] at h;simp only[Aar,Ze] at h;refine ⟨_,?_,setRow_heap w b _ _ t (0,0) hb,⟨Z,Z,Z,by simp,λk _ hk=>setRow_other w b k _ hk⟩,by simp⟩;have s:(Builtin.lenOf u).run P w=.ok m w:=by
  rcases d with ⟨ao,c,rfl,_⟩|⟨l,rfl,rfl,rfl⟩
  ·rfl
  rfl
 have r:m.min a=min m a:=rfl;have y:(Builtin.firstCells 1 (min m a) u).run P w=.ok (news.take (min m a)).toArray w:=by
  rcases d with ⟨ao,c,rfl,a1,_,a2,o⟩|⟨l,rfl,rfl,rfl⟩
  ·cases ao with
   | none=>
    have hn:news=[]:=by
     cases news with
     | nil=>rfl
     | cons q qs=>obtain ⟨b',p',v,_⟩:=o 0 q Z;cases v
    subst hn;simp[Builtin.firstCells,Yh]
   | some ad=>
    have:=run_loadCells_list (P:=P) w ad (news.take (min m a)) (λj q x=>by
     have a0:news[j]?=some q:=by
      rw[YB] at x;split at x
      ·exact x
      cases x
     obtain ⟨b',p,v,n⟩:=o j q a0;simp only[X0] at v;subst v;have e3:(Addr.add ⟨b',p,none⟩ j)=⟨b',p+j,none⟩:=by
      unfold Addr.add;split
      ·rename_i h0;simp[h0]
      rfl
     rw[e3];exact n)
    rw[g] at this;simp only[Builtin.firstCells,YR];exact this
  have e:((({data:=l.toArray} :ByteArray).extract 0 (min l.length a)).data.map λb=>Value.int .u8 b.toNat)=((l.map u8).take (min l.length a)).toArray:=by
   apply Array.ext';rw[Array.toList_map,Lib.extract_data];simp[u8,ZM];rfl
  simp only[EM,Builtin.firstCells,Yh,e]
 simp only[Builtin.copy_,YK,YP,Yq,Yc,run_underlying ht,X6,s,z,r,y,h,Yh,goInt]
theorem G0(i:Nat){t st:TypeId}{b f r dc m:Nat}{s:TypeId}{cs news:List Value}{u:Value}(H:Sep z Γ w)(p:Γ[i]?=some (blk b cs s))(ho:o.op=.call {callee:=.builtin .copy,args:= #[x,y],argTypes:= #[t,st]})(hd:NA P t=true)(hx:ev L x=some (.slice (some ⟨b,f,none⟩) r dc))(hy:ev L y=some u)
  (j:(Rd 1 u m news w)\/(∃l,u=EM l/\news=l.map u8/\m=l.length))(h1:∀c∈news,c.oneCell'=true)(hl:f+min m r<=cs.length){k:Nat}(hk:min m r=k){out:List Value}(h:cs.take f++news.take k++cs.drop (f+k)=out):
  BJ P n ds L o w (λv w'=>v=Aa k/\Sep z (Γ.set i (blk b out s)) w'):=λa hF=>by
 obtain ⟨w',hr,hB,d,_⟩:=HQ (P:=P) (sT:=st) (ty:=o.type) (dc:=dc) (by obtain ⟨e,i,ht,_,p,hs⟩:=MA hd;exact ⟨e,i,ht,p,hs⟩) j h1 (H.blk i p) hl;rw[hk,h] at hB;rw[hk] at hr;refine ⟨_,w',?_,Z,H.write i p d.os d.tape d.output hB (λq hq=>?_)⟩
 ·simp only[execOp,ho,resolve,invoke,builtin,Yc,Yh,X6,Yt,Yn,YW,hF.ev hx,hF.ev hy,hr]
 rcases Yg q w.heap.size with g|g
 ·exact d.block q g hq
 rw[Yu g,Yu U]
theorem Tu(i:Nat){t st:TypeId}{b f p dc m:Nat}{s:TypeId}{cs news:List Value}{u:Value}(H:Sep z Γ w)(hi:Γ[i]?=some (blk b cs s))(ho:o.op=.call {callee:=.builtin .copy,args:= #[x,y],argTypes:= #[t,st]})(hd:CE P t=some 1)(hx:ev L x=some (.slice (some ⟨b,f,none⟩) p dc))(hy:ev L y=some u)
  (j:(Rd 1 u m news w)\/(∃l,u=EM l/\news=l.map u8/\m=l.length))(r:∀c∈news,c.oneCell'=true)(hl:f+min m p<=cs.length){k:Nat}(hk:min m p=k){out:List Value}(h:cs.take f++news.take k++cs.drop (f+k)=out):
  BJ P n ds L o w (λv w'=>v=Aa k/\Sep z (Γ.set i (blk b out s)) w'):=λa hF=>by
 obtain ⟨w',hr,hB,d,_⟩:=HQ (P:=P) (sT:=st) (ty:=o.type) (dc:=dc) (by obtain ⟨e,i0,r,h2,h3⟩:=Eg hd;exact ⟨e,i0,r,h2,h3⟩) j r (H.blk i hi) hl;rw[hk,h] at hB;rw[hk] at hr;refine ⟨_,w',?_,Z,H.write i hi d.os d.tape d.output hB (λq hq=>?_)⟩
 ·simp only[execOp,ho,resolve,invoke,builtin,Yc,Yh,X6,Yt,Yn,YW,hF.ev hx,hF.ev hy,hr]
 rcases Yg q w.heap.size with g|g
 ·exact d.block q g hq
 rw[Yu g,Yu U]
theorem C5{t e:TypeId}{k:Nat}(H:Sep z Γ w)(q:o.op=.makeSlice t x y)(l:P.underlying t=some (.slice e)){zv:Value}{by_:Nat}(r:Elt P e zv 1 by_)(p:zv.cells= #[zv])(hx:ev L x=some (Aa k))(hy:ev L y=some (Aa k))(hk:by_*k<=140737488355328):
  BJ P n ds L o w (λv w'=>∃b,v=.slice (some ⟨b,0,none⟩) k k/\Sep z (blk b (List.replicate k zv) e::Γ) w'):=λa g=>by
 obtain ⟨i,hi,h,hs,hb,u,s,c⟩:=r;have d:(i.bytes:Int)*(k:Int)<=281474976710656:=by
  rw[hb,<-Int.natCast_mul];omega
 have f:=run_make (P:=P) (w:=w) t e i zv l hi h .i64 .i64 (k:Int) (k:Int) U (Int.le_refl _) d (by
  have:1*k<=by_*k:=ZD _ c;omega)
 have m:madeCells zv.cells (((k:Int)).toNat*i.size)=(List.replicate k zv).toArray:=by
  apply Array.ext';simp only[madeCells,hs,p,Yw,YR];rw[Ze];apply Aak
  ·simp
  intro j h1 h2;simp[Nat.mod_one]
 rw[m] at f;refine ⟨_,_,?_,w.heap.size,Z,H.new (CG w (.cells (List.replicate k zv).toArray e)) (Yo _) (by show (w.heap.push _)[w.heap.size]?=_;simp)⟩;simp only[execOp,q,g.ev hx,g.ev hy,Yc,f,X6,Yh,Yw];rfl

abbrev IE:=Int×Value×Nat
def BV(p:IE):MapEntry:=⟨.int .i64 p.1,p.2.1,p.2.2⟩
def AG(m:Nat)(l:List IE)(clk:Nat):Ai:=bk m (.map (l.map BV).toArray clk)
def fnd:List IE->Int->Nat->Option (Nat×Value)
 | [],_,_=>none
 | p::l,k,i=>if k=p.1 then some (i,p.2.1) else fnd l k (i+1)
def Ck:List IE->Int->Option Value
 | [],_=>none
 | p::l,k=>if k=p.1 then some p.2.1 else Ck l k
def Cd(l:List IE)(k:Int):Bool:=(Ck l k).isSome
def updM:List IE->Int->Value->List IE
 | [],_,_=>[]
 | p::l,k,v=>if k=p.1 then (k,v,p.2.2)::l else p::updM l k v
def delM:List IE->Int->List IE
 | [],_=>[]
 | p::l,k=>if k=p.1 then l else p::delM l k
def D6(l:List IE)(k:Int)(v:Value)(clk:Nat):List IE:=if Cd l k then updM l k v else l++[(k,v,clk)]
def putC(l:List IE)(k:Int)(clk:Nat):Nat:=if Cd l k then clk else clk+1
theorem Hq(l:List IE)(k:Int):∀i,(fnd l k i).map (·.2)=Ck l k:=by
 induction l with
 | nil=>intro i;rfl
 | cons p l ih=>intro i;simp only[fnd,Ck];split<;>simp[ih]
theorem OH(l:List IE)(k:Int):∀i j u,fnd l k i=some (j,u)->i<=j:=by
 induction l with
 | nil=>intro i j u h;simp[fnd] at h
 | cons p l ih=>
  intro i j u h;simp only[fnd] at h;split at h
  ·simp at h;omega
  have:=ih _ _ _ h;omega
theorem Tv(l:List IE)(k:Int)(v:Value):∀i j u,fnd l k i=some (j,u)->(l.map BV).modify (j-i) (λe=> {e with key:=Aa k,val:=v})=(updM l k v).map BV/\((l.map BV)[j-i]?).map (·.key)=some (Aa k):=by
 induction l with
 | nil=>intro i j u h;simp[fnd] at h
 | cons p l ih=>
  intro i j u h;simp only[fnd] at h;simp only[updM];split at h
  ·rename_i e
   simp at h;obtain ⟨rfl,_⟩:=h;simp[e,BV]
  rename_i e;have c:=OH _ _ _ _ _ h;obtain ⟨a,b⟩:=ih _ _ _ h;obtain ⟨q,rfl⟩:∃q,j=i+1+q:=⟨j-(i+1),by omega⟩;rw[show i+1+q-(i+1)=q from by omega] at a b;rw[show i+1+q-i=q+1 from by omega];refine ⟨by simp[e,a],?_⟩;rw[Yn,Yq];exact b
theorem Tw(l:List IE)(k:Int):∀i j u,fnd l k i=some (j,u)->(l.map BV).eraseIdx (j-i)=(delM l k).map BV/\j-i<l.length:=by
 induction l with
 | nil=>intro i j u h;simp[fnd] at h
 | cons p l ih=>
  intro i j u h;simp only[fnd] at h;simp only[delM];split at h
  ·rename_i e
   simp at h;obtain ⟨rfl,_⟩:=h;simp[e]
  rename_i e;have c:=OH _ _ _ _ _ h;obtain ⟨a,b⟩:=ih _ _ _ h;obtain ⟨q,rfl⟩:∃q,j=i+1+q:=⟨j-(i+1),by omega⟩;rw[show i+1+q-(i+1)=q from by omega] at a b;rw[show i+1+q-i=q+1 from by omega];simp[e,a];omega
theorem KX(l:List IE)(k:Int)(h:Ck l k=none):delM l k=l:=by
 induction l with
 | nil=>rfl
 | cons p l ih=>
  simp only[Ck] at h;simp only[delM];split at h
  ·cases h
  rename_i e;rw[if_neg e,ih h]
def DO(P:Program)(t:TypeId):Option TypeId:=match P.underlying t with
 | some (.map k e)=>(match P.underlying k with|some (.int _)=>some e|_=>none)
 | _=>none
theorem De{t e:TypeId}(h:DO P t=some e):∃k a,P.underlying t=some (.map k e)/\P.underlying k=some (.int a):=by
 unfold DO at h;split at h
 ·rename_i k d b
  split at h
  ·rename_i a c;simp only[X0] at h;subst h;exact ⟨k,a,b,c⟩
  cases h
 cases h
theorem DP{c:TypeId}{b:IntKind}(d:P.underlying c=some (.int b))(l:List IE)(k:Int)(w:World):(Instr.findKey c (Aa k) (l.map BV)).run P w=.ok (fnd l k 0) w:=by
 have a:∀(l:List IE) (i:Nat),Instr.findNow (.int b) (Aa k) (l.map BV) i=some (fnd l k i):=by
  intro l
  induction l with
  | nil=>intro i;rfl
  | cons p l ih=>
   intro i;simp only[Yn,Instr.findNow,BV,Instr.sameNow,if_true,fnd];by_cases e:k=p.1
   ·simp[e]
   have:(k==p.1)=false:=by simpa using e
   rw[this,if_neg e];exact ih _
 simp only[Instr.findKey,Yc,run_underlying d,X6,a,Yh]
theorem Dw{a:TypeId}{c:IntKind}(d:P.underlying a=some (.int c))(b:Bool)(k:Int)(w:World):(Instr.checkKey b 10000 a (Aa k)).run P w=.ok () w:=by
 unfold Instr.checkKey;simp only[Yc,run_underlying d,X6,Yh]
theorem Fz{t e:TypeId}{m clk:Nat}{l:List IE}{k:Int}{zv:Value}(j:o.op=.lookup t x y false)(h:DO P t=some e)(c:(P.info? e).bind (·.zero)=some zv)(z:ev L x=some (.map (some m)))(p:ev L y=some (Aa k))
  (u:∀w,C w->w.heap[m]?=some (.map (l.map BV).toArray clk)):Ao P C n ds L o ((Ck l k).getD zv):=λa g w v=>by
 obtain ⟨kt,ik,s,f⟩:=De h;have d:(zeroValue e).run P w=.ok zv w:=by
  cases hi:P.info? e with
  | none=>rw[hi] at c;cases c
  | some i=>rw[hi] at c;simp[zeroValue,typeInfo,hi,show i.zero=some zv from c,go_sem]
 have r:(getObj m).run P w=.ok (.map (l.map BV).toArray clk) w:=by simp[getObj,Sem.run,u w v]
 have b:=Hq l k 0;simp only[execOp,j,g.ev z,g.ev p,Instr.lookup,Yc,run_underlying s,X6,r,Yh,Dw f,Ze,DP f]
 cases hf:fnd l k 0 with
 | none=>rw[hf] at b;rw[<-b];simp[d,Yc,Yh]
 | some q=>rw[hf] at b;rw[<-b];simp[Yh]
theorem CV(i:Nat){t e:TypeId}{m clk:Nat}{l:List IE}{k:Int}{x ko y:Operand}(H:Sep z Γ w)(hi:Γ[i]?=some (AG m l clk))(ho:o.op=.mapUpdate t x ko y)(ht:DO P t=some e)(hx:ev L x=some (.map (some m)))(hk:ev L ko=some (Aa k))(hv:ev L y=some v):
  Dj P n ds L o w (λw'=>Sep z (Γ.set i (AG m (D6 l k v clk) (putC l k clk))) w'):=λa p=>by
 obtain ⟨kt,ik,h1,h2⟩:=De ht;have d:w.heap[m]?=some (.map (l.map BV).toArray clk):=H.bk i hi;have hg:(getObj m).run P w=.ok (.map (l.map BV).toArray clk) w:=by simp[getObj,Sem.run,d]
 have c:∀ob,(setObj m ob).run P w=.ok () {w with heap:=w.heap.setIfInBounds m ob} :=λob=>by simp[setObj,Sem.run,d]
 have h:m<w.heap.size:=(YF.1 d).1;have fin:∀ob,Sep z (Γ.set i (bk m ob)) {w with heap:=w.heap.setIfInBounds m ob} :=λob=>
  H.write i hi Z Z Z (by show (w.heap.setIfInBounds m ob)[m]?=_;simp[h]) (λq hq=>by show (w.heap.setIfInBounds m ob)[q]?=_;rw[Y4 (ZB hq)])
 have b:=Hq l k 0;have f:(Instr.mapUpdate t (.map (some m)) (Aa k) v).run P w=.ok () {w with heap:=w.heap.setIfInBounds m (.map ((D6 l k v clk).map BV).toArray (putC l k clk))} :=by
  simp only[Instr.mapUpdate,Yc,run_underlying h1,X6,hg,Yh,Dw h2,Ze,DP h2]
  cases hf:fnd l k 0 with
  | none=>
   rw[hf] at b;have s:Cd l k=false:=by simp[Cd,<-b]
   simp only[D6,putC,s,if_false,YS,c];simp[BV]
  | some q=>
   obtain ⟨j,u⟩:=q;rw[hf] at b;have s:Cd l k=true:=by simp[Cd,<-b]
   obtain ⟨f1,f2⟩:=Tv l k v 0 j u hf;simp only[Nat.sub_zero] at f1 f2;have g:((((l.map BV).toArray)[j]?).map (·.key)).getD (Aa k)=Aa k:=by
    rw[YK,f2];rfl
   simp only[D6,putC,s,if_true,g];have r:(Instr.keyThatStays (Aa k) (Aa k)).run P w=.ok (Aa k) w:=by
    simp[Instr.keyThatStays,Instr.sameBits,Yh]
   simp only[r,Yc,X6];rw[<-f1];have:((l.map BV).toArray.modify j λe=> {e with key:=Aa k,val:=v})=((l.map BV).modify j λe=> {e with key:=Aa k,val:=v}).toArray:=by simp
   rw[this];exact c _
 refine ⟨_,?_,fin _⟩;simp only[execOp,ho,p.ev hx,p.ev hk,p.ev hv,Yc,f,X6,Yh]
theorem KY(i:Nat){t e d:TypeId}{m clk:Nat}{l:List IE}{k:Int}(H:Sep z Γ w)(s:Γ[i]?=some (AG m l clk))(ho:o.op=.call {callee:=.builtin .delete,args:= #[x,y],argTypes:= #[t,d]})(ht:DO P t=some e)(hx:ev L x=some (.map (some m)))(hk:ev L y=some (Aa k)):
  BJ P n ds L o w (λv w'=>v=.tuple #[]/\Sep z (Γ.set i (AG m (delM l k) clk)) w'):=λa r=>by
 obtain ⟨kt,ik,h1,p⟩:=De ht;have c:w.heap[m]?=some (.map (l.map BV).toArray clk):=H.bk i s;have hg:(getObj m).run P w=.ok (.map (l.map BV).toArray clk) w:=by simp[getObj,Sem.run,c]
 have b:∀ob,(setObj m ob).run P w=.ok () {w with heap:=w.heap.setIfInBounds m ob} :=λob=>by simp[setObj,Sem.run,c]
 have h:m<w.heap.size:=(YF.1 c).1;have fin:∀ob,Sep z (Γ.set i (bk m ob)) {w with heap:=w.heap.setIfInBounds m ob} :=λob=>
  H.write i s Z Z Z (by show (w.heap.setIfInBounds m ob)[m]?=_;simp[h]) (λq hq=>by show (w.heap.setIfInBounds m ob)[q]?=_;rw[Y4 (ZB hq)])
 have f:=Hq l k 0;have g:(Builtin.delete_ #[t,d] o.type #[.map (some m),Aa k]).run P w=.ok (.tuple #[]) {w with heap:=w.heap.setIfInBounds m (.map ((delM l k).map BV).toArray clk)} :=by
  simp only[Builtin.delete_,YK,YP,Yq,Yc,run_underlying h1,X6,hg,Yh,Dw p,DP p]
  cases hf:fnd l k 0 with
  | none=>
   rw[hf] at f;simp only[Yc,b,X6,KX l k f.symm,Yh]
  | some q=>
   obtain ⟨j,u⟩:=q;obtain ⟨f1,f2⟩:=Tw l k 0 j u hf;simp only[Nat.sub_zero] at f1 f2;have:((l.map BV).toArray.eraseIdxIfInBounds j)=((delM l k).map BV).toArray:=by
    rw[<-f1];simp
   simp only[this,Yc,b,X6,Yh]
 refine ⟨_,_,?_,Z,fin _⟩;simp only[execOp,ho,resolve,invoke,builtin,Yc,Yh,X6,Yt,Yn,YW,r.ev hx,r.ev hk,g]
theorem E2{t:TypeId}(H:Sep z Γ w)(b:o.op=.makeMap t none):BJ P n ds L o w (λv w'=>∃m,v=.map (some m)/\Sep z (AG m [] 0::Γ) w'):=λa c=>by
 refine ⟨_,_,?_,w.heap.size,Z,H.new (CG w (.map #[] 0)) (Yo _) (by show (w.heap.push _)[w.heap.size]?=_;simp)⟩;simp[execOp,b,Instr.makeMap,newObj,go_sem,Sem.run]
def Hr(P:Program)(t:TypeId):Option Nat:=match P.underlying t with
 | some (.array l e)=>(match P.info? e with|some i=>if Nat.beq i.size 1&&Fq P e then some l else none|none=>none)
 | _=>none
theorem IX{t:TypeId}{l:Nat}(h:Hr P t=some l):∃e i,P.underlying t=some (.array l e)/\P.info? e=some i/\i.size=1/\Fq P e=true:=by
 unfold Hr at h;split at h
 ·rename_i l' e b
  split at h
  ·rename_i i c
   split at h
   ·rename_i a
    simp only[Yk] at a;simp only[X0] at h;subst h;exact ⟨e,i,b,c,by simpa using a.1,a.2⟩
   cases h
  cases h
 cases h
theorem KZ{t:TypeId}{vs:List Value}{l:List Int}{i:Int}{k:IntKind}{j m:Nat}{u:Int}(q:o.op=.index t x y)(c:Hr P t=some m)(hx:ev L x=some (.agg vs.toArray))(r:vs=l.map Aa)(hm:l.length=m)(s:ev L y=some (.int k i))(f:i=j)(h:l[j]?=some u):Ao P C n ds L o (Aa u):=λa g w _=>by
 obtain ⟨e,i0,c,hi,p,v⟩:=IX c;subst f;have hj:j<l.length:=(XU.1 h).1;have z:(0:Int)<=(j:Int)/\(j:Int)<(m:Int):=by omega
 have hv:vs[j]?=some (Aa u):=by rw[r,X9,h];rfl
 have b:(part e vs.toArray (j*1)).run P w=.ok (Aa u) w:=by
  simp only[part,Yc,Fs v,X6,if_false,YS,YR,YK,hv,Yh]
 have d:(sizeOf e).run P w=.ok 1 w:=by simp[sizeOf,typeInfo,hi,p,go_sem]
 simp only[execOp,q,g.ev hx,g.ev s,Instr.index,asIntOf,Yc,Yh,X6,run_underlying c,if_pos z,Yw,d,b]

def Slc(v:Value)(l:Nat):Prop:=∃ao c,v=.slice ao l c
theorem grow.slc{e:TypeId}{sz m:Nat}{u:Value}{xs:List Value}{h:Hp}(g:grow e sz u m xs h):Slc u m:=by
 rcases g.form with ⟨rfl,rfl⟩|⟨b,c,rfl,_⟩
 ·exact ⟨_,_,Z⟩
 exact ⟨_,_,Z⟩
theorem rdH.slc{sz m:Nat}{u:Value}{xs:List Value}{h:Hp}(g:rdH sz u m xs h):Slc u m:=by
 obtain ⟨a,c,rfl,_⟩:=g;exact ⟨_,_,Z⟩
theorem IY{t:TypeId}{sz l:Nat}{u:Value}(d:o.op=.call {callee:=.builtin .len,args:= #[x],argTypes:= #[t]})(a:CE P t=some sz)(e:ev L x=some u)(b:Slc u l):Ao P C n ds L o (Aa l):=by
 obtain ⟨f,c,rfl⟩:=b;exact DX d a e
theorem Sep.ungrow(i:Nat){e:TypeId}{sz m:Nat}{u:Value}{xs:List Value}(H:Sep z Γ w)(l:Γ[i]?=some (YthbbejpbkglmlaaGreatDoor.grow e sz u m xs))(r:0<m):
  ∃g a rest,u=.slice (some ⟨g,0,none⟩) m a/\m<=a/\a<=9223372036854775807/\rest.length=(a-m)*sz/\Sep z (Γ.set i (YthbbejpbkglmlaaGreatDoor.blk g (xs++rest) e)) w:=by
 obtain ⟨⟨g,a,rest⟩,⟨a1,a2,a3,a4⟩,n⟩:=H.exAt i (σ:=Nat×Nat×List Value) (p:=λq=>u=.slice (some ⟨q.1,0,none⟩) m q.2.1/\m<=q.2.1/\q.2.1<=9223372036854775807/\q.2.2.length=(q.2.1-m)*sz) (B:=λq=>YthbbejpbkglmlaaGreatDoor.blk q.1 (xs++q.2.2) e) l (λh g=>by
  rcases g.2 with ⟨_,rfl⟩|⟨b,a,c,j,k,o,d,hs,f⟩
  ·omega
  refine ⟨⟨b,a,c.toList.drop (m*sz)⟩,⟨j,o,by unfold maxLen at d;omega,?_⟩,?_⟩
  ·simp[hs,Nat.sub_mul]
  rw[<-f,YO];simpa [YthbbejpbkglmlaaGreatDoor.blk,YthbbejpbkglmlaaGreatDoor.bk] using k)
 exact ⟨g,a,rest,a1,a2,a3,a4,n⟩
theorem QG{t:TypeId}{lo hi mx:Operand}{b d l c p q sz o' l':Nat}{k1 k2 k3:IntKind}{v y z:Int}(ho:o.op=.slice t x (some lo) (some hi) (some mx))(g:CE P t=some sz)(hx:ev L x=some (.slice (some ⟨b,d,none⟩) l c))
  (h:ev L lo=some (.int k1 v))(i:ev L hi=some (.int k2 y))(m:ev L mx=some (.int k3 z))(e1:v=(p:Int))(e2:y=(q:Int))(e3:z=(q:Int))(a0:p<q)(u:q<=c)(h1:d+p*sz=o')(h2:q-p=l'):Ao P C n ds L o (.slice (some ⟨b,o',none⟩) l' l'):=λa f w _=>by
 obtain ⟨e,i0,g,j,hz⟩:=Eg g;subst e1;subst e2;subst e3;have g1:(0:Int)<=(p:Int)/\(p:Int)<=(q:Int):=by omega
 have g2:(0:Int)<=(q:Int)/\(q:Int)<=(c:Int):=by omega
 have g3:(0:Int)<=(q:Int)/\(q:Int)<=(q:Int):=by omega
 have k:((⟨b,d,none⟩:Addr).add (p*sz))=⟨b,o',none⟩:=by
  subst h1;unfold Addr.add;split
  ·rename_i h0;simp[h0]
  rfl
 have s:¬q=p:=by omega
 have r:p<=q:=by omega
 simp only[execOp,ho,Ys,f.ev hx,f.ev h,f.ev i,f.ev m];simp[Instr.sliceAt,Instr.slice,run_underlying g,Instr.sliceBounds,Instr.sliceBound,asIntOf,g1,g2,g3,sizeOf,typeInfo,j,hz,r,u,s,go_sem,k,h2]
end
end
structure Sup where
 gen:Int
 epoch:Int
 pages:Int
 start:Int
 len:Int
 head:Int
 seq:Int
def Sup.list(s:Sup):List Int:=[s.gen,s.epoch,s.pages,s.start,s.len,s.head,s.seq]
def Sup.cells(s:Sup):List Value:=[.int .i64 s.gen,.int .i64 s.epoch,.int .i64 s.pages,.int .i64 s.start,.int .i64 s.len,.int .i64 s.head,.int .i64 s.seq]
def Sup.Ok(s:Sup)(n:Int):Prop:=(∀x∈s.list,0<=x/\x<=1099511627776)/\16<=s.pages/\s.pages<=1024/\2+s.pages<=s.start/\64<=s.len/\s.start<=n-s.len/\s.len<=n/\s.head<s.len
instance(s:Sup)(n:Int):Decidable (s.Ok n):=by unfold Sup.Ok;exact inferInstance
theorem Sup.get{s:Sup}{n:Int}(h:s.Ok n):(0<=s.gen/\s.gen<=1099511627776)/\(0<=s.epoch/\s.epoch<=1099511627776)/\(0<=s.pages/\s.pages<=1099511627776)/\(0<=s.start/\s.start<=1099511627776)/\(0<=s.len/\s.len<=1099511627776)/\(0<=s.head/\s.head<=1099511627776)/\(0<=s.seq/\s.seq<=1099511627776):=by
 have:=h.1;simpa [Sup.list] using this

structure Dsk where
 n:Nat
 dur:Nat->List UInt8
 ver:Nat->List (List UInt8)
 f1:Int
 f2:Int
 f3:Int
 cut:Bool
 left:Int
def Dsk.cont(D:Dsk)(i:Nat):List UInt8:=(D.ver i).getLast?.getD (D.dur i)
def AO(f:Int):Int:=if f=0 then 0 else f-1
structure Ent where
 key:Nat
 v:Value
 pvs:List Value
 ps:List (List UInt8)
 born:Nat
def Ent.ie(e:Ent):IE:=((e.key:Int),e.v,e.born)
def Ent.row(e:Ent):Ai:=grow 38 1 e.v e.pvs.length e.pvs
def Ent.Ok(hq:Hp)(e:Ent):Prop:=e.pvs.length=e.ps.length/\e.ps≠[]/\∀(j:Nat) (pv:Value) (p:List UInt8),e.pvs[j]?=some pv->e.ps[j]?=some p->p.length=256/\rdH 1 pv 256 (p.map u8) hq
def poolA(hq:Hp):Ai:=λh=>BC hq h
structure Dsk.Ok(D:Dsk):Prop where
 n1:1<=D.n
 n2:D.n<=4096
 dur:∀i,i<D.n->(D.dur i).length=256
 ver:∀i,i<D.n->∀p∈D.ver i,p.length=256
 f1:0<=D.f1/\D.f1<=1099511627776
 f2:0<=D.f2/\D.f2<=1099511627776
 f3:0<=D.f3/\D.f3<=1099511627776
 left:0<=D.left/\D.left<=1099511627776
structure Dsk.In(D:Dsk)(bs:List UInt8)(es:List Ent)(clk:Nat)(hq:Hp):Prop where
 len:bs.length=D.n*256
 own:∀i,i<D.n->(bs.drop (i*256)).take 256=D.dur i
 ent:∀e∈es,e.key<D.n/\e.ps=D.ver e.key/\e.Ok hq
 all:∀i,i<D.n->D.ver i≠[]->∃e∈es,e.key=i
 nodup:(es.map Ent.key).Nodup
 born:(es.map Ent.born).Nodup
 clk:∀e∈es,e.born<clk
def DY(pd bd m:Nat)(D:Dsk)(f0:Int)(bs:List UInt8)(es:List Ent)(clk:Nat)(hq:Hp):List Ai:=
  [blk pd [.slice (some ⟨bd,0,none⟩) (D.n*256) (D.n*256),.map (some m),.int .i64 f0,.int .i64 D.f1,.int .i64 D.f2,.int .i64 D.f3,.bool D.cut,.int .i64 D.left] 106,
   blk bd (bs.map u8) 5,AG m (es.map Ent.ie) clk,poolA hq,seps (es.map Ent.row)]
def diskA(pd:Nat)(D:Dsk):Ai:=λh=>∃(bd m:Nat) (f0:Int) (bs:List UInt8) (es:List Ent) (clk:Nat) (hq:Hp),(D.Ok/\D.In bs es clk hq)/\seps (DY pd bd m D f0 bs es clk hq) h
theorem diskA.ok{pd:Nat}{D:Dsk}{h:Hp}(a:diskA pd D h):D.Ok:=by
 obtain ⟨_,_,_,_,_,_,_,hp,_⟩:=a;exact hp.1
structure DskX where
 bd:Nat
 m:Nat
 f0:Int
 bs:List UInt8
 es:List Ent
 clk:Nat
 hq:Hp
theorem Sep.disk{z w:World}{Γ:List Ai}{pd:Nat}{D:Dsk}(H:Sep z (diskA pd D::Γ) w):∃bd m f0 bs es clk hq,D.Ok/\D.In bs es clk hq/\Sep z (DY pd bd m D f0 bs es clk hq++Γ) w:=by
 obtain ⟨x,⟨c,b⟩,H⟩:=H.into (σ:=DskX) (p:=λx=>D.Ok/\D.In x.bs x.es x.clk x.hq) (As:=λx=>DY pd x.bd x.m D x.f0 x.bs x.es x.clk x.hq)
  (λh a=>by obtain ⟨bd,m,f0,bs,es,clk,hq,hp,hs⟩:=a;exact ⟨⟨bd,m,f0,bs,es,clk,hq⟩,hp,hs⟩)
 exact ⟨_,_,_,_,_,_,_,c,b,H⟩
theorem Sep.toDisk{z w:World}{Γ:List Ai}{pd bd m:Nat}{D:Dsk}{f0:Int}{bs:List UInt8}{es:List Ent}{clk:Nat}{hq:Hp}(H:Sep z (DY pd bd m D f0 bs es clk hq++Γ) w)(c:D.Ok)(b:D.In bs es clk hq):Sep z (diskA pd D::Γ) w:=
 H.shut.mono 0 Z (λh a=>⟨_,_,_,_,_,_,_,⟨c,b⟩,a⟩)
theorem get_ent:∀(es:List Ent) (k:Nat),(es.map Ent.key).Nodup->(Ck (es.map Ent.ie) (k:Int)=none/\∀e∈es,e.key≠k)\/∃(i:Nat) (e:Ent),es[i]?=some e/\e.key=k/\Ck (es.map Ent.ie) (k:Int)=some e.v
 | [],k,_=>.inl ⟨Z,λe h=>by cases h⟩
 | e::es,k,hn=>by
  simp only[Yn,Zd] at hn;simp only[Yn,Ck,Ent.ie];by_cases q:(k:Int)=(e.key:Int)
  ·exact .inr ⟨0,e,Z,by omega,by rw[if_pos q]⟩
  rw[if_neg q];rcases get_ent es k hn.2 with ⟨h1,h2⟩|⟨i,e',h1,h2,h3⟩
  ·exact .inl ⟨h1,λe' h=>by
    rcases YL.1 h with rfl|h
    ·intro q';exact q (by rw[q'])
    exact h2 e' h⟩
  exact .inr ⟨i+1,e',by simpa using h1,h2,h3⟩
theorem Rd.at{sz:Nat}{a:Option Addr}{n c:Nat}{xs:List Value}{w:World}{u:Value}{j:Nat}(r:Rd sz (.slice a n c) n xs w)(h:xs[j]?=some u):At a j u w:=by
 obtain ⟨b,c',e,_,_,_,d⟩:=r;cases e;exact d j u h
theorem D7{As:List Ai}{h:Hp}(hs:seps As h){i:Nat}{A:Ai}(b:As[i]?=some A):∃h',A h'/\BC h' h:=by
 obtain ⟨own,a⟩:=hs;exact ⟨_,a i A b,λk o e=>(Eh e).2⟩
theorem Vs{D:Dsk}{bs:List UInt8}{es:List Ent}{clk:Nat}{hq:Hp}(d:D.In bs es clk hq){k:Nat}(r:k<D.n):
  ∃v a,(Ck (es.map Ent.ie) (k:Int)).getD (.slice none 0 0)=v/\a.length=(D.ver k).length/\(∀h,seps (es.map Ent.row) h->rdH 1 v a.length a h)/\
   (∀(j:Nat) (c:Value) (p:List UInt8),a[j]?=some c->(D.ver k)[j]?=some p->∀h,poolA hq h->rdH 1 c 256 (p.map u8) h):=by
 rcases get_ent es k d.nodup with ⟨g,q⟩|⟨i,e,o,f,g⟩
 ·have y:D.ver k=[]:=by
   cases hvk:D.ver k with
   | nil=>rfl
   | cons p ps=>
    obtain ⟨e,f,l⟩:=d.all k r (by rw[hvk];simp);exact absurd l (q e f)
  exact ⟨.slice none 0 0,[],by simp[g],by rw[y];rfl,λh _=>rdH.nil 1 h,λj c p h=>by simp at h⟩
 obtain ⟨_,m,u,z,t⟩:=d.ent e (XW o);subst f;refine ⟨e.v,e.pvs,by simp[g],u.trans (congrArg _ m),λh hs=>?_,λj c p x hp h w=>((t j c p x (by rw[m];exact hp)).2).le w⟩;obtain ⟨h',s,b⟩:=D7 hs (i:=i) (A:=e.row) (by rw[X9,o];rfl);exact (grow.rd s).le b
def G3(D:Dsk)(k:Nat):Nat->List UInt8
 | 0=>D.dur k
 | _+1=>D.cont k
theorem Ih{D:Dsk}{k:Nat}(h:D.ver k=[]):D.cont k=D.dur k:=by simp[Dsk.cont,h]
theorem Kb{D:Dsk}{k n:Nat}{p:List UInt8}(a:n=(D.ver k).length)(h:(D.ver k)[n-1]?=some p):D.cont k=p:=by
 subst a;simp[Dsk.cont,AaM,h]
theorem Dsk.In.f{D:Dsk}{bs:List UInt8}{es:List Ent}{clk:Nat}{hq:Hp}(h:D.In bs es clk hq)(a b c:Int)(d:Bool)(e:Int):Dsk.In {D with f1:=a,f2:=b,f3:=c,cut:=d,left:=e} bs es clk hq:=
 ⟨h.len,h.own,h.ent,h.all,h.nodup,h.born,h.clk⟩
theorem Dsk.Ok.f{D:Dsk}(h:D.Ok){a b c e:Int}{d:Bool}(i:0<=a/\a<=1099511627776)(g:0<=b/\b<=1099511627776)(k:0<=c/\c<=1099511627776)(j:0<=e/\e<=1099511627776):Dsk.Ok {D with f1:=a,f2:=b,f3:=c,cut:=d,left:=e} :=
 ⟨h.n1,h.n2,h.dur,h.ver,i,g,k,j⟩
theorem Ei{f:Int}(h:0<=f/\f<=1099511627776):0<=AO f/\AO f<=1099511627776:=by unfold AO;split<;>omega
theorem Dsk.cont_len{D:Dsk}(h:D.Ok){i:Nat}(a:i<D.n):(D.cont i).length=256:=by
 unfold Dsk.cont
 cases hl:(D.ver i).getLast? with
 | none=>exact h.dur i a
 | some p=>exact h.ver i a p (List.mem_of_getLast? hl)
def By{α:Type}(f:Nat->α)(i:Nat)(x:α):Nat->α:=λk=>if k=i then x else f k
theorem CW{α:Type}(f:Nat->α)(i:Nat)(x:α):By f i x i=x:=by simp[By]
theorem upf_other{α:Type}(f:Nat->α){i k:Nat}(x:α)(h:k≠i):By f i x k=f k:=by simp[By,h]
def Dsk.w1(D:Dsk)(fua:Bool)(i:Nat)(p:List UInt8):Dsk:=
 if fua then {D with dur:=By D.dur i p,ver:=By D.ver i []} else {D with ver:=By D.ver i (D.ver i++[p])}
def Dsk.ws(D:Dsk)(fua:Bool)(i:Nat):List (List UInt8)->Dsk
 | []=>D
 | p::ps=>(D.w1 fua i p).ws fua (i+1) ps
theorem Dsk.w1_n(D:Dsk)(a:Bool)(i:Nat)(p:List UInt8):(D.w1 a i p).n=D.n:=by cases a<;>rfl
theorem Dsk.w1_f(D:Dsk)(a:Bool)(i:Nat)(p:List UInt8):(D.w1 a i p).f1=D.f1/\(D.w1 a i p).f2=D.f2/\(D.w1 a i p).f3=D.f3/\(D.w1 a i p).cut=D.cut/\(D.w1 a i p).left=D.left:=by cases a<;>exact ⟨Z,Z,Z,Z,Z⟩
theorem Dsk.ws_snoc(a:Bool)(ps:List (List UInt8))(p:List UInt8):∀(D:Dsk) (i:Nat),D.ws a i (ps++[p])=(D.ws a i ps).w1 a (i+ps.length) p:=by
 induction ps with
 | nil=>intro D i;rfl
 | cons q qs ih=>intro D i;simp only[Zw,Dsk.ws,ih,XY];rw[show i+1+qs.length=i+(qs.length+1) from by omega]
theorem Dsk.ws_n(a:Bool)(ps:List (List UInt8)):∀(D:Dsk) (i:Nat),(D.ws a i ps).n=D.n:=by
 induction ps with
 | nil=>intro D i;rfl
 | cons q qs ih=>intro D i;simp only[Dsk.ws,ih,Dsk.w1_n]
theorem Dsk.ws_f(a:Bool)(ps:List (List UInt8)):∀(D:Dsk) (i:Nat),(D.ws a i ps).f1=D.f1/\(D.ws a i ps).f2=D.f2/\(D.ws a i ps).f3=D.f3/\(D.ws a i ps).cut=D.cut/\(D.ws a i ps).left=D.left:=by
 induction ps with
 | nil=>intro D i;exact ⟨Z,Z,Z,Z,Z⟩
 | cons q qs ih=>intro D i;simp only[Dsk.ws];rw[(ih _ _).1,(ih _ _).2.1,(ih _ _).2.2.1,(ih _ _).2.2.2.1,(ih _ _).2.2.2.2];exact Dsk.w1_f D a i q
theorem Dsk.Ok.w1{D:Dsk}(h:D.Ok){c:Bool}{i:Nat}{p:List UInt8}(hp:p.length=256):(D.w1 c i p).Ok:=by
 cases c with
 | true=>
  refine ⟨h.n1,h.n2,λj b=>?_,λj b q hq=>?_,h.f1,h.f2,h.f3,h.left⟩
  ·show (By D.dur i p j).length=256
   unfold By;split
   ·exact hp
   exact h.dur j b
  have a:q∈By D.ver i [] j:=hq;unfold By at a;split at a
  ·cases a
  exact h.ver j b q a
 | false=>
  refine ⟨h.n1,h.n2,h.dur,λj b q hq=>?_,h.f1,h.f2,h.f3,h.left⟩;have a:q∈By D.ver i (D.ver i++[p]) j:=hq;unfold By at a;split at a
  ·rename_i e;subst e
   rcases Yr.1 a with h'|h'
   ·exact h.ver j b q h'
   rw[YD.1 h'];exact hp
  exact h.ver j b q a
theorem Ent.Ok.le{hq a:Hp}{e:Ent}(h:e.Ok hq)(s:BC hq a):e.Ok a:=⟨h.1,h.2.1,λj c p b d=>⟨(h.2.2 j c p b d).1,(h.2.2 j c p b d).2.le s⟩⟩
theorem Dsk.In.le{D:Dsk}{bs:List UInt8}{es:List Ent}{clk:Nat}{hq a:Hp}(h:D.In bs es clk hq)(s:BC hq a):D.In bs es clk a:=
 ⟨h.len,h.own,λe b=>⟨(h.ent e b).1,(h.ent e b).2.1,(h.ent e b).2.2.le s⟩,h.all,h.nodup,h.born,h.clk⟩

theorem GF{As:List Ai}{h:Hp}(hs:seps As h)(i:Nat){A:Ai}(c:As[i]?=some A):seps (A::As.eraseIdx i) h:=by
 obtain ⟨own,b⟩:=hs;refine ⟨λk=>if own k=i then 0 else if own k<i then own k+1 else own k,λj B a=>?_⟩
 cases j with
 | zero=>
  simp only[YP,X0] at a;subst a;have:=b i A c;rwa[Cq (h':=h) (own':=λk=>if own k=i then 0 else if own k<i then own k+1 else own k) (j:=0) (λk=>⟨λe=>by rw[if_pos e],λe=>by
   split at e
   ·assumption
   split at e<;>omega⟩) (λ_ _=>rfl)] at this
 | succ j=>
  simp only[Yq] at a;rw[Zz] at a;split at a
  ·rename_i g
   have:=b j B a;rwa[Cq (h':=h) (own':=λk=>if own k=i then 0 else if own k<i then own k+1 else own k) (j:=j+1) (λk=>⟨λe=>by rw[if_neg U,if_pos U];omega,λe=>by
    split at e
    ·omega
    split at e<;>omega⟩) (λ_ _=>rfl)] at this
  rename_i d;have:=b (j+1) B a;rwa[Cq (h':=h) (own':=λk=>if own k=i then 0 else if own k<i then own k+1 else own k) (j:=j+1) (λk=>⟨λe=>by rw[if_neg U,if_neg U];omega,λe=>by
   split at e
   ·omega
   split at e<;>omega⟩) (λ_ _=>rfl)] at this
theorem Kc{As:List Ai}{h:Hp}(i:Nat){A:Ai}(d:i<As.length)(hs:seps (A::As.eraseIdx i) h):seps (As.set i A) h:=by
 obtain ⟨own,b⟩:=hs;have f:(As.eraseIdx i).length=As.length-1:=List.length_eraseIdx_of_lt d;refine ⟨λk=>if own k=0 then i else if own k<=i then own k-1 else own k,λj B a=>?_⟩;by_cases e:j=i
 ·subst e
  rw[Y5 d] at a;simp only[X0] at a;subst a;have:=b 0 A Z;rwa[Cq (h':=h) (own':=λk=>if own k=0 then j else if own k<=j then own k-1 else own k) (j:=j) (λk=>⟨λe=>by rw[if_pos e],λe=>by
   split at e
   ·assumption
   split at e<;>omega⟩) (λ_ _=>rfl)] at this
 rw[Aas (ZB e)] at a;have g:=(XU.1 a).1;rcases Yg j i with c|hge
 ·have:=b (j+1) B (by rw[Yq,Zz,if_pos c];exact a)
  rwa[Cq (h':=h) (own':=λk=>if own k=0 then i else if own k<=i then own k-1 else own k) (j:=j) (λk=>⟨λe=>by rw[if_neg U,if_pos U];omega,λe=>by
   split at e
   ·omega
   split at e<;>omega⟩) (λ_ _=>rfl)] at this
 obtain ⟨q,rfl⟩:∃q,j=q+1:=⟨j-1,by omega⟩;have:=b (q+1) B (by rw[Yq,Zz,if_neg U];exact a);rwa[Cq (h':=h) (own':=λk=>if own k=0 then i else if own k<=i then own k-1 else own k) (j:=q+1) (λk=>⟨λe=>by rw[if_neg U,if_neg U];omega,λe=>by
  split at e
  ·omega
  split at e<;>omega⟩) (λ_ _=>rfl)] at this
theorem G4{As:List Ai}{A:Ai}{h:Hp}(hs:seps (A::As) h):seps (As++[A]) h:=Cp (As:=[A]) (Bs:=As) hs
theorem OI{As:List Ai}{A:Ai}{h:Hp}(hs:seps (A::As) h):seps As h:=by
 have:=J7 hs 1 [] Z;exact this
theorem Tx(es:List Ent)(k:Nat)(g:Value)(f:Ent->Ent)(j:∀e,(f e).key=e.key/\(f e).v=g/\(f e).born=e.born):∀(i:Nat) (e:Ent),(es.map Ent.key).Nodup->es[i]?=some e->e.key=k->updM (es.map Ent.ie) (k:Int) g=(es.set i (f e)).map Ent.ie:=by
 induction es with
 | nil=>intro i e _ h;simp at h
 | cons x xs ih=>
  intro i e b a d;simp only[Yn,Zd] at b
  cases i with
  | zero=>
   simp only[YP,X0] at a;subst a;subst d;simp[updM,Ent.ie,j]
  | succ i=>
   simp only[Yq] at a;have c:¬(k:Int)=(x.key:Int):=by
    intro q;have:x.key=e.key:=by omega
    exact b.1 (this▸YM (XW a))
   simp only[Yn,updM,List.set_cons_succ];rw[if_neg (by simpa [Ent.ie] using c),ih i e b.2 a d]
theorem Ty(es:List Ent)(k:Nat):∀(i:Nat) (e:Ent),(es.map Ent.key).Nodup->es[i]?=some e->e.key=k->delM (es.map Ent.ie) (k:Int)=(es.eraseIdx i).map Ent.ie:=by
 induction es with
 | nil=>intro i e _ h;simp at h
 | cons x xs ih=>
  intro i e b a d;simp only[Yn,Zd] at b
  cases i with
  | zero=>
   simp only[YP,X0] at a;subst a;subst d;simp[delM,Ent.ie]
  | succ i=>
   simp only[Yq] at a;have c:¬(k:Int)=(x.key:Int):=by
    intro q;have:x.key=e.key:=by omega
    exact b.1 (this▸YM (XW a))
   simp only[Yn,delM,List.eraseIdx_cons_succ];rw[if_neg (by simpa [Ent.ie] using c),ih i e b.2 a d]
theorem E3{α β:Type}{f:α->β}{l:List α}(g:(l.map f).Nodup){i j:Nat}{a b:α}(c:l[i]?=some a)(d:l[j]?=some b)(e:f a=f b):i=j:=by
 have h:=(XU.1 c).1;have k:=(XU.1 d).1;refine (List.getElem_inj (xs:=l.map f) (h₀:=by simpa using h) (h₁:=by simpa using k) g).1 ?_;simp only[AaP];rw[(XU.1 c).2,(XU.1 d).2,e]
theorem OJ{z w:World}{Γ:List Ai}{D:Dsk}{bs:List UInt8}{es:List Ent}{clk:Nat}{hq:Hp}(d:D.In bs es clk hq){k:Nat}(hk:k<D.n)(H:Sep z (seps (es.map Ent.row)::Γ) w):
  ∃(v:Value) (pvs:List Value) (a0:List Ai),(Ck (es.map Ent.ie) (k:Int)).getD (.slice none 0 0)=v/\pvs.length=(D.ver k).length/\Sep z (grow 38 1 v pvs.length pvs::seps a0::Γ) w/\
   ∀(l m:Value) (p:List UInt8),p.length=256->rdH 1 m 256 (p.map u8) hq->∃a1,(D.w1 false k p).In bs a1 (putC (es.map Ent.ie) k clk) hq/\D6 (es.map Ent.ie) k l clk=a1.map Ent.ie/\
    ∀h,seps (grow 38 1 l (pvs.length+1) (pvs++[m])::[seps a0]) h->seps (a1.map Ent.row) h:=by
 rcases get_ent es k d.nodup with ⟨hg,hn⟩|⟨i,e,y,f,hg⟩
 ·have hv:D.ver k=[]:=by
   cases hvk:D.ver k with
   | nil=>rfl
   | cons p ps=>
    obtain ⟨e,f,r⟩:=d.all k hk (by rw[hvk];simp);exact absurd r (hn e f)
  refine ⟨.slice none 0 0,[],es.map Ent.row,by simp[hg],by rw[hv];rfl,H.void λh=>grow.nil _ _ h,λl m p hp hr=>?_⟩;have hh:Cd (es.map Ent.ie) (k:Int)=false:=by simp[Cd,hg]
  refine ⟨es++[⟨k,l,[m],[p],clk⟩],⟨d.len,d.own,?_,?_,?_,?_,?_⟩,?_,λh hs=>?_⟩
  ·intro e f
   rcases Yr.1 f with f|f
   ·obtain ⟨u,t,h3⟩:=d.ent e f
    exact ⟨u,t.trans (upf_other D.ver _ (hn e f)).symm,h3⟩
   rw[YD.1 f];refine ⟨hk,?_,Z,by simp,λj a6 p' u t=>?_⟩
   ·show [p]=By D.ver k (D.ver k++[p]) k
    rw[CW,hv];rfl
   have:j=0:=by have:=(XU.1 u).1;simpa using this
   subst this;simp at u t;subst u;subst t;exact ⟨hp,hr⟩
  ·intro j g a2
   by_cases e:j=k
   ·exact ⟨_,List.mem_append_right _ (YD.2 Z),e.symm⟩
   have:D.ver j≠[]:=by
    have h':By D.ver k (D.ver k++[p]) j≠[]:=a2;rwa[upf_other _ _ e] at h'
   obtain ⟨s,c,r⟩:=d.all j g this;exact ⟨s,List.mem_append_left _ c,r⟩
  ·rw[Yi]
   refine Y6.2 ⟨d.nodup,by simp,λa ha b hb=>?_⟩;simp at hb;subst hb;obtain ⟨s,c,rfl⟩:=X5.1 ha;exact hn s c
  ·rw[Yi]
   refine Y6.2 ⟨d.born,by simp,λa ha b hb=>?_⟩;simp at hb;subst hb;obtain ⟨s,c,rfl⟩:=X5.1 ha;have:=d.clk s c;omega
  ·intro e f
   simp only[putC,hh,if_false,YS];rcases Yr.1 f with f|f
   ·have:=d.clk e f;omega
   rw[YD.1 f];show clk<clk+1;omega
  ·simp[D6,hh,Ent.ie]
  rw[Yi];refine G4 ?_;have t:=Cp (As:=[grow 38 1 l 1 [m]]) (Bs:=[seps (es.map Ent.row)]) hs;have h3:=FP t;exact Cp (As:=es.map Ent.row) (Bs:=[grow 38 1 l 1 [m]]) h3
 obtain ⟨_,t,h3,h4,h5⟩:=d.ent e (XW y);subst f;have o:=(XU.1 y).1;have hh:Cd (es.map Ent.ie) (e.key:Int)=true:=by simp[Cd,hg]
 refine ⟨e.v,e.pvs,(es.map Ent.row).eraseIdx i,by simp[hg],h3.trans (congrArg _ t),?_,λl m p hp hr=>?_⟩
 ·have H1:=H.mono 0 (B:=seps (e.row::[seps ((es.map Ent.row).eraseIdx i)])) Z (λh hs=>by
   have u:=GF hs i (A:=e.row) (by rw[X9,y];rfl);have a8:seps ((es.map Ent.row).eraseIdx i++[e.row]) h:=Cp (As:=[e.row]) (Bs:=(es.map Ent.row).eraseIdx i) u;have a3:=GW a8;exact Cp (As:=[seps ((es.map Ent.row).eraseIdx i)]) (Bs:=[e.row]) a3)
  exact Sep.opened (As:=[e.row,seps ((es.map Ent.row).eraseIdx i)]) H1
 refine ⟨es.set i {e with v:=l,pvs:=e.pvs++[m],ps:=e.ps++[p]},⟨d.len,d.own,?_,?_,?_,?_,?_⟩,?_,λh hs=>?_⟩
 ·intro s c
  obtain ⟨j,g⟩:=Yx c;rw[YV] at g;split at g
  ·rename_i q
   subst q;simp only[o,if_true,X0] at g;subst g;refine ⟨hk,?_,by simp[h3],by simp,λj' a6 p' q1 q2=>?_⟩
   ·show e.ps++[p]=By D.ver e.key (D.ver e.key++[p]) e.key
    rw[CW,t]
   rcases Yg j' e.pvs.length with q|q
   ·rw[Yb q] at q1
    rw[Yb U] at q2;exact h5 j' a6 p' q1 q2
   rw[Ya q] at q1;rw[Ya U] at q2;have:j'-e.pvs.length=0:=by have:=(XU.1 q1).1;simpa using this
   rw[this] at q1;rw[show j'-e.ps.length=0 from by omega] at q2;simp at q1 q2;subst q1;subst q2;exact ⟨hp,hr⟩
  rename_i q;obtain ⟨u,a3,a7⟩:=d.ent s (XW g);have a5:s.key≠e.key:=λq'=>by
   exact q (E3 d.nodup y g q'.symm)
  exact ⟨u,a3.trans (upf_other D.ver _ a5).symm,a7⟩
 ·intro j g a2
  by_cases q:j=e.key
  ·exact ⟨_,XW (Y5 o),q.symm⟩
  have:D.ver j≠[]:=by
   have h':By D.ver e.key (D.ver e.key++[p]) j≠[]:=a2;rwa[upf_other _ _ q] at h'
  obtain ⟨s,c,r⟩:=d.all j g this;obtain ⟨j',a4⟩:=Yx c;have a5:i≠j':=λq'=>by
   subst q';rw[y] at a4;cases a4;exact q r.symm
  exact ⟨s,XW (by rw[Aas a5];exact a4),r⟩
 ·rw[AaQ]
  have:(es.map Ent.key).set i e.key=es.map Ent.key:=YY λj=>by
   rw[YV];split
   ·rename_i q;subst q;simp[o,(XU.1 y).2]
   rfl
  exact (show ((es.map Ent.key).set i e.key).Nodup by rw[this];exact d.nodup)
 ·rw[AaQ]
  have:(es.map Ent.born).set i e.born=es.map Ent.born:=YY λj=>by
   rw[YV];split
   ·rename_i q;subst q;simp[o,(XU.1 y).2]
   rfl
  exact (show ((es.map Ent.born).set i e.born).Nodup by rw[this];exact d.born)
 ·intro s c
  simp only[putC,hh,if_true];obtain ⟨j,g⟩:=Yx c;rw[YV] at g;split at g
  ·simp only[o,if_true,X0] at g
   subst g;exact d.clk e (XW y)
  exact d.clk s (XW g)
 ·simp only[D6,hh,if_true]
  exact Tx es e.key l (λx=> {x with v:=l,pvs:=x.pvs++[m],ps:=x.ps++[p]}) (λx=>⟨Z,Z,Z⟩) i e d.nodup y Z
 rw[AaQ];refine Kc i (by simpa using o) ?_;have t:=Cp (As:=[grow 38 1 l (e.pvs.length+1) (e.pvs++[m])]) (Bs:=[seps ((es.map Ent.row).eraseIdx i)]) hs;have h3:=FP t;have h4:=Cp (As:=(es.map Ent.row).eraseIdx i) (Bs:=[grow 38 1 l (e.pvs.length+1) (e.pvs++[m])]) h3;have e1:grow 38 1 l (e.pvs.length+1) (e.pvs++[m])=Ent.row {e with v:=l,pvs:=e.pvs++[m],ps:=e.ps++[p]} :=by simp[Ent.row]
 rw[<-e1];exact h4
theorem OK{D:Dsk}{bs bs':List UInt8}{es:List Ent}{clk:Nat}{hq:Hp}(b:D.In bs es clk hq){k:Nat}(hk:k<D.n){p:List UInt8}(hp:p.length=256)(a0:bs'=bs.take (k*256)++p++bs.drop (k*256+256)):
  ∃t,(D.w1 true k p).In bs' t clk hq/\delM (es.map Ent.ie) k=t.map Ent.ie/\∀h,seps (es.map Ent.row) h->seps (t.map Ent.row) h:=by
 have hn:D.n*256=bs.length:=b.len.symm;have a3:k*256+256<=bs.length:=by omega
 have m:bs'.length=D.n*256:=by subst a0;simp[hp];omega
 have o:∀i,i<D.n->(bs'.drop (i*256)).take 256=(D.w1 true k p).dur i:=λi g=>by
  show _=By D.dur k p i;subst a0;have e0:(bs.take (k*256)).length=k*256:=by rw[X2];omega
  rcases Zq i k with h|h|h
  ·rw[upf_other _ _ U,<-b.own i g]
   rw[X1,Yz U,X7 (by rw[Yv,e0];omega)];rw[ZR,YA];rw[show min 256 (k*256-i*256)=256 from by omega]
  ·subst h
   rw[CW,X1,Yz U,Yj U,Ym];rw[X7 U,XZ U]
  rw[upf_other _ _ U,<-b.own i g];rw[Yy,Yj (by simp[hp];omega),Ym,List.drop_drop];congr 2;simp[hp];omega
 rcases get_ent es k b.nodup with ⟨hg,a1⟩|⟨i,e,g,he,hg⟩
 ·refine ⟨es,⟨m,o,λe he=>?_,λj l r=>?_,b.nodup,b.born,b.clk⟩,KX _ _ hg,λh hs=>hs⟩
  ·obtain ⟨w,x,h3⟩:=b.ent e he
   exact ⟨w,x.trans (upf_other D.ver _ (a1 e he)).symm,h3⟩
  have h':By D.ver k [] j≠[]:=r;by_cases q:j=k
  ·subst q;rw[CW] at h';exact absurd Z h'
  rw[upf_other _ _ q] at h';exact b.all j l h'
 subst he;have a2:=(XU.1 g).1;have c:(es.eraseIdx i).Sublist es:=List.eraseIdx_sublist es i;have y:∀f∈es.eraseIdx i,f.key≠e.key:=λf a q=>by
  obtain ⟨j,l⟩:=Yx a;rw[Zz] at l;have v:∀u,u≠i->es[u]?=some f->False:=λu s d=>by
   exact s (E3 b.nodup d g q)
  split at l
  ·exact v j U l
  exact v (j+1) U l
 refine ⟨es.eraseIdx i,⟨m,o,λf a=>?_,λj l r=>?_,(c.map Ent.key).nodup b.nodup,(c.map Ent.born).nodup b.born,λf a=>b.clk f (c.subset a)⟩,Ty es e.key i e b.nodup g Z,λh hs=>?_⟩
 ·obtain ⟨w,x,h3⟩:=b.ent f (c.subset a)
  exact ⟨w,x.trans (upf_other D.ver _ (y f a)).symm,h3⟩
 ·have h':By D.ver e.key [] j≠[]:=r
  by_cases q:j=e.key
  ·subst q;rw[CW] at h';exact absurd Z h'
  rw[upf_other _ _ q] at h';obtain ⟨f,a,z⟩:=b.all j l h';refine ⟨f,?_,z⟩;obtain ⟨u,d⟩:=Yx a;have s:u≠i:=λq'=>by subst q';rw[g] at d;cases d;exact q z.symm
  rw[List.mem_eraseIdx_iff_getElem?];exact ⟨u,s,d⟩
 have w:=GF hs i (A:=e.row) (by rw[X9,g];rfl);have x:=OI w;have e0:(es.map Ent.row).eraseIdx i=(es.eraseIdx i).map Ent.row:=by
  apply YY;intro j;simp only[Zz,X9];split<;>rfl
 rwa[e0] at x
theorem QH{z w:World}{Γ:List Ai}{hq:Hp}{b:Nat}{cs:List Value}{t:TypeId}(H:Sep z (poolA hq::blk b cs t::Γ) w):∃a,(BC hq a/\blk b cs t a)/\Sep z (poolA a::Γ) w:=by
 have H1:Sep z (seps [poolA hq,blk b cs t]::Γ) w:=Sep.shut (As:=[poolA hq,blk b cs t]) H;exact H1.exAt 0 (σ:=Hp) (p:=λa=>BC hq a/\blk b cs t a) (B:=λa=>poolA a) Z (λh hs=>by
  refine ⟨h,⟨λk o e=>?_,?_⟩,λk o e=>e⟩
  ·obtain ⟨h',d,c⟩:=D7 hs (i:=0) Z
   exact c _ _ (d _ _ e)
  obtain ⟨h',d,c⟩:=D7 hs (i:=1) Z;exact c _ _ d)

def diskQ(pd:Nat)(D:Dsk)(hq:Hp):Ai:=λh=>∃(bd m:Nat) (f0:Int) (bs:List UInt8) (es:List Ent) (clk:Nat),(D.Ok/\D.In bs es clk hq)/\seps (DY pd bd m D f0 bs es clk hq) h
structure DskY where
 bd:Nat
 m:Nat
 f0:Int
 bs:List UInt8
 es:List Ent
 clk:Nat
theorem Sep.diskQ{z w:World}{Γ:List Ai}{pd:Nat}{D:Dsk}{hq:Hp}(H:Sep z (YthbbejpbkglmlaaGreatDoor.diskQ pd D hq::Γ) w):∃bd m f0 bs es clk,D.Ok/\D.In bs es clk hq/\Sep z (DY pd bd m D f0 bs es clk hq++Γ) w:=by
 obtain ⟨x,⟨c,b⟩,H⟩:=H.into (σ:=DskY) (p:=λx=>D.Ok/\D.In x.bs x.es x.clk hq) (As:=λx=>DY pd x.bd x.m D x.f0 x.bs x.es x.clk hq)
  (λh a=>by obtain ⟨bd,m,f0,bs,es,clk,hp,hs⟩:=a;exact ⟨⟨bd,m,f0,bs,es,clk⟩,hp,hs⟩)
 exact ⟨_,_,_,_,_,_,c,b,H⟩
theorem Sep.toDiskQ{z w:World}{Γ:List Ai}{pd bd m:Nat}{D:Dsk}{f0:Int}{bs:List UInt8}{es:List Ent}{clk:Nat}{hq:Hp}(H:Sep z (DY pd bd m D f0 bs es clk hq++Γ) w)(c:D.Ok)(b:D.In bs es clk hq):Sep z (YthbbejpbkglmlaaGreatDoor.diskQ pd D hq::Γ) w:=
 H.shut.mono 0 Z (λh a=>⟨_,_,_,_,_,_,⟨c,b⟩,a⟩)
theorem Dsk.w1_ver(D:Dsk)(a:Bool){i j:Nat}(p:List UInt8)(h:j≠i):(D.w1 a i p).ver j=D.ver j:=by
 cases a
 ·exact upf_other D.ver _ h
 exact upf_other D.ver _ h
theorem Dsk.ws_ver(a:Bool)(ps:List (List UInt8)):∀(D:Dsk) (i j:Nat),j<i\/i+ps.length<=j->(D.ws a i ps).ver j=D.ver j:=by
 induction ps with
 | nil=>intro D i j _;rfl
 | cons q qs ih=>
  intro D i j h;simp only[XY] at h;simp only[Dsk.ws];rw[ih _ _ _ U,Dsk.w1_ver _ _ _ U]
theorem Dsk.ws_take{D:Dsk}{a:Bool}{k i:Nat}{ps:List (List UInt8)}{p:List UInt8}(h:ps[i]?=some p):D.ws a k (ps.take (i+1))=(D.ws a k (ps.take i)).w1 a (k+i) p:=by
 rw[Yd,h];have b:=(XU.1 h).1;rw[show (some p).toList=[p] from Z,Dsk.ws_snoc,X2,YC U]
theorem QI{g:Nat}{hq:Hp}{t:TypeId}{ps:List (List UInt8)}{rest:List Value}(j:blk g (ps.flatten.map u8++rest) t hq)(c:∀p∈ps,p.length=256){i:Nat}{p:List UInt8}(h:ps[i]?=some p):rdH 1 (.slice (some ⟨g,0+i*256,none⟩) 256 256) 256 (p.map u8) hq:=by
 have d:∀(ps:List (List UInt8)) (i:Nat) (p:List UInt8),(∀p∈ps,p.length=256)->ps[i]?=some p->(ps.flatten.drop (i*256)).take 256=p/\i*256+256<=ps.flatten.length:=by
  intro ps
  induction ps with
  | nil=>intro i p _ h;simp at h
  | cons q qs ih=>
   intro i p b h;have a:=b q O
   cases i with
   | zero=>
    simp only[YP,X0] at h;subst h;simp[X7,a]
   | succ i=>
    simp only[Yq] at h;obtain ⟨e,f⟩:=ih i p (λp hp=>b p (by simp[hp])) h;rw[Zs,show (i+1)*256=q.length+i*256 from by omega,Yy];refine ⟨?_,by rw[XX];omega⟩;rw[Yj U,Ym];rw[show q.length+i*256-q.length=i*256 from by omega];exact e
 obtain ⟨e,f⟩:=d ps i p c h;have b:(ps.flatten.map u8).length=ps.flatten.length:=X8 u8;refine j.rd U U (by rw[XX,b];omega) ?_;rw[Y8,YR,Yz (by rw[b];omega),X7 (by rw[Yv,b];omega),<-List.map_drop,<-ZM,e]
def CM(c:UInt32):UInt32:=(c>>>1) ^^^ ((c&&&1)*2197175160)
def Cg:Nat->UInt32->UInt32
 | 0,c=>c
 | k+1,c=>CM (Cg k c)
def crcTab:List UInt32:=(List.range 256).map λi:Nat=>Cg 8 (Dr (i:Int))
theorem GG:crcTab.length=256:=by simp[crcTab]
theorem GH{i:Nat}(h:i<256):crcTab[i]?=some (Cg 8 (Dr (i:Int))):=by simp[crcTab,h]
def C6(c:UInt32)(b:UInt8):UInt32:=(c>>>8) ^^^ (crcTab[(c.toUInt8 ^^^ b).toNat]?.getD 0)
def C7(c:UInt32)(bs:List UInt8):UInt32:=4294967295 ^^^ (bs.foldl C6 (4294967295 ^^^ c))
def Au(bs:List UInt8):UInt32:=C7 0 bs
theorem JD(c:UInt32)(a b:List UInt8):C7 (C7 c a) b=C7 c (a++b):=by
 unfold C7;rw[<-ZH,AaY,AaZ,Y9]
def Xq:Value:=.int .u32 0
def Bm(x0 x1 x2:Value)(i:Nat):List Value:=[x0,x1,x2]++((crcTab.take i).map u32++List.replicate (256-i) Xq)
theorem QJ(a b x2:Value){i:Nat}(h:i<=256):(Bm a b x2 i).length=259:=by simp[Bm,GG];omega
theorem OL(a b x2:Value){i:Nat}(h:i<256):(Bm a b x2 i).take (3+i)++[u32 (Cg 8 (Dr (i:Int)))]++(Bm a b x2 i).drop (3+i+1)=Bm a b x2 (i+1):=by
 have d:([a,b,x2]++(crcTab.take i).map u32).length=3+i:=by simp[GG];omega
 have c:Bm a b x2 i=([a,b,x2]++(crcTab.take i).map u32)++List.replicate (256-i) Xq:=by simp[Bm]
 rw[c,X7 U,XZ U,Yy,Yj U,Ym,d];rw[show 3+i+1-(3+i)=1 from by omega,ZJ];unfold Bm;rw[Yd,GH h];simp;omega
def XA(pt:Nat):Ai:=blk pt (Bm (.int .u32 0) (.int .i32 0) (.int .u32 0) 0) 185
def XB(pt:Nat):Ai:=blk pt (Bm (.int .u32 1) (.int .i32 0) (.int .u32 0) 256) 185
def tblA(pt:Nat):Ai:=λh=>XA pt h\/XB pt h
theorem OM(c d x2:Value)(b:UInt8):(Bm c d x2 256)[3+b.toNat]?=some (u32 (crcTab[b.toNat]?.getD 0)):=by
 have e:=b.toNat_lt;have a:=GG;simp only[Bm];rw[Ya O];simp only[XY,X3];rw[show 3+b.toNat-(0+1+1+1)=b.toNat from by omega];rw[Yb (by simp[a];omega),X9,XZ U,GH U];rfl
def Ad(k:Nat)(x:Int):List UInt8:=(List.range k).map λi:Nat=>EJ (x/2^(8*(k-1-i)))
theorem Ac(k:Nat)(x:Int):(Ad k x).length=k:=by simp[Ad]
theorem beN_get{k i:Nat}(x:Int)(h:i<k):(Ad k x)[i]?=some (EJ (x/2^(8*(k-1-i)))):=by simp[Ad,h]
def Fd(bs T:List UInt8)(a i:Nat):List UInt8:=bs.take a++T.take i++bs.drop (a+i)
def Bp(bs T:List UInt8)(a:Nat):List UInt8:=bs.take a++T++bs.drop (a+T.length)
theorem Tz{bs T:List UInt8}{a i:Nat}(h:a+i<=bs.length)(b:i<=T.length):(Fd bs T a i).length=bs.length:=by simp[Fd];omega
theorem QK(bs T:List UInt8)(a:Nat):Fd bs T a 0=bs:=by simp[Fd]
theorem TA(bs T:List UInt8)(a:Nat){i:Nat}(h:i=T.length):Fd bs T a i=Bp bs T a:=by subst h;simp[Fd,Bp]
theorem Dg{bs T:List UInt8}{a:Nat}(h:a+T.length<=bs.length):(Bp bs T a).length=bs.length:=by simp[Bp];omega
theorem QL{bs T:List UInt8}{a i:Nat}{b:UInt8}(c:List Value)(h:a+T.length<=bs.length)(d:T[i]?=some b):
  ((Fd bs T a i).map u8++c).take (a+i)++[u8 b]++((Fd bs T a i).map u8++c).drop (a+i+1)=(Fd bs T a (i+1)).map u8++c:=by
 have g:=(XU.1 d).1;have f:(bs.take a++T.take i).length=a+i:=by simp;omega
 have e:bs.drop (a+i)=bs[a+i]'U::bs.drop (a+i+1):=ZE U;unfold Fd;rw[Yd,d,e];simp only[Yi,Yn,X1];rw[<-X1 (List.map u8 (bs.take a)),<-Yi];rw[X7 (by simp;omega),XZ (by simp;omega),Yy,Yj (by simp;omega)];rw[show a+i+1-(List.map u8 (bs.take a++T.take i)).length=1 from by rw[X8,f];omega];simp[Zt]
def CX(s:UInt32):List UInt8:=[s.toUInt8,(s>>>8).toUInt8,(s>>>16).toUInt8,(s>>>24).toUInt8]
def DE(l:List UInt8):Nat:=l.foldl (λn b=>256*n+b.toNat) 0
theorem IZ(l:List UInt8)(b:UInt8):DE (l++[b])=256*DE l+b.toNat:=by simp[DE,Y9]
theorem G5:∀(l:List UInt8) (a:Nat),l.foldl (λn b=>256*n+b.toNat) a<(a+1)*256^l.length
 | [],a=>by simp
 | b::l,a=>by
  have h:=G5 l (256*a+b.toNat);have c:=b.toNat_lt;simp only[List.foldl_cons,XY,Nat.pow_succ];have d:(256*a+b.toNat+1)*256^l.length<=(256*(a+1))*256^l.length:=ZD _ U;have e:256*(a+1)*256^l.length=(a+1)*(256^l.length*256):=by
   rw[Nat.mul_comm 256 (a+1),Nat.mul_assoc,Nat.mul_comm 256]
  omega
theorem QM(l:List UInt8):DE l<256^l.length:=by have:=G5 l 0;simpa [DE] using this
def AZ(l:List UInt8):Int:=IntKind.i64.wrap (DE l)
theorem NB{l:List UInt8}(h:l.length<=7):AZ l=DE l:=by
 have a:=QM l;have b:256^l.length<=256^7:=Nat.pow_le_pow_right U h;exact Y1 _ U
theorem FR(x:Int):∃q,IntKind.i64.wrap x=x+q*18446744073709551616/\ -9223372036854775808<=IntKind.i64.wrap x/\IntKind.i64.wrap x<=9223372036854775807:=by
 have a:IntKind.i64.wrap x=if 9223372036854775808<=x%18446744073709551616 then x%18446744073709551616-18446744073709551616 else x%18446744073709551616:=by
  show (if (true&&decide (x%(2^64:Int)>=(2^(64-1):Int)))=true then x%(2^64:Int)-(2^64:Int) else x%(2^64:Int))=_;simp only[Bool.true_and,decide_eq_true_eq,show (2:Int)^64=18446744073709551616 from Z,show (2:Int)^(64-1)=9223372036854775808 from Z,ge_iff_le]
 rw[a];by_cases h:9223372036854775808<=x%18446744073709551616
 ·rw[if_pos h];exact ⟨-(x/18446744073709551616)-1,by omega,by omega,by omega⟩
 rw[if_neg h];exact ⟨-(x/18446744073709551616),by omega,by omega,by omega⟩
theorem MB(x:Int)(b:UInt8):IntKind.i64.wrap (IntKind.i64.wrap x*256)%256=0/\IntKind.i64.wrap (IntKind.i64.wrap x*256)+b.toNat=IntKind.i64.wrap (256*x+b.toNat):=by
 have c:=b.toNat_lt;obtain ⟨e,g,m,i⟩:=FR x;obtain ⟨l,d,a,j⟩:=FR (IntKind.i64.wrap x*256);obtain ⟨h,k,f,n⟩:=FR (256*x+b.toNat);omega
theorem TB(k:Nat){x:Nat}(h:x<256^k):DE (Ad k (x:Int))=x:=by
 induction k generalizing x with
 | zero=>simp at h;subst h;rfl
 | succ k ih=>
  have e:Ad (k+1) (x:Int)=Ad k ((x/256:Nat):Int)++[EJ (x:Int)]:=by
   apply YY;intro i;rcases Zq i k with a|a|a
   ·rw[beN_get _ U,Yb (by rw[Ac];omega),beN_get _ a]
    congr 2;rw[show 8*(k+1-1-i)=8+8*(k-1-i) from by omega,Int.pow_add,<-Int.ediv_ediv_of_nonneg (by decide)];rfl
   ·subst a
    rw[beN_get _ U,Ya (by rw[Ac];omega),Ac];simp
   rw[Yp (by rw[Ac];omega),Yp (by simp[Ac];omega)]
  rw[e,IZ,ih (by rw[Nat.pow_succ] at h;omega)];have:(EJ (x:Int)).toNat=x%256:=by simp[EJ];omega
  rw[this];omega

def AW(bs:List UInt8)(a:Int):List Value:=bs.map u8++[.int .i64 a]
theorem Ej{bs:List UInt8}(a:Int)(h:bs.length=256):(AW bs a).length=257:=by simp[AW,h]
theorem K0{bs:List UInt8}(a:Int)(h:bs.length=256):(AW bs a)[256]?=some (Aa a):=by simp[AW,List.getElem?_append,h]
theorem Hs{bs:List UInt8}(a a':Int)(h:bs.length=256):(AW bs a).take 256++[Aa a']++(AW bs a).drop (256+1)=AW bs a':=by
 unfold AW;rw[X7 (by simp[h]),XZ (by simp[h]),Yj (by simp[h]),YG]
theorem QN{bs T:List UInt8}{a i:Nat}{b:UInt8}(x:Int)(h:a+T.length<=bs.length)(c:T[i]?=some b):
  (AW (Fd bs T a i) x).take (a+i)++[u8 b]++(AW (Fd bs T a i) x).drop (a+i+1)=AW (Fd bs T a (i+1)) x:=QL _ h c
theorem K1{bs T:List UInt8}{a k:Nat}(x:Int)(h:a+T.length<=bs.length)(b:k=T.length):(AW bs x).take a++(T.map u8).take k++(AW bs x).drop (a+k)=AW (Bp bs T a) x:=by
 subst b;unfold AW Bp;rw[X7 (by simp;omega),Yz (by simp;omega),XZ (l:=T.map u8) O];simp
def wrH(pw:Nat)(a:Int):Ai:=λh=>∃bs:List UInt8,bs.length=256/\blk pw (AW bs a) 204 h
theorem wrH.at{b:Nat}{a:Int}{h:Hp}(w:wrH b a h):celH h b 256 (Aa a):=by
 obtain ⟨bs,c,d⟩:=w;exact d.celH 256 (K0 a c)
theorem G6{b lo n c:Nat}{bs ys:List UInt8}{a:Int}{t:TypeId}{h:Hp}(q:blk b (AW bs a) t h)(d:bs.length=256)(g:lo+n<=256)(e:n<=c)(i:c<=256)(f:(bs.drop lo).take n=ys):rdH 1 (.slice (some ⟨b,lo,none⟩) n c) n (ys.map u8) h:=by
 subst f;refine q.rd e U (by rw[Ej _ d];omega) ?_;unfold AW;rw[Yz (by simp;omega),X7 (by simp;omega),YR];simp
def Ke(bs:List UInt8):List UInt8:=Bp bs (CX (Au (bs.take 252))) 252
theorem TC{bs:List UInt8}(h:bs.length=256):(Ke bs).length=256:=by
 unfold Ke;rw[Dg (by simp[CX,h])];exact h

theorem ON(x:Int):IntKind.i64.wrap (IntKind.i64.wrap x)=IntKind.i64.wrap x:=Y1 _ (by obtain ⟨q,a,b,c⟩:=FR x;omega)
theorem K2(l:List UInt8):IntKind.i64.wrap (AZ l*2^8)%256=0:=(MB (DE l) 0).1
theorem G7{xs:List UInt8}{j:Nat}{b:UInt8}(h:xs[j]?=some b):IntKind.i64.wrap (IntKind.i64.wrap (AZ (xs.take j)*2^8)+(b.toNat:Int))=AZ (xs.take (j+1)):=by
 rw[Yd,h];show IntKind.i64.wrap (IntKind.i64.wrap (IntKind.i64.wrap (DE (xs.take j))*256)+(b.toNat:Int))=IntKind.i64.wrap (DE (xs.take j++[b]):Nat);rw[(MB _ b).2,ON,IZ];congr 1

def rz:List UInt8->Nat
 | []=>0
 | x::xs=>if rz xs=0/\x=0 then 0 else rz xs+1
theorem NC:∀xs:List UInt8,rz xs<=xs.length
 | []=>Yo _
 | x::xs=>by have:=NC xs;simp only[rz,XY];split<;>omega
theorem ND:∀(xs:List UInt8) (j:Nat) (b:UInt8),rz xs<=j->xs[j]?=some b->b=0
 | [],j,b,_,h=>by simp at h
 | x::xs,0,b,h1,h=>by
  simp only[rz] at h1;split at h1
  ·rename_i q;simp at h;exact h▸q.2
  omega
 | x::xs,j+1,b,h1,h=>by
  simp only[rz] at h1;refine ND xs j b ?_ (by simpa using h);split at h1<;>omega
theorem JE:∀(xs:List UInt8) (m:Nat),rz xs=m+1->∃b,xs[m]?=some b/\b≠0
 | [],m,h=>by simp[rz] at h
 | x::xs,m,h=>by
  simp only[rz] at h;split at h
  ·omega
  rename_i q
  cases m with
  | zero=>exact ⟨x,by simp,λe=>q ⟨by omega,e⟩⟩
  | succ m=>obtain ⟨b,h1,h2⟩:=JE xs m U;exact ⟨b,by simpa using h1,h2⟩
theorem rz_is{xs:List UInt8}{m:Nat}(f:m<=xs.length)(d:∀j b,m<=j->xs[j]?=some b->b=0)(c:m=0\/∃b,xs[m-1]?=some b/\b≠0):m=rz xs:=by
 rcases Zq m (rz xs) with q|q|q
 ·obtain ⟨b,e,a⟩:=JE xs (rz xs-1) U
  exact absurd (d _ _ U e) a
 ·exact q
 rcases c with c|⟨b,e,a⟩
 ·omega
 exact absurd (ND xs _ _ U e) a
theorem TD{xs:List UInt8}:rz xs=0↔∀b∈xs,b=0:=by
 constructor
 ·intro h b a
  obtain ⟨j,c,rfl⟩:=Zn.1 a;exact ND xs j _ U (XV c)
 intro h;exact (rz_is (Ye _) (λj b _ e=>h b (XW e)) (.inl Z)).symm
def lz:List UInt8->Nat
 | []=>0
 | x::xs=>if x=0 then lz xs+1 else 0
theorem I0:∀{xs:List UInt8} {p:Nat},p<=xs.length->(∀j b,j<p->xs[j]?=some b->b=0)->(p=xs.length\/∃b,xs[p]?=some b/\b≠0)->p=lz xs
 | [],p,hp,_,_=>by simp at hp;subst hp;rfl
 | x::xs,0,_,_,h1=>by
  rcases h1 with h1|⟨b,e,hb⟩
  ·simp at h1
  simp at e;subst e;simp[lz,hb]
 | x::xs,p+1,hp,h0,h1=>by
  have e:=h0 0 x U Z;subst e;have:=I0 (xs:=xs) (p:=p) (by simpa using hp) (λj b a e=>h0 (j+1) b U (by simpa using e)) (by simpa using h1);simp[lz,this]
theorem WL{xs:List UInt8}(h:rz xs≠0):lz (xs.take (rz xs))<rz xs:=by
 obtain ⟨b,e,d⟩:=JE xs (rz xs-1) U;rcases Yg (lz (xs.take (rz xs))) (rz xs) with q|q
 ·exact q
 have c:∀(ys:List UInt8) j b,j<lz ys->ys[j]?=some b->b=0:=by
  intro ys
  induction ys with
  | nil=>intro j b a;simp[lz] at a
  | cons y ys ih=>
   intro j b a e;simp only[lz] at a;split at a
   ·rename_i q
    cases j with
    | zero=>simp at e;exact e▸q
    | succ j=>exact ih j b U (by simpa using e)
   omega
 exact absurd (c (xs.take (rz xs)) (rz xs-1) b U (by rw[YB,if_pos U];exact e)) d
def Ii(mag sec:List UInt8):Prop:=sec.drop 252=CX (Au (sec.take 252))/\sec.take 4=mag
instance(mag sec:List UInt8):Decidable (Ii mag sec):=by unfold Ii;exact inferInstance
theorem K3{sec:List UInt8}(h:sec.length=256):∃c a d b,sec.drop 252=[c,a,d,b]:=by
 have e:(sec.drop 252).length=4:=by simp[h]
 match hd:sec.drop 252,e with
 | [c,a,d,b],_=>exact ⟨c,a,d,b,Z⟩

def AX(l:List UInt8):List UInt8:=l++List.replicate (256-l.length) 0
theorem A6{l:List UInt8}(h:l.length<=256):(AX l).length=256:=by simp[AX];omega
theorem B4{l t:List UInt8}{a:Nat}(b:a=l.length)(h:a+t.length<=256):Bp (AX l) t a=AX (l++t):=by
 subst b;unfold Bp AX;rw[YJ Z,Yy,Yj U,Ym,ZJ,XX];rw[show 256-l.length-(l.length+t.length-l.length)=256-(l.length+t.length) from by omega]
theorem QO{l t:List UInt8}{a:Nat}(b:l.length<=a)(h:a+t.length<=256):Bp (AX l) t a=AX (l++List.replicate (a-l.length) 0++t):=by
 have:AX l=AX (l++List.replicate (a-l.length) 0):=by
  unfold AX;rw[X1,XX,X4,List.replicate_append_replicate];congr 2;omega
 rw[this,B4 (by simp;omega) h]
def sect(l:List UInt8):List UInt8:=Ke (AX l)
theorem sect_len{l:List UInt8}(h:l.length<=252):(sect l).length=256:=TC (A6 U)
theorem G8{l:List UInt8}(h:l.length<=252):(sect l).take 252=(AX l).take 252:=by
 unfold sect Ke Bp;rw[X1,X7 (by simp[A6 (show l.length<=256 by omega)]),YA];simp
theorem GI{l:List UInt8}(h:l.length<=252):(sect l).drop 252=CX (Au ((sect l).take 252)):=by
 rw[G8 h];have a:=A6 (show l.length<=256 by omega);unfold sect Ke Bp;rw[X1,Yy,Yj (by simp[a])];simp[a,CX]
theorem BB{l:List UInt8}(h:l.length<=252){p k:Nat}(hp:p+k<=l.length):((sect l).drop p).take k=(l.drop p).take k:=by
 have e:((sect l).drop p).take k=(((sect l).take 252).drop p).take k:=by
  rw[ZR,YA];congr 1;omega
 rw[e,G8 h,ZR,YA];rw[show min k (252-p)=k from by omega];unfold AX;rw[Yz U,X7 (by simp;omega)]
theorem Kf{l:List UInt8}(h:l.length<=252):rz (((sect l).drop l.length).take (252-l.length))=0:=by
 rw[TD];intro b a;have e:((sect l).drop l.length).take (252-l.length)=(((sect l).take 252).drop l.length):=by rw[ZR]
 rw[e,G8 h,ZR] at a;unfold AX at a;rw[Aat Z] at a;exact (List.mem_replicate.1 (YH a)).2

theorem BD(ns:List Int):(ns.flatMap (Ad 4)).length=4*ns.length:=by
 induction ns with
 | nil=>rfl
 | cons x ns ih=>simp[Ac,ih];omega
theorem OO{ns:List Int}{i:Nat}{x:Int}(h:ns[i]?=some x):(ns.take i).flatMap (Ad 4)++Ad 4 x=(ns.take (i+1)).flatMap (Ad 4):=by
 rw[Yd,h];simp
def Bc(sec:List UInt8):Nat:=(AZ ((sec.drop 24).take 2)).toNat
def Dx(sec:List UInt8)(j:Nat):Int:=AZ ((sec.drop (26+4*j)).take 4)
def hN(sec:List UInt8)(i:Nat):List Value:=(List.range i).map λj=>Value.int .i64 (Dx sec j)
theorem TE(sec:List UInt8)(i:Nat):hN sec i++[Aa (Dx sec i)]=hN sec (i+1):=by simp[hN,ZN]
def GJ(sec:List UInt8):Prop:=Ii [80,76,79,71] sec/\(0<=AZ ((sec.drop 4).take 8)/\AZ ((sec.drop 4).take 8)<=1099511627776)/\(0<=AZ ((sec.drop 12).take 8)/\AZ ((sec.drop 12).take 8)<=1099511627776)/\(1<=Bc sec/\Bc sec<=40)/\(∀j,j<Bc sec->0<=Dx sec j/\Dx sec j<=1023)/\rz ((sec.drop (26+4*Bc sec)).take (252-(26+4*Bc sec)))=0
def G9(sec:List UInt8):Prop:=sec.drop 252=CX (Au (sec.take 252))/\(1<=AZ (sec.take 1)/\AZ (sec.take 1)<=5)/\(0<=AZ ((sec.drop 1).take 2)/\AZ ((sec.drop 1).take 2)<=1023)
theorem OP{sec:List UInt8}:∃m:Nat,AZ ((sec.drop 24).take 2)=m/\Bc sec=m:=by
 have h:AZ ((sec.drop 24).take 2)=DE ((sec.drop 24).take 2):=NB (by simp;omega);exact ⟨_,h,by unfold Bc;rw[h];rfl⟩
section
section
variable{P:Program}{C:World->Prop}{o:Oper}{a:Act}{w z:World}{Γ:List Ai}{n:Nat}{ds:List Deferred}{L:List (Nat×Value)}{v:Value}{x y:Operand}{xt yt:TypeId}
theorem OQ{p:Int}{k:IntKind}{q:Int}{m:Nat}(d:o.op=.binOp .shr xt x y yt)(f:ev L x=some (Aa p))(g:ev L y=some (.int k q))(hq:q=m)(h:m<64):Ao P C n ds L o (Aa (p/2^m)):=λa c w _=>by
 subst hq;simp only[execOp,d,c.ev f,c.ev g];have e:¬((m:Int)<0):=by omega
 have b:min m 64=m:=by omega
 simp[go_sem,Op.shift,IntKind.bits,e,b]
theorem OR{p:Int}{k:IntKind}{q:Int}{m:Nat}(d:o.op=.binOp .shl xt x y yt)(f:ev L x=some (Aa p))(g:ev L y=some (.int k q))(hq:q=m)(h:m<64):Ao P C n ds L o (Aa (IntKind.i64.wrap (p*2^m))):=λa c w _=>by
 subst hq;simp only[execOp,d,c.ev f,c.ev g];have e:¬((m:Int)<0):=by omega
 have b:min m 64=m:=by omega
 simp[go_sem,Op.shift,IntKind.bits,e,b]
theorem Vt{p:Int}{q:Nat}(hp:p%256=0)(hq:q<256):((BitVec.ofInt 64 p|||BitVec.ofInt 64 (q:Int)).toNat:Int)%18446744073709551616=(p+q)%18446744073709551616:=by
 have c:(BitVec.ofInt 64 p).toNat=(p%18446744073709551616).toNat:=by simp[BitVec.toNat_ofInt]
 have b:(BitVec.ofInt 64 (q:Int)).toNat=q:=by simp[BitVec.toNat_ofInt];omega
 have d:∃r,(p%18446744073709551616).toNat=r <<< 8:=⟨(p%18446744073709551616).toNat/256,by rw[Nat.shiftLeft_eq];omega⟩;obtain ⟨r,a⟩:=d;rw[BitVec.toNat_or,c,b,a,<-Nat.shiftLeft_add_eq_or_of_lt (by omega:q<2^8),<-a];omega
theorem SX{p q:Int}(e:o.op=.binOp .or xt x y yt)(f:ev L x=some (Aa p))(g:ev L y=some (Aa q))(hp:p%256=0)(hq:0<=q/\q<256):Ao P C n ds L o (Aa (IntKind.i64.wrap (p+q))):=λa d w _=>by
 obtain ⟨q,rfl⟩:=ZK hq.1;have h:=Vt (p:=p) (q:=q) hp U;have c:IntKind.i64.wrap ((BitVec.ofInt IntKind.i64.bits p|||BitVec.ofInt IntKind.i64.bits (q:Int)).toNat:Int)=IntKind.i64.wrap (p+q):=by
  show (if (true&&decide (((BitVec.ofInt 64 p|||BitVec.ofInt 64 (q:Int)).toNat:Int)%(2^64:Int)>=(2^(64-1):Int)))=true then ((BitVec.ofInt 64 p|||BitVec.ofInt 64 (q:Int)).toNat:Int)%(2^64:Int)-(2^64:Int) else ((BitVec.ofInt 64 p|||BitVec.ofInt 64 (q:Int)).toNat:Int)%(2^64:Int))=(if (true&&decide ((p+q)%(2^64:Int)>=(2^(64-1):Int)))=true then (p+q)%(2^64:Int)-(2^64:Int) else (p+q)%(2^64:Int));simp only[show (2:Int)^64=18446744073709551616 from Z,h]
 have b:IntKind.i64.wrap ((BitVec.ofInt 64 p|||BitVec.ofInt 64 (q:Int)).toNat:Int)=IntKind.i64.wrap (p+q):=c;rw[Aau] at b;simp only[execOp,e,d.ev f,d.ev g];simp only[binOp,Op.intBits,go_sem,c]
 first |(simp[go_sem,b];done)|(simp only[go_sem];exact congrArg (λv=>Result.ok (Aa v) _) b)|(simp[go_sem];exact b)
theorem Ij{t:TypeId}{l:List UInt8}{i:Int}{k:IntKind}{j:Nat}{b:UInt8}(g:o.op=.index t x y)(c:FO P t=true)(q:ev L x=some (EM l))(h:ev L y=some (.int k i))(d:i=j)(e:l[j]?=some b):Ao P C n ds L o (u8 b):=λa f w _=>by
 have c:=Ft c;subst d;have p:j<l.length:=(XU.1 e).1;have m:(⟨l.toArray⟩:ByteArray)[j]?=some b:=by
  have hs:(⟨l.toArray⟩:ByteArray).size=l.length:=by show l.toArray.size=_;simp
  rw[getElem?_pos (⟨l.toArray⟩:ByteArray) j (by rw[hs];exact p)];show some (l.toArray[j]'_)=_;simp[(XU.1 e).2]
 simp only[execOp,g,f.ev q,f.ev h,EM,Instr.index,asIntOf,Yc,Yh,X6,run_underlying c,if_pos (Int.natCast_nonneg j),Yw,m];rfl
theorem Kg{t e:TypeId}{zv:Value}{sz by_ k d m b h:Nat}{u:Value}{xs news:List Value}(H:Sep z Γ w)(ho:o.op=.call {callee:=.builtin .append,args:= #[x,y],argTypes:= #[t,t]})
  (ht:P.underlying t=some (.slice e))(hE:Elt P e zv sz by_)(hx:ev L x=some (.slice (some ⟨b,h,none⟩) k d))(hy:ev L y=some u)(v:Rd sz (.slice (some ⟨b,h,none⟩) k d) k xs w)(l:Rd sz u m news w)(hg:d<k+m)(h1:∀c∈news,c.oneCell'=true)(a2:(k+m)*by_<=140737488355328):
  BJ P n ds L o w (λv' w'=>Sep z (grow e sz v' (k+m) (xs++news)::Γ) w'):=λa hF=>by
 obtain ⟨i,hi,hz,hs,hb,a8,a5,a9⟩:=hE;obtain ⟨b5,c1,e1,b3,_,a4,a0⟩:=v;cases e1;obtain ⟨ao,c,rfl,b1,_,hl,s⟩:=l;have a3:k+m<=maxLen:=by
  have:(k+m)*1<=(k+m)*by_:=ZI _ a9;unfold maxLen;omega
 have b0:0<news.length:=by
  have:1*1<=m*sz:=Nat.mul_le_mul U U;omega
 obtain ⟨b',p',e2,_⟩:=s 0 news[0] (XV b0);subst e2;have f:∀(b p j:Nat),(Addr.add ⟨b,p,none⟩ j)=⟨b,p+j,none⟩:=λb p j=>by
  unfold Addr.add;split
  ·rename_i h0;simp[h0]
  rfl
 obtain ⟨v',w',hr,h2,h3⟩:=run_append_arg_grows (P:=P) w t o.type e i zv sz by_ ht hi hz hs hb a8 a5 ⟨b,h,none⟩ k d xs a4 (λj q hj=>by
  obtain ⟨b2,p2,e3,hc⟩:=a0 j q hj;cases e3;rw[f];exact hc) ⟨b',p',none⟩ m c news hl (λj q hj=>by
  obtain ⟨b2,p2,e3,hc⟩:=s j q hj;cases e3;rw[f];exact hc) hg a3 a2
 have a7:Ext No w w':=(Ext.of_grown h3).mono (λ_ _ q=>by cases q);refine ⟨v',w',?_,H.grow a7 ?_⟩
 ·simp only[execOp,ho,resolve,invoke,builtin,Yc,Yh,X6,Yt,Yn,YW,hF.ev hx,hF.ev hy,hr]
 refine ⟨h2.1,?_⟩;rcases h2.2 with q|⟨g,d,a1,hv,b4,a6,r⟩
 ·exact .inl q
 refine .inr ⟨g,d,a1,hv,?_,r⟩;show (if g<w.heap.size then none else w'.heap[g]?)=_;rw[if_neg U];exact a6
theorem Kh{t:TypeId}{b d l c m:Nat}(j:o.op=.sliceToArrayPointer t x)(f:(match P.underlying t with|some (.array k _)=>Nat.beq k m|_=>false)=true)(q:ev L x=some (.slice (some ⟨b,d,none⟩) l c))(p:m<=l):Ao P C n ds L o (.pointer (some ⟨b,d,none⟩)):=λa g w _=>by
 split at f
 ·rename_i k e h
  have i:k=m:=by simpa using f
  subst i;simp only[execOp,j,g.ev q];simp[Instr.arrayAt,run_underlying h,go_sem,p]
 cases f
theorem MC{k b m r f g c l:UInt8}(ho:o.op=.binOp .neq xt x y yt)(t:(match P.underlying xt with|some (.array 4 e)=>(match P.underlying e,P.info? e with|some (.int .u8),some i=>Nat.beq i.size 1|_,_=>false)|_=>false)=true)(hg:P.eqGuardType P.depth xt=false)(hx:ev L x=some (.agg #[u8 k,u8 b,u8 m,u8 r]))(hy:ev L y=some (.agg #[u8 f,u8 g,u8 c,u8 l])):Ao P C n ds L o (.bool (decide ([k,b,m,r]≠[f,g,c,l]))):=λa hF w _=>by
 split at t
 ·rename_i e h
  split at t
  ·rename_i i h1 h2
   have hz:i.size=1:=by simpa using t
   have a1:∀w,(sizeOf e).run P w=.ok 1 w:=λw=>by simp[sizeOf,typeInfo,h2,hz,go_sem]
   have a2:∀w,(isAgg e).run P w=.ok false w:=Fs (by simp[Fq,h1]);have hp:∀(cs:Array Value) (j:Nat) (u:Value) w,cs[j]?=some u->(part e cs j).run P w=.ok u w:=λcs j u w hc=>by
    simp only[part,Yc,a2,X6,if_false,YS,hc,Yh]
   have z:∀(d:Nat) (p q:UInt8) w,(Op.equalIn (d+1) e (u8 p) (u8 q)).run P w=.ok (decide (p=q)) w:=λd p q w=>by
    simp only[Op.equalIn,Yc,run_underlying h1,X6,u8];simp[go_sem];rw[Yf];simp;exact ⟨λh=>Z8.1 U,λh=>by rw[h]⟩
   have a0:∀d,(Op.equalIn (d+1+1) xt (.agg #[u8 k,u8 b,u8 m,u8 r]) (.agg #[u8 f,u8 g,u8 c,u8 l])).run P w=.ok (decide ([k,b,m,r]=[f,g,c,l])) w:=λd=>by
    have q0:=hp #[u8 k,u8 b,u8 m,u8 r] 0 (u8 k) w Z;have q1:=hp #[u8 k,u8 b,u8 m,u8 r] 1 (u8 b) w Z;have q2:=hp #[u8 k,u8 b,u8 m,u8 r] 2 (u8 m) w Z;have q3:=hp #[u8 k,u8 b,u8 m,u8 r] 3 (u8 r) w Z;have r0:=hp #[u8 f,u8 g,u8 c,u8 l] 0 (u8 f) w Z;have r1:=hp #[u8 f,u8 g,u8 c,u8 l] 1 (u8 g) w Z;have r2:=hp #[u8 f,u8 g,u8 c,u8 l] 2 (u8 c) w Z;have r3:=hp #[u8 f,u8 g,u8 c,u8 l] 3 (u8 l) w Z;rw[Op.equalIn];simp only[Yc,run_underlying h,X6,a1,Std.Legacy.Range.forIn_eq_forIn_range',Std.Legacy.Range.size];simp[List.range',Yc,q0,q1,q2,q3,r0,r1,r2,r3,z];by_cases g0:k=f<;>by_cases g1:b=g<;>by_cases g2:m=c<;>by_cases g3:r=l<;>simp[g0,g1,g2,g3,q0,q1,q2,q3,r0,r1,r2,r3,z,Yc]
   have v:(Op.equal xt (.agg #[u8 k,u8 b,u8 m,u8 r]) (.agg #[u8 f,u8 g,u8 c,u8 l])).run P w=.ok (decide ([k,b,m,r]=[f,g,c,l])) w:=a0 9998;have s:(eqGuard .neq xt x y (.agg #[u8 k,u8 b,u8 m,u8 r]) (.agg #[u8 f,u8 g,u8 c,u8 l])).run P w=.ok () w:=by
    simp[eqGuard,Yc,program,Sem.run,hg]
   simp only[execOp,ho,hF.ev hx,hF.ev hy];simp only[binOp,Yc,s,v,X6,Yh];simp
  cases t
 cases t
end
theorem Slc.cells{v:Value}{n:Nat}(h:Slc v n):v.cells= #[v]:=by obtain ⟨_,_,rfl⟩:=h;rfl
theorem Slc.one{v:Value}{n:Nat}(h:Slc v n):v.oneCell'=true:=by obtain ⟨_,_,rfl⟩:=h;rfl
theorem AK:∀u∈([]:List Value),u.oneCell'=true:=λ_ h=>by cases h
theorem Al{u:Value}{a:List Value}(h:u.oneCell'=true)(hs:∀u∈a,u.oneCell'=true):∀x∈u::a,x.oneCell'=true:=λx b=>by
 rcases YL.1 b with rfl|q
 ·exact h
 exact hs x q
theorem rdH.cut{b a n c lo m c':Nat}{xs:List UInt8}{h:Hp}(r:rdH 1 (.slice (some ⟨b,a,none⟩) n c) n (xs.map u8) h)(q:lo+m<=n)(i:m<=c')(s:c'<=c):rdH 1 (.slice (some ⟨b,a+lo,none⟩) m c') m (((xs.drop lo).take m).map u8) h:=by
 obtain ⟨v,o,e,p,w,g,k⟩:=r;cases e;refine ⟨_,_,Z,i,by omega,by simp at g ⊢;omega,λj u d=>?_⟩;have f:(xs.map u8)[lo+j]?=some u:=by
  rw[X9,YB] at d;split at d
  ·rw[YQ] at d;rw[X9];exact d
  cases d
 obtain ⟨t,p',e,l⟩:=k _ _ f;cases e;exact ⟨_,_,Z,by rw[Zt];exact l⟩
theorem rdH.pre{b a n c m c':Nat}{xs:List UInt8}{h:Hp}(r:rdH 1 (.slice (some ⟨b,a,none⟩) n c) n (xs.map u8) h)(e:m<=n)(d:m<=c'/\c'<=c):rdH 1 (.slice (some ⟨b,a,none⟩) m c') m ((xs.take m).map u8) h:=by
 have:=r.cut (lo:=0) (m:=m) (c':=c') U d.1 d.2;simpa using this
theorem rdH.at{b a n c j:Nat}{xs:List UInt8}{x:UInt8}{h:Hp}(r:rdH 1 (.slice (some ⟨b,a,none⟩) n c) n (xs.map u8) h)(f:xs[j]?=some x):celH h b (a+j) (u8 x):=by
 obtain ⟨p,l,e,m,q,k,g⟩:=r;obtain ⟨o,p',d,i⟩:=g j (u8 x) (by rw[X9,f];rfl);cases e;cases d;exact i
theorem Sep.cell4{z w:World}{Γ:List Ai}(i:Nat){A:Ai}(H:Sep z Γ w)(g:Γ[i]?=some A){b a c:Nat}{xs:List UInt8}(e:∀h,A h->rdH 1 (.slice (some ⟨b,a,none⟩) 256 c) 256 (xs.map u8) h){ys:List UInt8}(k:xs.drop 252=ys):∀j u,(ys.map u8)[j]?=some u->EI b (a+252+j) u w:=λj u d=>by
 rw[X9,ZP] at d;obtain ⟨y,f,rfl⟩:=d;have l:xs[252+j]?=some y:=by rw[<-YQ,k];exact f
 have:=H.cell i g (λh q=>(e h q).at l);rwa[<-Zt] at this
theorem rdH.cap{b a n c:Nat}{xs:List UInt8}{h:Hp}(r:rdH 1 (.slice (some ⟨b,a,none⟩) n c) n (xs.map u8) h):n<=c/\c<=9223372036854775807:=by
 obtain ⟨_,_,e,d,f,_⟩:=r;cases e;exact ⟨d,f⟩
theorem rdH.len{v:Value}{n:Nat}{xs:List UInt8}{h:Hp}(r:rdH 1 v n (xs.map u8) h):xs.length=n:=by
 obtain ⟨_,_,_,_,_,q,_⟩:=r;simpa using q
end
theorem FS{z w:World}{Γ:List Ai}(H:Sep z Γ w):Sep z (poolA (λ_=>none)::Γ) w:=H.void λh k o e=>by cases e
theorem Ik{z w:World}{Γ:List Ai}{hq:Hp}{X:Ai}(H:Sep z (poolA hq::X::Γ) w){M:Ai}(d:∀h,X h->M h)(f:∀h h',M h->BC h h'->M h'):∃a,(BC hq a/\M a)/\Sep z (poolA a::Γ) w:=by
 have H1:Sep z (seps [poolA hq,X]::Γ) w:=Sep.shut (As:=[poolA hq,X]) H;exact H1.exAt 0 (σ:=Hp) (p:=λa=>BC hq a/\M a) (B:=λa=>poolA a) Z (λh hs=>by
  refine ⟨h,⟨λk o e=>?_,?_⟩,λk o e=>e⟩
  ·obtain ⟨h',c,b⟩:=D7 hs (i:=0) Z
   exact b _ _ (c _ _ e)
  obtain ⟨h',c,b⟩:=D7 hs (i:=1) Z;exact f _ _ (d _ c) b)
theorem BU{z w:World}{Γ:List Ai}{hq:Hp}{X:Ai}(H:Sep z (poolA hq::X::Γ) w){sz n:Nat}{v:Value}{xs:List Value}(d:∀h,X h->rdH sz v n xs h):∃c,(BC hq c/\rdH sz v n xs c)/\Sep z (poolA c::Γ) w:=
 Ik H d (λ_ _ a b=>a.le b)
structure Img where
 num:Int
 kind:Int
 body:List UInt8
deriving DecidableEq
def Img.Ok(m:Img):Prop:=(0<=m.num/\m.num<=1023)/\(1<=m.kind/\m.kind<=5)/\m.body.length=240
instance(m:Img):Decidable m.Ok:=by unfold Img.Ok;exact inferInstance
abbrev ImE:=Img×Value
def ImE.cells(e:ImE):List Value:=[.int .i64 e.1.num,.int .i64 e.1.kind,e.2]
def Bj(es:List ImE):List Value:=es.flatMap ImE.cells
theorem Ba:∀{es:List ImE} {j:Nat} {e:ImE},es[j]?=some e->∀k u,(ImE.cells e)[k]?=some u->(Bj es)[j*3+k]?=some u
 | x::es,0,e,h,k,u,hk=>by
  simp at h;subst h;have hl:=(XU.1 hk).1;simp only[Bj,YI];rw[Yb U];simpa using hk
 | x::es,j+1,e,h,k,u,hk=>by
  have:=Ba (es:=es) (j:=j) (by simpa using h) k u hk;simp only[Bj,YI] at this ⊢;rw[Ya (by simp[ImE.cells];omega)];rw[show (j+1)*3+k-(ImE.cells x).length=j*3+k from by simp[ImE.cells];omega];exact this
theorem Il(es:List ImE)(e:ImE):Bj es++ImE.cells e=Bj (es++[e]):=by simp[Bj]
def imesOk(es:List ImE)(h:Hp):Prop:=∀e∈es,rdH 1 e.2 e.1.body.length (e.1.body.map u8) h
theorem imesOk.le{es:List ImE}{h h':Hp}(a:imesOk es h)(s:BC h h'):imesOk es h':=λe b=>(a e b).le s
def imgsH(v:Value)(ims:List Img):Ai:=λh=>∃es:List ImE,es.map Prod.fst=ims/\rdH 3 v ims.length (Bj es) h/\imesOk es h
theorem imgsH.le{v:Value}{ims:List Img}{h h':Hp}(a:imgsH v ims h)(s:BC h h'):imgsH v ims h':=by
 obtain ⟨es,b,d,c⟩:=a;exact ⟨es,b,d.le s,c.le s⟩
theorem imgsH.slc{v:Value}{ims:List Img}{h:Hp}(a:imgsH v ims h):∃b c,v=.slice b ims.length c:=by
 obtain ⟨es,e,d,f⟩:=a;exact d.slc
theorem imgsH.small{v:Value}{ims:List Img}{h:Hp}(a:imgsH v ims h):ims.length<=9223372036854775807:=by
 obtain ⟨es,c,b,d⟩:=a;exact b.small

structure Rc where
 seq:Int
 ims:List Img
deriving DecidableEq
abbrev RcE:=Rc×Value
def RcE.cells(e:RcE):List Value:=[.int .i64 e.1.seq,e.2]
def DQ(es:List RcE):List Value:=es.flatMap RcE.cells
theorem DF:∀{es:List RcE} {j:Nat} {e:RcE},es[j]?=some e->∀k u,(RcE.cells e)[k]?=some u->(DQ es)[j*2+k]?=some u
 | x::es,0,e,h,k,u,hk=>by
  simp at h;subst h;have hl:=(XU.1 hk).1;simp only[DQ,YI];rw[Yb U];simpa using hk
 | x::es,j+1,e,h,k,u,hk=>by
  have:=DF (es:=es) (j:=j) (by simpa using h) k u hk;simp only[DQ,YI] at this ⊢;rw[Ya (by simp[RcE.cells];omega)];rw[show (j+1)*2+k-(RcE.cells x).length=j*2+k from by simp[RcE.cells];omega];exact this
theorem K4(es:List RcE)(e:RcE):DQ es++RcE.cells e=DQ (es++[e]):=by simp[DQ]
def rcesOk(es:List RcE)(h:Hp):Prop:=∀e∈es,imgsH e.2 e.1.ims h
theorem rcesOk.le{es:List RcE}{h h':Hp}(a:rcesOk es h)(s:BC h h'):rcesOk es h':=λe b=>(a e b).le s
def recsH(v:Value)(rs:List Rc):Ai:=λh=>∃es:List RcE,es.map Prod.fst=rs/\rdH 2 v rs.length (DQ es) h/\rcesOk es h
theorem recsH.slc{v:Value}{rs:List Rc}{h:Hp}(a:recsH v rs h):∃b c,v=.slice b rs.length c:=by
 obtain ⟨es,e,d,f⟩:=a;exact d.slc

def BP(sec:List UInt8):Int:=AZ ((sec.drop 4).take 8)
def BQ(sec:List UInt8):Int:=AZ ((sec.drop 12).take 8)
def CO(sec:List UInt8):UInt32:=Dr (AZ ((sec.drop 20).take 4))
def Ew(sec:List UInt8):Int:=AZ ((sec.drop 3).take 4)
def Ex(sec:List UInt8):Int:=AZ ((sec.drop 7).take 5)
def BK(sec:List UInt8):Img:=⟨AZ ((sec.drop 1).take 2),AZ (sec.take 1),(sec.drop 12).take 240⟩
def ringAt(s:Sup)(x:Int):Nat:=(s.start+x%s.len).toNat
def nextP(f:Nat->List UInt8)(e sq room:Int)(ims:List Img):Prop:=
 GJ (f 0)/\BP (f 0)=e/\BQ (f 0)=sq/\1+(Bc (f 0):Int)<=room/\
 ims=(List.range (Bc (f 0))).map (λj=>BK (f (1+j)))/\
 (∀j,j<Bc (f 0)->G9 (f (1+j))/\Ew (f (1+j))=e/\Ex (f (1+j))=sq/\(BK (f (1+j))).num=Dx (f 0) j)/\
 Au ((List.range (Bc (f 0))).flatMap λj=>f (1+j))=CO (f 0)
theorem rdH.sl{sz:Nat}{v:Value}{n:Nat}{xs:List Value}{h:Hp}(r:rdH sz v n xs h)(a:0<xs.length):∃b o c,v=.slice (some ⟨b,o,none⟩) n c:=by
 obtain ⟨g,c,e,_,_,_,d⟩:=r;obtain ⟨b,p,f,_⟩:=d 0 xs[0] (XV a);subst f;exact ⟨b,p,c,e⟩
theorem DG{g a:Nat}{sec:List UInt8}{rest:List Value}{t:TypeId}{h:Hp}(q:blk g (sec.map u8++rest) t h){k:Nat}(c:sec.length=k)(b:k<=a/\a<=9223372036854775807/\rest.length=a-k):rdH 1 (.slice (some ⟨g,0,none⟩) k a) k (sec.map u8) h:=by
 refine q.rd b.1 b.2.1 (by simp;omega) ?_;rw[Yl,YR,X7 (by simp;omega),XZ (by simp;omega)]
def Dk(F:Nat->List UInt8)(i:Nat):List UInt8:=(List.range i).flatMap λj=>F (1+j)
theorem OS(F:Nat->List UInt8)(i:Nat):Dk F i++F (1+i)=Dk F (i+1):=by simp[Dk,ZN]
theorem QP(F:Nat->List UInt8)(i:Nat):C7 (Au (Dk F i)) (F (1+i))=Au (Dk F (i+1)):=by
 unfold Au;rw[JD,OS]
theorem XC(F:Nat->List UInt8):Value.int .u32 0=u32 (Au (Dk F 0)):=by
 have:Au (Dk F 0)=0:=by show Au []=0;decide
 rw[this];rfl
def BT(n:Nat):Dsk:=⟨n,λ_=>List.replicate 256 0,λ_=>[],0,0,0,false,0⟩
theorem TF{n:Nat}(h:1<=n/\n<=4096):(BT n).Ok:=⟨h.1,h.2,λ_ _=>by simp[BT],λ_ _ p hp=>by simp[BT] at hp,by simp[BT],by simp[BT],by simp[BT],by simp[BT]⟩
theorem TG{n:Nat}:(BT n).In (List.replicate (n*256) 0) [] 0 (λ_=>none):=by
 refine ⟨by simp[BT],λi b=>?_,λe a=>absurd a O,λi _ h=>by simp[BT] at h,by simp,by simp,λe a=>absurd a O⟩;simp only[BT] at b ⊢;rw[ZJ,List.take_replicate];congr 1;omega
theorem diskA.f1{D:Dsk}(h:D.f1=0): {D with f1:=AO D.f1} =D:=by
 cases D;simp at h;subst h;rfl

theorem Sep.tri{z w:World}{A B C:List Ai}(H:Sep z (A++(B++C)) w):Sep z (A++(C++B)) w:=by
 have m:Sep z ([seps A]++(B++C)) w:=H.shut;have j:Sep z (B++(C++[seps A])) w:=by rw[<-X1];exact m.swap
 have n:Sep z ([seps B]++(C++[seps A])) w:=j.shut;have f:Sep z (C++([seps A]++[seps B])) w:=by rw[<-X1];exact n.swap
 have l:Sep z [seps C,seps A,seps B] w:=f.shut;have h:Sep z ([seps B]++[seps A,seps C]) w:=l.pick 3 [2,1,0] Z;have i:Sep z (B++[seps A,seps C]) w:=h.opened;have g:Sep z ([seps A]++([seps C]++B)) w:=i.swap;have k:Sep z (A++([seps C]++B)) w:=g.opened;have b:Sep z ([seps C]++(B++A)) w:=by rw[<-X1];exact k.swap
 have c:Sep z (C++(B++A)) w:=b.opened;have e:Sep z ((B++A)++C) w:=c.swap;have d:Sep z (B++(A++C)) w:=by rw[<-X1];exact e
 have a:Sep z ((A++C)++B) w:=d.swap;rwa[X1] at a
def dkB(pd bd m:Nat)(D:Dsk)(f0:Int):Ai:=blk pd [.slice (some ⟨bd,0,none⟩) (D.n*256) (D.n*256),.map (some m),.int .i64 f0,.int .i64 D.f1,.int .i64 D.f2,.int .i64 D.f3,.bool D.cut,.int .i64 D.left] 106
theorem Cn.onDisk{P:Program}{f:FuncId}{args:List Value}{pre:List Ai}{pd:Nat}{D:Dsk}{post:Value->List Ai->Prop}
  (h:D.Ok->∀bd m f0,Cn P f args (dkB pd bd m D f0::pre) (λv G=>∃Γ',post v Γ'/\G=Γ'++[dkB pd bd m D f0])):
  Cn P f args (diskA pd D::pre) (λv G=>∃Γ',post v Γ'/\G=Γ'++[diskA pd D]):=λz R w H=>by
 have H0:Sep z (diskA pd D::(pre++R)) w:=H;obtain ⟨bd,m,f0,bs,es,clk,hq,b,a,H1⟩:=H0.disk;have H2:Sep z ([dkB pd bd m D f0]++((DY pd bd m D f0 bs es clk hq).drop 1++(pre++R))) w:=H1;have H3:Sep z ((dkB pd bd m D f0::pre)++(R++(DY pd bd m D f0 bs es clk hq).drop 1)) w:=by
  have:=H2.tri;rw[X1] at this;exact this
 refine Ret.mono (h b bd m f0 z _ w H3) ?_;rintro v w' ⟨Γ,⟨Γ',hp,rfl⟩,H4⟩;refine ⟨Γ'++[diskA pd D],⟨Γ',hp,Z⟩,?_⟩;rw[X1] at H4;have H5:Sep z ([dkB pd bd m D f0]++(R++((DY pd bd m D f0 bs es clk hq).drop 1++Γ'))) w':=by
  have:=H4.swap;rw[X1,X1] at this;exact this
 have H6:Sep z (DY pd bd m D f0 bs es clk hq++(Γ'++R)) w':=by
  have:=H5.tri;rw[X1] at this;exact this
 have H7:Sep z ([diskA pd D]++(Γ'++R)) w':=Sep.toDisk H6 b a;have H8:Sep z (Γ'++(R++[diskA pd D])) w':=by
  have:=H7.swap;rw[X1] at this;exact this
 have H9:=H8.tri;rw[<-X1] at H9;exact H9

def GK:List Int->Nat->List IE
 | [],_=>[]
 | k::ks,n=>(k,.bool true,n)::GK ks (n+1)
def seen(ns:List Int):List IE:=GK ns 0
theorem Ha:∀(ns:List Int) (n:Nat) (k:Int),Ck (GK ns n) k=if k∈ns then some (.bool true) else none
 | [],n,k=>rfl
 | x::xs,n,k=>by
  simp only[GK,Ck,Ha xs];by_cases h:k=x
  ·simp[h]
  by_cases h2:k∈xs
  ·simp[h,h2]
  simp[h,h2]
theorem QQ(ns:List Int)(k:Int):(Ck (seen ns) k).getD (.bool false)=.bool (decide (k∈ns)):=by
 unfold seen;rw[Ha];split
 ·rename_i h;simp[h]
 rename_i h;simp[h]
theorem I1:∀(ns:List Int) (n:Nat) (k:Int),GK (ns++[k]) n=GK ns n++[(k,.bool true,n+ns.length)]
 | [],n,k=>rfl
 | x::xs,n,k=>by
  simp only[Zw,GK,I1 xs,XY];rw[show n+1+xs.length=n+(xs.length+1) from by omega]
theorem QR{ns:List Int}{k:Int}(h:k∉ns):D6 (seen ns) k (.bool true) ns.length=seen (ns++[k])/\putC (seen ns) k ns.length=(ns++[k]).length:=by
 have:Cd (seen ns) k=false:=by unfold Cd seen;rw[Ha,if_neg h];rfl
 constructor
 ·unfold D6;rw[this];unfold seen;rw[I1];simp
 unfold putC;rw[this];simp
def imA(A:Ai)(v:Value)(es:List ImE):Ai:=λh=>A h/\rdH 3 v es.length (Bj es) h/\imesOk es h
theorem Sep.imA{z w:World}{Γ:List Ai}(i:Nat){A:Ai}(H:Sep z Γ w)(f:Γ[i]?=some A){v:Value}{ims:List Img}(b:∀h,A h->imgsH v ims h):∃es:List ImE,es.map Prod.fst=ims/\Sep z (Γ.set i (YthbbejpbkglmlaaGreatDoor.imA A v es)) w:=
 H.exAt i (p:=λes:List ImE=>es.map Prod.fst=ims) (B:=λes=>YthbbejpbkglmlaaGreatDoor.imA A v es) f (λh a=>by
  obtain ⟨es,d,c,e⟩:=b h a;subst d;exact ⟨es,Z,a,by simpa using c,e⟩)
theorem imA.at{A:Ai}{a:Option Addr}{n c:Nat}{es:List ImE}{j:Nat}{e:ImE}{z w:World}{Γ:List Ai}(i:Nat)(H:Sep z Γ w)(o:Γ[i]?=some (imA A (.slice a n c) es))(l:es[j]?=some e):∀k u,(ImE.cells e)[k]?=some u->At a (j*3+k) u w:=λk u f=>by
 have g:=H.rd i o (λh q=>q.2.1);obtain ⟨m,c',d,_,_,_,b⟩:=g;cases d;exact b _ _ (Ba l k u f)
def Ey(ims:List Img):List Value:=ims.map λm=>.int .i64 m.num
theorem QS{ims:List Img}{i:Nat}{m:Img}(h:ims[i]?=some m):Ey (ims.take i)++[Aa m.num]=Ey (ims.take (i+1)):=by
 rw[Yd,h];simp[Ey]
theorem TH(ims:List Img):Ey ims=(ims.map Img.num).map Aa:=by simp[Ey]
def A5(e sq:Int)(m:Img):List UInt8:=Ad 1 m.kind++Ad 2 m.num++Ad 4 e++Ad 5 sq++m.body
def AD(e sq:Int)(ims:List Img):List UInt8:=ims.flatMap λm=>sect (A5 e sq m)
theorem E4{e sq:Int}{ims:List Img}{i:Nat}{m:Img}(h:ims[i]?=some m):AD e sq (ims.take i)++sect (A5 e sq m)=AD e sq (ims.take (i+1)):=by
 rw[Yd,h];simp[AD]
def Bt(e sq:Int)(ims:List Img):List UInt8:=[80,76,79,71]++Ad 8 e++Ad 8 sq++Ad 4 ((Au (AD e sq ims)).toNat:Int)++Ad 2 ((ims.map Img.num).length:Int)++(ims.map Img.num).flatMap (Ad 4)
theorem CI{e sq:Int}{m:Img}(h:m.body.length=240):(A5 e sq m).length=252:=by simp[A5,Ac,h]
theorem Dy{e sq:Int}:∀{ims:List Img},(∀m∈ims,m.Ok)->(AD e sq ims).length=ims.length*256
 | [],_=>rfl
 | m::ims,h=>by
  have h1:=Dy (e:=e) (sq:=sq) (ims:=ims) (λm a=>h m (by simp[a]));have b:=sect_len (l:=A5 e sq m) (by rw[CI (h m O).2.2];omega);simp only[AD,YI,XX,XY] at h1 ⊢;rw[h1,b];omega
def A7(e sq:Int)(ims:List Img):List (List UInt8):=sect (Bt e sq ims)::ims.map λm=>sect (A5 e sq m)
theorem OT(e sq:Int)(ims:List Img):sect (Bt e sq ims)++AD e sq ims=(A7 e sq ims).flatten:=by
 simp[A7,AD,List.flatMap]
theorem hdL_len(e sq:Int)(ims:List Img):(Bt e sq ims).length=26+4*ims.length:=by
 simp[Bt,Ac,BD,-List.length_flatMap];omega
theorem I2{ims:List Img}{i:Nat}{m:Img}(h:(ims.map Img.num).Nodup)(a:ims[i]?=some m)(c:m.num∈(ims.take i).map Img.num):False:=by
 have b:=(XU.1 a).1;rw[<-YO i ims,Yi,Y6] at h;refine h.2.2 _ c m.num ?_ Z;rw[ZE b,(XU.1 a).2];simp
def DH(ims:List Img):Prop:=(∀m∈ims,m.Ok)/\(ims.map Img.num).Nodup

def Dsk.wf(D:Dsk):Dsk:= {D with f2:=AO D.f2}
def Dsk.wr(D:Dsk)(x:Nat)(ps:List (List UInt8)):Dsk:= {Dsk.ws {D with f2:=AO D.f2} false x ps with left:=max 0 (D.left-1)}
def Dsk.bad(D:Dsk):Prop:=D.f2=1\/(D.cut=true/\D.left=0)
theorem Dsk.wr_n(D:Dsk)(x:Nat)(ps:List (List UInt8)):(D.wr x ps).n=D.n:=Dsk.ws_n _ _ _ _
theorem Dsk.ws_len(ps:List (List UInt8)):∀(D:Dsk) (i j:Nat),((D.ws false i ps).ver j).length<=(D.ver j).length+1:=by
 induction ps with
 | nil=>intro D i j;simp[Dsk.ws]
 | cons q qs ih=>
  intro D i j;rcases Yg i j with h|h
  ·have:=ih (D.w1 false i q) (i+1) j
   rw[Dsk.w1_ver _ _ _ U] at this;exact this
  simp only[Dsk.ws];rw[Dsk.ws_ver _ _ _ _ _ (.inl U)];show ((By D.ver i (D.ver i++[q])) j).length<=_;unfold By;split
  ·rename_i e;subst e;simp
  omega
theorem Dsk.wr_len(D:Dsk)(x:Nat)(ps:List (List UInt8))(j:Nat):((D.wr x ps).ver j).length<=(D.ver j).length+1:=Dsk.ws_len ps {D with f2:=AO D.f2} x j
theorem OU{ps:List (List UInt8)}(h:∀p∈ps,p.length=256):∀k,(ps.take k).flatten=ps.flatten.take (k*256):=by
 induction ps with
 | nil=>intro k;simp
 | cons q qs ih=>
  intro k
  cases k with
  | zero=>simp
  | succ k=>
   have hq:=h q O;rw[Zg,Zs,Zs,ih (λp hp=>h p (by simp[hp])),ZV,XZ (l:=q) U];rw[show (k+1)*256-q.length=k*256 from by omega]
theorem OV{ps:List (List UInt8)}(h:∀p∈ps,p.length=256):∀k,(ps.drop k).flatten=ps.flatten.drop (k*256):=by
 induction ps with
 | nil=>intro k;simp
 | cons q qs ih=>
  intro k
  cases k with
  | zero=>simp
  | succ k=>
   have hq:=h q O;rw[Zh,Zs,ih (λp hp=>h p (by simp[hp])),Yy,Yj (l:=q) U,Ym];rw[show (k+1)*256-q.length=k*256 from by omega]
theorem QT{ps:List (List UInt8)}(h:∀p∈ps,p.length=256):ps.flatten.length=ps.length*256:=by
 induction ps with
 | nil=>rfl
 | cons q qs ih=>
  have hq:=h q O;rw[Zs,XX,ih (λp hp=>h p (by simp[hp])),XY];omega
theorem TI{e sq:Int}{ims:List Img}(h:∀m∈ims,m.Ok)(b:ims.length<=40):(∀p∈A7 e sq ims,p.length=256)/\(A7 e sq ims).length=1+ims.length:=by
 refine ⟨λp hp=>?_,by simp[A7];omega⟩;rcases YL.1 hp with rfl|hp
 ·exact sect_len (by rw[hdL_len];omega)
 obtain ⟨m,a,rfl⟩:=X5.1 hp;exact sect_len (YU (CI (h m a).2.2))
theorem grow.rdB{e:TypeId}{b n c:Nat}{xs:List UInt8}{h:Hp}(q:grow e 1 (.slice (some ⟨b,0,none⟩) n c) n (xs.map u8) h):rdH 1 (.slice (some ⟨b,0,none⟩) n c) n (xs.map u8) h:=q.rd
theorem grow.sl{e:TypeId}{sz n:Nat}{v:Value}{xs:List Value}{h:Hp}(q:grow e sz v n xs h)(f:0<n):∃b c,v=.slice (some ⟨b,0,none⟩) n c/\n<=c/\c<=9223372036854775807:=by
 have a:=q.rd;rcases q.form with ⟨_,rfl⟩|⟨b,c,rfl,h⟩
 ·omega
 obtain ⟨_,_,e,_,d,_⟩:=a;cases e;exact ⟨b,c,Z,h,d⟩

def Cr(D:Dsk)(s:Sup)(a:Int):Nat->List UInt8:=λj=>D.cont (ringAt s (a+j))
inductive Runs(D:Dsk)(s:Sup):Int->Int->Int->List Rc->Int->Int->Int->Prop
 | nil (a q u:Int):Runs D s a q u [] a q u
 | snoc {a q u a' q' u':Int} {rs:List Rc} {ims:List Img} :Runs D s a q u rs a' q' u'->u'<s.len->nextP (Cr D s a') s.epoch q' (s.len-u') ims->Runs D s a q u (rs++[⟨q',ims⟩]) ((a'+(1+(ims.length:Int)))%s.len) (q'+1) (u'+(1+(ims.length:Int)))
theorem nextP.len{f:Nat->List UInt8}{e sq a:Int}{ims:List Img}(h:nextP f e sq a ims):1<=ims.length/\ims.length<=40/\1+(ims.length:Int)<=a:=by
 obtain ⟨c,_,_,d,b,_⟩:=h;have g:=c.2.2.2.1;have:ims.length=Bc (f 0):=by rw[b];simp
 omega
section
theorem CD{k:Nat}{x:Int}(b:0<=x)(d:x<9223372036854775808)(c:x<256^k):AZ (Ad k x)=x:=by
 obtain ⟨n,rfl⟩:=ZK b;have a:DE (Ad k (n:Int))=n:=TB k (by exact_mod_cast c);unfold AZ;rw[a];exact Y1 _ U
theorem GT(a b c:List UInt8){p k:Nat}(hp:p=a.length)(d:k=b.length):((a++b++c).drop p).take k=b:=by
 subst hp d;rw[X1,Aat Z,YJ Z]
theorem QU(ns:List Int):∀{j:Nat} {x:Int},ns[j]?=some x->((ns.flatMap (Ad 4)).drop (4*j)).take 4=Ad 4 x:=by
 induction ns with
 | nil=>intro j x h;simp at h
 | cons y ys ih=>
  intro j x h
  cases j with
  | zero=>
   simp at h;subst h;rw[YI,Aav,Yl,YJ (Ac 4 y)]
  | succ j=>
   rw[YI,show 4*(j+1)=(Ad 4 y).length+4*j from by rw[Ac];omega,Yy];rw[Yj U,Ym,show (Ad 4 y).length+4*j-(Ad 4 y).length=4*j from by omega];exact ih (by simpa using h)
variable{e sq:Int}{ims:List Img}
theorem K5(e sq:Int)(ims:List Img):Bt e sq ims=[80,76,79,71]++Ad 8 e++(Ad 8 sq++Ad 4 ((Au (AD e sq ims)).toNat:Int)++Ad 2 ((ims.map Img.num).length:Int)++(ims.map Img.num).flatMap (Ad 4)):=by
 simp[Bt]
theorem NE(b:ims.length<=40)(h:0<=e/\e<=1099511627776):BP (sect (Bt e sq ims))=e:=by
 have a:=hdL_len e sq ims;unfold BP;rw[BB U U,K5,GT _ _ _ O (by simp[Ac])];exact CD h.1 U U
theorem NF(b:ims.length<=40)(h:0<=sq/\sq<=1099511627776):BQ (sect (Bt e sq ims))=sq:=by
 have a:=hdL_len e sq ims;unfold BQ;rw[BB U U,show Bt e sq ims=([80,76,79,71]++Ad 8 e)++Ad 8 sq++(Ad 4 ((Au (AD e sq ims)).toNat:Int)++Ad 2 ((ims.map Img.num).length:Int)++(ims.map Img.num).flatMap (Ad 4)) from by simp[Bt],GT _ _ _ (by simp[Ac]) (by simp[Ac])];exact CD h.1 U U
theorem Vu(b:ims.length<=40):CO (sect (Bt e sq ims))=Au (AD e sq ims):=by
 have a:=hdL_len e sq ims;have c:=(Au (AD e sq ims)).toNat_lt;unfold CO;rw[BB U U,show Bt e sq ims=([80,76,79,71]++Ad 8 e++Ad 8 sq)++Ad 4 ((Au (AD e sq ims)).toNat:Int)++(Ad 2 ((ims.map Img.num).length:Int)++(ims.map Img.num).flatMap (Ad 4)) from by simp[Bt],GT _ _ _ (by simp[Ac]) (by simp[Ac])];rw[CD U U U];exact Ve _
theorem K6(b:ims.length<=40):Bc (sect (Bt e sq ims))=ims.length:=by
 have a:=hdL_len e sq ims;unfold Bc;rw[BB U U,show Bt e sq ims=([80,76,79,71]++Ad 8 e++Ad 8 sq++Ad 4 ((Au (AD e sq ims)).toNat:Int))++Ad 2 ((ims.map Img.num).length:Int)++((ims.map Img.num).flatMap (Ad 4)) from by simp[Bt],GT _ _ _ (by simp[Ac]) (by simp[Ac])];rw[X8,CD U U U];rfl
theorem QV(g:ims.length<=40){j:Nat}{m:Img}(b:ims[j]?=some m)(c:m.Ok):Dx (sect (Bt e sq ims)) j=m.num:=by
 have d:=hdL_len e sq ims;have f:=(XU.1 b).1;unfold Dx;rw[BB U U,show Bt e sq ims=([80,76,79,71]++Ad 8 e++Ad 8 sq++Ad 4 ((Au (AD e sq ims)).toNat:Int)++Ad 2 ((ims.map Img.num).length:Int))++((ims.map Img.num).flatMap (Ad 4)) from by simp[Bt]];have a:([80,76,79,71]++Ad 8 e++Ad 8 sq++Ad 4 ((Au (AD e sq ims)).toNat:Int)++Ad 2 ((ims.map Img.num).length:Int)).length=26:=by simp only[XX,Ac];rfl
 rw[Yy,Yj (by rw[a];omega),Ym,a,show 26+4*j-26=4*j from by omega];rw[QU _ (x:=m.num) (by simp[b])];have:=c.1;exact CD U U U
theorem Vv(b:1<=ims.length/\ims.length<=40)(i:0<=e/\e<=1099511627776)(hs:0<=sq/\sq<=1099511627776)(a:∀m∈ims,m.Ok):GJ (sect (Bt e sq ims)):=by
 have f:=hdL_len e sq ims;have g:=NE (sq:=sq) b.2 i;have h:=NF (e:=e) b.2 hs;have d:=K6 (e:=e) (sq:=sq) b.2;unfold BP at g;unfold BQ at h;refine ⟨⟨GI U,?_⟩,by rw[g];exact i,by rw[h];exact hs,by rw[d];exact b,λj c=>?_,?_⟩
 ·have:=BB (l:=Bt e sq ims) U (p:=0) (k:=4) U
  rw[Yl,Yl] at this;rw[this,K5,X1];rfl
 ·rw[d] at c
  have n:=XV c;rw[QV b.2 n (a _ (Zx c))];exact (a _ (Zx c)).1
 rw[d,<-f];exact Kf U
theorem K7(e sq:Int)(m:Img):A5 e sq m=Ad 1 m.kind++Ad 2 m.num++(Ad 4 e++Ad 5 sq++m.body):=by simp[A5]
theorem I3{m:Img}(a:m.Ok)(o:0<=e/\e<4294967296)(hs:0<=sq/\sq<1099511627776):G9 (sect (A5 e sq m))/\Ew (sect (A5 e sq m))=e/\Ex (sect (A5 e sq m))=sq/\BK (sect (A5 e sq m))=m:=by
 have g:=a.2.2;have n:=CI (e:=e) (sq:=sq) g;have h:=a.1;have i:=a.2.1;have c:AZ ((sect (A5 e sq m)).take 1)=m.kind:=by
  have:=BB (l:=A5 e sq m) U (p:=0) (k:=1) U;rw[Yl,Yl] at this;rw[this,K7,X1,YJ (by rw[Ac])];exact CD U U U
 have b:AZ (((sect (A5 e sq m)).drop 1).take 2)=m.num:=by
  rw[BB U U,K7,GT _ _ _ (by simp[Ac]) (by simp[Ac])];exact CD U U U
 have j:AZ (((sect (A5 e sq m)).drop 3).take 4)=e:=by
  rw[BB U U,show A5 e sq m=(Ad 1 m.kind++Ad 2 m.num)++Ad 4 e++(Ad 5 sq++m.body) from by simp[A5],GT _ _ _ (by simp[Ac]) (by simp[Ac])];exact CD U U U
 have d:AZ (((sect (A5 e sq m)).drop 7).take 5)=sq:=by
  rw[BB U U,show A5 e sq m=(Ad 1 m.kind++Ad 2 m.num++Ad 4 e)++Ad 5 sq++m.body from by simp[A5],GT _ _ _ (by simp[Ac]) (by simp[Ac])];exact CD U U U
 have f:((sect (A5 e sq m)).drop 12).take 240=m.body:=by
  rw[BB U U,show A5 e sq m=(Ad 1 m.kind++Ad 2 m.num++Ad 4 e++Ad 5 sq)++m.body++[] from by simp[A5],GT _ _ _ (by simp[Ac]) U]
 refine ⟨⟨GI U,by rw[c];exact i,by rw[b];exact h⟩,j,d,?_⟩;unfold BK;rw[c,b,f]
theorem K8{F:Nat->List UInt8}{h:Int}(k:1<=ims.length/\ims.length<=40)(f:∀m∈ims,m.Ok)(r:0<=e/\e<4294967296)(hs:0<=sq/\sq<1099511627776)(t:1+(ims.length:Int)<=h)
  (s:∀(j:Nat) (p:List UInt8),(A7 e sq ims)[j]?=some p->F j=p):nextP F e sq h ims:=by
 have g:F 0=sect (Bt e sq ims):=s 0 _ Z;have l:=K6 (e:=e) (sq:=sq) k.2;have n:∀j (i:j<ims.length),F (1+j)=sect (A5 e sq ims[j]):=λj i=>s (1+j) _ (by
  rw[ZS];simp[A7,i])
 refine ⟨?_,?_,?_,?_,?_,?_,?_⟩
 ·rw[g];exact Vv k U U f
 ·rw[g];exact NE k.2 U
 ·rw[g];exact NF k.2 U
 ·rw[g,l];exact t
 ·rw[g,l]
  apply Aak
  ·simp
  intro j o q;simp only[AaP,List.getElem_range];rw[n j o,(I3 (f _ (Zx o)) r hs).2.2.2]
 ·intro j i
  rw[g,l] at i;obtain ⟨a,b,c,d⟩:=I3 (f _ (Zx i)) r hs;rw[n j i];refine ⟨a,b,c,?_⟩;rw[d,g,QV k.2 (XV i) (f _ (Zx i))]
 rw[g,l,Vu k.2];congr 1;unfold AD;rw[List.flatMap_def,List.flatMap_def];congr 1;apply Aak
 ·simp
 intro j o q;simp only[AaP,List.getElem_range];exact n j (by simpa using q)
end
theorem TJ(ps:List (List UInt8)):∀(D:Dsk) (x i:Nat),(D.ws false x ps).cont i=(if x<=i then ps[i-x]? else none).getD (D.cont i):=by
 induction ps with
 | nil=>intro D x i;simp[Dsk.ws]
 | cons q qs ih=>
  intro D x i;simp only[Dsk.ws];rw[ih];have a:(D.w1 false x q).cont i=if i=x then q else D.cont i:=by
   show ((By D.ver x (D.ver x++[q])) i).getLast?.getD (D.dur i)=_;unfold By;split
   ·rename_i h;subst h;simp
   rfl
  rw[a];rcases Zq i x with h|h|h
  ·rw[if_neg (show ¬x+1<=i by omega),if_neg (show ¬i=x by omega),if_neg (show ¬x<=i by omega)]
  ·subst h
   rw[if_neg (show ¬i+1<=i by omega),if_pos Z,if_pos (Yo i),AaR];rfl
  rw[if_pos (show x+1<=i by omega),if_neg (show ¬i=x by omega),if_pos (show x<=i by omega),show i-x=(i-(x+1))+1 from by omega,Yq]
theorem wr_cont(ps:List (List UInt8))(D:Dsk)(x i:Nat):(D.wr x ps).cont i=(if x<=i then ps[i-x]? else none).getD (D.cont i):=TJ ps {D with f2:=AO D.f2} x i

theorem ring_low{s:Sup}{a:Int}{j:Nat}(hs:0<=s.start)(b:0<=a)(h:a+j<s.len):ringAt s (a+j)=(s.start+a).toNat+j:=by
 unfold ringAt;rw[YZ U h];omega
theorem ring_high{s:Sup}{a:Int}{j:Nat}(hs:0<=s.start)(b:s.len<=a+j)(h:a+j<s.len+s.len):ringAt s (a+j)=s.start.toNat+(a+j-s.len).toNat:=by
 unfold ringAt;rw[<-Int.sub_emod_right (a+j) s.len,YZ U U];omega
theorem Im{s:Sup}(a b:Int):ringAt s (a%s.len+b)=ringAt s (a+b):=by
 unfold ringAt;rw[AaJ]
theorem GL{s:Sup}{h:Int}{i j:Nat}(hs:0<=s.start)(c:0<=h/\h<s.len)(d:(i:Int)<s.len)(f:(j:Int)<s.len)(e:ringAt s (h+i)=ringAt s (h+j)):i=j:=by
 rcases Int.lt_or_le (h+i) s.len with a|a<;>rcases Int.lt_or_le (h+j) s.len with b|b
 ·rw[ring_low hs c.1 a,ring_low hs c.1 b] at e;omega
 ·rw[ring_low hs c.1 a,ring_high hs b U] at e;omega
 ·rw[ring_high hs a U,ring_low hs c.1 b] at e;omega
 rw[ring_high hs a U,ring_high hs b U] at e;omega
def D8(D:Dsk)(s:Sup)(a:Int)(k:Nat)(ps:List (List UInt8)):Dsk:=if k<ps.length then (D.wr (s.start+a).toNat (ps.take k)).wr s.start.toNat (ps.drop k) else D.wr (s.start+a).toNat (ps.take k)
theorem TK{D:Dsk}{s:Sup}{a:Int}{k:Nat}{ps:List (List UInt8)}(hs:0<=s.start)(e:0<=a/\a<s.len)(i:(ps.length:Int)<=s.len)(g:(k:Int)=min (ps.length:Int) (s.len-a)){j:Nat}{p:List UInt8}(c:ps[j]?=some p):(D8 D s a k ps).cont (ringAt s (a+j))=p:=by
 have f:=(XU.1 c).1;rcases Yg j k with h|h
 ·have b:ringAt s (a+j)=(s.start+a).toNat+j:=ring_low hs e.1 U
  have d:(D.wr (s.start+a).toNat (ps.take k)).cont ((s.start+a).toNat+j)=p:=by
   rw[wr_cont,if_pos U,show (s.start+a).toNat+j-(s.start+a).toNat=j from by omega,YB,if_pos h,c];rfl
  unfold D8;split
  ·rw[b,wr_cont]
   have:(if s.start.toNat<=(s.start+a).toNat+j then (ps.drop k)[(s.start+a).toNat+j-s.start.toNat]? else none)=none:=by
    rw[if_pos U];exact Yp (by rw[Yv];omega)
   rw[this];exact d
  rw[b];exact d
 have b:ringAt s (a+j)=s.start.toNat+(a+j-s.len).toNat:=ring_high hs U U;unfold D8;rw[if_pos U,b,wr_cont,if_pos U,show s.start.toNat+(a+j-s.len).toNat-s.start.toNat=j-k from by omega,YQ,show k+(j-k)=j from by omega,c];rfl
theorem app_old{D:Dsk}{s:Sup}{a:Int}{k:Nat}{ps:List (List UInt8)}(hs:0<=s.start)(d:0<=a/\a<s.len)(g:(ps.length:Int)<=s.len)(f:(k:Int)=min (ps.length:Int) (s.len-a)){i:Nat}(c:∀j:Nat,j<ps.length->i≠ringAt s (a+j)):(D8 D s a k ps).cont i=D.cont i:=by
 have b:(D.wr (s.start+a).toNat (ps.take k)).cont i=D.cont i:=by
  rw[wr_cont];split
  ·rename_i h
   rw[Yp];rfl;rw[X2];rcases Yg (i-(s.start+a).toNat) (min k ps.length) with q|q
   ·exact absurd (by rw[ring_low hs d.1 U];omega) (c (i-(s.start+a).toNat) U)
   exact q
  rfl
 unfold D8;split
 ·rw[wr_cont]
  split
  ·rename_i e h
   rw[Yp];exact b;rw[Yv];rcases Yg (i-s.start.toNat) (ps.length-k) with q|q
   ·exact absurd (by rw[ring_high hs U U];omega) (c (k+(i-s.start.toNat)) U)
   exact q
  exact b
 exact b

theorem QW{F:Nat->List UInt8}{e sq c:Int}{a b:List Img}(d:nextP F e sq c a)(f:nextP F e sq c b):a=b:=by
 rw[d.2.2.2.2.1,f.2.2.2.2.1]
theorem Runs.pos{D:Dsk}{s:Sup}{h b:Int}{rs:List Rc}{a q u:Int}(c:0<=h/\h<s.len)(r:Runs D s h b 0 rs a q u):a=(h+u)%s.len/\q=b+rs.length/\0<=u/\u<=s.len/\(rs.length:Int)<=u:=by
 induction r with
 | nil=>exact ⟨by rw[AaS,YZ c.1 c.2],by simp,by omega,by omega,by simp⟩
 | snoc r hlt hn ih=>
  obtain ⟨e,d,j,f,i⟩:=ih;have g:=hn.len;refine ⟨?_,by rw[d];simp;omega,by omega,by omega,by simp;omega⟩;rw[e,AaJ,Int.add_assoc]
theorem Ki:¬GJ (List.replicate 256 0):=λh=>by
 have:=h.1.2;simp at this
end Go.Proofs.YthbbejpbkglmlaaGreatDoor
