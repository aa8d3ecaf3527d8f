/-
  Steps to: Law VolumesPast: snapshots keep the past. No condition.
-/
import Derived.Test.YtemljpjnhjnncaaGreatDoorCards
import Derived.Test.YtemljpjnhjnncaaGreatDoorTie
import Derived.WalkKit
import Derived.WalkSpells
import Derived.Deep.Quiet
import Derived.KernelRfl
import Derived.IntWalk
import Derived.Maps.AppendAt
import Derived.Laws.AppendOwnNone
import Derived.Laws.CopyRow
import Derived.StillTail
import Derived.Deep.RegionHeld
import Derived.Laws.IdiomStrings
import Derived.Laws.BytesArg
import Derived.Laws.OwnMore
import Derived.Lib.Strings
import Derived.ArgAppend
import Derived.Test.YtemljpjnhjnncaaGreatDoorRows
import Derived.RangeFuncLeaves
import Derived.RangeFuncRecord
import Derived.RangeFuncCalls
import Derived.RangeFuncSeq
import Derived.OrdersIn
import Derived.TacticsIn
import Derived.Laws.IdiomRangeMap
import Derived.Defers
import Derived.Laws.LoneSync
import Derived.LoopN
import Derived.Lib.TrailingZeros
import Derived.Test.YtemljpjnhjnncaaGreatDoorProg
import Derived.Shelf.Sort.Plain
import Derived.Shelf.Slices.In.SortNone
import Derived.Shelf.Small.Bits
import Derived.DataReads
import Derived.ProofKit
import Derived.OpenShut
import Derived.Lib.SmallJoins
import Derived.Deep.DeepHandedRow
import Derived.Lib.LaidTab
set_option maxRecDepth 100000
set_option linter.unusedSimpArgs false
set_option linter.unusedVariables false
open Go.Proofs.Tryz
namespace Go.Proofs.YtemljpjnhjnncaaGreatDoor
open Go.RowKit
variable{n m i j e g r:Nat}{t s p q:Int}{V:List Value}{B S:List UInt8}{T:TypeId}{L:List (Nat×Value)}{v u y:Value}{z:World}{l:List Int}{R:List Nat}{N:Act->World->Prop}{b c:Bool}{x:Operand}{o:List Oper}{K:Value->World->Prop}{C:Nat->Nat}{P:Program}{F:Nat->Bool}{a:Act}
section
theorem Z{α : Sort _}{a : α}: a=a := rfl
theorem U {p : Prop} (h : p := by omega) : p := h
theorem J {p : Prop} (h : p := by kernel_rfl) : p := h
theorem O {p : Prop} (h : p := by simp) : p := h
abbrev Aed:=@List.getElem?_eq_some_iff
abbrev Aee:=@List.mem_of_getElem?
abbrev Aef:=@List.getElem?_eq_getElem
abbrev Aeg:=@List.length_append
abbrev Aeh:=@List.length_map
abbrev Aei:=@List.length_cons
abbrev Aej:=@List.append_assoc
abbrev Aek:=@Nat.le_refl
abbrev Ael:=@List.take_of_length_le
abbrev Aem:=@List.mem_map
abbrev Aen:=@Option.some.injEq
abbrev Aeo:=@List.getElem?_append_left
abbrev Aep:=@List.mem_cons
abbrev Aeq:=@List.getElem?_map
abbrev Aer:=@List.mem_append
abbrev Aes:=@Nat.lt_or_ge
abbrev Aet:=@Result.andThen_ok
abbrev Aeu:=@List.getElem?_append_right
abbrev Aev:=@List.take_append_of_le_length
abbrev Aew:=@List.drop_zero
abbrev Aex:=@Sem.run_bind
abbrev Aey:=@Bool.eq_iff_iff
abbrev Aez:=@List.length_take
abbrev AeA:=@List.getElem?_cons_succ
abbrev AeB:=@List.mem_map_of_mem
abbrev AeC:=@Sem.run_pure
abbrev AeD:=@List.length_nil
abbrev AeE:=@Bool.and_eq_true
abbrev AeF:=@List.take_take
abbrev AeG:=@Nat.min_eq_left
abbrev AeH:=@List.map_append
abbrev AeI:=@List.take_left'
abbrev AeJ:=@List.flatMap_cons
abbrev AeK:=@List.getElem?_eq_none
abbrev AeL:=@List.map_cons
abbrev AeM:=@List.take_add_one
abbrev AeN:=@Nat.zero_le
abbrev AeO:=@List.drop_of_length_le
abbrev AeP:=@List.take_append_drop
abbrev AeQ:=@List.length_drop
abbrev AeR:=@Nat.mul_one
abbrev AeS:=@List.nil_append
abbrev AeT:=@List.getElem?_cons_zero
abbrev AeU:=@Option.map_some
abbrev AeV:=@List.drop_append_of_le_length
abbrev AeW:=@List.length_set
abbrev AeX:=@List.mem_iff_getElem?
abbrev AeY:=@List.append_nil
abbrev AeZ:=@List.map_toArray
abbrev Ae0:=@List.getElem?_take
abbrev Ae1:=@List.drop_eq_getElem_cons
abbrev Ae2:=@Array.getElem?_eq_none
abbrev Ae3:=@Array.getElem?_eq_some_iff
abbrev Ae4:=@List.getElem?_of_mem
abbrev Ae5:=@List.drop_succ_cons
abbrev Ae6:=@Int.toNat_natCast
abbrev Ae7:=@List.take_succ_cons
abbrev Ae8:=@List.drop_append
abbrev Ae9:=@List.take_length
abbrev Afa:=@Option.isSome_iff_exists
abbrev Afb:=@List.nodup_append
abbrev Afc:=@List.set_eq_take_append_cons_drop
abbrev Afd:=@List.mem_filter
abbrev Afe:=@List.count_cons
abbrev Aff:=@Classical.byContradiction
abbrev Afg:=@List.getElem?_toArray
abbrev Afh:=@List.mem_of_mem_take
abbrev Afi:=@List.perm_middle
abbrev Afj:=@List.nodup_cons
abbrev Afk:=@List.length_replicate
abbrev Afl:=@List.Perm.cons
abbrev Afm:=@List.getElem?_drop
abbrev Afn:=@List.mem_singleton
abbrev Afo:=@Int.le_refl
abbrev Afp:=@List.map_map
abbrev Afq:=@List.getElem?_set
abbrev Afr:=@List.map_take
abbrev Afs:=@List.ext_getElem?
abbrev Aft:=@List.count_append
abbrev Afu:=@Bool.false_eq_true
abbrev Afv:=@Prod.mk.injEq
abbrev Afw:=@List.mem_of_mem_drop
abbrev Afx:=@List.pairwise_iff_getElem
abbrev Afy:=@List.getElem?_set_self
abbrev Afz:=@List.Perm.append_right
abbrev AfA:=@Option.map_none
abbrev AfB:=@List.map_nil
abbrev AfC:=@Nat.mod_eq_of_lt
abbrev AfD:=@List.cons_append
abbrev AfE:=@List.map_congr_left
abbrev AfF:=@List.perm_iff_count
abbrev AfG:=@List.take_zero
abbrev AfH:=@List.exists_cons_of_ne_nil
abbrev AfI:=@Nat.mul_le_mul_right
abbrev AfJ:=@List.length_zip
abbrev AfK:=@Nat.lt_trichotomy
abbrev AfL:=@List.pairwise_map
abbrev AfM:=@Nat.eq_of_beq_eq_true
abbrev AfN:=@IntWalk.i64_in
abbrev AfO:=@Nat.zero_add
abbrev AfP:=@List.filter_append
abbrev AfQ:=@List.getElem_mem
abbrev AfR:=@Array.getElem?_setIfInBounds_ne
abbrev AfS:=@List.mem_range
abbrev AfT:=@List.drop_left'
abbrev AfU:=@Ne.symm
abbrev AfV:=@List.length_filter_le
abbrev AfW:=@List.map_drop
abbrev AfX:=@List.drop_take
abbrev AfY:=@List.Perm.swap
abbrev AfZ:=@Int.eq_ofNat_of_zero_le
abbrev Af0:=@List.set_append
abbrev Af1:=@List.toList_toArray
abbrev Af2:=@List.flatMap_append
abbrev Af3:=@List.all_eq_true
abbrev Af4:=@List.mem_replicate
abbrev Af5:=@Int.emod_lt_of_pos
abbrev Af6:=@List.perm_append_comm
abbrev Af7:=@Nat.shiftRight_eq_div_pow
abbrev Af8:=@List.replicate_append_replicate
abbrev Af9:=@BitVec.toNat_ushiftRight
abbrev Aga:=@List.getElem?_set_ne
abbrev Agb:=@List.mem_append_left
abbrev Agc:=@List.mem_iff_getElem
abbrev Agd:=@Option.some.inj
abbrev Age:=@Nat.add_assoc
abbrev Agf:=@Nat.add_sub_cancel_left
abbrev Agg:=@List.length_eq_zero_iff
abbrev Agh:=@BitVec.toNat_and
abbrev Agi:=@List.mem_flatMap
abbrev Agj:=@List.getElem?_eraseIdx
abbrev Agk:=@Nat.le_of_eq
abbrev Agl:=@List.filter_map
abbrev Agm:=@List.mem_append_right
abbrev Agn:=@Int.emod_nonneg
abbrev Ago:=@List.set_getElem_self
abbrev Agp:=@Int.emod_eq_of_lt
abbrev Agq:=@List.mem_cons_of_mem
abbrev Agr:=@Nat.mul_add
abbrev Ags:=@DataW.trod_int
abbrev Agt:=@Array.setIfInBounds_comm
abbrev Agu:=@Nat.le_trans
abbrev Agv:=@Nat.mul_le_mul_left
abbrev Agw:=@List.filter_eq_self
abbrev Agx:=@Calls.mono
abbrev Agy:=@List.count_pos_iff
abbrev Agz:=@Nat.ne_of_beq_eq_false
abbrev AgA:=@Option.map_eq_some_iff
abbrev AgB:=@List.eq_nil_of_length_eq_zero
abbrev AgC:=@List.flatten_cons
abbrev AgD:=@List.foldl_append
abbrev AgE:=@Array.getElem?_modify
abbrev AgF:=@Nat.sub_self
abbrev AgG:=@Region.noSelect_spec
abbrev AgH:=@Nat.add_mul_div_left
abbrev AgI:=@Nat.div_eq_of_lt
abbrev AgJ:=@BitVec.toNat_add
abbrev AgK:=@Decidable.of_not_not
abbrev AgL:=@List.drop_replicate
abbrev AgM:=@Function.comp_apply
abbrev AgN:=@Oper.upon_value
abbrev AgO:=@Oper.upon_enter
abbrev AgP:=@Array.getElem?_eq_getElem
abbrev AgQ:=@Nat.add_mul_mod_self_left
abbrev AgR:=@Nat.two_pow_pos
abbrev AgS:=@Bool.false_ne_true
abbrev AgT:=@Nat.add_comm
abbrev AgU:=@Nat.eq_zero_or_pos
abbrev AgV:=@Int.le_of_lt
abbrev AgW:=@List.set_set
abbrev AgX:=@Option.bind_some
abbrev AgY:=@Region.free_spec
abbrev AgZ:=@List.ext_getElem
abbrev Ag0:=@List.take_append
abbrev Ag1:=@List.getElem_set
abbrev Ag2:=@BitVec.getLsbD_twoPow
abbrev Ag3:=@BitVec.eq_of_toNat_eq
abbrev Ag4:=@List.cons.injEq
abbrev Ag5:=@Nat.sub_zero
abbrev Ag6:=@Nat.add_zero
abbrev Ag7:=@UInt8.toNat_inj
abbrev Ag8:=@BitVec.ofInt_natCast
abbrev Ag9:=@Nat.and_two_pow_sub_one_eq_mod
abbrev Aha:=@List.range_succ
abbrev Ahb:=@List.mem_eraseIdx_iff_getElem?
abbrev Ahc:=@Nat.pow_le_pow_right
abbrev Ahd:=@Array.getElem?_push
abbrev Ahe:=@List.length_pos_iff
abbrev Ahf:=@List.Perm.refl
abbrev Ahg:=@List.perm_append_comm_assoc
abbrev Ahh:=@List.map_replicate
abbrev Ahi:=@List.find?_eq_none
abbrev Ahj:=@Int.tmod_lt_of_pos
abbrev Ahk:=@List.take_length_add_append
abbrev Ahl:=@List.drop_length_add_append
abbrev Ahm:=@Array.getElem?_append_left
abbrev Ahn:=@Addr.mk.injEq
abbrev Aho:=@Array.any_eq_true
abbrev Ahp:=@Array.getElem_mem
abbrev Ahq:=@Decidable.not_not
abbrev Ahr:=@Int.emod_add_emod
abbrev Ahs:=@List.filter_congr
abbrev Aht:=@Int.shiftRight_eq_div_pow
abbrev Ahu:=@List.mem_take_iff_getElem
abbrev Ahv:=@List.mem_or_eq_of_mem_set
abbrev Ahw:=@Iff.rfl
abbrev Ahx:=@List.any_eq_true
abbrev Ahy:=@UInt32.toNat_inj
abbrev Ahz:=@List.getElem_map
abbrev AhA:=@List.map_set
abbrev AhB:=@Nat.pow_succ
abbrev AhC:=@Nat.mul_comm
abbrev AhD:=@List.flatMap_nil
abbrev AhE:=@List.filter_cons
abbrev AhF:=@Nat.mul_eq_zero
abbrev AhG:=@Int.tmod_nonneg
abbrev AhH:=@Nat.add_mul
abbrev AhI:=@List.drop_drop
abbrev I(x:Int):Value:=.int .i64 x
abbrev Y (b:Nat):Value:=.pointer (some ⟨b,0,none⟩)
def CD:List (Nat×Value)->Nat->Option Value
 | [],_=>none
 | (t,v)::l,k=>bif Nat.beq t k then some v else CD l k
theorem AaC(h:m≠i):Nat.beq m i=false:=by
 cases hb:Nat.beq m i with
 | false=>rfl
 | true=>exact absurd (AfM hb) h
structure Fr(n:Nat)(ds:List Deferred)(L:List (Nat×Value))(a:Act):Prop where
 size:a.tmps.size=n
 defers:a.defers=ds
 get:∀t v,CD L t=some v->a.tmps[t]?=some v
theorem Fr.put{n:Nat}{ds:List Deferred}{L:List (Nat×Value)}{a:Act}(h:Fr n ds L a)(d:Nat)(v:Value)(f:Nat.blt d n=true):Fr n ds ((d,v)::L) (a.put (some d) v):=by
 have c:d<n:=by simpa using f
 refine ⟨by simp[Act.put,h.size],by simp[Act.put,h.defers],λt u b=>?_⟩;simp only[CD] at b;by_cases e:d=t
 ·subst e
  have:Nat.beq d d=true:=by simp
  rw[this] at b;simp only[cond_true,Aen] at b;subst b;simp[Act.put,h.size,c]
 rw[AaC e] at b;simp only[cond_false] at b;simp[Act.put,AfR e,h.get t u b]
theorem Fr.nil{n:Nat}{ds:List Deferred}{L:List (Nat×Value)}{a:Act}(h:Fr n ds L a):Fr n ds [] a:=⟨h.size,h.defers,λt v b=>by simp[CD] at b⟩
theorem Fr.cons{n:Nat}{ds:List Deferred}{L L':List (Nat×Value)}{a:Act}(h:Fr n ds L a)(h':Fr n ds L' a)(t:Nat)(v u:Value)(b:CD L t=some u)(e:u=v):Fr n ds ((t,v)::L') a:=by
 refine ⟨h.size,h.defers,λs x hs=>?_⟩;simp only[CD] at hs
 cases hb:Nat.beq t s with
 | true=>rw[hb] at hs;simp at hb;subst hb;simp at hs;subst hs;subst e;exact h.get t u b
 | false=>rw[hb] at hs;exact h'.get s x (by simpa using hs)
theorem Fr.co{n:Nat}{ds:List Deferred}{L L':List (Nat×Value)}{a:Act}{t:Nat}(h:Fr n ds L a)(b:CD L t=some u)(e:u=v)(h':Fr n ds L' a):Fr n ds ((t,v)::L') a:=h.cons h' t v u b e
theorem Fr.all{n:Nat}{ds:List Deferred}{L:List (Nat×Value)}{a:Act}(h:Fr n ds L a):∀{L':List (Nat×Value)},L'.map (λe=>CD L e.1)=L'.map (λe=>some e.2)->Fr n ds L' a
 | [],_=>h.nil
 | e::L',q=>by
  simp only[AeL,Ag4] at q;exact h.cons (h.all q.2) e.1 e.2 e.2 q.1 Z
theorem Fr.cz{n:Nat}{ds:List Deferred}{L L':List (Nat×Value)}{a:Act}{t:Nat}{v u:Value}(h:Fr n ds L a)(b:CD L t=some u:=by exact Z)(e:u=v:=by go_num)(q:L'.map (λe=>CD L e.1)=L'.map (λe=>some e.2):=by exact Z):Fr n ds ((t,v)::L') a:=h.co b e (h.all q)
theorem fr_z {n:Nat} {ds:List Deferred} {L L':List (Nat×Value)} {t:Nat} {v u:Value} (b:CD L t=some u:=by exact Z) (e:u=v:=by go_num) (q:L'.map (λe=>CD L e.1)=L'.map (λe=>some e.2):=by exact Z):∀a,Fr n ds L a->Fr n ds ((t,v)::L') a:=λ_ h=>h.co b e (h.all q)
theorem Fr.upd{n:Nat}{ds:List Deferred}{L:List (Nat×Value)}{a:Act}(h:Fr n ds L a)(t:Nat)(b:CD L t=some u)(e:u=v):Fr n ds ((t,v)::L) a:=h.cons h t v u b e
def ev(L:List (Nat×Value)):Operand->Option Value
 | .tmp t=>CD L t
 | .const v=>some v
 | .global g=>some (.pointer (some ⟨g,0,none⟩))
 | .func f=>some (.func (.func f) #[] #[])
theorem Fr.ev{n:Nat}{ds:List Deferred}{L:List (Nat×Value)}{a:Act}(h:Fr n ds L a){x:Operand}{v:Value}(b:ev L x=some v):a.eval x=v:=by
 cases x with
 | tmp t=>simp only[YtemljpjnhjnncaaGreatDoor.ev] at b;simp[Act.eval,h.get t v b]
 | const u=>simp only[YtemljpjnhjnncaaGreatDoor.ev,Aen] at b;simp[Act.eval,b]
 | global g=>simp only[YtemljpjnhjnncaaGreatDoor.ev,Aen] at b;simp[Act.eval,b]
 | func f=>simp only[YtemljpjnhjnncaaGreatDoor.ev,Aen] at b;simp[Act.eval,b]
def evs(L:List (Nat×Value)):List Operand->Option (List Value)
 | []=>some []
 | x::xs=>match YtemljpjnhjnncaaGreatDoor.ev L x,evs L xs with
  | some v,some vs=>some (v::vs)
  | _,_=>none
theorem Fr.evs{n:Nat}{ds:List Deferred}{L:List (Nat×Value)}{a:Act}(h:Fr n ds L a):∀{xs:List Operand} {vs:List Value},evs L xs=some vs->xs.map a.eval=vs
 | [],vs,e=>by simp only[YtemljpjnhjnncaaGreatDoor.evs,Aen] at e;subst e;rfl
 | x::xs,vs,e=>by
  simp only[YtemljpjnhjnncaaGreatDoor.evs] at e
  cases h1:YtemljpjnhjnncaaGreatDoor.ev L x with
  | none=>rw[h1] at e;cases e
  | some v=>
   cases h2:YtemljpjnhjnncaaGreatDoor.evs L xs with
   | none=>rw[h1,h2] at e;cases e
   | some us=>
    rw[h1,h2] at e;simp only[Aen] at e;subst e;simp[h.ev h1,h.evs h2]
def first:Nat->List Value->List (Nat×Value)
 | _,[]=>[]
 | k,v::vs=>(k,v)::first (k+1) vs
theorem Kv:∀(vs:List Value) (k t:Nat) (v:Value),CD (first k vs) t=some v->k<=t/\vs[t-k]?=some v
 | [],_,_,_,h=>by simp[first,CD] at h
 | u::us,k,t,v,h=>by
  simp only[first,CD] at h
  cases hb:Nat.beq k t with
  | true=>rw[hb] at h;simp at hb h;subst hb;subst h;simp
  | false=>
   rw[hb] at h;have:=Kv us (k+1) t v (by simpa using h);refine ⟨by omega,?_⟩;rw[show t-k=(t-(k+1))+1 from by omega];simpa using this.2
theorem Fr.start(args:List Value)(n:Nat)(h:args.length<=n):Fr n [] (first 0 args) {tmps:=args.toArray++Array.replicate (n-args.toArray.size) undef,defers:=[]} :=by
 refine ⟨by simp;omega,Z,λt v b=>?_⟩;have:=(Kv args 0 t v b).2;simp only[Ag5] at this;have a:t<args.length:=by
  rcases Aes t args.length with h|h
  ·exact h
  rw[AeK h] at this;cases this
 rw[Ahm (by simpa using a)];simpa using this

def Qp(N:Act->World->Prop)(X:Nat->Act->World->Prop)(R:Act->World->Prop):Exit->Act->World->Prop
 | .normal,a,w=>N a w
 | .exit id,a,w=>X id a w
 | .ret,a,w=>R a w
 | _,_,_=>False
def IK:Nat->Act->World->Prop:=λ_ _ _=>False
def upd(X:Nat->Act->World->Prop)(id:Nat)(N:Act->World->Prop):Nat->Act->World->Prop:=λj a w=>if j=id then N a w else X j a w
section
variable{P:Program}{N R:Act->World->Prop}{X:Nat->Act->World->Prop}{a:Act}{w:World}
theorem AaD{c:Code}{b R':Act->World->Prop}{d:Nat->Act->World->Prop}(h:c.wp P (Qp N X R) a w)(hN:∀a w,N a w->b a w)(g:∀i a w,X i a w->d i a w)(f:∀a w,R a w->R' a w):c.wp P (Qp b d R') a w:=
 wp_mono h λe a w q=>by cases e<;>first|exact hN _ _ q|exact g _ _ _ q|exact f _ _ q|exact q
theorem W4{x y:Code}(h:x.wp P (Qp (λa w=>y.wp P (Qp N X R) a w) X R) a w):(Code.seq x y).wp P (Qp N X R) a w:=
 wp_seq (wp_mono h λe a w q=>by cases e<;>exact q)
theorem AcM{x y:Code}(M:Act->World->Prop)(h:x.wp P (Qp M X R) a w)(h':∀a w,M a w->y.wp P (Qp N X R) a w):(Code.seq x y).wp P (Qp N X R) a w:=
 W4 (AaD h h' (λ_ _ _ q=>q) (λ_ _ q=>q))
theorem AaE(h:N a w):Code.skip.wp P (Qp N X R) a w:=wp_skip h
theorem AaF(h:X m a w):(Code.exit m).wp P (Qp N X R) a w:=wp_exit h
theorem AcN(h:R a w):Code.ret.wp P (Qp N X R) a w:=wp_ret h
theorem XI{c:Code}(h:c.wp P (Qp N (upd X m N) R) a w):(Code.block m c).wp P (Qp N X R) a w:=
 wp_block (wp_mono h λe a w q=>by
  cases e<;>exact q)
theorem AaG(h:N a w):upd X m N m a w:=by simp only[upd,if_true];exact h
theorem AcO{M:Act->World->Prop}(b:Nat.beq j m=false)(h:X j a w):upd X m M j a w:=by
 have:j≠m:=Agz b;simp only[upd,if_neg this];exact h
theorem Se{n:Nat}{ds:List Deferred}{L:List (Nat×Value)}(d:Fr n ds L a){c:Operand}{x y:Code}(b:ev L c=some (.bool true))(h:x.wp P (Qp N X R) a w):(Code.cond c x y).wp P (Qp N X R) a w:=wp_cond_true (d.ev b) h
theorem PM{n:Nat}{ds:List Deferred}{L:List (Nat×Value)}(d:Fr n ds L a){c:Operand}{x y:Code}(b:ev L c=some (.bool false))(h:y.wp P (Qp N X R) a w):(Code.cond c x y).wp P (Qp N X R) a w:=wp_cond_false (d.ev b) h
theorem Sf{n:Nat}{ds:List Deferred}{L:List (Nat×Value)}(e:Fr n ds L a){c:Operand}{x y:Code}(d:ev L c=some (.bool b))(f:b=true->x.wp P (Qp N X R) a w)(g:b=false->y.wp P (Qp N X R) a w):(Code.cond c x y).wp P (Qp N X R) a w:=by
 cases b with
 | true=>exact Se e d (f Z)
 | false=>exact PM e d (g Z)
theorem AcP{n:Nat}{ds:List Deferred}{L:List (Nat×Value)}(e:Fr n ds L a){c:Operand}{x y:Code}{p:Prop}[hp:Decidable p](b:ev L c=some (.bool (decide p)))(d:p->x.wp P (Qp N X R) a w)(f:¬p->y.wp P (Qp N X R) a w):(Code.cond c x y).wp P (Qp N X R) a w:=
 Sf e b (λh=>d (of_decide_eq_true h)) (λh=>f (of_decide_eq_false h))

section framed
variable{n:Nat}{ds:List Deferred}{L:List (Nat×Value)}
theorem A0{x y:Code}(h:∀a,Fr n ds L a->x.wp P (Qp (λa w=>y.wp P (Qp N X R) a w) X R) a w):∀a,Fr n ds L a->(Code.seq x y).wp P (Qp N X R) a w:=λa b=>W4 (h a b)
theorem AcQ{x y:Code}(M:Act->World->Prop)(h:∀a,Fr n ds L a->x.wp P (Qp M X R) a w)(h':∀a w,M a w->y.wp P (Qp N X R) a w):∀a,Fr n ds L a->(Code.seq x y).wp P (Qp N X R) a w:=λa b=>AcM M (h a b) h'
theorem DH(h:∀a,Fr n ds L a->N a w):∀a,Fr n ds L a->Code.skip.wp P (Qp N X R) a w:=λa b=>AaE (h a b)
theorem Sg(h:∀a,Fr n ds L a->X m a w):∀a,Fr n ds L a->(Code.exit m).wp P (Qp N X R) a w:=λa b=>AaF (h a b)
theorem D9(h:∀a,Fr n ds L a->R a w):∀a,Fr n ds L a->Code.ret.wp P (Qp N X R) a w:=λa b=>AcN (h a b)
theorem FM{c:Code}(h:∀a,Fr n ds L a->c.wp P (Qp N (upd X m N) R) a w):∀a,Fr n ds L a->(Code.block m c).wp P (Qp N X R) a w:=λa b=>XI (h a b)
theorem IM(h:∀a,Fr n ds L a->N a w):∀a,Fr n ds L a->upd X m N m a w:=λa b=>AaG (h a b)
theorem AcR{M:Act->World->Prop}(c:Nat.beq j m=false)(h:∀a,Fr n ds L a->X j a w):∀a,Fr n ds L a->upd X m M j a w:=λa b=>AcO c (h a b)
theorem Sh{c:Operand}{x y:Code}(d:ev L c=some (.bool true))(h:∀a,Fr n ds L a->x.wp P (Qp N X R) a w):∀a,Fr n ds L a->(Code.cond c x y).wp P (Qp N X R) a w:=λa b=>Se b d (h a b)
theorem EC{c:Operand}{x y:Code}(d:ev L c=some (.bool false))(h:∀a,Fr n ds L a->y.wp P (Qp N X R) a w):∀a,Fr n ds L a->(Code.cond c x y).wp P (Qp N X R) a w:=λa b=>PM b d (h a b)
theorem Si{c:Operand}{x y:Code}(e:ev L c=some (.bool b))(f:b=true->∀a,Fr n ds L a->x.wp P (Qp N X R) a w)(g:b=false->∀a,Fr n ds L a->y.wp P (Qp N X R) a w):∀a,Fr n ds L a->(Code.cond c x y).wp P (Qp N X R) a w:=
 λa d=>Sf d e (λh=>f h a d) (λh=>g h a d)
theorem Gv{c:Operand}{x y:Code}{p:Prop}[hp:Decidable p](d:ev L c=some (.bool (decide p)))(e:p->∀a,Fr n ds L a->x.wp P (Qp N X R) a w)(f:¬p->∀a,Fr n ds L a->y.wp P (Qp N X R) a w):∀a,Fr n ds L a->(Code.cond c x y).wp P (Qp N X R) a w:=
 λa b=>AcP b d (λh=>e h a b) (λh=>f h a b)
end framed
theorem Sj{n:Nat}{ds:List Deferred}{L:List (Nat×Value)}{c:Code}{σ:Type}(i:σ->List (Nat×Value))(G:σ->World->Prop)(m:σ->Nat)(r:σ)
  (h₀:∀a,Fr n ds L a->Fr n ds (i r) a)(g₀:G r w)
  (f:∀s w,G s w->∀a,Fr n ds (i s) a->c.wp P (Qp (λa' h=>∃p,Fr n ds (i p) a'/\G p h/\m p<m s) X R) a w):∀a,Fr n ds L a->(Code.loop c).wp P (Qp N X R) a w:=by
 intro a hF b k cs;have key:∀n' s a w,m s=n'->Fr n ds (i s) a->G s w->
   ∃e a' h,Qp N X R e a' h/\Arrives P (lone (b.at a (.code c:: .inLoop c::k)) cs w) b k cs e a' h:=by
  intro n'
  induction n' using Nat.strongRecOn with
  | _ n' ih=>
   intro s a w z hI hG;obtain ⟨e,j,o,hq,d⟩:=f s w hG a hI b (.inLoop c::k) cs
   cases e with
   | normal=>
    obtain ⟨y,v,q,t⟩:=hq;obtain ⟨e₂,a₂,w₂,u,g⟩:=ih (m y) (z▸t) y j o Z v q;exact ⟨e₂,a₂,w₂,u,.of_steps (Steps.trans d (.one step_inLoop)) g⟩
   | exit id=>exact ⟨.exit id,j,o,hq,.pass (x:=.inLoop c) Z (λ_ _=>.inl O) d⟩
   | ret=>exact ⟨.ret,j,o,hq,.pass (x:=.inLoop c) Z (λ_ _=>.inl O) d⟩
   | goto l=>exact hq.elim
   | panic ch=>exact hq.elim
   | outgrown=>exact hq.elim
 obtain ⟨e,a',h,hq,d⟩:=key _ r a w Z (h₀ a hF) g₀;exact ⟨e,a',h,hq,.of_steps (.one step_loop) d⟩
end
def Ret(R:Value->World->Prop):Ending->World->Prop
 | .returned v,w=>R v w
 | _,_=>False
theorem Ret.mono{P:Program}{f:FuncId}{args:Array Value}{w:World}{R R':Value->World->Prop}(h:Calls P f args w (Ret R))(b:∀v a,R v a->R' v a):Calls P f args w (Ret R'):=
 Agx h λe a q=>by cases e<;>first|exact b _ _ q|exact q
def Gh(P:Program)(fn:Func)(R:Value->World->Prop)(a:Act)(w:World):Prop:=
 a.defers=[]/\∃v,(results fn a.tmps).run P w=.ok v w/\R v w
theorem enter{P:Program}{f:FuncId}{b:Func}{c:Code}{w:World}{R:Value->World->Prop}(m:P.funcs[f]?=some b)(o:b.body=some c)(n:Nat)(k:b.ntmps=n)(d:Nat.ble V.length n=true)
  (h:∀a,Fr n [] (first 0 V) a->c.wp P (Qp (Gh P b R) IK (Gh P b R)) a w):Calls P f V.toArray w (Ret R):=by
 refine calls_of_wp m o (wp_mono (h _ (by rw[k];exact Fr.start V n (by simpa using d))) λe a w q=>?_)
 cases e with
 | normal=>obtain ⟨g,v,j,i⟩:=q;exact ⟨g,v,j,i⟩
 | ret=>obtain ⟨g,v,j,i⟩:=q;exact ⟨g,v,j,i⟩
 | exit id=>exact q.elim
 | goto l=>exact q.elim
 | panic ch=>exact q.elim
 | outgrown=>exact q.elim
def AaH(P:Program)(L:List (Nat×Value))(w:World):ResultVar->Value->Prop
 | .tmp t,v=>CD L t=some v
 | .cell t ty,v=>∃b p,CD L t=some (.pointer (some ⟨b,p,none⟩))/\(loadVar ty ⟨b,p,none⟩).run P w=.ok v w
def EP(P:Program)(L:List (Nat×Value))(w:World):List ResultVar->List Value->Prop
 | [],[]=>True
 | r::rs,v::vs=>AaH P L w r v/\EP P L w rs vs
 | _,_=>False
theorem Kw{P:Program}{n:Nat}{ds:List Deferred}{L:List (Nat×Value)}{a:Act}{w:World}(d:Fr n ds L a):∀(rs:List ResultVar) (vs:List Value),EP P L w rs vs->
  (rs.mapM (λx=>match x with
   | ResultVar.tmp t=>(Pure.pure (a.tmps.getD t undef):Sem Value)
   | ResultVar.cell p t=>do loadVar t (<-asAddr (a.tmps.getD p undef)))).run P w=.ok vs w
 | [],[],_=>by simp[go_sem]
 | [],_::_,h=>h.elim
 | _::_,[],h=>h.elim
 | r::rs,v::vs,h=>by
  have ih:=Kw d rs vs h.2;have c:=h.1
  cases r with
  | tmp t=>
   simp only[AaH] at c;simp only[List.mapM_cons,Aex,AeC,Aet,ih];simp[Array.getD,d.get t v c];have:=d.get t v c;rw[Ae3] at this;obtain ⟨f,g⟩:=this;simp[f,g]
  | cell t ty=>
   obtain ⟨b,p,i,l⟩:=c;have k:=d.get t _ i;have e:a.tmps.getD t undef=.pointer (some ⟨b,p,none⟩):=by simp[k]
   have j:(asAddr (a.tmps.getD t undef)).run P w=.ok ⟨b,p,none⟩ w:=by rw[e];rfl
   simp only[List.mapM_cons,Aex,AeC,Aet,j,l,ih]
def G7:List Value->Value
 | [v]=>v
 | vs=>.tuple vs.toArray
theorem Hr{P:Program}{b:Func}{n:Nat}{ds:List Deferred}{L:List (Nat×Value)}{a:Act}{w:World}(f:Fr n ds L a){rs:List ResultVar}(g:b.results=rs.toArray)(e:EP P L w rs V):(results b a.tmps).run P w=.ok (G7 V) w:=by
 have c:=Kw f rs V e;have d:(List.toArray<$> (rs.mapM (λx=>match x with
   | ResultVar.tmp t=>(Pure.pure (a.tmps.getD t undef):Sem Value)
   | ResultVar.cell p t=>do loadVar t (<-asAddr (a.tmps.getD p undef))))).run P w=.ok V.toArray w:=by
  show (Sem.bind _ _).run P w=_;have:=Aex (P:=P) (w:=w) (rs.mapM (λx=>match x with
   | ResultVar.tmp t=>(Pure.pure (a.tmps.getD t undef):Sem Value)
   | ResultVar.cell p t=>do loadVar t (<-asAddr (a.tmps.getD p undef)))) (λx=>(Pure.pure x.toArray:Sem (Array Value)))
  refine this.trans ?_;rw[c];rfl
 unfold results;rw[g,List.mapM_toArray,Aex]
 erw [d]
 simp only[Aet,AeC]
 cases V with
 | nil=>rfl
 | cons x xs=>cases xs with
  | nil=>rfl
  | cons y ys=>simp[G7]
theorem Ft{P:Program}{b:Func}{R:Value->World->Prop}{n:Nat}{L:List (Nat×Value)}{w:World}{rs:List ResultVar}(f:b.results=rs.toArray)(vs:List Value)(e:EP P L w rs vs)(d:G7 vs=v)(h:R v w):∀a,Fr n [] L a->Gh P b R a w:=λa c=>
 ⟨c.defers,v,by rw[<-d];exact Hr c f e,h⟩
theorem AcS{P:Program}{b:Func}{R:Value->World->Prop}{n:Nat}{L:List (Nat×Value)}{a:Act}{w:World}(c:Fr n [] L a)(d:b.results= #[])(h:R (.tuple #[]) w):Gh P b R a w:=
 ⟨c.defers,_,by simp[results,d,go_sem],h⟩
theorem dn0{P:Program}{b:Func}{R:Value->World->Prop}{n:Nat}{L:List (Nat×Value)}{w:World}(d:b.results= #[])(h:R (.tuple #[]) w):∀a,Fr n [] L a->Gh P b R a w:=λ_ c=>AcS c d h
end
section
structure Ext(F:Nat->Prop)(w w':World):Prop where
 os:w'.os=w.os
 tape:w'.tape=w.tape
 output:w'.output=w.output
 size:w.heap.size<=w'.heap.size
 block:∀k,k<w.heap.size->¬F k->w'.heap[k]?=w.heap[k]?
def No:Nat->Prop:=λ_=>False
theorem Ext.refl(F:Nat->Prop)(w:World):Ext F w w:=⟨Z,Z,Z,Aek _,λ_ _ _=>rfl⟩
theorem Ext.mono{F b:Nat->Prop}{w:World}(h:Ext F w z)(c:∀k,k<w.heap.size->F k->b k):Ext b w z:=
 ⟨h.os,h.tape,h.output,h.size,λk a d=>h.block k a (λq=>d (c k a q))⟩
theorem Ext.below{w:World}(h:Ext No w z):Below w.heap.size w z:=⟨h.os,h.tape,h.output,h.size,λk a=>h.block k a (λq=>q)⟩
theorem Ext.of_grown{w:World}{a:Option Nat}(h:w.grownBy z a):Ext (λk=>some k=a) w z:=⟨h.os,h.tape,h.output,h.size,λk b c=>h.block k b c⟩
theorem Ext.drawn(F:Nat->Prop)(w:World):Ext F w {w with drawn:=w.drawn+1} :=⟨Z,Z,Z,Aek _,λ_ _ _=>rfl⟩
def Blk(b:Nat)(cs:List Value)(ty:TypeId)(w:World):Prop:=w.heap[b]?=some (.cells cs.toArray ty (0,0))
def FH(b o:Nat)(v:Value)(w:World):Prop:=w.cell? ⟨b,o,none⟩=some v
theorem Sk{w:World}{o:Obj}(h:w.heap[m]?=some o):m<w.heap.size:=by
 rcases Aes m w.heap.size with h'|h'
 ·exact h'
 rw[Ae2 h'] at h;cases h
theorem Blk.lt{b:Nat}{cs:List Value}{ty:TypeId}{w:World}(h:Blk b cs ty w):b<w.heap.size:=Sk h
theorem Blk.cel{b:Nat}{cs:List Value}{ty:TypeId}{w:World}(h:Blk b cs ty w)(o:Nat){v:Value}(a:cs[o]?=some v):FH b o v w:=by
 unfold FH World.cell?;have h':w.heap[b]?=some (.cells cs.toArray ty (0,0)):=h;simp[h',a]
theorem Blk.free{b:Nat}{cs:List Value}{ty:TypeId}{w:World}(h:Blk b cs ty w)(o:Nat):w.frozen? ⟨b,o,none⟩=false:=by
 unfold World.frozen?;have h':w.heap[b]?=some (.cells cs.toArray ty (0,0)):=h;simp[h']
def AdB(P:Program)(C:World->Prop)(o:Oper)(a:Act)(v:Value):Prop:=∀w,C w->(execOp a.eval o).run P w=.ok (.value v) w
def Av(P:Program)(C:World->Prop)(n:Nat)(ds:List Deferred)(L:List (Nat×Value))(o:Oper)(v:Value):Prop:=∀a,Fr n ds L a->AdB P C o a v
def AdC(P:Program)(o:Oper)(a:Act)(w:World)(R:Value->World->Prop):Prop:=∃v w',(execOp a.eval o).run P w=.ok (.value v) w'/\R v w'
def AdD(P:Program)(o:Oper)(a:Act)(w:World)(R:World->Prop):Prop:=∃w',(execOp a.eval o).run P w=.ok .skip w'/\R w'
def CA(P:Program)(n:Nat)(ds:List Deferred)(L:List (Nat×Value))(o:Oper)(w:World)(R:Value->World->Prop):Prop:=∀a,Fr n ds L a->AdC P o a w R
def DI(P:Program)(n:Nat)(ds:List Deferred)(L:List (Nat×Value))(o:Oper)(w:World)(R:World->Prop):Prop:=∀a,Fr n ds L a->AdD P o a w R
def BP(ops:List Oper)(L:List (Nat×Value)):Option (Nat×Bool)->Bool
 | none=>true
 | some (j,b)=>match (ops[j]?).bind (·.dst) with
  | some t=>match CD L t with
   | some (.bool c)=>(match c,b with|true,true=>true|false,false=>true|_,_=>false)
   | _=>false
  | none=>false
def EY(ops:List Oper)(L:List (Nat×Value)):Option (Nat×Bool)->Bool
 | none=>false
 | some (j,b)=>match (ops[j]?).bind (·.dst) with
  | some t=>match CD L t with
   | some (.bool c)=>(match c,b with|true,false=>true|false,true=>true|_,_=>false)
   | some (.tuple _)=>true
   | _=>false
  | none=>false
theorem wantL_ok{ops:List Oper}{L:List (Nat×Value)}{n:Nat}{ds:List Deferred}{a:Act}{o:Oper}(d:Fr n ds L a)(h:BP ops L o.guard=true):Region.wanted o (yielded ops.toArray a.tmps)=true:=by
 unfold Region.wanted
 cases hg:o.guard with
 | none=>rfl
 | some g=>
  obtain ⟨j,b⟩:=g;rw[hg] at h;simp only[BP] at h;simp only[yielded,Afg]
  cases ht:(ops[j]?).bind (·.dst) with
  | none=>rw[ht] at h;cases h
  | some t=>
   rw[ht] at h;simp only at h
   cases hl:CD L t with
   | none=>rw[hl] at h;cases h
   | some v=>
    rw[hl] at h;have e:=d.get t v hl;cases v<;>simp at h;rename_i c;simp only[AgX,e];cases c<;>cases b<;>simp at h ⊢
theorem skipL_ok{ops:List Oper}{L:List (Nat×Value)}{n:Nat}{ds:List Deferred}{a:Act}{o:Oper}(d:Fr n ds L a)(h:EY ops L o.guard=true):Region.wanted o (yielded ops.toArray a.tmps)=false:=by
 unfold Region.wanted
 cases hg:o.guard with
 | none=>rw[hg] at h;cases h
 | some g=>
  obtain ⟨j,b⟩:=g;rw[hg] at h;simp only[EY] at h;simp only[yielded,Afg]
  cases ht:(ops[j]?).bind (·.dst) with
  | none=>rw[ht] at h;cases h
  | some t=>
   rw[ht] at h;simp only at h
   cases hl:CD L t with
   | none=>rw[hl] at h;cases h
   | some v=>
    rw[hl] at h;have e:=d.get t v hl;simp only[AgX,e];cases v<;>simp at h ⊢;rename_i c;cases c<;>cases b<;>simp at h ⊢
section steps
variable{P:Program}{ops:List Oper}{Q:Exit->Act->World->Prop}{a:Act}{w:World}{rest:List Oper}{o:Oper}{n d:Nat}{ds:List Deferred}{L:List (Nat×Value)}{v:Value}
theorem Az{p:World->Prop}{w:World}(h:p w):∀a,a=w->p a:=λa e=>by subst e;exact h
theorem s_do(f:BP ops L o.guard=true)(g:o.dst=some d)(b:Nat.blt d n=true)(e:Av P (· =w) n ds L o v)(K:∀a',Fr n ds ((d,v)::L) a'->wpList P ops.toArray Q rest a' w):∀a,Fr n ds L a->wpList P ops.toArray Q (o::rest) a w:=by
 intro a c;unfold wpList;rw[if_pos (wantL_ok c f)];left;unfold Oper.wp;rw[e a c w Z,AgN,g];exact K _ (c.put d v b)
theorem Sl(e:EY ops L o.guard=true)(f:o.dst=some d)(b:Nat.blt d n=true)(K:∀a',Fr n ds ((d,undef)::L) a'->wpList P ops.toArray Q rest a' w):∀a,Fr n ds L a->wpList P ops.toArray Q (o::rest) a w:=by
 intro a c;unfold wpList;rw[if_neg (by rw[skipL_ok c e];exact AgS),f];exact K _ (c.put d undef b)
theorem XJ(c:EY ops L o.guard=true)(d:o.dst=none)(K:∀a,Fr n ds L a->wpList P ops.toArray Q rest a w):∀a,Fr n ds L a->wpList P ops.toArray Q (o::rest) a w:=by
 intro a b;unfold wpList;rw[if_neg (by rw[skipL_ok b c];exact AgS),d];exact K a b
theorem E5{R:Value->World->Prop}(f:BP ops L o.guard=true)(i:o.dst=some d)(c:Nat.blt d n=true)(h:CA P n ds L o w R)(K:∀v b,R v b->∀a',Fr n ds ((d,v)::L) a'->wpList P ops.toArray Q rest a' b):∀a,Fr n ds L a->wpList P ops.toArray Q (o::rest) a w:=by
 intro a e;obtain ⟨v,b,j,g⟩:=h a e;unfold wpList;rw[if_pos (wantL_ok e f)];left;unfold Oper.wp;rw[j,AgN,i];exact K v b g _ (e.put d v c)
theorem F4{R:World->Prop}(d:BP ops L o.guard=true)(f:o.dst=none)(h:DI P n ds L o w R)(K:∀b,R b->∀a,Fr n ds L a->wpList P ops.toArray Q rest a b):∀a,Fr n ds L a->wpList P ops.toArray Q (o::rest) a w:=by
 intro a c;obtain ⟨b,g,e⟩:=h a c;unfold wpList;rw[if_pos (wantL_ok c d)];left;unfold Oper.wp;rw[g,Oper.upon_skip,f];exact K b e a c
theorem Sm{p:Prop}[Decidable p](t:Nat)(c:CD L t=some (.bool (decide p)))(d:p->∀a,Fr n ds ((t,.bool true)::L) a->wpList P ops.toArray Q (o::rest) a w)(e:¬p->∀a,Fr n ds ((t,.bool false)::L) a->wpList P ops.toArray Q (o::rest) a w):∀a,Fr n ds L a->wpList P ops.toArray Q (o::rest) a w:=by
 intro a b;by_cases h:p
 ·exact d h a (b.upd t c (by simp[h]))
 exact e h a (b.upd t c (by simp[h]))
theorem Uo(t:Nat)(d:CD L t=some (.bool b))(e:b=true->∀a,Fr n ds ((t,.bool true)::L) a->wpList P ops.toArray Q (o::rest) a w)(f:b=false->∀a,Fr n ds ((t,.bool false)::L) a->wpList P ops.toArray Q (o::rest) a w):∀a,Fr n ds L a->wpList P ops.toArray Q (o::rest) a w:=by
 intro a c
 cases b with
 | true=>exact e Z a (c.upd t d Z)
 | false=>exact f Z a (c.upd t d Z)
theorem AS{R:Act->World->Prop}{X:Nat->Act->World->Prop}(h:∀a,Fr n ds L a->N a w):∀a,Fr n ds L a->wpList P ops.toArray (Qp N X R) [] a w:=h
theorem AJ{id:Nat}{R:Act->World->Prop}{X:Nat->Act->World->Prop}(h:∀a,Fr n ds L a->wpList P ops.toArray (Qp N X R) ops a w):∀a,Fr n ds L a->(Code.region id ops.toArray false).wp P (Qp N X R) a w:=λa b=>wp_region_lit (h a b)
theorem Sn{R:Value->World->Prop}{f:FuncId}{args:List Operand}{vs:List Value}{tys:Array TypeId}(p:BP ops L o.guard=true)(m:o.dst=some d)(j:Nat.blt d n=true)
  (r:o.op=.call {callee:=.value (.func f),args:=args.toArray,argTypes:=tys})(b:evs L args=some vs)(l:∀w,(callFunc f vs.toArray).run P w=.ok (.enter f vs.toArray) w)(h:Calls P f vs.toArray w (Ret R))
  (K:∀v i,R v i->∀a',Fr n ds ((d,v)::L) a'->wpList P ops.toArray Q rest a' i):∀a,Fr n ds L a->wpList P ops.toArray Q (o::rest) a w:=by
 intro a k;unfold wpList;rw[if_pos (wantL_ok k p)];left;have g:(execOp a.eval o).run P w=.ok (.enter f vs.toArray) w:=by
  unfold execOp;have e:=k.evs b;simp only[r,resolve,Act.eval,Deferred.ofValue,invoke];simp only[go_sem,AeZ,e,AeS,AeY,l];simpa using l w
 unfold Oper.wp;rw[g,AgO];exact Agx h λe i q=>by
  cases e with
  | returned v=>simp only[m];exact K v i q _ (k.put d v j)
  | panicked c=>exact q.elim
  | outgrown=>exact q.elim
end steps

section quiet
variable{P:Program}{ops:List Oper}{C:World->Prop}{Q:Act->Prop}{a:Act}{rest:List Oper}{o:Oper}{n d:Nat}{ds:List Deferred}{L:List (Nat×Value)}{v:Value}
theorem AM(f:BP ops L o.guard=true)(i:o.dst=some d)(b:Nat.blt d n=true)(e:Av P C n ds L o v)(K:∀a',Fr n ds ((d,v)::L) a'->wpQuiet P ops.toArray C Q rest a'):∀a,Fr n ds L a->wpQuiet P ops.toArray C Q (o::rest) a:=λa c=>
 wpQuiet_step λK' g=>by
  rw[if_pos (wantL_ok c f)];refine ⟨v,λw h=>?_,g _ ?_⟩
  ·unfold Oper.quietAt;rw[e a c w h];exact ⟨Z,Z⟩
  rw[i];exact K _ (c.put d v b)
theorem So(e:EY ops L o.guard=true)(g:o.dst=some d)(b:Nat.blt d n=true)(K:∀a',Fr n ds ((d,undef)::L) a'->wpQuiet P ops.toArray C Q rest a'):∀a,Fr n ds L a->wpQuiet P ops.toArray C Q (o::rest) a:=λa c=>
 wpQuiet_step λK' f=>by
  rw[if_neg (by rw[skipL_ok c e];exact AgS)];exact f _ (by rw[g];exact K _ (c.put d undef b))
theorem Ce{p:Prop}[Decidable p](t:Nat)(c:CD L t=some (.bool (decide p)))(d:p->∀a,Fr n ds ((t,.bool true)::L) a->wpQuiet P ops.toArray C Q (o::rest) a)(e:¬p->∀a,Fr n ds ((t,.bool false)::L) a->wpQuiet P ops.toArray C Q (o::rest) a):∀a,Fr n ds L a->wpQuiet P ops.toArray C Q (o::rest) a:=by
 intro a b;by_cases h:p
 ·exact d h a (b.upd t c (by simp[h]))
 exact e h a (b.upd t c (by simp[h]))
theorem Dn{f:FuncId}{args:List Operand}{vs:List Value}{tys:Array TypeId}(r:BP ops L o.guard=true)(p:o.dst=some d)(i:Nat.blt d n=true)
  (t:o.op=.call {callee:=.value (.func f),args:=args.toArray,argTypes:=tys})(b:evs L args=some vs)(l:∀w,(callFunc f vs.toArray).run P w=.ok (.enter f vs.toArray) w)(h:∀w,C w->Calls P f vs.toArray w (Ret λu k=>u=v/\C k))
  (K:∀a',Fr n ds ((d,v)::L) a'->wpQuiet P ops.toArray C Q rest a'):∀a,Fr n ds L a->wpQuiet P ops.toArray C Q (o::rest) a:=λa j=>
 wpQuiet_step λK' m=>by
  rw[if_pos (wantL_ok j r)];refine ⟨v,λw s=>?_,m _ ?_⟩
  ·have g:(execOp a.eval o).run P w=.ok (.enter f vs.toArray) w:=by
    unfold execOp;have e:=j.evs b;simp only[t,resolve,Act.eval,Deferred.ofValue,invoke];simp only[go_sem,AeZ,e,AeS,AeY,l];simpa using l w
   unfold Oper.quietAt;rw[g];refine ⟨Z,Agx (h w s) λe k q=>?_⟩
   cases e with
   | returned u=>exact ⟨by rw[q.1],q.2⟩
   | panicked c=>exact q.elim
   | outgrown=>exact q.elim
  rw[p];exact K _ (j.put d v i)
theorem BL(h:∀b,C b->∀a,Fr n ds L a->N a b):∀a,Fr n ds L a->wpQuiet P ops.toArray C (λa'=>∀b,C b->N a' b) [] a:=λa d b c=>h b c a d
theorem By{R:Act->World->Prop}{X:Nat->Act->World->Prop}{w:World}(C:World->Prop)(c:P.follows .mixedOrders=true)(e:Region.lexB .any ops.toArray=true)(d:C w.drew)
  (h:∀a,Fr n ds L a->wpQuiet P ops.toArray C (λa'=>∀b,C b->N a' b) ops a):∀a,Fr n ds L a->(Code.region m ops.toArray true).wp P (Qp N X R) a w:=λa f=>
 wp_region_quiet (C:=C) c e d (h a f)
end quiet
end
section
section
variable{P:Program}{C:World->Prop}{o:Oper}{a:Act}{n:Nat}{ds:List Deferred}{L:List (Nat×Value)}{v:Value}
theorem Ck{x:Operand}(c:o.op=.move x)(b:ev L x=some v):Av P C n ds L o v:=λa d w _=>by
 simp only[execOp,c,d.ev b];rfl
theorem Bf{x:Operand}(c:o.op=.assign x)(b:ev L x=some v):Av P C n ds L o v:=λa d w _=>by
 simp only[execOp,c,d.ev b];rfl
theorem Nq{c x y:Operand}(f:o.op=.pick c x y)(d:ev L c=some (.bool true))(e:ev L x=some v):Av P C n ds L o v:=λa b w _=>by
 simp only[execOp,f,b.ev d,b.ev e];simp[go_sem]
theorem Nr{c x y:Operand}(f:o.op=.pick c x y)(d:ev L c=some (.bool false))(e:ev L y=some v):Av P C n ds L o v:=λa b w _=>by
 simp only[execOp,f,b.ev d,b.ev e];simp[go_sem]

def Ea(P:Program)(s t:TypeId):Option IntKind:=match P.underlying s,P.underlying t with
 | some _,some (.int k)=>some k
 | _,_=>none
theorem FN{t:TypeId}{k:IntKind}(h:Ea P T t=some k):∃d,P.underlying T=some d/\P.underlying t=some (.int k):=by
 unfold Ea at h;split at h
 ·rename_i d c a b;simp only[Aen] at h;subst h;exact ⟨d,a,b⟩
 cases h
def Do(P:Program)(t:TypeId):Option Nat:=match P.underlying t with
 | some (.slice e)=>(P.info? e).map (·.size)
 | _=>none
theorem Ff(h:Do P T=some m):∃e i,P.underlying T=some (.slice e)/\P.info? e=some i/\i.size=m:=by
 unfold Do at h;split at h
 ·rename_i e a
  cases hi:P.info? e with
  | none=>rw[hi] at h;cases h
  | some i=>rw[hi] at h;exact ⟨e,i,a,hi,by simpa using h⟩
 cases h
def Ii(P:Program)(t:TypeId):Option (Nat×Nat):=match P.underlying t with
 | some (.array l e)=>(P.info? e).map λi=>(l,i.size)
 | _=>none
theorem Ij(h:Ii P T=some (m,j)):∃e i,P.underlying T=some (.array m e)/\P.info? e=some i/\i.size=j:=by
 unfold Ii at h;split at h
 ·rename_i l' e a
  cases hi:P.info? e with
  | none=>rw[hi] at h;cases h
  | some i=>
   rw[hi] at h;simp only[AeU,Aen,Afv] at h;obtain ⟨rfl,b⟩:=h;exact ⟨e,i,a,hi,b⟩
 cases h
def Em(P:Program)(s:TypeId)(f:Nat):Option Nat:=match P.underlying s with
 | some (.struct fs)=>match fs[f]? with
  | some fd=>match P.info? fd.type with
   | some i=>bif Nat.beq i.size 0 then none else some fd.offset
   | none=>none
  | none=>none
 | _=>none
theorem Pu{k:Nat}(h:Em P T m=some k):∃b a i,P.underlying T=some (.struct b)/\b[m]?=some a/\P.info? a.type=some i/\i.size≠0/\a.offset=k:=by
 unfold Em at h;split at h
 ·rename_i b c
  split at h
  ·rename_i a d
   split at h
   ·rename_i i e
    cases hb:Nat.beq i.size 0 with
    | true=>rw[hb] at h;cases h
    | false=>
     rw[hb] at h;exact ⟨b,a,i,c,d,e,Agz hb,by simpa using h⟩
   cases h
  cases h
 cases h
def Ik(P:Program)(t:TypeId):Option Nat:=match P.underlying t with
 | some (.struct _)=>(P.info? t).map (·.size)
 | some (.array _ _)=>(P.info? t).map (·.size)
 | _=>none
theorem Ns(h:Ik P T=some m)(w:World):(isAgg T).run P w=.ok true w/\(sizeOf T).run P w=.ok m w:=by
 have key:∀d,P.underlying T=some d->((d matches .struct _)=true\/(d matches .array _ _)=true)->(P.info? T).map (·.size)=some m->(isAgg T).run P w=.ok true w/\(sizeOf T).run P w=.ok m w:=by
  intro d c a hs
  cases hi:P.info? T with
  | none=>rw[hi] at hs;cases hs
  | some i=>
   rw[hi] at hs;simp only[AeU,Aen] at hs;refine ⟨?_,by simp[sizeOf,typeInfo,hi,go_sem,hs]⟩;unfold isAgg;simp only[run_underlying c,go_sem,Aex,Aet];rcases a with a|a<;>(cases d<;>simp at a ⊢)
 unfold Ik at h;split at h
 ·rename_i b;exact key _ b (.inl Z) h
 ·rename_i b;exact key _ b (.inr Z) h
 cases h

section ints
variable{x y:Operand}{xt yt:TypeId}{k:IntKind}{p q:Int}
theorem W5(e:o.op=.binOp .add xt x y yt)(c:ev L x=some (.int k p))(d:ev L y=some (.int k q)):Av P C n ds L o (.int k (k.wrap (p+q))):=λa b w _=>by
 simp only[execOp,e,b.ev c,b.ev d];simp[go_sem]
theorem AcT(e:o.op=.binOp .sub xt x y yt)(c:ev L x=some (.int k p))(d:ev L y=some (.int k q)):Av P C n ds L o (.int k (k.wrap (p-q))):=λa b w _=>by
 simp only[execOp,e,b.ev c,b.ev d];simp[go_sem]
theorem AcU(e:o.op=.binOp .mul xt x y yt)(c:ev L x=some (.int k p))(d:ev L y=some (.int k q)):Av P C n ds L o (.int k (k.wrap (p*q))):=λa b w _=>by
 simp only[execOp,e,b.ev c,b.ev d];simp[go_sem]
theorem AcV(f:o.op=.binOp .quo xt x y yt)(c:ev L x=some (.int k p))(d:ev L y=some (.int k q))(e:q≠0):Av P C n ds L o (.int k (k.wrap (p.tdiv q))):=λa b w _=>by
 simp only[execOp,f,b.ev c,b.ev d];simp[go_sem,e]
theorem Re(f:o.op=.binOp .rem xt x y yt)(c:ev L x=some (.int k p))(d:ev L y=some (.int k q))(e:q≠0):Av P C n ds L o (.int k (p.tmod q)):=λa b w _=>by
 simp only[execOp,f,b.ev c,b.ev d];simp[go_sem,e]
theorem Rg(e:o.op=.binOp .lss xt x y yt)(c:ev L x=some (.int k p))(d:ev L y=some (.int k q)):Av P C n ds L o (.bool (decide (p<q))):=λa b w _=>by
 simp only[execOp,e,b.ev c,b.ev d];simp[go_sem]
theorem W6(e:o.op=.binOp .leq xt x y yt)(c:ev L x=some (.int k p))(d:ev L y=some (.int k q)):Av P C n ds L o (.bool (decide (p<=q))):=λa b w _=>by
 simp only[execOp,e,b.ev c,b.ev d];simp[go_sem]
theorem W7(e:o.op=.binOp .gtr xt x y yt)(c:ev L x=some (.int k p))(d:ev L y=some (.int k q)):Av P C n ds L o (.bool (decide (q<p))):=λa b w _=>by
 simp only[execOp,e,b.ev c,b.ev d];simp[go_sem]
theorem W8(e:o.op=.binOp .geq xt x y yt)(c:ev L x=some (.int k p))(d:ev L y=some (.int k q)):Av P C n ds L o (.bool (decide (q<=p))):=λa b w _=>by
 simp only[execOp,e,b.ev c,b.ev d];simp[go_sem]
theorem Xa(e:o.op=.binOp .eql xt x y yt)(c:ev L x=some (.int k p))(d:ev L y=some (.int k q)):Av P C n ds L o (.bool (decide (p=q))):=λa b w _=>by
 simp only[execOp,e,b.ev c,b.ev d];simp[go_sem];rw[Aey];simp
theorem Xb(e:o.op=.binOp .neq xt x y yt)(c:ev L x=some (.int k p))(d:ev L y=some (.int k q)):Av P C n ds L o (.bool (decide (p≠q))):=λa b w _=>by
 simp only[execOp,e,b.ev c,b.ev d];simp[go_sem];rw[Aey];simp
theorem C3(e:o.op=.binOp .add xt x y yt)(a:ev L x=some (I p))(b:ev L y=some (I q)){r:Int}(d:p+q=r)(c: -9223372036854775808<=r/\r<=9223372036854775807):Av P C n ds L o (I r):=by
 have:=W5 (P:=P) (C:=C) (n:=n) (ds:=ds) (L:=L) e a b;rwa[d,AfN _ c] at this
theorem Hy(e:o.op=.binOp .sub xt x y yt)(a:ev L x=some (I p))(b:ev L y=some (I q)){r:Int}(d:p-q=r)(c: -9223372036854775808<=r/\r<=9223372036854775807):Av P C n ds L o (I r):=by
 have:=AcT (P:=P) (C:=C) (n:=n) (ds:=ds) (L:=L) e a b;rwa[d,AfN _ c] at this
theorem Hz(e:o.op=.binOp .mul xt x y yt)(a:ev L x=some (I p))(b:ev L y=some (I q)){r:Int}(d:p*q=r)(c: -9223372036854775808<=r/\r<=9223372036854775807):Av P C n ds L o (I r):=by
 have:=AcU (P:=P) (C:=C) (n:=n) (ds:=ds) (L:=L) e a b;rwa[d,AfN _ c] at this
theorem Lr(e:o.op=.binOp .quo xt x y yt)(b:ev L x=some (I p))(c:ev L y=some (I q)){r:Int}(a:0<=p)(f:0<q)(d:p/q=r)(g:p<=9223372036854775807):Av P C n ds L o (I r):=by
 have:=AcV (P:=P) (C:=C) (n:=n) (ds:=ds) (L:=L) e b c U;rw[Int.tdiv_eq_ediv_of_nonneg a] at this;have h:0<=p/q:=Int.ediv_nonneg a U;have i:p/q<=p:=Int.ediv_le_self q a;rwa[d,AfN _ U] at this
theorem Ls(f:o.op=.binOp .rem xt x y yt)(a:ev L x=some (.int k p))(b:ev L y=some (.int k q)){r:Int}(c:0<=p)(d:q≠0)(e:p%q=r):Av P C n ds L o (.int k r):=by
 have:=Re (P:=P) (C:=C) (n:=n) (ds:=ds) (L:=L) f a b d;rwa[Int.tmod_eq_emod_of_nonneg c,e] at this
theorem Xc(c:o.op=.unOp .neg xt x)(b:ev L x=some (.int k p)):Av P C n ds L o (.int k (k.wrap (0-p))):=λa d w _=>by
 simp only[execOp,c,d.ev b];simp[go_sem]
theorem PN(c:o.op=.unOp .neg xt x)(a:ev L x=some (I p)){r:Int}(d: -p=r)(b: -9223372036854775808<=r/\r<=9223372036854775807):Av P C n ds L o (I r):=by
 have:=Xc (P:=P) (C:=C) (n:=n) (ds:=ds) (L:=L) c a;rwa[show (0:Int)-p=r from by omega,AfN _ b] at this
theorem HA{c:IntKind}(g:o.op=.convert xt T x)(b:Ea P xt T=some c)(d:ev L x=some (.int k p)):Av P C n ds L o (.int c (c.wrap p)):=λa f w _=>by
 obtain ⟨h,e,b⟩:=FN b;simp only[execOp,g,f.ev d];simp[convert,run_underlying e,run_underlying b,go_sem]
theorem Up{a:IntKind}(e:o.op=.convert xt T x)(c:Ea P xt T=some a)(b:ev L x=some (.int k p)){r:Int}(d:a.wrap p=r):Av P C n ds L o (.int a r):=by
 have:=HA (P:=P) (C:=C) (n:=n) (ds:=ds) (L:=L) e c b;rwa[d] at this
end ints

def Nt(P:Program)(t:TypeId):Bool:=match P.underlying t with|some .bool=>true|_=>false
theorem Sp(h:Nt P T=true):P.underlying T=some .bool:=by
 unfold Nt at h;split at h
 ·assumption
 cases h
theorem Kx{xt:TypeId}{x:Operand}(e:o.op=.unOp .not xt x)(c:ev L x=some (.bool b)):Av P C n ds L o (.bool !b):=λa d w _=>by
 simp only[execOp,e,d.ev c];simp[go_sem]
theorem AH{xt:TypeId}{x:Operand}(d:o.op=.unOp .not xt x){p:Prop}[Decidable p](b:ev L x=some (.bool (decide p))):Av P C n ds L o (.bool (decide (¬p))):=λa c w _=>by
 simp only[execOp,d,c.ev b];simp[go_sem]
theorem Nu{xt yt:TypeId}{x y:Operand}(h:o.op=.binOp .neq xt x y yt)(d:Nt P xt=true)(f:ev L x=some (.bool b))(g:ev L y=some (.bool c)):Av P C n ds L o (.bool (decide (b≠c))):=λa e w _=>by
 have d:=Sp d;simp only[execOp,h,e.ev f,e.ev g];simp[d,go_sem];cases b<;>cases c<;>rfl

def Gi(P:Program)(t:TypeId):Bool:=match P.underlying t with
 | some (.struct _)=>false
 | some (.array _ _)=>false
 | some _=>true
 | none=>false
theorem FO(h:Gi P T=true)(w:World):(isAgg T).run P w=.ok false w:=by
 unfold Gi at h;unfold isAgg
 cases hu:P.underlying T with
 | none=>rw[hu] at h;cases h
 | some d=>rw[hu] at h;simp[run_underlying hu,go_sem];cases d<;>simp at h ⊢
theorem Bn{x:Operand}{p:Nat}(g:o.op=.load T x)(d:ev L x=some (.pointer (some ⟨m,p,none⟩)))(e:Gi P T=true)(c:∀w,C w->FH m p v w):Av P C n ds L o v:=λa f w b=>by
 have:=c w b;unfold FH at this;simp only[execOp,g,f.ev d];simp[Instr.loadAt,Instr.sureAddr,loadVar,FO e,go_sem,this]
theorem B0{x:Operand}{p:Nat}{vs:List Value}(r:o.op=.load T x)(g:ev L x=some (.pointer (some ⟨m,p,none⟩)))
  (q:Ik P T=some vs.length)(f:∀w,C w->∀j u,vs[j]?=some u->FH m (p+j) u w):Av P C n ds L o (.agg vs.toArray):=λa k w l=>by
 have h:=run_loadCells_list (P:=P) w ⟨m,p,none⟩ vs (λj u d=>by
  have:=f w l j u d;have e:(Addr.add ⟨m,p,none⟩ j)=⟨m,p+j,none⟩:=by
   unfold Addr.add;split
   ·rename_i i;simp[i]
   rfl
  rw[e];exact this)
 obtain ⟨b,c⟩:=Ns q w;simp only[execOp,r,k.ev g,Instr.loadAt,Instr.sureAddr,loadVar,Aex,AeC,Aet,b,if_true,c,h]
theorem Blk.part{b:Nat}{cs:List Value}{ty:TypeId}{w:World}(h:Blk b cs ty w)(p k:Nat)(vs:List Value)(c:vs=(cs.drop p).take k):∀j u,vs[j]?=some u->FH b (p+j) u w:=λj u a=>by
 subst c;refine h.cel _ ?_;rw[Ae0] at a;split at a
 ·rw[Afm] at a;exact a
 cases a
def G8(P:Program)(t:TypeId):Bool:=match P.underlying t with|some .string=>true|_=>false
theorem GF(h:G8 P T=true):P.underlying T=some .string:=by
 unfold G8 at h;split at h
 ·assumption
 cases h

theorem Fu{x:Operand}{t z:TypeId}{d:Option Addr}{l c:Nat}(h:o.op=.call {callee:=.builtin .len,args:= #[x],argTypes:= #[t]})(b:Do P t=some z)(f:ev L x=some (.slice d l c)):Av P C n ds L o (I l):=λa g w _=>by
 obtain ⟨e,i,b,_,_⟩:=Ff b;simp only[execOp,h,g.ev f,resolve,AeZ,AeL,AfB];simp[invoke,builtin,Builtin.len_,run_underlying b,goInt,go_sem]
theorem AaJ{x:Operand}{t:TypeId}{s:ByteArray}(e:o.op=.call {callee:=.builtin .len,args:= #[x],argTypes:= #[t]})(b:G8 P t=true)(c:ev L x=some (.string s)):Av P C n ds L o (I s.size):=λa d w _=>by
 have b:=GF b;simp only[execOp,e,d.ev c,resolve,AeZ,AeL,AfB];simp[invoke,builtin,Builtin.len_,run_underlying b,goInt,go_sem]
theorem Ni{x y:Operand}{t u:TypeId}{k c:IntKind}{p q:Int}(f:o.op=.call {callee:=.builtin .max,args:= #[x,y],argTypes:= #[t,u]})(d:ev L x=some (.int k p))(e:ev L y=some (.int c q)):Av P C n ds L o (.int k (max p q)):=λa b w _=>by
 simp only[execOp,f,b.ev d,b.ev e,resolve,AeZ,AeL,AfB];simp[invoke,builtin,Builtin.max_,Builtin.max2,go_sem];omega
theorem Ky{x y:Operand}{t u:TypeId}{k c:IntKind}{p q:Int}(f:o.op=.call {callee:=.builtin .min,args:= #[x,y],argTypes:= #[t,u]})(d:ev L x=some (.int k p))(e:ev L y=some (.int c q)):Av P C n ds L o (.int k (min p q)):=λa b w _=>by
 simp only[execOp,f,b.ev d,b.ev e,resolve,AeZ,AeL,AfB];simp[invoke,builtin,Builtin.min_,Builtin.min2,go_sem];omega
theorem DU{x:Operand}{p k:Nat}(h:o.op=.fieldAddr T x m)(hs:Em P T m=some k)(c:ev L x=some (.pointer (some ⟨i,p,none⟩)))(s:p+k=r):Av P C n ds L o (.pointer (some ⟨i,r,none⟩)):=λa f w _=>by
 obtain ⟨l,b,t,hs,g,hi,d,q⟩:=Pu hs;have e:(Addr.add ⟨i,p,none⟩ b.offset)=⟨i,r,none⟩:=by
  unfold Addr.add;split
  ·rename_i j;simp only[Ahn,true_and,and_true];omega
  simp only[Ahn,true_and,and_true];omega
 simp only[execOp,h,f.ev c];simp[Instr.fieldAt,run_underlying hs,g,Instr.sureAddr,fieldPlace,sizeOf,typeInfo,hi,d,e,go_sem]
theorem CJ{x y:Operand}{p c z:Nat}{k:IntKind}(v:o.op=.indexAddr T x y)(b:Do P T=some z)
  (i:ev L x=some (.slice (some ⟨m,p,none⟩) g c))(l:ev L y=some (.int k s))(d:s=j)(t:j<g)(u:p+j*z=r):Av P C n ds L o (.pointer (some ⟨m,r,none⟩)):=λa f w _=>by
 obtain ⟨e,i0,b,hi,q⟩:=Ff b;subst d;have h:(0:Int)<=(j:Int)/\(j:Int)<(g:Int):=by omega
 simp only[execOp,v,f.ev i,f.ev l];simp[Instr.indexAt,run_underlying b,sizeOf,typeInfo,hi,q,h,t,u,go_sem,asIntOf]
def At(ao:Option Addr)(k:Nat)(v:Value)(w:World):Prop:=∃b p,ao=some ⟨b,p,none⟩/\FH b (p+k) v w
def GG(ao:Option Addr)(k:Nat):Value:=.pointer (ao.map λa=>⟨a.block,a.off+k,none⟩)
theorem Ak{x y:Operand}{c:Option Addr}{z:Nat}{k:IntKind}{t:World}{q:Nat}(ho:o.op=.indexAddr T x y)(f:Do P T=some z)
  (v:ev L x=some (.slice c m g))(hy:ev L y=some (.int k s))(h:s=j)(hl:j<m)(d:At c q u t)(hr:j*z=r):Av P C n ds L o (GG c r):=λa i w _=>by
 obtain ⟨e,i0,f,hi,hz⟩:=Ff f;obtain ⟨b,p,rfl,_⟩:=d;subst h;have l:(0:Int)<=(j:Int)/\(j:Int)<(m:Int):=by omega
 simp only[execOp,ho,i.ev v,i.ev hy];simp[Instr.indexAt,run_underlying f,sizeOf,typeInfo,hi,hz,l,hl,hr,GG,go_sem,asIntOf]
theorem Bh{x:Operand}{c:Option Addr}{p k q:Nat}(h:o.op=.fieldAddr T x m)(hs:Em P T m=some k)(f:ev L x=some (GG c p))(d:At c q u z)(i:p+k=r):Av P C n ds L o (GG c r):=λa g w e=>by
 obtain ⟨b,p',rfl,_⟩:=d;have:=DU (P:=P) (C:=C) (r:=p'+r) h hs (show ev L x=some (.pointer (some ⟨b,p'+p,none⟩)) from f) U a g w e;simpa [GG] using this
theorem Ay{x:Operand}{c:Option Addr}{k:Nat}(j:o.op=.load T x)(e:ev L x=some (GG c k))(g:Gi P T=true)(f:∀w,C w->At c k v w):Av P C n ds L o v:=λa i w d=>by
 obtain ⟨b,p,rfl,h⟩:=f w d;exact Bn (P:=P) (C:=(· =w)) j e g (Az h) a i w Z
theorem Bq{x:Operand}{d:Option Addr}{k:Nat}{vs:List Value}(r:o.op=.load T x)(l:ev L x=some (GG d k))
  (q:Ik P T=some vs.length)(c:vs≠[])(f:∀w,C w->∀j u,vs[j]?=some u->At d (k+j) u w):Av P C n ds L o (.agg vs.toArray):=λa m w g=>by
 cases vs with
 | nil=>exact absurd Z c
 | cons u us=>
  obtain ⟨b,p,rfl,_⟩:=f w g 0 u Z;refine B0 (P:=P) (C:=(· =w)) r l q (Az λj x i=>?_) a m w Z;obtain ⟨b',p',e,h⟩:=f w g j x i;simp only[Aen,Ahn,and_true] at e;obtain ⟨rfl,rfl⟩:=e;rw[Age];exact h
theorem JZ{x y:Operand}{p l z:Nat}{k:IntKind}(u:o.op=.indexAddr T x y)(b:Ii P T=some (l,z))
  (g:ev L x=some (.pointer (some ⟨m,p,none⟩)))(h:ev L y=some (.int k s))(c:s=j)(q:j<l)(t:p+j*z=r):Av P C n ds L o (.pointer (some ⟨m,r,none⟩)):=λa d w _=>by
 obtain ⟨e,v,b,hi,i⟩:=Ij b;subst c;have f:(0:Int)<=(j:Int)/\(j:Int)<(l:Int):=by omega
 simp only[execOp,u,d.ev g,d.ev h];simp[Instr.indexAt,run_underlying b,Instr.sureAddr,sizeOf,typeInfo,hi,i,f,q,t,go_sem,asIntOf]
theorem Fg{x:Operand}{vs:List Value}(d:o.op=.extract x i)(b:ev L x=some (.tuple vs.toArray))(hi:vs[i]?=some v):Av P C n ds L o v:=λa c w _=>by
 simp only[execOp,d,c.ev b];simp[Instr.extract,hi,go_sem]
theorem Kz{x:Operand}{b:Addr}(e:o.op=.nilCheck x)(c:ev L x=some (.pointer (some b))):Av P C n ds L o (.pointer (some b)):=λa d w _=>by
 simp only[execOp,e,d.ev c];simp[go_sem]
theorem Jk{x:Operand}{lo hi:Option Operand}{u:Option Addr}{p q:Nat}(t:o.op=.slice T x lo hi none)(h:Do P T=some g)
  (s:ev L x=some (.slice u m j))(v:(lo=none/\p=0)\/∃y k i,lo=some y/\ev L y=some (.int k i)/\i=(p:Int))(z:(hi=none/\q=m)\/∃y k i,hi=some y/\ev L y=some (.int k i)/\i=(q:Int))(c:p<=q)(d:q<=j):
  Av P C n ds L o (.slice (if j=p then u else u.map (·.add (p*g))) (q-p) (j-p)):=λa f w _=>by
 obtain ⟨e,i0,h,b,r⟩:=Ff h;have h1:(0:Int)<=(p:Int)/\(p:Int)<=(q:Int):=by omega
 have h2:(0:Int)<=(q:Int)/\(q:Int)<=(j:Int):=by omega
 rcases v with ⟨rfl,rfl⟩|⟨y,k,i,rfl,hy,rfl⟩<;>rcases z with ⟨rfl,rfl⟩|⟨y',k',i',rfl,l,rfl⟩
 ·simp only[execOp,t,AeU,AfA,f.ev s];simp[Instr.sliceAt,Instr.slice,run_underlying h,Instr.sliceBounds,sizeOf,typeInfo,b,r,c,d,go_sem]<;>(try (intro;omega))
 ·simp only[execOp,t,AeU,AfA,f.ev s,f.ev l];simp[Instr.sliceAt,Instr.slice,run_underlying h,Instr.sliceBounds,Instr.sliceBound,asIntOf,h2,sizeOf,typeInfo,b,r,c,d,go_sem]<;>(try (intro;omega))
 ·simp only[execOp,t,AeU,AfA,f.ev s,f.ev hy];simp[Instr.sliceAt,Instr.slice,run_underlying h,Instr.sliceBounds,Instr.sliceBound,asIntOf,h1,sizeOf,typeInfo,b,r,c,d,go_sem]<;>(try (intro;omega))
 simp only[execOp,t,AeU,AfA,f.ev s,f.ev hy,f.ev l];simp[Instr.sliceAt,Instr.slice,run_underlying h,Instr.sliceBounds,Instr.sliceBound,asIntOf,h1,h2,sizeOf,typeInfo,b,r,c,d,go_sem]<;>(try (intro;omega))
end
end
section
def Elt(P:Program)(e:TypeId)(z:Value)(sz by_:Nat):Prop:=∃i,P.info? e=some i/\i.zero=some z/\i.size=sz/\i.bytes=by_/\z.cells.size=sz/\0<sz/\0<by_
theorem Elt.mk{P:Program}{e:TypeId}{z:Value}{sz by_:Nat}(h:(P.info? e).map (λi=>(i.zero,i.size,i.bytes))=some (some z,sz,by_))(b:z.cells.size=sz)(a:0<sz)(c:0<by_):Elt P e z sz by_:=by
 cases hi:P.info? e with
 | none=>rw[hi] at h;cases h
 | some i=>
  rw[hi] at h;simp only[AeU,Aen,Afv] at h;exact ⟨i,hi,h.1,h.2.1,h.2.2,b,a,c⟩
def Rd(sz:Nat)(v:Value)(n:Nat)(xs:List Value)(w:World):Prop:=
 ∃ao c,v=.slice ao n c/\n<=c/\c<=9223372036854775807/\xs.length=n*sz/\∀j u,xs[j]?=some u->At ao j u w
def Xd(B:Nat)(e:TypeId)(sz:Nat)(v:Value)(n:Nat)(xs:List Value)(w:World):Prop:=w.ownsRow B e sz v n xs
theorem Rd.nil(sz:Nat)(w:World):Rd sz (.slice none 0 0) 0 [] w:=⟨none,0,Z,AeN _,by omega,by simp,λj u h=>by simp at h⟩
section
variable{P:Program}{o:Oper}{a:Act}{w:World}{n:Nat}{ds:List Deferred}{L:List (Nat×Value)}
def Nv(cs:List Value)(ty:TypeId)(w:World)(v:Value)(w':World):Prop:=∃b,v=.pointer (some ⟨b,0,none⟩)/\w.heap.size=b/\w'.heap.size=b+1/\Blk b cs ty w'/\Ext No w w'
def Sr(cs:List Value)(ty:TypeId)(len:Nat)(w:World)(v:Value)(w':World):Prop:=∃b,v=.slice (some ⟨b,0,none⟩) len len/\w.heap.size=b/\w'.heap.size=b+1/\Blk b cs ty w'/\Ext No w w'
theorem Dv(w:World)(o:Obj):Ext No w {w with heap:=w.heap.push o} :=⟨Z,Z,Z,by simp,λk a _=>by
 show (w.heap.push o)[k]?=_;rw[Ahd,if_neg U]⟩
theorem PO(w:World)(cs:List Value)(ty:TypeId):Nv cs ty w (.pointer (some ⟨w.heap.size,0,none⟩)) {w with heap:=w.heap.push (.cells cs.toArray ty)} :=
 ⟨_,Z,Z,by simp,by show (w.heap.push _)[w.heap.size]?=_;simp,Dv w _⟩
theorem XK(w:World)(cs:List Value)(ty:TypeId)(a:Nat):Sr cs ty a w (.slice (some ⟨w.heap.size,0,none⟩) a a) {w with heap:=w.heap.push (.cells cs.toArray ty)} :=
 ⟨_,Z,Z,by simp,by show (w.heap.push _)[w.heap.size]?=_;simp,Dv w _⟩
def zeroCells(P:Program)(e:TypeId):Option (Array Value):=((P.info? e).bind (·.zero)).map Value.cells
theorem XL(c:o.op=.alloc T)(b:zeroCells P T=some V.toArray):CA P n ds L o w (Nv V T w):=by
 intro a d;refine ⟨_,_,?_,PO w V T⟩;unfold zeroCells at b
 cases hi:P.info? T with
 | none=>rw[hi] at b;cases b
 | some i0=>
  rw[hi] at b;simp only[AgX] at b
  cases hq:i0.zero with
  | none=>rw[hq] at b;cases b
  | some z=>
   rw[hq] at b;simp only[AeU,Aen] at b;simp only[execOp,c];simp[Instr.alloc,zeroValue,typeInfo,hi,hq,newVar,newRow,newObj,go_sem,Sem.run];rw[<-b];rfl
theorem Pv{vs:List Value}{t:TypeId}(d:Ik P T=some vs.length)(f:Blk m V t w)(k:vs=(V.drop i).take vs.length):(loadVar T ⟨m,i,none⟩).run P w=.ok (.agg vs.toArray) w:=by
 have g:=run_loadCells_list (P:=P) w ⟨m,i,none⟩ vs (λj u c=>by
  have:=f.part i vs.length vs k j u c;have e:(Addr.add ⟨m,i,none⟩ j)=⟨m,i+j,none⟩:=by
   unfold Addr.add;split
   ·rename_i h;simp[h]
   rfl
  rw[e];exact this)
 obtain ⟨a,b⟩:=Ns d w;simp only[loadVar,Aex,AeC,Aet,a,if_true,b,g]
theorem AcW(d:o.op=.box T x)(b:ev L x=some v)(e:v.cells=V.toArray):CA P n ds L o w (Nv V T w):=by
 intro a c;refine ⟨_,_,?_,PO w V T⟩;simp only[execOp,d,c.ev b];simp[Instr.box,newVar,newRow,newObj,go_sem,Sem.run];rw[<-e];rfl
theorem Bg{C:World->Prop}{parts:List (Nat×Operand)}{vs:List (Nat×Value)}{out:List Value}(d:o.op=.build T parts.toArray)
  (b:(evs L (parts.map (·.2))).map (List.zip (parts.map (·.1)))=some vs)(c:P.built T vs=some out.toArray):Av P C n ds L o (.agg out.toArray):=λa f w _=>by
 cases he:evs L (parts.map (·.2)) with
 | none=>rw[he] at b;cases b
 | some us=>
  rw[he] at b;simp only[AeU,Aen] at b;have e:=f.evs he;have:(parts.map λx=>(x.1,a.eval x.2))=vs:=by
   rw[<-b,<-e,Afp];clear b he e c d
   induction parts with
   | nil=>rfl
   | cons x xs ih=>simp[ih]
  have g:=run_build (P:=P) w T vs.toArray out.toArray (by simpa using c);simp only[execOp,d,AeZ];rw[show (List.map (λx=>match x with|(i,x)=>(i,a.eval x)) parts)=vs from this];simp only[Aex,g,Aet,AeC]
theorem Ur{x y:Operand}{t e:TypeId}{z:Value}{sz by_ B k m:Nat}{v u:Value}{xs news:List Value}(ho:o.op=.call {callee:=.builtin .append,args:= #[x,y],argTypes:= #[t,t]})
  (ht:P.underlying t=some (.slice e))(hE:Elt P e z sz by_)(hx:ev L x=some v)(hy:ev L y=some u)(f:Xd B e sz v k xs w)(a2:Rd sz u m news w)(h1:∀c∈news,c.oneCell'=true)(hB:B<=w.heap.size)(a9:(k+m)*by_<=140737488355328):
  CA P n ds L o w λd w'=>Xd B e sz d (k+m) (xs++news) w'/\Ext (λi=>v.ownBlock=some i) w w'/\(d.ownBlock=v.ownBlock\/d.ownBlock=some w.heap.size):=by
 intro a hF;obtain ⟨i,hi,hz,hs,hb,a7,a8,a3⟩:=hE;obtain ⟨ao,c,rfl,b1,_,hl,a1⟩:=a2;have l:∀r w',(Builtin.append_ #[t,t] o.type #[v,.slice ao m c]).run P w=.ok r w'->(execOp a.eval o).run P w=.ok (.value r) w':=λr w' h=>by
  simp only[execOp,ho,resolve,invoke,builtin,Aex,AeC,Aet,AeZ,AeL,AfB,hF.ev hx,hF.ev hy,h]
 have a5:k+m<=maxLen:=by
  have:(k+m)*1<=(k+m)*by_:=Agv _ a3;unfold maxLen;omega
 have s:news=[]->∀d,d=v->Xd B e sz d (k+m) (xs++news) w/\Ext (λi=>v.ownBlock=some i) w w/\(d.ownBlock=v.ownBlock\/d.ownBlock=some w.heap.size):=by
  intro hn d a6;subst a6;have hm:m=0:=by
   rw[hn] at hl;simp only[AeD] at hl;rcases AhF.1 hl.symm with h|h<;>omega
  subst hm;rw[hn,AeY];exact ⟨f,Ext.refl _ _,.inl Z⟩
 cases ao with
 | none=>
  have hn:news=[]:=by
   cases news with
   | nil=>rfl
   | cons q qs=>obtain ⟨b,p,hh,_⟩:=a1 0 q Z;cases hh
  have hm:m=0:=by
   rw[hn] at hl;simp only[AeD] at hl;rcases AhF.1 hl.symm with h|h<;>omega
  subst hm;refine ⟨v,w,l _ _ ?_,s hn v Z⟩;rcases f.2 with ⟨rfl,rfl⟩|⟨g,b2,b0,rfl,_,_,a4,_⟩
  ·simp[Builtin.append_,run_underlying ht,sizeOf,typeInfo,hi,Builtin.lenOf,Builtin.firstCells]
  simp[Builtin.append_,run_underlying ht,sizeOf,typeInfo,hi,Builtin.lenOf,Builtin.firstCells,a4,storeCells]
 | some ad=>
  have a0:∀j q,news[j]?=some q->w.cell? (ad.add j)=some q:=λj q hj=>by
   obtain ⟨b,p,hh,hc⟩:=a1 j q hj;simp only[Aen] at hh;subst hh;have e:(Addr.add ⟨b,p,none⟩ j)=⟨b,p+j,none⟩:=by
    unfold Addr.add;split
    ·rename_i h0;simp[h0]
    rfl
   rw[e];exact hc
  obtain ⟨d,w',hr,h2,h3,_,h5⟩:=run_append_own_at (P:=P) w B t o.type e i z sz by_ ht hi hz hs hb a7 a8 v k xs f ad m c news hl a0 h1 a5 a9 hB;exact ⟨d,w',l _ _ hr,h2,(Ext.of_grown h3).mono (λ_ _ q=>q.symm),h5⟩
theorem PP{y:Operand}{ty:TypeId}{vs:List Value}(q:o.op=.store T x y)(g:ev L x=some (.pointer (some ⟨m,j,none⟩)))(h:ev L y=some v)(p:v.cells=vs.toArray)(f:∀u∈vs,u.oneCell'=true)
  (hs:(P.info? T).map (·.size)=some vs.length)(e:Blk m V ty w)(hp:j+vs.length<=V.length){out:List Value}(c:V.take j++vs++V.drop (j+vs.length)=out):
  DI P n ds L o w λw'=>Blk m out ty w'/\Ext (· =m) w w'/\w'.heap.size=w.heap.size:=by
 intro a d;have b:=run_storeCells_at P m j ty vs 0 V.toArray w e (by simpa using hp) f;simp only[Ag6,Af1] at b;rw[c] at b;refine ⟨_,?_,setRow_heap w m _ _ ty (0,0) e,⟨Z,Z,Z,by simp,λk _ l=>setRow_other w m k _ l⟩,by simp⟩
 cases hq:P.info? T with
 | none=>rw[hq] at hs;cases hs
 | some i=>
  rw[hq] at hs;simp only[AeU,Aen] at hs;simp only[execOp,q,d.ev g,d.ev h,Instr.storeAt,Instr.sureAddr,storeVar,sizeOf,typeInfo,Aex,AeC,Aet,p];simp[hq,hs,go_sem,b]
end
end
section
abbrev Hp:=Nat->Option Obj
abbrev Ai:=Hp->Prop
def Hp.part(h:Hp)(own:Nat->Nat)(i:Nat):Hp:=λk=>if own k=i then h k else none
def seps(Γ:List Ai):Ai:=λh=>∃own:Nat->Nat,∀(i:Nat) (A:Ai),Γ[i]?=some A->A (h.part own i)
def hp(w:World):Hp:=λk=>w.heap[k]?
structure Sep(z:World)(Γ:List Ai)(w:World):Prop where
 os:w.os=z.os
 tape:w.tape=z.tape
 output:w.output=z.output
 own:seps Γ (hp w)
def bk(b:Nat)(o:Obj):Ai:=λh=>h b=some o
def blk(b:Nat)(cs:List Value)(ty:TypeId):Ai:=bk b (.cells cs.toArray ty (0,0))
def base(z:World):Ai:=λh=>∀k,k<z.heap.size->h k=z.heap[k]?
def emp:Ai:=λ_=>True
theorem De{h h':Hp}{own':Nat->Nat}(e:∀k,C k=i↔own' k=j)(a:∀k,C k=i->h k=h' k):h.part C i=h'.part own' j:=by
 funext k;unfold Hp.part;by_cases q:C k=i
 ·rw[if_pos q,if_pos ((e k).1 q),a k q]
 rw[if_neg q,if_neg (λb=>q ((e k).2 b))]
theorem En{h:Hp}{o:Obj}(e:h.part C i n=some o):C n=i/\h n=some o:=by
 unfold Hp.part at e;split at e
 ·exact ⟨by assumption,e⟩
 cases e

def pos:List Nat->Nat->Option Nat
 | [],_=>none
 | x::xs,y=>if y=x then some 0 else (pos xs y).map (· +1)
theorem J0:∀(is:List Nat) (y j:Nat),pos is y=some j->is[j]?=some y
 | [],_,_,h=>by simp[pos] at h
 | x::xs,y,j,h=>by
  unfold pos at h;split at h
  ·rename_i e;simp at h;subst h;simp[e]
  cases hp:pos xs y with
  | none=>rw[hp] at h;cases h
  | some q=>rw[hp] at h;simp at h;subst h;simpa using J0 xs y q hp
theorem AaK(h:pos R n=some j):j<R.length:=(Aed.1 (J0 R n j h)).1
def Gj(n:Nat)(is:List Nat):Bool:=(List.range is.length).all λj=>match is[j]? with
 | some y=>Nat.blt y n&&(match pos is y with|some q=>Nat.beq q j|none=>false)
 | none=>false
theorem Ss(h:Gj n R=true)(j y:Nat)(e:R[j]?=some y):y<n/\pos R y=some j:=by
 unfold Gj at h;rw[Af3] at h;have:=h j (by have:=(Aed.1 e).1;simpa using this);rw[e] at this;simp only[AeE] at this;obtain ⟨b,a⟩:=this;refine ⟨by simpa using b,?_⟩
 cases hq:pos R y with
 | none=>rw[hq] at a;cases a
 | some q=>rw[hq] at a;simp at a;rw[a]
def DJ(Γ:List Ai):List Nat->List Ai
 | []=>[]
 | i::is=>(match Γ[i]? with|some A=>A|none=>emp)::DJ Γ is
theorem Ms(Γ:List Ai):∀(a:List Nat) (j:Nat) (A:Ai),(DJ Γ a)[j]?=some A->∃i,a[j]?=some i/\(Γ[i]?=some A\/A=emp)
 | [],_,_,h=>by simp[DJ] at h
 | i::a,0,A,h=>by
  simp only[DJ,AeT,Aen] at h;refine ⟨i,Z,?_⟩
  cases hi:Γ[i]? with
  | none=>rw[hi] at h;exact .inr h.symm
  | some B=>rw[hi] at h;exact .inl (congrArg some h)
 | i::a,j+1,A,h=>by
  simp only[DJ,AeA] at h;obtain ⟨q,hq,hA⟩:=Ms Γ a j A h;exact ⟨q,by simpa using hq,hA⟩
theorem picks_len(Γ:List Ai):∀is:List Nat,(DJ Γ is).length=is.length
 | []=>rfl
 | _::is=>by simp[DJ,picks_len Γ is]
theorem Mt{Γ:List Ai}{h:Hp}(hs:seps Γ h)(n:Nat)(a:List Nat)(g:Gj n a=true):seps (DJ Γ a++Γ.drop n) h:=by
 obtain ⟨own,c⟩:=hs;refine ⟨λk=>if own k<n then (match pos a (own k) with|some j=>j|none=>a.length+Γ.length) else a.length+(own k-n),λj A b=>?_⟩;rcases Aes j a.length with d|d
 ·rw[Aeo (by rw[picks_len];exact d)] at b
  obtain ⟨i,hi,b⟩:=Ms Γ a j A b;obtain ⟨f,l⟩:=Ss g j i hi;rcases b with b|rfl
  ·have:=c i A b
   rw[De (h':=h) (own':=λk=>if own k<n then (match pos a (own k) with|some j=>j|none=>a.length+Γ.length) else a.length+(own k-n)) (j:=j) (λk=>?_) (λ_ _=>rfl)] at this
   ·exact this
   constructor
   ·intro e;subst e;simp[f,l]
   intro e;split at e
   ·cases hp:pos a (own k) with
    | none=>rw[hp] at e;simp at e;omega
    | some q=>rw[hp] at e;simp at e;subst e;have:=J0 _ _ _ hp;rw[hi] at this;simpa using this.symm
   omega
  trivial
 rw[Aeu (by rw[picks_len];exact d),picks_len,Afm] at b;have:=c _ A b;have m:=(Aed.1 b).1;rw[De (h':=h) (own':=λk=>if own k<n then (match pos a (own k) with|some j=>j|none=>a.length+Γ.length) else a.length+(own k-n)) (j:=j) (λk=>?_) (λ_ _=>rfl)] at this
 ·exact this
 constructor
 ·intro e;rw[if_neg U];omega
 intro e;split at e
 ·cases hp:pos a (own k) with
  | none=>rw[hp] at e;simp at e;omega
  | some q=>rw[hp] at e;simp at e;have:=AaK hp;omega
 omega
theorem IN{As Γ:List Ai}{h:Hp}(hs:seps (seps As::Γ) h):seps (As++Γ) h:=by
 obtain ⟨own,b⟩:=hs;obtain ⟨a,f⟩:=b 0 _ Z;refine ⟨λk=>if own k=0 then (if a k<As.length then a k else As.length+Γ.length) else As.length+(own k-1),λj A c=>?_⟩;rcases Aes j As.length with d|d
 ·rw[Aeo d] at c
  have:=f j A c;have e:(h.part own 0).part a j=h.part (λk=>if own k=0 then (if a k<As.length then a k else As.length+Γ.length) else As.length+(own k-1)) j:=by
   funext k;unfold Hp.part;dsimp only;by_cases q:own k=0
   ·by_cases q':a k=j
    ·simp[q,q',d]
    have:¬(if a k<As.length then a k else As.length+Γ.length)=j:=by split<;>omega
    simp[q,q',this]
   have:¬As.length+(own k-1)=j:=by omega
   simp[q,this]
  rwa[e] at this
 rw[Aeu d] at c;have g:=(Aed.1 c).1;have:=b (j-As.length+1) A (by simpa using c);rw[De (h':=h) (own':=λk=>if own k=0 then (if a k<As.length then a k else As.length+Γ.length) else As.length+(own k-1)) (j:=j) (λk=>?_) (λ_ _=>rfl)] at this
 ·exact this
 constructor
 ·intro e;rw[if_neg U];omega
 intro e;split at e
 ·split at e<;>omega
 omega
theorem Mu{As Γ:List Ai}{h:Hp}(hs:seps (As++Γ) h):seps (seps As::Γ) h:=by
 obtain ⟨own,a⟩:=hs;refine ⟨λk=>if own k<As.length then 0 else own k-As.length+1,λj A c=>?_⟩
 cases j with
 | zero=>
  simp only[AeT,Aen] at c;subst c;refine ⟨own,λi A hi=>?_⟩;have b:=(Aed.1 hi).1;have:=a i A (by rw[Aeo b];exact hi);have e:h.part own i=(h.part (λk=>if own k<As.length then 0 else own k-As.length+1) 0).part own i:=by
   funext k;unfold Hp.part;dsimp only;by_cases q:own k=i
   ·simp[q,b]
   simp[q]
  rwa[e] at this
 | succ j=>
  simp only[AeA] at c;have:=a (As.length+j) A (by rw[Aeu U];simpa using c);rw[De (h':=h) (own':=λk=>if own k<As.length then 0 else own k-As.length+1) (j:=j+1) (λk=>?_) (λ_ _=>rfl)] at this
  ·exact this
  constructor
  ·intro e;rw[if_neg U];omega
  intro e;split at e<;>omega
theorem D4{As Bs:List Ai}{h:Hp}(hs:seps (As++Bs) h):seps (Bs++As) h:=by
 obtain ⟨own,a⟩:=hs;refine ⟨λk=>if own k<As.length then own k+Bs.length else if own k<As.length+Bs.length then own k-As.length else own k,λj A b=>?_⟩;rcases Aes j Bs.length with d|d
 ·rw[Aeo d] at b
  have:=a (As.length+j) A (by rw[Aeu U];simpa using b);rw[De (h':=h) (own':=λk=>if own k<As.length then own k+Bs.length else if own k<As.length+Bs.length then own k-As.length else own k) (j:=j) (λk=>?_) (λ_ _=>rfl)] at this
  ·exact this
  constructor
  ·intro e;rw[if_neg U,if_pos U];omega
  intro e;split at e
  ·omega
  split at e<;>omega
 rw[Aeu d] at b;have c:=(Aed.1 b).1;have:=a (j-Bs.length) A (by rw[Aeo c];exact b);rw[De (h':=h) (own':=λk=>if own k<As.length then own k+Bs.length else if own k<As.length+Bs.length then own k-As.length else own k) (j:=j) (λk=>?_) (λ_ _=>rfl)] at this
 ·exact this
 constructor
 ·intro e;rw[if_pos U];omega
 intro e;split at e
 ·omega
 split at e<;>omega
theorem XM{Γ:List Ai}{h:Hp}(hs:seps Γ h)(i:Nat){A:Ai}(c:Γ[i]?=some A){σ:Type}{B:σ->Ai}(f:∀h',(∀k o,h' k=some o->h k=some o)->A h'->∃x,B x h'):∃x,seps (Γ.set i (B x)) h:=by
 obtain ⟨own,a⟩:=hs;obtain ⟨x,d⟩:=f _ (λk o e=>(En e).2) (a i A c);refine ⟨x,own,λj C b=>?_⟩;rw[Afq] at b;split at b
 ·rename_i e;subst e
  split at b
  ·cases b;exact d
  cases b
 exact a j C b

section
variable{z w:World}{Γ:List Ai}
theorem Sep.same{a:World}(H:Sep z Γ w)(d:a.os=w.os)(c:a.tape=w.tape)(b:a.output=w.output)(e:∀k:Nat,a.heap[k]?=w.heap[k]?):Sep z Γ a:=
 ⟨d.trans H.os,c.trans H.tape,b.trans H.output,(show hp a=hp w from funext e)▸H.own⟩
theorem Sep.drew(H:Sep z Γ w):Sep z Γ w.drew:=H.same Z Z Z λ_=>rfl
theorem Sep.pick(n:Nat)(b:List Nat)(H:Sep z Γ w)(a:Gj n b=true):Sep z (DJ Γ b++Γ.drop n) w:=⟨H.os,H.tape,H.output,Mt H.own n b a⟩
theorem Sep.perm(n:Nat)(b:List Nat){Γ':List Ai}(H:Sep z Γ w)(a:Gj n b=true)(e:DJ Γ b++Γ.drop n=Γ'):Sep z Γ' w:=e▸H.pick n b a
theorem Sep.opened{As:List Ai}(H:Sep z (seps As::Γ) w):Sep z (As++Γ) w:=⟨H.os,H.tape,H.output,IN H.own⟩
theorem Sep.shut{As:List Ai}(H:Sep z (As++Γ) w):Sep z (seps As::Γ) w:=⟨H.os,H.tape,H.output,Mu H.own⟩
theorem Sep.swap{As Bs:List Ai}(H:Sep z (As++Bs) w):Sep z (Bs++As) w:=⟨H.os,H.tape,H.output,D4 H.own⟩
theorem Sep.front{As Bs:List Ai}(H:Sep z (As++Bs) w):Sep z As w:=by
 have b:=H.swap;have:seps As (hp w):=by
  obtain ⟨own,d⟩:=b.own;refine ⟨λk=>if own k<Bs.length then As.length else own k-Bs.length,λj A a=>?_⟩;have c:=(Aed.1 a).1;have:=d (Bs.length+j) A (by rw[Aeu U];simpa using a);rwa[De (h':=hp w) (own':=λk=>if own k<Bs.length then As.length else own k-Bs.length) (j:=j) (λk=>⟨λe=>by rw[if_neg U];omega,λe=>by split at e<;>omega⟩) (λ_ _=>rfl)] at this
 exact ⟨H.os,H.tape,H.output,this⟩
theorem Sep.ex(i:Nat){A:Ai}{σ:Type}{B:σ->Ai}(H:Sep z Γ w)(a:Γ[i]?=some A)(c:∀h,A h->∃x,B x h):∃x,Sep z (Γ.set i (B x)) w:=by
 obtain ⟨x,b⟩:=XM H.own i a (λh _ q=>c h q);exact ⟨x,H.os,H.tape,H.output,b⟩
theorem Sep.mono(i:Nat){A B:Ai}(H:Sep z Γ w)(a:Γ[i]?=some A)(c:∀h,A h->B h):Sep z (Γ.set i B) w:=by
 obtain ⟨_,b⟩:=H.ex i (σ:=Unit) (B:=λ_=>B) a (λh q=>⟨(),c h q⟩);exact b
theorem Sep.exAt(i:Nat){A:Ai}{σ:Type}{p:σ->Prop}{B:σ->Ai}(H:Sep z Γ w)(a:Γ[i]?=some A)(e:∀h,A h->∃x,p x/\B x h):∃x,p x/\Sep z (Γ.set i (B x)) w:=by
 obtain ⟨⟨x,hp⟩,d⟩:=H.ex i (σ:= {x:σ // p x}) (B:=λx=>B x.1) a (λh q=>by obtain ⟨x,b,c⟩:=e h q;exact ⟨⟨x,b⟩,c⟩);exact ⟨x,hp,d⟩
theorem Sep.into{σ:Type}{A:Ai}{p:σ->Prop}{As:σ->List Ai}(H:Sep z (A::Γ) w)(a:∀h,A h->∃x,p x/\seps (As x) h):∃x,p x/\Sep z (As x++Γ) w:=by
 obtain ⟨⟨x,hp⟩,d⟩:=H.ex 0 (σ:= {x:σ // p x}) (B:=λx=>seps (As x.1)) Z (λh q=>by obtain ⟨x,b,c⟩:=a h q;exact ⟨⟨x,b⟩,c⟩);exact ⟨x,hp,d.opened⟩
theorem Sep.made(n:Nat){A:Ai}(H:Sep z Γ w)(a:∀h,seps (Γ.take n) h->A h):Sep z (A::Γ.drop n) w:=by
 have:Sep z (Γ.take n++Γ.drop n) w:=by rw[AeP];exact H
 exact this.shut.mono 0 Z a
theorem Sep.get(i:Nat){A:Ai}(H:Sep z Γ w)(b:Γ[i]?=some A):∃h,A h/\∀k o,h k=some o->w.heap[k]?=some o:=by
 obtain ⟨own,a⟩:=H.own;exact ⟨_,a i A b,λk o e=>(En e).2⟩
theorem Sep.bk(i:Nat){b:Nat}{o:Obj}(H:Sep z Γ w)(a:Γ[i]?=some (bk b o)):w.heap[b]?=some o:=by
 obtain ⟨h,c,d⟩:=H.get i a;exact d _ _ c
theorem Sep.blk(i:Nat){b:Nat}{cs:List Value}{ty:TypeId}(H:Sep z Γ w)(a:Γ[i]?=some (blk b cs ty)):Blk b cs ty w:=H.bk i a
theorem Sep.cel(i:Nat){b:Nat}{cs:List Value}{ty:TypeId}(H:Sep z Γ w)(a:Γ[i]?=some (YtemljpjnhjnncaaGreatDoor.blk b cs ty))(o:Nat){v:Value}(c:cs[o]?=some v):FH b o v w:=(H.blk i a).cel o c
theorem Sep.write(i:Nat){b:Nat}{o o':Obj}{c:World}(H:Sep z Γ w)(h:Γ[i]?=some (YtemljpjnhjnncaaGreatDoor.bk b o))(l:c.os=w.os)(s:c.tape=w.tape)(m:c.output=w.output)
  (r:c.heap[b]?=some o')(p:∀k,k≠b->c.heap[k]?=w.heap[k]?):Sep z (Γ.set i (YtemljpjnhjnncaaGreatDoor.bk b o')) c:=by
 refine ⟨l.trans H.os,s.trans H.tape,m.trans H.output,?_⟩;obtain ⟨own,a⟩:=H.own;have f:=(En (a i _ h)).1;refine ⟨own,λj C d=>?_⟩;rw[Afq] at d;split at d
 ·rename_i e;subst e
  split at d
  ·cases d
   unfold YtemljpjnhjnncaaGreatDoor.bk Hp.part hp;rw[if_pos f,r]
  cases d
 rename_i e;have:=a j C d;have n:(hp w).part own j=(hp c).part own j:=De (λ_=>Ahw) (λk g=>(p k (λq=>e (by rw[<-g,q,f]))).symm);rwa[n] at this
theorem Sep.grow{A:Ai}{a:World}(H:Sep z Γ w)(x:Ext No w a)(d:A (λk=>if k<w.heap.size then none else a.heap[k]?)):Sep z (A::Γ) a:=by
 refine ⟨x.os.trans H.os,x.tape.trans H.tape,x.output.trans H.output,?_⟩;obtain ⟨own,b⟩:=H.own;refine ⟨λk=>if k<w.heap.size then own k+1 else 0,λj C c=>?_⟩
 cases j with
 | zero=>
  simp only[AeT,Aen] at c;subst c;have e:(hp a).part (λk=>if k<w.heap.size then own k+1 else 0) 0=λk=>if k<w.heap.size then none else a.heap[k]? :=by
   funext k;unfold Hp.part hp;dsimp only;by_cases q:k<w.heap.size
   ·simp[q]
   simp[q]
  rw[e];exact d
 | succ j=>
  simp only[AeA] at c;have:=b j C c;have e:(hp a).part (λk=>if k<w.heap.size then own k+1 else 0) (j+1)=(hp w).part own j:=by
   funext k;unfold Hp.part hp;dsimp only;by_cases q:k<w.heap.size
   ·simp only[q,if_true,Nat.add_right_cancel_iff]
    by_cases q':own k=j
    ·simp only[q',if_true];exact x.block k q (λr=>r)
    simp[q']
   have:w.heap[k]?=none:=Ae2 U;simp[q,this]
  rwa[e]
theorem Sep.ext0{a:World}(H:Sep z Γ w)(x:Ext No w a):Sep z Γ a:=by
 have:=H.grow (A:=emp) x trivial;have:=this.perm 1 [] (Γ':=Γ) Z Z;exact this
theorem A4{K:World->Prop}(H:Sep z Γ w)(h:∀w,Sep z Γ w->K w):∀a,Ext No w a->a.heap.size=w.heap.size->K a:=λa x _=>h a (H.ext0 x)
theorem Sep.new{b:Nat}{o:Obj}{a:World}(H:Sep z Γ w)(x:Ext No w a)(d:w.heap.size<=b)(c:a.heap[b]?=some o):Sep z (YtemljpjnhjnncaaGreatDoor.bk b o::Γ) a:=
 H.grow x (show (if b<w.heap.size then none else a.heap[b]?)=some o by rw[if_neg U];exact c)
theorem Sep.done(i:Nat)(H:Sep z Γ w)(b:Γ[i]?=some (base z)):Ext No z w:=by
 obtain ⟨h,c,d⟩:=H.get i b;have key:∀k,k<z.heap.size->w.heap[k]?=z.heap[k]? :=λk a=>by
  have e:z.heap[k]?=some z.heap[k]:=AgP a;rw[e];exact d k _ ((c k a).trans e)
 refine ⟨H.os,H.tape,H.output,?_,λk a _=>key k a⟩;rcases Aes w.heap.size z.heap.size with q|q
 ·have:=key w.heap.size q
  rw[Ae2 (Aek _),AgP q] at this;cases this
 exact q
end

section
variable{z w:World}{Γ:List Ai}{a0 a1 a2 a3 a4 a5 a6 a7 a8 a9 a10 a11 a12 a13 a14 a15 a16 a17 a18 a19 a20 a21 a22 a23 a24 a25 a26:Ai}
theorem Sep.l1(H:Sep z (a0::Γ) w):Sep z (a0::Γ) w:=H
theorem Sep.l2(H:Sep z (a0::a1::Γ) w):Sep z (a0::a1::Γ) w:=H
theorem Sep.l3(H:Sep z (a0::a1::a2::Γ) w):Sep z (a0::a1::a2::Γ) w:=H
theorem Sep.l4(H:Sep z (a0::a1::a2::a3::Γ) w):Sep z (a0::a1::a2::a3::Γ) w:=H
theorem Sep.l5(H:Sep z (a0::a1::a2::a3::a4::Γ) w):Sep z (a0::a1::a2::a3::a4::Γ) w:=H
theorem Sep.l6(H:Sep z (a0::a1::a2::a3::a4::a5::Γ) w):Sep z (a0::a1::a2::a3::a4::a5::Γ) w:=H
theorem Sep.l7(H:Sep z (a0::a1::a2::a3::a4::a5::a6::Γ) w):Sep z (a0::a1::a2::a3::a4::a5::a6::Γ) w:=H
theorem Sep.l8(H:Sep z (a0::a1::a2::a3::a4::a5::a6::a7::Γ) w):Sep z (a0::a1::a2::a3::a4::a5::a6::a7::Γ) w:=H
theorem Sep.l9(H:Sep z (a0::a1::a2::a3::a4::a5::a6::a7::a8::Γ) w):Sep z (a0::a1::a2::a3::a4::a5::a6::a7::a8::Γ) w:=H
theorem Sep.l10(H:Sep z (a0::a1::a2::a3::a4::a5::a6::a7::a8::a9::Γ) w):Sep z (a0::a1::a2::a3::a4::a5::a6::a7::a8::a9::Γ) w:=H
theorem Sep.l11(H:Sep z (a0::a1::a2::a3::a4::a5::a6::a7::a8::a9::a10::Γ) w):Sep z (a0::a1::a2::a3::a4::a5::a6::a7::a8::a9::a10::Γ) w:=H
theorem Sep.l12(H:Sep z (a0::a1::a2::a3::a4::a5::a6::a7::a8::a9::a10::a11::Γ) w):Sep z (a0::a1::a2::a3::a4::a5::a6::a7::a8::a9::a10::a11::Γ) w:=H
theorem Sep.l13(H:Sep z (a0::a1::a2::a3::a4::a5::a6::a7::a8::a9::a10::a11::a12::Γ) w):Sep z (a0::a1::a2::a3::a4::a5::a6::a7::a8::a9::a10::a11::a12::Γ) w:=H
theorem Sep.l14(H:Sep z (a0::a1::a2::a3::a4::a5::a6::a7::a8::a9::a10::a11::a12::a13::Γ) w):Sep z (a0::a1::a2::a3::a4::a5::a6::a7::a8::a9::a10::a11::a12::a13::Γ) w:=H
theorem Sep.l15(H:Sep z (a0::a1::a2::a3::a4::a5::a6::a7::a8::a9::a10::a11::a12::a13::a14::Γ) w):Sep z (a0::a1::a2::a3::a4::a5::a6::a7::a8::a9::a10::a11::a12::a13::a14::Γ) w:=H
theorem Sep.l16(H:Sep z (a0::a1::a2::a3::a4::a5::a6::a7::a8::a9::a10::a11::a12::a13::a14::a15::Γ) w):Sep z (a0::a1::a2::a3::a4::a5::a6::a7::a8::a9::a10::a11::a12::a13::a14::a15::Γ) w:=H
theorem Sep.l17(H:Sep z (a0::a1::a2::a3::a4::a5::a6::a7::a8::a9::a10::a11::a12::a13::a14::a15::a16::Γ) w):Sep z (a0::a1::a2::a3::a4::a5::a6::a7::a8::a9::a10::a11::a12::a13::a14::a15::a16::Γ) w:=H
theorem Sep.l19(H:Sep z (a0::a1::a2::a3::a4::a5::a6::a7::a8::a9::a10::a11::a12::a13::a14::a15::a16::a17::a18::Γ) w):Sep z (a0::a1::a2::a3::a4::a5::a6::a7::a8::a9::a10::a11::a12::a13::a14::a15::a16::a17::a18::Γ) w:=H
theorem Sep.f1(H:Sep z (a0::a1::Γ) w):Sep z (a1::a0::Γ) w:=H.pick 2 [1,0] Z
theorem Sep.f2(H:Sep z (a0::a1::a2::Γ) w):Sep z (a2::a0::a1::Γ) w:=H.pick 3 [2,0,1] Z
theorem Sep.f3(H:Sep z (a0::a1::a2::a3::Γ) w):Sep z (a3::a0::a1::a2::Γ) w:=H.pick 4 [3,0,1,2] Z
theorem Sep.f4(H:Sep z (a0::a1::a2::a3::a4::Γ) w):Sep z (a4::a0::a1::a2::a3::Γ) w:=H.pick 5 [4,0,1,2,3] Z
theorem Sep.f5(H:Sep z (a0::a1::a2::a3::a4::a5::Γ) w):Sep z (a5::a0::a1::a2::a3::a4::Γ) w:=H.pick 6 [5,0,1,2,3,4] Z
theorem Sep.f6(H:Sep z (a0::a1::a2::a3::a4::a5::a6::Γ) w):Sep z (a6::a0::a1::a2::a3::a4::a5::Γ) w:=H.pick 7 [6,0,1,2,3,4,5] Z
theorem Sep.f7(H:Sep z (a0::a1::a2::a3::a4::a5::a6::a7::Γ) w):Sep z (a7::a0::a1::a2::a3::a4::a5::a6::Γ) w:=H.pick 8 [7,0,1,2,3,4,5,6] Z
theorem Sep.f8(H:Sep z (a0::a1::a2::a3::a4::a5::a6::a7::a8::Γ) w):Sep z (a8::a0::a1::a2::a3::a4::a5::a6::a7::Γ) w:=H.pick 9 [8,0,1,2,3,4,5,6,7] Z
theorem Sep.f9(H:Sep z (a0::a1::a2::a3::a4::a5::a6::a7::a8::a9::Γ) w):Sep z (a9::a0::a1::a2::a3::a4::a5::a6::a7::a8::Γ) w:=H.pick 10 [9,0,1,2,3,4,5,6,7,8] Z
theorem Sep.f10(H:Sep z (a0::a1::a2::a3::a4::a5::a6::a7::a8::a9::a10::Γ) w):Sep z (a10::a0::a1::a2::a3::a4::a5::a6::a7::a8::a9::Γ) w:=H.pick 11 [10,0,1,2,3,4,5,6,7,8,9] Z
theorem Sep.f13(H:Sep z (a0::a1::a2::a3::a4::a5::a6::a7::a8::a9::a10::a11::a12::a13::Γ) w):Sep z (a13::a0::a1::a2::a3::a4::a5::a6::a7::a8::a9::a10::a11::a12::Γ) w:=H.pick 14 [13,0,1,2,3,4,5,6,7,8,9,10,11,12] Z
theorem Sep.f14(H:Sep z (a0::a1::a2::a3::a4::a5::a6::a7::a8::a9::a10::a11::a12::a13::a14::Γ) w):Sep z (a14::a0::a1::a2::a3::a4::a5::a6::a7::a8::a9::a10::a11::a12::a13::Γ) w:=H.pick 15 [14,0,1,2,3,4,5,6,7,8,9,10,11,12,13] Z
theorem Sep.l0(H:Sep z Γ w):Sep z Γ w:=H
theorem Sep.d(H:Sep z (a0::Γ) w):Sep z Γ w:=H.pick 1 [] Z
end

def Cn(P:Program)(f:FuncId)(args:List Value)(pre:List Ai)(post:Value->List Ai->Prop):Prop:=
 ∀z R w,Sep z (pre++R) w->Calls P f args.toArray w (Ret λv w'=>∃Γ',post v Γ'/\Sep z (Γ'++R) w')
abbrev Aj:=Cn prog
theorem Cn.mono{P:Program}{f:FuncId}{args:List Value}{pre:List Ai}{post a:Value->List Ai->Prop}(h:Cn P f args pre post)(hp:∀v Γ,post v Γ->a v Γ):Cn P f args pre a:=
 λz R w H=>Ret.mono (h z R w H) λ_ _ ⟨Γ',q,b⟩=>⟨Γ',hp _ _ q,b⟩
theorem AB{ds:List Deferred}{K:Act->Prop}(t:Nat)(b:CD L t=some u)(e:u=v)(h:∀a,Fr n ds ((t,v)::L) a->K a):∀a,Fr n ds L a->K a:=λa c=>h a (c.upd t b e)
theorem AdE{ds:List Deferred}{K:Act->Prop}(t:Nat){p:Prop}{b:Decidable p}(c:CD L t=some (.bool (@decide p b)))(e: @decide p b=false)(h:∀a,Fr n ds ((t,.bool false)::L) a->K a):∀a,Fr n ds L a->K a:=AB t c (congrArg _ e) h
end
variable{Γ:List Ai}{h:Hp}{A:Ai}
section
section more
variable{P:Program}{o:Oper}{a:Act}{w:World}{n:Nat}{ds:List Deferred}{L:List (Nat×Value)}
theorem Nw{e:TypeId}{parts:List (Nat×Operand)}{vs:List (Nat×Value)}(l:o.op=.buildSlice T m parts.toArray)(z:P.underlying T=some (.slice e))(hE:Elt P e u j g)
  (b:(evs L (parts.map (·.2))).map (List.zip (parts.map (·.1)))=some vs)(a0:m*j<=16777216)(hl:0<m)(p:Instr.fill (λi=>some (i*j,j)) ((Array.range (m*j)).map (u.cells[· % u.cells.size]!)) vs=some V.toArray):CA P n ds L o w (Sr V e m w):=by
 intro a t;obtain ⟨i,hi,r,hs,hb,v,y,q⟩:=hE;refine ⟨_,_,?_,XK w V e m⟩
 cases he:evs L (parts.map (·.2)) with
 | none=>rw[he] at b;cases b
 | some us=>
  rw[he] at b;simp only[AeU,Aen] at b;have e2:=t.evs he;have:(parts.map λx=>(x.1,a.eval x.2))=vs:=by
   rw[<-b,<-e2,Afp];clear b he e2 p l
   induction parts with
   | nil=>rfl
   | cons x xs ih=>simp[ih]
  simp only[execOp,l,AeZ];rw[show (List.map (λx=>match x with|(i,x)=>(i,a.eval x)) parts)=vs from this];have d:m*j≠0:=by
   intro s;rcases AhF.1 s with h|h<;>omega
  have c:¬m*j > 2^24:=by omega
  have f:∀w,(zeroValue e).run P w=.ok u w:=λw=>by simp[zeroValue,typeInfo,hi,r,go_sem]
  have k:∀w,(sizeOf e).run P w=.ok j w:=λw=>by simp[sizeOf,typeInfo,hi,hs,go_sem]
  simp only[Instr.buildSlice,Aex,run_underlying z,Aet,k,if_neg c,AeC,if_neg d,f,p,newRow,newObj,Sem.run]
end more
section tail
variable{P:Program}{ops:List Oper}{Q:Act->Prop}{a:Act}{w:World}{rest:List Oper}{o:Oper}{n d:Nat}{ds:List Deferred}{L:List (Nat×Value)}{v:Value}
theorem Cc(f:BP ops L o.guard=true)(h:o.dst=some d)(b:Nat.blt d n=true)(e:Av P (· =w) n ds L o v)(K:∀a',Fr n ds ((d,v)::L) a'->wpStill P ops.toArray w Q rest a'):∀a,Fr n ds L a->wpStill P ops.toArray w Q (o::rest) a:=λa c=>
 wpStill_step λK' g=>by
  rw[if_pos (wantL_ok c f)];unfold Oper.still;rw[e a c w Z,Oper.stillUpon_value,h];exact g _ (K _ (c.put d v b))
theorem Su(e:EY ops L o.guard=true)(g:o.dst=some d)(b:Nat.blt d n=true)(K:∀a',Fr n ds ((d,undef)::L) a'->wpStill P ops.toArray w Q rest a'):∀a,Fr n ds L a->wpStill P ops.toArray w Q (o::rest) a:=λa c=>
 wpStill_step λK' f=>by
  rw[if_neg (by rw[skipL_ok c e];exact AgS),g];exact f _ (K _ (c.put d undef b))
theorem CG(h:∀a,Fr n ds L a->Q a):∀a,Fr n ds L a->wpStill P ops.toArray w Q [] a:=h
theorem BK{N R:Act->World->Prop}{X:Nat->Act->World->Prop}(k:Nat)(c:P.follows .mixedOrders=true)(d:Region.lexTailB .any ops.toArray k=true)
  (h:∀b,Ext No w b->b.heap.size=w.heap.size->∀a,Fr n ds L a->wpStill P ops.toArray b (λa'=>wpList P ops.toArray (Qp N X R) (ops.drop k) a' b) (ops.take k) a):∀a,Fr n ds L a->(Code.region m ops.toArray true).wp P (Qp N X R) a w:=λa e=>
 wp_region_still_tail k c d (h _ (Ext.drawn No w) Z a e)
end tail
section held
variable{P:Program}{ops:List Oper}{N R:Act->World->Prop}{X:Nat->Act->World->Prop}{S:World->Prop}{a:Act}{w:World}{fuel:Nat}{listed:Array Bool}{n d i:Nat}{ds:List Deferred}{L:List (Nat×Value)}{v:Value}{o:Oper}
theorem AQ(S:World->Prop)(k:Nat)(c:ops.length=k)(d:P.follows .mixedOrders=true)
  (h:∀b,Ext No w b->b.heap.size=w.heap.size->∀a,Fr n ds L a->wpAnyH P .any ops.toArray (Qp N X R) S k (Array.replicate k false) a b):∀a,Fr n ds L a->(Code.region m ops.toArray true).wp P (Qp N X R) a w:=λa e=>
 wp_region_held (S:=S) d (by have:=h _ (Ext.drawn No w) Z a e;simpa [c] using this)
theorem BM(i:Nat)(hi:ops[i]?=some o)(hs:Region.noSelect ops.toArray=true)(m:Region.free .any ops.toArray listed i=true)(l:(Region.ready .any ops.toArray listed).contains i=true)
  (j:BP ops L o.guard=true)(f:o.dst=some d)(b:Nat.blt d n=true)(e:Av P S n ds L o v)(k:S w)
  (K:∀a',Fr n ds ((d,v)::L) a'->wpAnyH P .any ops.toArray (Qp N X R) S fuel (listed.setIfInBounds i true) a' w):∀a,Fr n ds L a->wpAnyH P .any ops.toArray (Qp N X R) S (fuel+1) listed a w:=λa c=>
 wpAnyH_take (i:=i) (oi:=o) (v:=v) (by simpa using hi) hs m l (λ_ _ _ h=>h.elim) (.inl ⟨wantL_ok c j,λg h=>e a c g h⟩) k (by rw[f];exact K _ (c.put d v b))
theorem Sv(i:Nat)(hi:ops[i]?=some o)(hs:Region.noSelect ops.toArray=true)(k:Region.free .any ops.toArray listed i=true)(g:(Region.ready .any ops.toArray listed).contains i=true)
  (e:EY ops L o.guard=true)(j:o.dst=some d)(b:Nat.blt d n=true)(f:S w)
  (K:∀a',Fr n ds ((d,undef)::L) a'->wpAnyH P .any ops.toArray (Qp N X R) S fuel (listed.setIfInBounds i true) a' w):∀a,Fr n ds L a->wpAnyH P .any ops.toArray (Qp N X R) S (fuel+1) listed a w:=λa c=>
 wpAnyH_take (i:=i) (oi:=o) (v:=undef) (by simpa using hi) hs k g (λ_ _ _ h=>h.elim) (.inr ⟨skipL_ok c e,Z⟩) f (by rw[j];exact K _ (c.put d undef b))
theorem AE(rs:List Nat)(d:Region.ready .any ops.toArray listed=rs)(b:rs≠[])
  (h:∀i∈rs,∀a,Fr n ds L a->wpOp P ops.toArray (Qp N X R) i (λa' w'=>S w'/\wpAnyH P .any ops.toArray (Qp N X R) S fuel (listed.setIfInBounds i true) a' w') a w):∀a,Fr n ds L a->wpAnyH P .any ops.toArray (Qp N X R) S (fuel+1) listed a w:=λa c=>
 wpAnyH_all d b (λi hi=>h i hi a c)
theorem Am{p:Nat->Prop}{i:Nat}(h:p i):∀j∈[i],p j:=λj a=>by simp at a;subst a;exact h
theorem IP{p:Nat->Prop}{i:Nat}(h:p i)(h':p m):∀j∈[i,m],p j:=λj a=>by
 simp at a;rcases a with rfl|rfl
 ·exact h
 exact h'
theorem a_done{fuel:Nat}(c:Region.ready .any ops.toArray listed=[])(h:∀a,Fr n ds L a->N a w):∀a,Fr n ds L a->wpAnyH P .any ops.toArray (Qp N X R) S fuel listed a w:=λa b=>wpAnyH_done c (h a b) _
theorem Ax{Z_:Act->World->Prop}(b:S w)(h:∀a,Fr n ds L a->Z_ a w):∀a,Fr n ds L a->S w/\Z_ a w:=λa c=>⟨b,h a c⟩
theorem B6{K:Act->World->Prop}{Rr:Value->World->Prop}(hi:ops[i]?=some o)(f:BP ops L o.guard=true)(k:o.dst=some d)(c:Nat.blt d n=true)(h:CA P n ds L o w Rr)(j:∀v b,Rr v b->∀a',Fr n ds ((d,v)::L) a'->K a' b):∀a,Fr n ds L a->wpOp P ops.toArray (Qp N X R) i K a w:=by
 intro a e;obtain ⟨v,b,l,g⟩:=h a e;unfold wpOp;rw[Afg,hi];simp only;rw[if_pos (wantL_ok e f)];left;unfold Oper.wp;rw[l,AgN,k];exact j v b g _ (e.put d v c)
theorem Bj{K:Act->World->Prop}{Rr:World->Prop}(hi:ops[i]?=some o)(d:BP ops L o.guard=true)(g:o.dst=none)(h:DI P n ds L o w Rr)(f:∀b,Rr b->∀a,Fr n ds L a->K a b):∀a,Fr n ds L a->wpOp P ops.toArray (Qp N X R) i K a w:=by
 intro a c;obtain ⟨b,j,e⟩:=h a c;unfold wpOp;rw[Afg,hi];simp only;rw[if_pos (wantL_ok c d)];left;unfold Oper.wp;rw[j,Oper.upon_skip,g];exact f b e a c
theorem Sw{K:Act->World->Prop}{Rr:Value->World->Prop}{f:FuncId}{args:List Operand}{vs:List Value}{tys:Array TypeId}(hi:ops[i]?=some o)(s:BP ops L o.guard=true)(r:o.dst=some d)(k:Nat.blt d n=true)
  (t:o.op=.call {callee:=.value (.func f),args:=args.toArray,argTypes:=tys})(b:evs L args=some vs)(m:∀w,(callFunc f vs.toArray).run P w=.ok (.enter f vs.toArray) w)(h:Calls P f vs.toArray w (Ret Rr))
  (p:∀v j,Rr v j->∀a',Fr n ds ((d,v)::L) a'->K a' j):∀a,Fr n ds L a->wpOp P ops.toArray (Qp N X R) i K a w:=by
 intro a l;have g:(execOp a.eval o).run P w=.ok (.enter f vs.toArray) w:=by
  unfold execOp;have e:=l.evs b;simp only[t,resolve,Act.eval,Deferred.ofValue,invoke];simp only[go_sem,AeZ,e,AeS,AeY,m];simpa using m w
 unfold wpOp;rw[Afg,hi];simp only;rw[if_pos (wantL_ok l s)];left;unfold Oper.wp;rw[g,AgO];exact Agx h λe j q=>by
  cases e with
  | returned v=>simp only[r];exact p v j q _ (l.put d v k)
  | panicked c=>exact q.elim
  | outgrown=>exact q.elim
end held

section last
variable{P:Program}{ops:Array Oper}{Q:Exit->Act->World->Prop}{S:World->Prop}
def Dc(ops:Array Oper)(listed:Array Bool):Prop:=∀k o,ops[k]?=some o->listed.getD k true=true->k<listed.size->∀e∈o.after,Region.binds .any e=true->listed.getD e.on false=true
theorem Dc.start(ops:Array Oper)(k:Nat):Dc ops (Array.replicate k false):=λj o _ h a=>by
 simp at a;simp[Array.getD,a] at h
theorem Dc.next{listed:Array Bool}{i:Nat}(h:Dc ops listed)(hi:i∈Region.ready .any ops listed):Dc ops (listed.setIfInBounds i true):=λk o j f l e d g=>by
 have a:k<listed.size:=by simpa using l
 by_cases hki:k=i
 ·subst hki
  obtain ⟨_,o',b,c⟩:=mem_ready.1 hi;rw[j] at b;cases b;have:=c e d g;by_cases hei:e.on=k
  ·rw[hei];simp[a]
  rw[getD_set_ne false (AfU hei)];exact this
 rw[getD_set_ne true (AfU hki)] at f;have:=h k o j f a e d g;by_cases hei:e.on=i
 ·rw[hei]
  rcases Aes i listed.size with h'|h'
  ·simp[h']
  rw[hei] at this;simp[Ae2 h'] at this
 rw[getD_set_ne false (AfU hei)];exact this
def Il(ops:Array Oper):Bool:=(List.range (ops.size-1)).all λk=>(List.range ops.size).any λj=>k<j&&(match ops[j]? with|some o=>o.after.any λe=>Region.binds .any e&&e.on==k|none=>false)
theorem Rh(h:Il ops=true)(k:Nat)(d:k+1<ops.size):∃j o,k<j/\ops[j]?=some o/\∃e∈o.after,Region.binds .any e=true/\e.on=k:=by
 simp only[Il,Af3,AfS] at h;have:=h k U;simp only[Ahx,AfS,AeE,decide_eq_true_eq] at this;obtain ⟨j,_,c,a⟩:=this
 cases ho:ops[j]? with
 | none=>rw[ho] at a;cases a
 | some o=>
  rw[ho] at a;simp only[Aho] at a;obtain ⟨q,hq,b⟩:=a;simp only[AeE,beq_iff_eq] at b;exact ⟨j,o,c,ho,_,Ahp hq,b.1,b.2⟩
theorem Ri(h:Il ops=true){listed:Array Bool}(p:Dc ops listed)(hs:listed.size=ops.size)(m:ops.size-1∈Region.ready .any ops listed):∀n k,ops.size-k<=n->k+1<ops.size->listed.getD k false=true:=by
 intro n
 induction n with
 | zero=>intro k q a;omega
 | succ n ih=>
  intro k q a;obtain ⟨j,o,r,f,e,g,i,b⟩:=Rh h k a;have s:j<ops.size:=(Ae3.1 f).1;by_cases hjl:j=ops.size-1
  ·subst hjl
   obtain ⟨_,o',c,d⟩:=mem_ready.1 m;rw[f] at c;cases c;rw[<-b];exact d e g i
  have:=ih j U U;rw[<-b];exact p j o f (by
   have l:j<listed.size:=by omega
   simp[l] at this ⊢;exact this) U e g i
def HB(P:Program)(ops:Array Oper)(Q:Exit->Act->World->Prop)(S:World->Prop):Nat->Array Bool->Act->World->Prop
 | 0,listed,a,w=>Region.ready .any ops listed=[]/\Q .normal a w
 | fuel+1,listed,a,w=>
  (Region.ready .any ops listed=[]->Q .normal a w)/\
  ∀i∈Region.ready .any ops listed,wpOp P ops Q i (λa' w'=>(i≠ops.size-1->S w')/\HB P ops Q S fuel (listed.setIfInBounds i true) a' w') a w
theorem Im:∀(fuel:Nat) (listed:Array Bool) (a:Act) (w:World),HB P ops Q S fuel listed a w->wpAny P .any ops Q fuel listed a w
 | 0,_,_,_,h=>h
 | fuel+1,_,_,_,h=>⟨h.1,λi hi=>wpOp_mono (λa' w' h'=>Im fuel _ a' w' h'.2) (h.2 i hi)⟩
theorem Nx(q:Il ops=true){i:Nat}{oi:Oper}{v:Value}(hi:ops[i]?=some oi)(a7:i≠ops.size-1)(l:∀(j:Nat) (o:Oper) cs b,ops[j]?=some o->o.op≠ .select cs b)
  (hQ:∀c a w,Q (.panic c) (a.put oi.dst v) w->Q (.panic c) a w):
  ∀(fuel:Nat) (listed:Array Bool) (a:Act) (w:World),Dc ops listed->listed.size=ops.size->
   (∀j p,ops[j]?=some p->j≠i->listed.getD j true=false->(∀e∈p.after,Region.binds .any e=true->e.on≠i)->oi.apart ops p=true)->
   i∈Region.ready .any ops listed->YieldsIf P ops S oi v a->S w->
   HB P ops Q S fuel (listed.setIfInBounds i true) (a.put oi.dst v) w->HB P ops Q S (fuel+1) listed a w:=by
 have a6:i<ops.size:=(Ae3.1 hi).1;intro fuel
 induction fuel with
 | zero=>
  intro listed a w hd s _ m hy x H;refine ⟨λh=>(by rw[h] at m;cases m),λj t=>?_⟩;by_cases hji:j=i
  ·subst hji;exact hy.wpOp hi x ⟨λ_=>x,H⟩
  have:=ready_mono t hji;rw[H.1] at this;cases this
 | succ fuel ih=>
  intro listed a w hd s d m hy x H;refine ⟨λh=>(by rw[h] at m;cases m),λj t=>?_⟩;by_cases hji:j=i
  ·subst hji;exact hy.wpOp hi x ⟨λ_=>x,H⟩
  have r:=H.2 j (ready_mono t hji);have a1:j≠ops.size-1:=λe=>by
   subst e;have:=Ri q hd s t (ops.size-i) i (Aek _) U;have u:=(mem_ready.1 m).1;have hh:i<listed.size:=by omega
   simp[hh] at this u;rw[this] at u;cases u
  obtain ⟨g,p,n,a2⟩:=mem_ready.1 t;have z:∀e∈p.after,Region.binds .any e=true->e.on≠i:=λe he hb a3=>by
   have r:=a2 e he hb;have u:=(mem_ready.1 m).1;rw[a3] at r;rcases Aes i listed.size with h'|h'
   ·simp[h'] at u r;rw[u] at r;cases r
   simp[Ae2 h'] at r
  have h2:=wpOp_putIf n (d j p n hji g z) (λcs b=>l i oi cs b hi) (λcs b=>l j p cs b n) hQ hy r;have f:∀k y,ops[k]?=some y->k≠i->(listed.setIfInBounds j true).getD k true=false->
    (∀e∈y.after,Region.binds .any e=true->e.on≠i)->oi.apart ops y=true:=λk y hk a5 a0 a4=>by
   refine d k y hk a5 ?_ a4;by_cases hjk:j=k
   ·subst hjk;exact g
   rw[getD_set_ne true hjk] at a0;exact a0
  refine wpOp_mono (λa' w' h3=>⟨λ_=>h3.2.1 a1,ih (listed.setIfInBounds j true) a' w' (hd.next t) (by simpa using s) f (ready_mono m (AfU hji)) h3.1 (h3.2.1 a1) ?_⟩) h2;rw[Agt _ _ hji];exact h3.2.2
theorem Pw{listed:Array Bool}{a:Act}{w:World}(hr:Region.ready .any ops listed=[])(h:Q .normal a w):∀fuel,HB P ops Q S fuel listed a w
 | 0=>⟨hr,h⟩
 | _+1=>⟨λ_=>h,by rw[hr];simp⟩
end last
section last2
variable{P:Program}{ops:List Oper}{N R:Act->World->Prop}{X:Nat->Act->World->Prop}{S:World->Prop}{a:Act}{w:World}{fuel:Nat}{listed:Array Bool}{n d i:Nat}{ds:List Deferred}{L:List (Nat×Value)}{v:Value}{o:Oper}
def GH(P:Program)(ops:List Oper)(Q:Exit->Act->World->Prop)(S:World->Prop)(fuel:Nat)(listed:Array Bool)(a:Act)(w:World):Prop:=Dc ops.toArray listed->listed.size=ops.length->HB P ops.toArray Q S fuel listed a w
theorem Bp(S:World->Prop)(k:Nat)(c:ops.length=k)(d:P.follows .mixedOrders=true)
  (h:∀b,Ext No w b->b.heap.size=w.heap.size->∀a,Fr n ds L a->GH P ops (Qp N X R) S k (Array.replicate k false) a b):∀a,Fr n ds L a->(Code.region m ops.toArray true).wp P (Qp N X R) a w:=λa e=>
 wp_region_any d (Im (S:=S) _ _ _ _ (by have:=h _ (Ext.drawn No w) Z a e (Dc.start _ _) (by simp[c]);simpa [c] using this))
theorem BG(i:Nat)(b:Il ops.toArray=true)(hi:ops[i]?=some o)(j:Nat.beq i (ops.length-1)=false)(hs:Region.noSelect ops.toArray=true)(p:Region.free .any ops.toArray listed i=true)(u:(Region.ready .any ops.toArray listed).contains i=true)
  (s:BP ops L o.guard=true)(q:o.dst=some d)(k:Nat.blt d n=true)(m:Av P S n ds L o v)(t:S w)
  (K:∀a',Fr n ds ((d,v)::L) a'->GH P ops (Qp N X R) S fuel (listed.setIfInBounds i true) a' w):∀a,Fr n ds L a->GH P ops (Qp N X R) S (fuel+1) listed a w:=λa l c f=>
 have e:ops.toArray[i]?=some o:=by simpa using hi
 have g:i∈Region.ready .any ops.toArray listed:=by simpa using u
 Nx b (i:=i) (oi:=o) (v:=v) e (by simpa using Agz j) (AgG hs) (λ_ _ _ h=>h.elim) fuel listed a w c (by simpa using f) (AgY e p) g (.inl ⟨wantL_ok l s,λr h=>m a l r h⟩) t
  (by rw[q];exact K _ (l.put d v k) (c.next g) (by simpa using f))
theorem AF(rs:List Nat)(g:Region.ready .any ops.toArray listed=rs)(d:rs≠[])
  (h:∀i∈rs,∀a,Fr n ds L a->wpOp P ops.toArray (Qp N X R) i (λa' b=>(i≠ops.length-1->S b)/\GH P ops (Qp N X R) S fuel (listed.setIfInBounds i true) a' b) a w):∀a,Fr n ds L a->GH P ops (Qp N X R) S (fuel+1) listed a w:=λa j f c=>
 ⟨λe=>absurd (g▸e) d,λi hi=>wpOp_mono (λa' b q=>⟨by simpa using q.1,q.2 (f.next hi) (by simpa using c)⟩) (h i (g▸hi) a j)⟩
theorem Bo{fuel:Nat}(c:Region.ready .any ops.toArray listed=[])(h:∀a,Fr n ds L a->N a w):∀a,Fr n ds L a->GH P ops (Qp N X R) S fuel listed a w:=λa b _ _=>Pw c (h a b) _
theorem Au{q:Prop}{Z_:Act->World->Prop}(b:q->S w)(h:∀a,Fr n ds L a->Z_ a w):∀a,Fr n ds L a->(q->S w)/\Z_ a w:=λa c=>⟨b,h a c⟩
end last2
end
section
def u8(b:UInt8):Value:=.int .u8 b.toNat
def u32(b:UInt32):Value:=.int .u32 b.toNat
def GI(x:Int):UInt8:=UInt8.ofNat (x%256).toNat
def Fv(x:Int):UInt32:=UInt32.ofNat (x%4294967296).toNat
theorem AcX(x:Int):IntKind.u8.wrap x=(GI x).toNat:=by
 simp[GI,IntKind.wrap,IntKind.bits,IntKind.signed];omega
theorem XN(x:Int):IntKind.u32.wrap x=(Fv x).toNat:=by
 simp[Fv,IntKind.wrap,IntKind.bits,IntKind.signed];omega
theorem AaL{b:UInt32}:Fv b.toNat=b:=by
 apply Ahy.1;have:=b.toNat_lt;simp[Fv];omega
theorem XO(x:Int):Value.int .u8 (IntKind.u8.wrap x)=u8 (GI x):=congrArg _ (AcX x)
theorem Us(x:Int):Value.int .u32 (IntKind.u32.wrap x)=u32 (Fv x):=congrArg _ (XN x)
theorem AdY{a b:UInt8}(h:u8 a=u8 b):a=b:=by
 simp only[u8,Value.int.injEq,true_and] at h;exact Ag7.1 U
section
variable{P:Program}{C:World->Prop}{o:Oper}{a:Act}{w z:World}{Γ:List Ai}{n:Nat}{ds:List Deferred}{L:List (Nat×Value)}{v:Value}{x y:Operand}{xt yt:TypeId}
theorem AaM{p q:UInt8}(e:o.op=.binOp .xor xt x y yt)(c:ev L x=some (u8 p))(d:ev L y=some (u8 q)):Av P C n ds L o (u8 (p ^^^ q)):=λa b w _=>by
 simp only[execOp,e,b.ev c,b.ev d,u8];simp[go_sem,Op.intBits,IntKind.wrap,IntKind.bits,IntKind.signed];have:=(p ^^^ q).toNat_lt;rw[<-UInt8.toNat_xor];show (((p ^^^ q).toNat:Int))%256=((p ^^^ q).toNat:Int);omega
theorem Sx{p q:UInt8}(i:o.op=.binOp .eql xt x y yt){k:IntKind}(g:Ea P xt xt=some k)(e:ev L x=some (u8 p))(f:ev L y=some (u8 q)):Av P C n ds L o (.bool (decide (p=q))):=λa b w _=>by
 obtain ⟨d,j,c⟩:=FN g;simp only[execOp,i,b.ev e,b.ev f,u8];simp[c,go_sem];rw[Aey];simp;exact ⟨λh=>Ag7.1 U,λh=>by rw[h]⟩
theorem AdW{p q:UInt32}(i:o.op=.binOp .eql xt x y yt){k:IntKind}(g:Ea P xt xt=some k)(e:ev L x=some (u32 p))(f:ev L y=some (u32 q)):Av P C n ds L o (.bool (decide (p=q))):=λa b w _=>by
 obtain ⟨d,j,c⟩:=FN g;simp only[execOp,i,b.ev e,b.ev f,u32];simp[c,go_sem];rw[Aey];simp;exact ⟨λh=>Ahy.1 U,λh=>by rw[h]⟩
theorem XP{p q:UInt32}(j:o.op=.binOp .neq xt x y yt){k:IntKind}(i:Ea P xt xt=some k)(f:ev L x=some (u32 p))(g:ev L y=some (u32 q)):Av P C n ds L o (.bool (decide (p≠q))):=λa b w _=>by
 obtain ⟨d,l,c⟩:=FN i;simp only[execOp,j,b.ev f,b.ev g,u32];simp[c,go_sem];rw[Aey];simp;exact ⟨λh e=>h (by rw[e]),λh e=>h (Ahy.1 U)⟩
theorem PQ{p q:UInt32}(e:o.op=.binOp .xor xt x y yt)(c:ev L x=some (u32 p))(d:ev L y=some (u32 q)):Av P C n ds L o (u32 (p ^^^ q)):=λa b w _=>by
 simp only[execOp,e,b.ev c,b.ev d,u32];simp[go_sem,Op.intBits,IntKind.wrap,IntKind.bits,IntKind.signed];have:=(p ^^^ q).toNat_lt;rw[<-UInt32.toNat_xor];show (((p ^^^ q).toNat:Int))%4294967296=((p ^^^ q).toNat:Int);omega
theorem XQ{p q:UInt32}(e:o.op=.binOp .and xt x y yt)(c:ev L x=some (u32 p))(d:ev L y=some (u32 q)):Av P C n ds L o (u32 (p&&&q)):=λa b w _=>by
 simp only[execOp,e,b.ev c,b.ev d,u32];simp[go_sem,Op.intBits,IntKind.wrap,IntKind.bits,IntKind.signed];have:=(p&&&q).toNat_lt;rw[<-UInt32.toNat_and];show (((p&&&q).toNat:Int))%4294967296=((p&&&q).toNat:Int);omega
theorem XR{p q:UInt32}(e:o.op=.binOp .mul xt x y yt)(c:ev L x=some (u32 p))(d:ev L y=some (u32 q)):Av P C n ds L o (u32 (p*q)):=λa b w _=>by
 simp only[execOp,e,b.ev c,b.ev d,u32];simp[go_sem,IntKind.wrap,IntKind.bits,IntKind.signed,UInt32.toNat_mul]
theorem HC{p:UInt32}{k:IntKind}{m:Int}{n':UInt32}(i:o.op=.binOp .shr xt x y yt)(f:ev L x=some (u32 p))(g:ev L y=some (.int k m))(e:0<=m/\m<32/\n'=UInt32.ofNat m.toNat):Av P C n ds L o (u32 (p>>>n')):=λa c w _=>by
 obtain ⟨h,l,rfl⟩:=e;obtain ⟨j,rfl⟩:=AfZ h;simp only[execOp,i,c.ev f,c.ev g,u32];have d:¬((j:Int)<0):=by omega
 have b:min j 32=j:=by omega
 simp[go_sem,Op.shift,IntKind.bits,d,b,UInt32.toNat_shiftRight];rw[Aht];simp;rw[AfC U]
theorem PR{p:UInt32}(c:o.op=.unOp .xor xt x)(b:ev L x=some (u32 p)):Av P C n ds L o (u32 (4294967295 ^^^ p)):=λa d w _=>by
 simp only[execOp,c,d.ev b,u32];simp[go_sem,Op.intBits,IntKind.max,IntKind.wrap,IntKind.bits,IntKind.signed];have:=(4294967295 ^^^ p).toNat_lt;have e:(4294967295 ^^^ p).toNat=4294967295 ^^^ p.toNat:=UInt32.toNat_xor _ _;rw[<-e];show (((4294967295 ^^^ p).toNat:Int))%4294967296=((4294967295 ^^^ p).toNat:Int);omega

theorem Rj{k:IntKind}(c:o.op=.convert xt T x)(b:Ea P xt T=some .u8)(a:ev L x=some (.int k p)):Av P C n ds L o (u8 (GI p)):=by
 have:=HA (P:=P) (C:=C) (n:=n) (ds:=ds) (L:=L) c b a;rwa[XO] at this
theorem Sy{k:IntKind}(c:o.op=.convert xt T x)(b:Ea P xt T=some .u32)(a:ev L x=some (.int k p)):Av P C n ds L o (u32 (Fv p)):=by
 have:=HA (P:=P) (C:=C) (n:=n) (ds:=ds) (L:=L) c b a;rwa[Us] at this
theorem Rk{p:UInt8}(c:o.op=.convert xt T x)(b:Ea P xt T=some .i64)(a:ev L x=some (u8 p)):Av P C n ds L o (I p.toNat):=by
 have:=HA (P:=P) (C:=C) (n:=n) (ds:=ds) (L:=L) c b a;have hp:=p.toNat_lt;rwa[AfN _ U] at this
theorem AaN{p:UInt32}(c:o.op=.convert xt T x)(b:Ea P xt T=some .i64)(a:ev L x=some (u32 p)):Av P C n ds L o (I p.toNat):=by
 have:=HA (P:=P) (C:=C) (n:=n) (ds:=ds) (L:=L) c b a;have hp:=p.toNat_lt;rwa[AfN _ U] at this
theorem HD{p:UInt32}(c:o.op=.convert xt T x)(b:Ea P xt T=some .u8)(a:ev L x=some (u32 p)):Av P C n ds L o (u8 p.toUInt8):=by
 have:=Rj (P:=P) (C:=C) (n:=n) (ds:=ds) (L:=L) c b a;have e:GI p.toNat=p.toUInt8:=by
  apply Ag7.1;simp[GI];omega
 rwa[e] at this
def F5(P:Program)(t:TypeId):Bool:=match P.underlying t with|some (.pointer _)=>true|_=>false
theorem Io(h:F5 P T=true):∃e,P.underlying T=some (.pointer e):=by
 unfold F5 at h;split at h
 ·exact ⟨_,by assumption⟩
 cases h
def Rl(P:Program)(t:TypeId):Bool:=match P.underlying t with|some (.slice _)=>true|_=>false
theorem PS(h:Rl P T=true):∃e,P.underlying T=some (.slice e):=by
 unfold Rl at h;split at h
 ·exact ⟨_,by assumption⟩
 cases h
theorem Ny{g:Addr}(h:o.op=.binOp .eql xt x y yt)(b:F5 P xt=true)(d:ev L x=some (.pointer (some g)))(f:ev L y=some (.pointer none)):Av P C n ds L o (.bool false):=λa c w _=>by
 obtain ⟨e,b⟩:=Io b;simp only[execOp,h,c.ev d,c.ev f];simp[b,go_sem]
theorem Ut{g:Addr}(h:o.op=.binOp .neq xt x y yt)(b:F5 P xt=true)(d:ev L x=some (.pointer (some g)))(f:ev L y=some (.pointer none)):Av P C n ds L o (.bool true):=λa c w _=>by
 obtain ⟨e,b⟩:=Io b;simp only[execOp,h,c.ev d,c.ev f];simp[b,go_sem]
theorem Uu(g:o.op=.binOp .eql xt x y yt)(b:F5 P xt=true)(d:ev L x=some (.pointer none))(f:ev L y=some (.pointer none)):Av P C n ds L o (.bool true):=λa c w _=>by
 obtain ⟨e,b⟩:=Io b;simp only[execOp,g,c.ev d,c.ev f];simp[b,go_sem]
theorem Uv(g:o.op=.binOp .neq xt x y yt)(b:F5 P xt=true)(d:ev L x=some (.pointer none))(f:ev L y=some (.pointer none)):Av P C n ds L o (.bool false):=λa c w _=>by
 obtain ⟨e,b⟩:=Io b;simp only[execOp,g,c.ev d,c.ev f];simp[b,go_sem]
theorem Ip{g:Addr}(h:o.op=.binOp .eql xt x y yt)(b:Rl P xt=true)(d:ev L x=some (.slice (some g) m j))(f:ev L y=some (.slice none 0 0)):Av P C n ds L o (.bool false):=λa c w _=>by
 obtain ⟨e,b⟩:=PS b;simp only[execOp,h,c.ev d,c.ev f];simp[Lib.run_eql_slice_nil _ _ e _ _ _ _ _ b,go_sem]
theorem Uw(g:o.op=.binOp .eql xt x y yt)(b:Rl P xt=true)(d:ev L x=some (.slice none 0 0))(f:ev L y=some (.slice none 0 0)):Av P C n ds L o (.bool true):=λa c w _=>by
 obtain ⟨e,b⟩:=PS b;simp only[execOp,g,c.ev d,c.ev f];simp[Lib.run_eql_slice_nil _ _ e _ _ _ _ _ b,go_sem]
theorem C5{f:Fn}{bs cs:List Operand}{vs:List Value}(e:o.op=.makeFunc f bs.toArray cs.toArray)(c:evs L bs=some V)(d:evs L cs=some vs):Av P C n ds L o (.func f V.toArray vs.toArray):=λa b w _=>by
 have e1:=b.evs c;have e2:=b.evs d;simp only[execOp,e,AeZ,e1,e2];rfl

def Nz(P:Program)(t:TypeId):Option (Nat×Nat):=match P.underlying t with
 | some (.pointer a)=>Ii P a
 | _=>none
theorem Sz{z:Nat}(h:Nz P T=some (m,z)):∃a e i,P.underlying T=some (.pointer a)/\P.underlying a=some (.array m e)/\P.info? e=some i/\i.size=z:=by
 unfold Nz at h;split at h
 ·rename_i a b
  obtain ⟨e,i,c,d,f⟩:=Ij h;exact ⟨a,e,i,b,c,d,f⟩
 cases h
theorem BO{lo hi:Option Operand}{p q z o' l' c':Nat}(ho:o.op=.slice T x lo hi none)(w:Do P T=some z)
  (s:ev L x=some (.slice (some ⟨m,j,none⟩) g r))(d:(lo=none/\p=0)\/∃y k i,lo=some y/\ev L y=some (.int k i)/\i=(p:Int))(f:(hi=none/\q=g)\/∃y k i,hi=some y/\ev L y=some (.int k i)/\i=(q:Int))(b:p<=q)(c:q<=r)
  (l:j+p*z=o')(v:q-p=l')(t:r-p=c')(a:p<r\/p*z=0):Av P C n ds L o (.slice (some ⟨m,o',none⟩) l' c'):=by
 have:=Jk (P:=P) (C:=C) (n:=n) (ds:=ds) (L:=L) ho w s d f b c;rw[v,t] at this;have e:(if r=p then (some ⟨m,j,none⟩:Option Addr) else (some ⟨m,j,none⟩:Option Addr).map (·.add (p*z)))=some ⟨m,o',none⟩:=by
  subst l;split
  ·rename_i h;rcases a with a|a
   ·omega
   simp[a]
  simp only[AeU,Aen];unfold Addr.add;split
  ·rename_i u;simp[u]
  rfl
 rwa[e] at this
theorem AdF{lo hi:Option Operand}{q z o' l' c':Nat}(ho:o.op=.slice T x lo hi none)(ht:Nz P T=some (g,z))
  (hx:ev L x=some (.pointer (some ⟨m,j,none⟩)))(a0:(lo=none/\r=0)\/∃y k i,lo=some y/\ev L y=some (.int k i)/\i=(r:Int))(a1:(hi=none/\q=g)\/∃y k i,hi=some y/\ev L y=some (.int k i)/\i=(q:Int))(c:r<=q)(d:q<=g)
  (h1:j+r*z=o')(v:q-r=l')(u:g-r=c')(h4:r<g\/r*z=0):Av P C n ds L o (.slice (some ⟨m,o',none⟩) l' c'):=λa p w _=>by
 obtain ⟨ar,e,i0,l,f,b,t⟩:=Sz ht;have g1:(0:Int)<=(r:Int)/\(r:Int)<=(q:Int):=by omega
 have g2:(0:Int)<=(q:Int)/\(q:Int)<=(g:Int):=by omega
 have key:((if g=r then (⟨m,j,none⟩:Addr) else (⟨m,j,none⟩:Addr).add (r*z)))=⟨m,o',none⟩:=by
  subst h1;split
  ·rename_i h;rcases h4 with h4|h4
   ·omega
   simp[h4]
  unfold Addr.add;split
  ·rename_i h0;simp[h0]
  rfl
 rcases a0 with ⟨rfl,rfl⟩|⟨y,k,i,rfl,hy,rfl⟩<;>rcases a1 with ⟨rfl,rfl⟩|⟨y',k',i',rfl,s,rfl⟩
 ·simp only[execOp,ho,AeU,AfA,p.ev hx];simp[Instr.sliceAt,Instr.slice,run_underlying l,run_underlying f,Instr.sureAddr,Instr.sliceBounds,sizeOf,typeInfo,b,t,c,d,go_sem,key,v,u]<;>(try simp_all)<;>(try omega)
 ·simp only[execOp,ho,AeU,AfA,p.ev hx,p.ev s];simp[Instr.sliceAt,Instr.slice,run_underlying l,run_underlying f,Instr.sureAddr,Instr.sliceBounds,Instr.sliceBound,asIntOf,g2,sizeOf,typeInfo,b,t,c,d,go_sem,key,v,u]<;>(try simp_all)<;>(try omega)
 ·simp only[execOp,ho,AeU,AfA,p.ev hx,p.ev hy];simp[Instr.sliceAt,Instr.slice,run_underlying l,run_underlying f,Instr.sureAddr,Instr.sliceBounds,Instr.sliceBound,asIntOf,g1,sizeOf,typeInfo,b,t,c,d,go_sem,key,v,u]<;>(try simp_all)<;>(try omega)
 simp only[execOp,ho,AeU,AfA,p.ev hx,p.ev hy,p.ev s];simp[Instr.sliceAt,Instr.slice,run_underlying l,run_underlying f,Instr.sureAddr,Instr.sliceBounds,Instr.sliceBound,asIntOf,g1,g2,sizeOf,typeInfo,b,t,c,d,go_sem,key,v,u]<;>(try simp_all)<;>(try omega)
theorem GJ{lo hi:Option Operand}{n' p q z o' l' c':Nat}(ho:o.op=.slice T x lo hi none)(ht:Ii P T=some (n',z))
  (u:ev L x=some (.pointer (some ⟨m,j,none⟩)))(a0:(lo=none/\p=0)\/∃y k i,lo=some y/\ev L y=some (.int k i)/\i=(p:Int))(a1:(hi=none/\q=n')\/∃y k i,hi=some y/\ev L y=some (.int k i)/\i=(q:Int))(c:p<=q)(d:q<=n')
  (h1:j+p*z=o')(t:q-p=l')(s:n'-p=c')(v:p<n'\/p*z=0):Av P C n ds L o (.slice (some ⟨m,o',none⟩) l' c'):=λa g w _=>by
 obtain ⟨e,i0,f,b,r⟩:=Ij ht;have g1:(0:Int)<=(p:Int)/\(p:Int)<=(q:Int):=by omega
 have g2:(0:Int)<=(q:Int)/\(q:Int)<=(n':Int):=by omega
 have key:((if n'=p then (⟨m,j,none⟩:Addr) else (⟨m,j,none⟩:Addr).add (p*z)))=⟨m,o',none⟩:=by
  subst h1;split
  ·rename_i h;rcases v with v|v
   ·omega
   simp[v]
  unfold Addr.add;split
  ·rename_i h0;simp[h0]
  rfl
 rcases a0 with ⟨rfl,rfl⟩|⟨y,k,i,rfl,hy,rfl⟩<;>rcases a1 with ⟨rfl,rfl⟩|⟨y',k',i',rfl,l,rfl⟩
 ·simp only[execOp,ho,AeU,AfA,g.ev u];simp[Instr.sliceAt,Instr.slice,run_underlying f,Instr.sureAddr,Instr.sliceBounds,sizeOf,typeInfo,b,r,c,d,go_sem,key,t,s]<;>(try simp_all)<;>(try omega)
 ·simp only[execOp,ho,AeU,AfA,g.ev u,g.ev l];simp[Instr.sliceAt,Instr.slice,run_underlying f,Instr.sureAddr,Instr.sliceBounds,Instr.sliceBound,asIntOf,g2,sizeOf,typeInfo,b,r,c,d,go_sem,key,t,s]<;>(try simp_all)<;>(try omega)
 ·simp only[execOp,ho,AeU,AfA,g.ev u,g.ev hy];simp[Instr.sliceAt,Instr.slice,run_underlying f,Instr.sureAddr,Instr.sliceBounds,Instr.sliceBound,asIntOf,g1,sizeOf,typeInfo,b,r,c,d,go_sem,key,t,s]<;>(try simp_all)<;>(try omega)
 simp only[execOp,ho,AeU,AfA,g.ev u,g.ev hy,g.ev l];simp[Instr.sliceAt,Instr.slice,run_underlying f,Instr.sureAddr,Instr.sliceBounds,Instr.sliceBound,asIntOf,g1,g2,sizeOf,typeInfo,b,r,c,d,go_sem,key,t,s]<;>(try simp_all)<;>(try omega)

theorem BZ(H:Sep z Γ w){zs:List Value}(i:o.op=.alloc T)(f:zeroCells P T=some zs.toArray):CA P n ds L o w (λv c=>∃b,v=Y b/\Sep z (blk b zs T::Γ) c):=λa g=>by
 obtain ⟨v,c,h,b,rfl,hs,_,d,e⟩:=XL (w:=w) i f a g;exact ⟨_,c,h,b,Z,H.new e U d⟩
theorem G9(H:Sep z Γ w){cs:List Value}(e:o.op=.box T x)(d:ev L x=some v)(f:v.cells=cs.toArray):CA P n ds L o w (λv c=>∃b,v=Y b/\Sep z (blk b cs T::Γ) c):=λa h=>by
 obtain ⟨v,c,i,b,rfl,hs,_,g,d⟩:=AcW (P:=P) (w:=w) e d f a h;exact ⟨_,c,i,b,Z,H.new d U g⟩
theorem Al(i:Nat)(H:Sep z Γ w){ty:TypeId}{p:Nat}{vs:List Value}(hi:Γ[i]?=some (blk m V ty))(h:o.op=.store T x y)(b:ev L x=some (.pointer (some ⟨m,p,none⟩)))(g:ev L y=some v)(r:v.cells=vs.toArray)(e:∀u∈vs,u.oneCell'=true)
  (hs:(P.info? T).map (·.size)=some vs.length)(hp:p+vs.length<=V.length){out:List Value}(c:V.take p++vs++V.drop (p+vs.length)=out):
  DI P n ds L o w (λd=>Sep z (Γ.set i (blk m out ty)) d):=λa j=>by
 obtain ⟨d,s,f,b,_⟩:=PP h b g r e hs (H.blk i hi) hp c a j;refine ⟨d,s,H.write i hi b.os b.tape b.output f (λk l=>?_)⟩;rcases Aes k w.heap.size with q|q
 ·exact b.block k q l
 rw[Ae2 q,Ae2 U]
theorem Lt(i:Nat)(H:Sep z Γ w){ty:TypeId}(hi:Γ[i]?=some (blk m (u::V) ty))(e:o.op=.store T x y)(b:ev L x=some (Y m))(c:ev L y=some v)(d:v.cells= #[v])(a:v.oneCell'=true)(hs:(P.info? T).map (·.size)=some 1):DI P n ds L o w (λw'=>Sep z (Γ.set i (blk m (v::V) ty)) w'):=
 Al i H hi e b c (vs:=[v]) d (by simp[a]) hs O Z
theorem Lu(i:Nat)(H:Sep z Γ w){ty:TypeId}{d:Value}(hi:Γ[i]?=some (blk m (u::d::V) ty))(f:o.op=.store T x y)(b:ev L x=some (.pointer (some ⟨m,1,none⟩)))(c:ev L y=some v)(e:v.cells= #[v])(a:v.oneCell'=true)(hs:(P.info? T).map (·.size)=some 1):DI P n ds L o w (λw'=>Sep z (Γ.set i (blk m (u::v::V) ty)) w'):=
 Al i H hi f b c (vs:=[v]) e (by simp[a]) hs O Z
theorem J1(i:Nat)(H:Sep z Γ w){ty:TypeId}{a x2:Value}(hi:Γ[i]?=some (blk m (u::a::x2::V) ty))(f:o.op=.store T x y)(c:ev L x=some (.pointer (some ⟨m,2,none⟩)))(d:ev L y=some v)(e:v.cells= #[v])(b:v.oneCell'=true)(hs:(P.info? T).map (·.size)=some 1):DI P n ds L o w (λw'=>Sep z (Γ.set i (blk m (u::a::v::V) ty)) w'):=
 Al i H hi f c d (vs:=[v]) e (by simp[b]) hs O Z
theorem NA(i:Nat)(H:Sep z Γ w){ty:TypeId}{a x2 e:Value}(hi:Γ[i]?=some (blk m (u::a::x2::e::V) ty))(g:o.op=.store T x y)(c:ev L x=some (.pointer (some ⟨m,3,none⟩)))(d:ev L y=some v)(f:v.cells= #[v])(b:v.oneCell'=true)(hs:(P.info? T).map (·.size)=some 1):DI P n ds L o w (λw'=>Sep z (Γ.set i (blk m (u::a::x2::v::V) ty)) w'):=
 Al i H hi g c d (vs:=[v]) f (by simp[b]) hs O Z
theorem AdG(i:Nat)(H:Sep z Γ w){ty:TypeId}{b x2 a c:Value}(hi:Γ[i]?=some (blk m (u::b::x2::a::c::V) ty))(g:o.op=.store T x y)(e:ev L x=some (.pointer (some ⟨m,4,none⟩)))(f:ev L y=some v)(h:v.cells= #[v])(d:v.oneCell'=true)(hs:(P.info? T).map (·.size)=some 1):DI P n ds L o w (λw'=>Sep z (Γ.set i (blk m (u::b::x2::a::v::V) ty)) w'):=
 Al i H hi g e f (vs:=[v]) h (by simp[d]) hs O Z
theorem AdH(i:Nat)(H:Sep z Γ w){ty:TypeId}{e x2 b a c d f:Value}(hi:Γ[i]?=some (blk m (u::e::x2::b::a::c::d::f::V) ty))(l:o.op=.store T x y)(h:ev L x=some (.pointer (some ⟨m,7,none⟩)))(j:ev L y=some v)(k:v.cells= #[v])(g:v.oneCell'=true)(hs:(P.info? T).map (·.size)=some 1):DI P n ds L o w (λw'=>Sep z (Γ.set i (blk m (u::e::x2::b::a::c::d::v::V) ty)) w'):=
 Al i H hi l h j (vs:=[v]) k (by simp[g]) hs O Z
theorem AdI(i:Nat)(H:Sep z Γ w){ty:TypeId}{g x2 c b d f a e l:Value}(hi:Γ[i]?=some (blk m (u::g::x2::c::b::d::f::a::e::l::V) ty))(q:o.op=.store T x y)(j:ev L x=some (.pointer (some ⟨m,9,none⟩)))(k:ev L y=some v)(p:v.cells= #[v])(h:v.oneCell'=true)(hs:(P.info? T).map (·.size)=some 1):DI P n ds L o w (λw'=>Sep z (Γ.set i (blk m (u::g::x2::c::b::d::f::a::e::v::V) ty)) w'):=
 Al i H hi q j k (vs:=[v]) p (by simp[h]) hs O Z
theorem AcY(i:Nat)(H:Sep z Γ w){ty:TypeId}{k x2 e d g j c h f a b:Value}(hi:Γ[i]?=some (blk m (u::k::x2::e::d::g::j::c::h::f::a::b::V) ty))(s:o.op=.store T x y)(p:ev L x=some (.pointer (some ⟨m,11,none⟩)))(q:ev L y=some v)(r:v.cells= #[v])(l:v.oneCell'=true)(hs:(P.info? T).map (·.size)=some 1):DI P n ds L o w (λw'=>Sep z (Γ.set i (blk m (u::k::x2::e::d::g::j::c::h::f::a::v::V) ty)) w'):=
 Al i H hi s p q (vs:=[v]) r (by simp[l]) hs O Z
theorem AcZ(i:Nat)(H:Sep z Γ w){ty:TypeId}{l x2 f e h k d j g a b c:Value}(hi:Γ[i]?=some (blk m (u::l::x2::f::e::h::k::d::j::g::a::b::c::V) ty))(t:o.op=.store T x y)(q:ev L x=some (.pointer (some ⟨m,12,none⟩)))(r:ev L y=some v)(s:v.cells= #[v])(p:v.oneCell'=true)(hs:(P.info? T).map (·.size)=some 1):DI P n ds L o w (λw'=>Sep z (Γ.set i (blk m (u::l::x2::f::e::h::k::d::j::g::a::b::v::V) ty)) w'):=
 Al i H hi t q r (vs:=[v]) s (by simp[p]) hs O Z
end

section calls
variable{P:Program}{ops:List Oper}{Q:Exit->Act->World->Prop}{a:Act}{w z:World}{rest:List Oper}{o:Oper}{n d:Nat}{ds:List Deferred}{L:List (Nat×Value)}{v:Value}{Γ pre R':List Ai}{post:Value->List Ai->Prop}{f:FuncId}{args:List Operand}{vs:List Value}{tys:Array TypeId}
theorem Cn.or{B:Ai}(a:Cn P f vs (A::pre) post)(c:Cn P f vs (B::pre) post):Cn P f vs ((λh=>A h\/B h)::pre) post:=λz R w H=>by
 obtain ⟨b,H⟩:=H.ex 0 (σ:=Bool) (B:=λb=>bif b then A else B) Z (λh q=>by rcases q with q|q;exact ⟨true,q⟩;exact ⟨false,q⟩)
 cases b with
 | true=>exact a z R w H
 | false=>exact c z R w H
theorem Cn.at(c:Cn P f vs pre post)(H:Sep z Γ w)(k:Nat)(b:List Nat)(a:Gj k b=true)(e:DJ Γ b++Γ.drop k=pre++R'):Calls P f vs.toArray w (Ret λv w'=>∃Γ',post v Γ'/\Sep z (Γ'++R') w'):=
 c z R' w (H.perm k b a e)
theorem AdX(m:BP ops L o.guard=true)(l:o.dst=some d)(g:Nat.blt d n=true)(s:o.op=.call {callee:=.value (.func f),args:=args.toArray,argTypes:=tys})(b:evs L args=some vs)(r:∀w,(callFunc f vs.toArray).run P w=.ok (.enter f vs.toArray) w)
  (j:Cn P f vs pre post)(H:Sep z Γ w)(k:Nat)(i:List Nat)(h:Gj k i=true)(e:DJ Γ i++Γ.drop k=pre++R')
  (K:∀v c Γ',post v Γ'->Sep z (Γ'++R') c->∀a',Fr n ds ((d,v)::L) a'->wpList P ops.toArray Q rest a' c):∀a,Fr n ds L a->wpList P ops.toArray Q (o::rest) a w:=
 Sn m l g s b r (j.at H k i h e) λv c ⟨Γ',q,p⟩=>K v c Γ' q p
theorem Cn.use(a:Cn P f vs pre post)(H:Sep z (pre++R') w):Calls P f vs.toArray w (Ret λv w'=>∃Γ',post v Γ'/\Sep z (Γ'++R') w'):=a z R' w H
theorem Fw(k:BP ops L o.guard=true)(i:o.dst=some d)(g:Nat.blt d n=true)(j:o.op=.call {callee:=.value (.func f),args:=args.toArray,argTypes:=tys})(b:evs L args=some vs)(m:∀w,(callFunc f vs.toArray).run P w=.ok (.enter f vs.toArray) w)
  (h:Cn P f vs pre post)(H:Sep z Γ w)(e:Γ=pre++R')
  (K:∀v c Γ',post v Γ'->Sep z (Γ'++R') c->∀a',Fr n ds ((d,v)::L) a'->wpList P ops.toArray Q rest a' c):∀a,Fr n ds L a->wpList P ops.toArray Q (o::rest) a w:=
 Sn k i g j b m (h.use (e▸H)) λv c ⟨Γ',q,l⟩=>K v c Γ' q l
theorem cq(h:Cn P f vs pre post)(hq:∀u Γ',post u Γ'->u=v/\Γ'=pre)(k:Nat)(d a:List Nat)(c:Gj k d=true)(e:DJ Γ d++Γ.drop k=pre++R')(b:Gj k a=true)(i:DJ (pre++R') a++(pre++R').drop k=Γ):
  ∀w,Sep z Γ w->Calls P f vs.toArray w (Ret λu g=>u=v/\Sep z Γ g):=λw H=>
 Ret.mono (h.at H k d c e) λu g ⟨Γ',q,j⟩=>by
  obtain ⟨rfl,rfl⟩:=hq u Γ' q;exact ⟨Z,j.perm k a b i⟩
theorem Xe{Rr:Value->World->Prop}(d:BP ops L o.guard=true)(f:o.dst=none)(h:CA P n ds L o w Rr)(K:∀v b,Rr v b->∀a,Fr n ds L a->wpList P ops.toArray Q rest a b):∀a,Fr n ds L a->wpList P ops.toArray Q (o::rest) a w:=by
 intro a c;obtain ⟨v,b,g,e⟩:=h a c;unfold wpList;rw[if_pos (wantL_ok c d)];left;unfold Oper.wp;rw[g,AgN,f];exact K v b e a c
end calls
section callsH
variable{P:Program}{ops:List Oper}{N R:Act->World->Prop}{X:Nat->Act->World->Prop}{a:Act}{w z:World}{n d i:Nat}{ds:List Deferred}{L:List (Nat×Value)}{v:Value}{o:Oper}{Γ pre R':List Ai}{post:Value->List Ai->Prop}{f:FuncId}{args:List Operand}{vs:List Value}{tys:Array TypeId}{K:Act->World->Prop}
theorem PT(hi:ops[i]?=some o)(s:BP ops L o.guard=true)(p:o.dst=some d)(g:Nat.blt d n=true)(r:o.op=.call {callee:=.value (.func f),args:=args.toArray,argTypes:=tys})(b:evs L args=some vs)(u:∀w,(callFunc f vs.toArray).run P w=.ok (.enter f vs.toArray) w)
  (m:Cn P f vs pre post)(H:Sep z Γ w)(k:Nat)(j:List Nat)(h:Gj k j=true)(e:DJ Γ j++Γ.drop k=pre++R')
  (l:∀v c Γ',post v Γ'->Sep z (Γ'++R') c->∀a',Fr n ds ((d,v)::L) a'->K a' c):∀a,Fr n ds L a->wpOp P ops.toArray (Qp N X R) i K a w:=
 Sw hi s p g r b u (m.at H k j h e) λv c ⟨Γ',q,t⟩=>l v c Γ' q t
theorem Bt(hi:ops[i]?=some o)(m:BP ops L o.guard=true)(k:o.dst=some d)(g:Nat.blt d n=true)(l:o.op=.call {callee:=.value (.func f),args:=args.toArray,argTypes:=tys})(b:evs L args=some vs)(r:∀w,(callFunc f vs.toArray).run P w=.ok (.enter f vs.toArray) w)
  (j:Cn P f vs pre post)(H:Sep z Γ w)(e:Γ=pre++R')
  (h:∀v c Γ',post v Γ'->Sep z (Γ'++R') c->∀a',Fr n ds ((d,v)::L) a'->K a' c):∀a,Fr n ds L a->wpOp P ops.toArray (Qp N X R) i K a w:=
 Sw hi m k g l b r (j.use (e▸H)) λv c ⟨Γ',q,p⟩=>h v c Γ' q p
theorem Ct(hi:ops[i]?=some o)(f:BP ops L o.guard=true)(h:o.dst=some d)(b:Nat.blt d n=true)(c:Av P (· =w) n ds L o v)(g:∀a',Fr n ds ((d,v)::L) a'->K a' w):∀a,Fr n ds L a->wpOp P ops.toArray (Qp N X R) i K a w:=
 B6 hi f h b (Rr:=λu e=>u=v/\e=w) (λa j=>⟨v,w,c a j w Z,Z,Z⟩) λ_ _ ⟨e1,e2⟩=>by subst e1;subst e2;exact g
theorem Ac0{Rr:Value->World->Prop}(hi:ops[i]?=some o)(d:BP ops L o.guard=true)(g:o.dst=none)(h:CA P n ds L o w Rr)(f:∀v b,Rr v b->∀a,Fr n ds L a->K a b):∀a,Fr n ds L a->wpOp P ops.toArray (Qp N X R) i K a w:=by
 intro a c;obtain ⟨v,b,j,e⟩:=h a c;unfold wpOp;rw[Afg,hi];simp only;rw[if_pos (wantL_ok c d)];left;unfold Oper.wp;rw[j,AgN,g];exact f v b e a c
end callsH
end
section
def Mv:IntKind->IntKind->Bool
 | .i64,.i64=>true
 | .u8,.u8=>true
 | .u32,.u32=>true
 | .u64,.u64=>true
 | .i32,.i32=>true
 | .u16,.u16=>true
 | _,_=>false
theorem HE{k a:IntKind}(h:Mv k a=true):k=a:=by unfold Mv at h;split at h<;>first|rfl|cases h
def icmp(b:BinOp)(p q:Int):Option Value:=match b with
 | .lss=>some (.bool (decide (p<q)))
 | .leq=>some (.bool (decide (p<=q)))
 | .gtr=>some (.bool (decide (q<p)))
 | .geq=>some (.bool (decide (q<=p)))
 | .eql=>some (.bool (decide (p=q)))
 | .neq=>some (.bool (decide (p≠q)))
 | _=>none
def noq(n:Option Nat)(p r:Nat):Bool:=match n with
 | some k=>Nat.beq (p+k) r
 | none=>false
abbrev Mm:=List (Nat×List Value×TypeId)
def MemL(w:World):Mm->Prop
 | []=>True
 | e::M=>Blk e.1 e.2.1 e.2.2 w/\MemL w M
theorem AN{w:World}:MemL w []:=trivial
theorem AR{w:World}{M:Mm}(h:Blk m V T w)(g:MemL w M):MemL w ((m,V,T)::M):=⟨h,g⟩
theorem MemL.get{w:World}:∀{M:Mm} {j:Nat} {e:Nat×List Value×TypeId},MemL w M->M[j]?=some e->Blk e.1 e.2.1 e.2.2 w
 | [],_,_,_,h=>by simp at h
 | _::_,0,_,g,h=>by simp at h;subst h;exact g.1
 | _::_,j+1,_,g,h=>MemL.get (j:=j) g.2 (by simpa using h)
structure Qv where
 v:Value
 hs:List Nat
 ok:Bool
 a:List (Nat×Nat)
def Rm(P:Program)(M:Mm)(L:List (Nat×Value))(hs:List Nat):Op->Option Qv
 | .move x=>match ev L x with|some v=>some ⟨v,hs,true,[]⟩|none=>none
 | .assign x=>match ev L x with|some v=>some ⟨v,hs,true,[]⟩|none=>none
 | .pick c x y=>match ev L c with
  | some (.bool true)=>(match ev L x with|some v=>some ⟨v,hs,true,[]⟩|none=>none)
  | some (.bool false)=>(match ev L y with|some v=>some ⟨v,hs,true,[]⟩|none=>none)
  | _=>none
 | .extract x i=>match ev L x with
  | some (.tuple vs)=>(match vs.toList[i]? with|some v=>some ⟨v,hs,true,[]⟩|none=>none)
  | _=>none
 | .nilCheck x=>match ev L x with
  | some (.pointer (some ad))=>some ⟨.pointer (some ad),hs,true,[]⟩
  | _=>none
 | .unOp b _ x=>match b with
  | .not=>(match ev L x with|some (.bool c)=>some ⟨.bool !c,hs,true,[]⟩|_=>none)
  | _=>none
 | .binOp b _ x y _=>match ev L x with
  | some (.int k p)=>(match ev L y with
   | some (.int k' q)=>(match icmp b p q with|some v=>some ⟨v,hs,Mv k k',[]⟩|none=>none)
   | _=>none)
  | _=>none
 | .fieldAddr s x f=>match hs with
  | r::hs=>(match ev L x with
   | some (.pointer (some ⟨b,p,none⟩))=>some ⟨.pointer (some ⟨b,r,none⟩),hs,noq (Em P s f) p r,[]⟩
   | _=>none)
  | []=>none
 | .load t x=>match hs with
  | j::hs=>(match ev L x with
   | some (.pointer (some ⟨b,p,none⟩))=>(match M[j]? with
    | some e=>(match e.2.1[p]? with
     | some v=>some ⟨v,hs,Gi P t,[(b,e.1)]⟩
     | none=>none)
    | none=>none)
   | _=>none)
  | []=>none
 | _=>none
def B7:List (Nat×Nat)->Prop
 | []=>True
 | e::l=>e.1=e.2/\B7 l
theorem Cp:∀{l m:List (Nat×Nat)},B7 (l++m)->B7 l/\B7 m
 | [],_,h=>⟨trivial,h⟩
 | _::_,_,h=>⟨⟨h.1,(Cp h.2).1⟩,(Cp h.2).2⟩
section
variable{P:Program}{M:Mm}{L:List (Nat×Value)}{n:Nat}{ds:List Deferred}{w:World}
theorem HF{C:World->Prop}{o:Oper}{hs:List Nat}{q:Qv}(hM:∀w,C w->MemL w M)(h:Rm P M L hs o.op=some q)(i:q.ok=true)(u:B7 q.a):Av P C n ds L o q.v:=by
 unfold Rm at h;split at h
 ·rename_i d
  split at h
  ·rename_i c;cases h;exact Ck d c
  cases h
 ·rename_i d
  split at h
  ·rename_i c;cases h;exact Bf d c
  cases h
 ·rename_i d
  split at h
  ·rename_i l
   split at h
   ·rename_i c;cases h;exact Nq d l c
   cases h
  ·rename_i l
   split at h
   ·rename_i c;cases h;exact Nr d l c
   cases h
  cases h
 ·rename_i d
  split at h
  ·rename_i vs c
   split at h
   ·rename_i g;cases h
    exact Fg (vs:=vs.toList) d (by simpa using c) g
   cases h
  cases h
 ·rename_i d
  split at h
  ·rename_i c;cases h;exact Kz d c
  cases h
 ·rename_i d
  split at h
  ·split at h
   ·rename_i c;cases h;exact Kx d c
   cases h
  cases h
 ·rename_i b _ x y _ d
  split at h
  ·rename_i k p c
   split at h
   ·rename_i k' r j
    split at h
    ·rename_i v g
     cases h
     obtain rfl:=HE i;unfold icmp at g;split at g<;>first|(cases g;first|exact Rg d c j|exact W6 d c j|exact W7 d c j|exact W8 d c j|exact Xa d c j|exact Xb d c j)|cases g
    cases h
   cases h
  cases h
 ·rename_i s x f d
  split at h
  ·split at h
   ·rename_i b p c
    cases h
    dsimp only at i
    cases hf:Em P s f with
    | none=>rw[hf] at i;cases i
    | some k=>
     rw[hf] at i;exact DU d hf c (AfM i)
   cases h
  cases h
 ·rename_i t x d
  split at h
  ·split at h
   ·rename_i b p c
    split at h
    ·rename_i e m
     split at h
     ·rename_i v g
      cases h
      have e1:b=e.1:=u.1;exact Bn d c i (λw z=>by rw[e1];exact ((hM w z).get m).cel p g)
     cases h
    cases h
   cases h
  cases h
 cases h
structure Qs where
 L:List (Nat×Value)
 os:List Oper
 ok:Bool
 a:List (Nat×Nat)
def quiet(P:Program)(M:Mm)(ops:List Oper)(n:Nat):Nat->List Nat->Bool->List (Nat×Nat)->List (Nat×Value)->List Oper->Option Qs
 | 0,_,ok,a,L,os=>some ⟨L,os,ok,a⟩
 | _+1,_,_,_,_,[]=>none
 | k+1,hs,ok,a,L,o::os=>match o.dst with
  | none=>none
  | some d=>match Nat.blt d n with
   | false=>none
   | true=>match BP ops L o.guard with
    | true=>(match Rm P M L hs o.op with
     | some q=>quiet P M ops n k q.hs (q.ok&&ok) (q.a++a) ((d,q.v)::L) os
     | none=>none)
    | false=>(match EY ops L o.guard with
     | true=>quiet P M ops n k hs ok a ((d,undef)::L) os
     | false=>none)
theorem Iq{ops:List Oper}:∀{k:Nat} {hs:List Nat} {e:Bool} {a:List (Nat×Nat)} {L:List (Nat×Value)} {b:List Oper} {q:Qs},quiet P M ops n k hs e a L b=some q->q.ok=true->B7 q.a->e=true/\B7 a:=by
 intro k
 induction k with
 | zero=>intro hs e a L b q h d c;simp only[quiet,Aen] at h;subst h;exact ⟨d,c⟩
 | succ k ih=>
  intro hs e a L b q h d c
  cases b with
  | nil=>simp[quiet] at h
  | cons o b=>
   simp only[quiet] at h;split at h
   ·cases h
   split at h
   ·cases h
   split at h
   ·split at h
    ·obtain ⟨f,g⟩:=ih h d c
     exact ⟨by simp at f;exact f.2,(Cp g).2⟩
    cases h
   split at h
   ·exact ih h d c
   cases h
theorem s_P{ops:List Oper}{Q:Exit->Act->World->Prop}(s:MemL w M):∀(k:Nat) (hs:List Nat) {i:Bool} {a:List (Nat×Nat)} {L L':List (Nat×Value)} {c b:List Oper} {ok':Bool} {a':List (Nat×Nat)},quiet P M ops n k hs i a L c=some ⟨L',b,ok',a'⟩->ok'=true->B7 a'->
  (∀x,Fr n ds L' x->wpList P ops.toArray Q b x w)->∀x,Fr n ds L x->wpList P ops.toArray Q c x w:=by
 intro k
 induction k with
 | zero=>
  intro hs i a L L' c b ok' a' h _ _ K;simp only[quiet,Aen,Qs.mk.injEq] at h;obtain ⟨rfl,rfl,_,_⟩:=h;exact K
 | succ k ih=>
  intro hs i a L L' c b ok' a' h g j K
  cases c with
  | nil=>simp[quiet] at h
  | cons o c=>
   simp only[quiet] at h;split at h
   ·cases h
   rename_i d l;split at h
   ·cases h
   rename_i f;split at h
   ·rename_i p
    split at h
    ·rename_i q hq
     obtain ⟨m,r⟩:=Iq h g j;simp at m;exact s_do p l f (HF (λ_ e=>e▸s) hq m.1 (Cp r).1) (ih _ h g j K)
    cases h
   split at h
   ·rename_i t
    exact Sl t l f (ih _ h g j K)
   cases h
theorem Dw:∀{l:List (Nat×Nat)},l.map Prod.fst=l.map Prod.snd->B7 l
 | [],_=>trivial
 | _::_,h=>by
  simp only[AeL,Ag4] at h;exact ⟨h.1,Dw h.2⟩
theorem Gn{ops:List Oper}{Q:Exit->Act->World->Prop}(k:Nat)(hs:List Nat)(c:MemL w M){L L':List (Nat×Value)}{a:List Oper}{a':List (Nat×Nat)}(h:quiet P M ops n k hs true [] L o=some ⟨L',a,b,a'⟩)(d:b=true)(e:a'.map Prod.fst=a'.map Prod.snd)(K:∀x,Fr n ds L' x->wpList P ops.toArray Q a x w):∀x,Fr n ds L x->wpList P ops.toArray Q o x w:=s_P c k hs h d (Dw e) K
theorem Mw{ops:List Oper}{Q:Exit->Act->World->Prop}(k:Nat)(hs:List Nat){L L':List (Nat×Value)}{a:List Oper}(h:quiet P [] ops n k hs true [] L o=some ⟨L',a,b,[]⟩)(c:b=true)(K:∀x,Fr n ds L' x->wpList P ops.toArray Q a x w):∀x,Fr n ds L x->wpList P ops.toArray Q o x w:=s_P AN k hs h c trivial K
theorem B3{ops:List Oper}{Q:Exit->Act->World->Prop}(k:Nat){L L':List (Nat×Value)}{a:List Oper}(h:quiet P [] ops n k [] true [] L o=some ⟨L',a,b,[]⟩)(c:b=true)(K:∀x,Fr n ds L' x->wpList P ops.toArray Q a x w):∀x,Fr n ds L x->wpList P ops.toArray Q o x w:=s_P AN k [] h c trivial K

theorem q_P{ops:List Oper}{C:World->Prop}{Q:Act->Prop}(r:∀w,C w->MemL w M):∀(k:Nat) (hs:List Nat) {g:Bool} {a:List (Nat×Nat)} {L L':List (Nat×Value)} {c b:List Oper} {ok':Bool} {a':List (Nat×Nat)},quiet P M ops n k hs g a L c=some ⟨L',b,ok',a'⟩->ok'=true->B7 a'->
  (∀x,Fr n ds L' x->wpQuiet P ops.toArray C Q b x)->∀x,Fr n ds L x->wpQuiet P ops.toArray C Q c x:=by
 intro k
 induction k with
 | zero=>
  intro hs g a L L' c b ok' a' h _ _ K;simp only[quiet,Aen,Qs.mk.injEq] at h;obtain ⟨rfl,rfl,_,_⟩:=h;exact K
 | succ k ih=>
  intro hs g a L L' c b ok' a' h f i K
  cases c with
  | nil=>simp[quiet] at h
  | cons o c=>
   simp only[quiet] at h;split at h
   ·cases h
   rename_i d j;split at h
   ·cases h
   rename_i e;split at h
   ·rename_i m
    split at h
    ·rename_i q hq
     obtain ⟨l,p⟩:=Iq h f i;simp at l;exact AM m j e (HF r hq l.1 (Cp p).1) (ih _ h f i K)
    cases h
   split at h
   ·rename_i s
    exact So s j e (ih _ h f i K)
   cases h
theorem D5{ops:List Oper}{C:World->Prop}{Q:Act->Prop}(k:Nat)(hs:List Nat)(c:∀w,C w->MemL w M){L L':List (Nat×Value)}{a:List Oper}{a':List (Nat×Nat)}(h:quiet P M ops n k hs true [] L o=some ⟨L',a,b,a'⟩)(d:b=true)(e:a'.map Prod.fst=a'.map Prod.snd)(K:∀x,Fr n ds L' x->wpQuiet P ops.toArray C Q a x):∀x,Fr n ds L x->wpQuiet P ops.toArray C Q o x:=q_P c k hs h d (Dw e) K
theorem B4{ops:List Oper}{C:World->Prop}{Q:Act->Prop}(k:Nat)(hs:List Nat){L L':List (Nat×Value)}{a:List Oper}(h:quiet P [] ops n k hs true [] L o=some ⟨L',a,b,[]⟩)(c:b=true)(K:∀x,Fr n ds L' x->wpQuiet P ops.toArray C Q a x):∀x,Fr n ds L x->wpQuiet P ops.toArray C Q o x:=q_P (λ_ _=>AN) k hs h c trivial K
theorem t_P{ops:List Oper}{Q:Act->Prop}(s:MemL w M):∀(k:Nat) (hs:List Nat) {i:Bool} {a:List (Nat×Nat)} {L L':List (Nat×Value)} {c b:List Oper} {ok':Bool} {a':List (Nat×Nat)},quiet P M ops n k hs i a L c=some ⟨L',b,ok',a'⟩->ok'=true->B7 a'->
  (∀x,Fr n ds L' x->wpStill P ops.toArray w Q b x)->∀x,Fr n ds L x->wpStill P ops.toArray w Q c x:=by
 intro k
 induction k with
 | zero=>
  intro hs i a L L' c b ok' a' h _ _ K;simp only[quiet,Aen,Qs.mk.injEq] at h;obtain ⟨rfl,rfl,_,_⟩:=h;exact K
 | succ k ih=>
  intro hs i a L L' c b ok' a' h g j K
  cases c with
  | nil=>simp[quiet] at h
  | cons o c=>
   simp only[quiet] at h;split at h
   ·cases h
   rename_i d l;split at h
   ·cases h
   rename_i f;split at h
   ·rename_i p
    split at h
    ·rename_i q hq
     obtain ⟨m,r⟩:=Iq h g j;simp at m;exact Cc p l f (HF (λ_ e=>e▸s) hq m.1 (Cp r).1) (ih _ h g j K)
    cases h
   split at h
   ·rename_i t
    exact Su t l f (ih _ h g j K)
   cases h
theorem PU{ops:List Oper}{Q:Act->Prop}(k:Nat)(hs:List Nat)(c:MemL w M){L L':List (Nat×Value)}{a:List Oper}{a':List (Nat×Nat)}(h:quiet P M ops n k hs true [] L o=some ⟨L',a,b,a'⟩)(d:b=true)(e:a'.map Prod.fst=a'.map Prod.snd)(K:∀x,Fr n ds L' x->wpStill P ops.toArray w Q a x):∀x,Fr n ds L x->wpStill P ops.toArray w Q o x:=t_P c k hs h d (Dw e) K
theorem PV{ops:List Oper}{Q:Act->Prop}(k:Nat)(hs:List Nat){L L':List (Nat×Value)}{a:List Oper}(h:quiet P [] ops n k hs true [] L o=some ⟨L',a,b,[]⟩)(c:b=true)(K:∀x,Fr n ds L' x->wpStill P ops.toArray w Q a x):∀x,Fr n ds L x->wpStill P ops.toArray w Q o x:=t_P AN k hs h c trivial K
structure Qa where
 L:List (Nat×Value)
 listed:Array Bool
 ok:Bool
 a:List (Nat×Nat)
def quietA(P:Program)(M:Mm)(ops:List Oper)(n:Nat)(g:Nat->Bool):List Nat->List Nat->Bool->List (Nat×Nat)->List (Nat×Value)->Array Bool->Option Qa
 | [],_,ok,a,L,li=>some ⟨L,li,ok,a⟩
 | i::is,hs,ok,a,L,li=>match ops[i]? with
  | none=>none
  | some o=>match o.dst with
   | none=>none
   | some d=>match Nat.blt d n with
    | false=>none
    | true=>match BP ops L o.guard with
     | true=>(match Rm P M L hs o.op with
      | some q=>quietA P M ops n g is q.hs (((q.ok&&g i)&&(Region.noSelect ops.toArray&&(Region.free .any ops.toArray li i&&(Region.ready .any ops.toArray li).contains i)))&&ok) (q.a++a) ((d,q.v)::L) (li.setIfInBounds i true)
      | none=>none)
     | false=>(match EY ops L o.guard with
      | true=>quietA P M ops n g is hs ((g i&&(Region.noSelect ops.toArray&&(Region.free .any ops.toArray li i&&(Region.ready .any ops.toArray li).contains i)))&&ok) a ((d,undef)::L) (li.setIfInBounds i true)
      | false=>none)
theorem F6{ops:List Oper}:∀{e hs:List Nat} {d:Bool} {a:List (Nat×Nat)} {L:List (Nat×Value)} {g:Array Bool} {q:Qa},quietA P M ops n F e hs d a L g=some q->q.ok=true->B7 q.a->d=true/\B7 a:=by
 intro e
 induction e with
 | nil=>intro hs d a L g q h c b;simp only[quietA,Aen] at h;subst h;exact ⟨c,b⟩
 | cons i e ih=>
  intro hs d a L g q h c b;simp only[quietA] at h;split at h
  ·cases h
  split at h
  ·cases h
  split at h
  ·cases h
  split at h
  ·split at h
   ·obtain ⟨f,j⟩:=ih h c b
    exact ⟨(AeE _ _▸f).2,(Cp j).2⟩
   cases h
  split at h
  ·obtain ⟨f,j⟩:=ih h c b
   exact ⟨(AeE _ _▸f).2,j⟩
  cases h
section
variable{ops:List Oper}{N R:Act->World->Prop}{X:Nat->Act->World->Prop}{S:World->Prop}
theorem a_P(u:∀w,S w->MemL w M)(p:S w):∀(e hs:List Nat) {l:Bool} {a:List (Nat×Nat)} {L L':List (Nat×Value)} {j c:Array Bool} {ok':Bool} {a':List (Nat×Nat)} {fuel:Nat},quietA P M ops n (λ_=>true) e hs l a L j=some ⟨L',c,ok',a'⟩->ok'=true->B7 a'->
  (∀x,Fr n ds L' x->wpAnyH P .any ops.toArray (Qp N X R) S fuel c x w)->∀x,Fr n ds L x->wpAnyH P .any ops.toArray (Qp N X R) S (fuel+e.length) j x w:=by
 intro e
 induction e with
 | nil=>
  intro hs l a L L' j c ok' a' fuel h _ _ K;simp only[quietA,Aen,Qa.mk.injEq] at h;obtain ⟨rfl,rfl,_,_⟩:=h;exact K
 | cons i e ih=>
  intro hs l a L L' j c ok' a' fuel h g k K;simp only[quietA] at h;split at h
  ·cases h
  rename_i o s;split at h
  ·cases h
  rename_i d m;split at h
  ·cases h
  rename_i f;split at h
  ·rename_i t
   split at h
   ·rename_i q hq
    obtain ⟨b,r⟩:=F6 h g k;simp only[AeE] at b;exact BM (fuel:=fuel+e.length) i s b.1.2.1 b.1.2.2.1 b.1.2.2.2 t m f (HF u hq b.1.1.1 (Cp r).1) p (ih _ h g k K)
   cases h
  split at h
  ·rename_i v
   obtain ⟨b,r⟩:=F6 h g k;simp only[AeE] at b;exact Sv (fuel:=fuel+e.length) i s b.1.2.1 b.1.2.2.1 b.1.2.2.2 v m f p (ih _ h g k K)
  cases h
theorem a_L(c hs:List Nat)(e:∀w,S w->MemL w M)(f:S w){L L':List (Nat×Value)}{d a:Array Bool}{a':List (Nat×Nat)}(h:quietA P M ops n (λ_=>true) c hs true [] L d=some ⟨L',a,b,a'⟩)(g:b=true)(k:a'.map Prod.fst=a'.map Prod.snd)(j:m+c.length=i)(K:∀x,Fr n ds L' x->wpAnyH P .any ops.toArray (Qp N X R) S m a x w):∀x,Fr n ds L x->wpAnyH P .any ops.toArray (Qp N X R) S i d x w:=j▸a_P e f c hs h g (Dw k) K
def Nj(ops:List Oper)(i:Nat):Bool:= !(Nat.beq i (ops.length-1))&&(match ops[i]? with|some o=>o.guard.isNone|none=>false)
theorem l_P(f:Il ops.toArray=true)(z:∀w,S w->MemL w M)(y:S w):∀(j hs:List Nat) {p:Bool} {a:List (Nat×Nat)} {L L':List (Nat×Value)} {l c:Array Bool} {ok':Bool} {a':List (Nat×Nat)} {fuel:Nat},quietA P M ops n (Nj ops) j hs p a L l=some ⟨L',c,ok',a'⟩->ok'=true->B7 a'->
  (∀x,Fr n ds L' x->GH P ops (Qp N X R) S fuel c x w)->∀x,Fr n ds L x->GH P ops (Qp N X R) S (fuel+j.length) l x w:=by
 intro j
 induction j with
 | nil=>
  intro hs p a L L' l c ok' a' fuel h _ _ K;simp only[quietA,Aen,Qa.mk.injEq] at h;obtain ⟨rfl,rfl,_,_⟩:=h;exact K
 | cons i j ih=>
  intro hs p a L L' l c ok' a' fuel h m s K;simp only[quietA] at h;split at h
  ·cases h
  rename_i o u;split at h
  ·cases h
  rename_i d v;split at h
  ·cases h
  rename_i r;split at h
  ·rename_i k
   split at h
   ·rename_i q hq
    obtain ⟨e,t⟩:=F6 h m s;simp only[AeE] at e;exact BG (fuel:=fuel+j.length) i f u (by have:=e.1.1.2;unfold Nj at this;simp only[AeE] at this;simpa using this.1) e.1.2.1 e.1.2.2.1 e.1.2.2.2 k v r (HF z hq e.1.1.1 (Cp t).1) y (ih _ h m s K)
   cases h
  rename_i k;split at h
  ·obtain ⟨e,t⟩:=F6 h m s
   simp only[AeE] at e;exfalso;have b:=e.1.1;unfold Nj at b;rw[u] at b;simp only[AeE] at b
   cases hgd:o.guard with
   | none=>rw[hgd] at k;simp[BP] at k
   | some g=>have:=b.2;rw[hgd] at this;cases this
  cases h
theorem Bv(d hs:List Nat)(a:Il ops.toArray=true)(f:∀w,S w->MemL w M)(g:S w){L L':List (Nat×Value)}{e c:Array Bool}{a':List (Nat×Nat)}(h:quietA P M ops n (Nj ops) d hs true [] L e=some ⟨L',c,b,a'⟩)(j:b=true)(l:a'.map Prod.fst=a'.map Prod.snd)(k:m+d.length=i)(K:∀x,Fr n ds L' x->GH P ops (Qp N X R) S m c x w):∀x,Fr n ds L x->GH P ops (Qp N X R) S i e x w:=k▸l_P a f g d hs h j (Dw l) K
end
end
end
section
def celH(h:Hp)(b o:Nat)(v:Value):Prop:=∃cs ty fr,h b=some (.cells cs ty fr)/\cs[o]?=some v
def CK(h h':Hp):Prop:=∀k o,h k=some o->h' k=some o
theorem celH.le{h':Hp}{b o:Nat}{v:Value}(c:celH h b o v)(s:CK h h'):celH h' b o v:=by
 obtain ⟨cs,ty,e,a,d⟩:=c;exact ⟨cs,ty,e,s _ _ a,d⟩
theorem celH.cel{b o:Nat}{v:Value}{w:World}(c:celH h b o v)(s:CK h (hp w)):FH b o v w:=by
 obtain ⟨cs,ty,f,d,e⟩:=c.le s;have a:w.heap[b]?=some (.cells cs ty f):=d;unfold FH World.cell?;simp[a,e]
def rdH(sz:Nat)(v:Value)(n:Nat)(xs:List Value)(h:Hp):Prop:=
 ∃ao c,v=.slice ao n c/\n<=c/\c<=9223372036854775807/\xs.length=n*sz/\∀(j:Nat) (u:Value),xs[j]?=some u->∃b p,ao=some ⟨b,p,none⟩/\celH h b (p+j) u
theorem rdH.le{sz:Nat}{v:Value}{n:Nat}{xs:List Value}{h h':Hp}(r:rdH sz v n xs h)(s:CK h h'):rdH sz v n xs h':=by
 obtain ⟨f,c,e,a,l,i,k⟩:=r;exact ⟨f,c,e,a,l,i,λj u d=>by obtain ⟨b,p,e,g⟩:=k j u d;exact ⟨b,p,e,g.le s⟩⟩
theorem rdH.rd{sz:Nat}{v:Value}{n:Nat}{xs:List Value}{w:World}(r:rdH sz v n xs h)(s:CK h (hp w)):Rd sz v n xs w:=by
 obtain ⟨f,c,e,a,l,i,k⟩:=r;exact ⟨f,c,e,a,l,i,λj u d=>by obtain ⟨b,p,e,g⟩:=k j u d;exact ⟨b,p,e,g.cel s⟩⟩
theorem rdH.small{sz:Nat}{v:Value}{n:Nat}{xs:List Value}(r:rdH sz v n xs h):n<=9223372036854775807:=by
 obtain ⟨d,c,e,a,b,_⟩:=r;omega
theorem rdH.nil(sz:Nat)(h:Hp):rdH sz (.slice none 0 0) 0 [] h:=⟨none,0,Z,Aek _,by omega,by simp,λj u a=>by simp at a⟩
theorem blk.celH{b:Nat}{cs:List Value}{ty:TypeId}{h:Hp}(a:blk b cs ty h)(o:Nat){v:Value}(c:cs[o]?=some v):celH h b o v:=⟨_,_,_,a,by simpa using c⟩
theorem blk.rd{b l c sz:Nat}{cs xs:List Value}{ty:TypeId}(e:blk b cs ty h)(d:l<=c)(f:c<=9223372036854775807)(i:m+l*sz<=cs.length)(g:(cs.drop m).take (l*sz)=xs):rdH sz (.slice (some ⟨b,m,none⟩) l c) l xs h:=by
 subst g;refine ⟨_,_,Z,d,f,by simp;omega,λj u a=>⟨b,m,Z,e.celH _ ?_⟩⟩;rw[Ae0] at a;split at a
 ·rw[Afm] at a;exact a
 cases a
section
variable{P:Program}{C:World->Prop}{o:Oper}{a:Act}{w z:World}{Γ:List Ai}{n:Nat}{ds:List Deferred}{L:List (Nat×Value)}{v:Value}{x y:Operand}{xt yt:TypeId}{A:Ai}
theorem Sep.get'(i:Nat)(H:Sep z Γ w)(a:Γ[i]?=some A):∃h,A h/\CK h (hp w):=H.get i a
def Lw:List Ai->Nat->Ai
 | [],_=>λ_=>True
 | a::_,0=>a
 | _::l,i+1=>Lw l i
theorem Xf:∀(Γ:List Ai) (i:Nat),Γ[i]?=none/\(∀h,Lw Γ i h)\/Γ[i]?=some (Lw Γ i)
 | [],_=>.inl ⟨Z,λ_=>trivial⟩
 | _::_,0=>.inr Z
 | _::l,i+1=>Xf l i
theorem Xg{Γ:List Ai}{z w:World}(i:Nat)(H:Sep z Γ w):∃h,Lw Γ i h/\CK h (hp w):=(Xf Γ i).elim (λq=>⟨_,q.2 _,λ_ _ e=>e⟩) (λq=>H.get' i q)
theorem Sep.rd(i:Nat)(H:Sep z Γ w)(a:Γ[i]?=some A){sz m:Nat}{u:Value}{xs:List Value}(d:∀h,A h->rdH sz u m xs h):Rd sz u m xs w:=by
 obtain ⟨h,b,c⟩:=H.get' i a;exact (d h b).rd c
theorem Sep.rv{Γ:List Ai}{z w:World}(i:Nat)(H:Sep z Γ w){sz:Nat}{xs:List Value}(r:∀{h},Lw Γ i h->rdH sz u m xs h):Rd sz u m xs w:=by
 obtain ⟨_,q,e⟩:=Xg i H;exact (r q).rd e
theorem Sep.cell(i:Nat)(H:Sep z Γ w)(a:Γ[i]?=some A){b p:Nat}(e:∀h,A h->celH h b p u):FH b p u w:=by
 obtain ⟨h,c,d⟩:=H.get' i a;exact (e h c).cel d
theorem Sep.says(i:Nat)(H:Sep z Γ w)(a:Γ[i]?=some A){p:Prop}(c:∀h,A h->p):p:=by
 obtain ⟨h,b,_⟩:=H.get' i a;exact c h b

theorem Sep.sy{Γ:List Ai}{z w:World}(i:Nat)(H:Sep z Γ w){p:Prop}(r:∀{h},Lw Γ i h->p):p:=by
 obtain ⟨_,q,_⟩:=Xg i H;exact r q
def grow(e:TypeId)(sz:Nat)(v:Value)(n:Nat)(xs:List Value):Ai:=λh=>xs.length=n*sz/\
 ((v=.slice none 0 0/\n=0)\/∃g cap cur,v=.slice (some ⟨g,0,none⟩) n cap/\h g=some (.cells cur e (0,0))/\n<=cap/\cap<=maxLen/\cur.size=cap*sz/\cur.toList.take (n*sz)=xs)
theorem grow.form{e:TypeId}{sz:Nat}{xs:List Value}(g:grow e sz u m xs h):(u=.slice none 0 0/\m=0)\/∃b c,u=.slice (some ⟨b,0,none⟩) m c/\m<=c:=by
 rcases g.2 with g|⟨b,c,d,f,_,a,_⟩
 ·exact .inl g
 exact .inr ⟨b,c,f,a⟩
theorem grow.len{e:TypeId}{sz:Nat}{xs:List Value}(g:grow e sz u m xs h):xs.length=m*sz:=g.1
theorem grow.nil(e:TypeId)(sz:Nat)(h:Hp):grow e sz (.slice none 0 0) 0 [] h:=⟨by simp,.inl ⟨Z,Z⟩⟩
theorem grow.rd{e:TypeId}{sz:Nat}{xs:List Value}(g:grow e sz u m xs h):rdH sz u m xs h:=by
 have d:=g.1;rcases g.2 with ⟨rfl,rfl⟩|⟨b,c,l,rfl,n,f,i,hs,k⟩
 ·have:xs=[]:=by simpa using d
  subst this;exact rdH.nil sz h
 refine ⟨_,c,Z,f,(by unfold maxLen at i;omega),d,λj u a=>⟨b,0,Z,_,_,_,n,?_⟩⟩;rw[<-k] at a;rw[Ae0] at a;split at a
 ·simpa using a
 cases a
theorem grow.own{e:TypeId}{sz:Nat}{xs:List Value}(g:grow e sz u m xs h)(s:CK h (hp w)):Xd 0 e sz u m xs w:=by
 refine ⟨g.1,?_⟩;rcases g.2 with g|⟨b,a,c,d,f,r⟩
 ·exact .inl g
 exact .inr ⟨b,a,c,d,AeN _,s _ _ f,r⟩
theorem Sep.void{B:Ai}(H:Sep z Γ w)(a:∀h,B h):Sep z (B::Γ) w:=H.grow (Ext.refl No w) (a _)
theorem Sep.nilg(H:Sep z Γ w)(e:TypeId)(sz:Nat):Sep z (YtemljpjnhjnncaaGreatDoor.grow e sz (.slice none 0 0) 0 []::Γ) w:=H.void λh=>grow.nil e sz h
theorem blk.grow{b k c sz:Nat}{cs xs:List Value}{ty:TypeId}{h:Hp}(f:blk b cs ty h)(a:k<=c)(g:c<=9223372036854775807)(e:cs.length=c*sz)(d:cs.take (k*sz)=xs):grow ty sz (.slice (some ⟨b,0,none⟩) k c) k xs h:=by
 refine ⟨?_,.inr ⟨b,c,cs.toArray,Z,f,a,(by unfold maxLen;omega),by simpa using e,by simpa using d⟩⟩;rw[<-d,Aez,e];exact AeG (AfI _ a)
theorem AW(i:Nat){t e:TypeId}{zv:Value}{sz by_ k m:Nat}{u:Value}{xs news:List Value}(H:Sep z Γ w)(hi:Γ[i]?=some (grow e sz v k xs))(ho:o.op=.call {callee:=.builtin .append,args:= #[x,y],argTypes:= #[t,t]})
  (ht:P.underlying t=some (.slice e))(hE:Elt P e zv sz by_)(hx:ev L x=some v)(hy:ev L y=some u)(a4:Rd sz u m news w)(h1:∀c∈news,c.oneCell'=true)(b0:(k+m)*by_<=140737488355328):
  CA P n ds L o w (λv' w'=>Sep z (Γ.set i (grow e sz v' (k+m) (xs++news))) w'):=λa hF=>by
 obtain ⟨own,f⟩:=H.own;have hg:=f i _ hi;have a2:CK ((hp w).part own i) (hp w):=λq o' e=>(En e).2;have hO:=hg.own a2;obtain ⟨v',w',hr,s,d,a8⟩:=Ur (B:=0) ho ht hE hx hy hO a4 h1 (AeN _) b0 a hF;refine ⟨v',w',hr,d.os.trans H.os,d.tape.trans H.tape,d.output.trans H.output,λq=>if q<w.heap.size then own q else i,λj B l=>?_⟩;have a3:∀q,v.ownBlock=some q->own q=i:=λq hq=>by
  rcases hg.2 with ⟨rfl,_⟩|⟨b,a1,a0,rfl,a9,_⟩
  ·simp[Value.ownBlock] at hq
  simp[Value.ownBlock] at hq;subst hq;exact (En a9).1
 rw[Afq] at l;split at l
 ·rename_i e;subst e
  split at l
  ·cases l
   refine ⟨s.1,?_⟩;rcases s.2 with q|⟨g,a1,a0,h,_,a7,r⟩
   ·exact .inl q
   refine .inr ⟨g,a1,a0,h,?_,r⟩;unfold Hp.part hp;have a5:(if g<w.heap.size then own g else i)=i:=by
    split
    ·rename_i b1
     rcases a8 with q|q
     ·exact a3 g (by rw[<-q,h];rfl)
     rw[h] at q;simp[Value.ownBlock] at q;omega
    rfl
   rw[if_pos a5];exact a7
  cases l
 rename_i p;have:=f j B l;have e:(hp w').part (λq=>if q<w.heap.size then own q else i) j=(hp w).part own j:=by
  funext q;unfold Hp.part hp;dsimp only;by_cases hq:q<w.heap.size
  ·simp only[hq,if_true]
   by_cases hqj:own q=j
   ·simp only[hqj,if_true]
    exact d.block q hq (λa6=>p ((a3 q a6).symm.trans hqj))
   simp[hqj]
  have:w.heap[q]?=none:=Ae2 U;simp[hq,this,p]
 rwa[e]
theorem AO(H:Sep z Γ w){e:TypeId}{parts:List (Nat×Operand)}{vs:List (Nat×Value)}{out:List Value}(p:o.op=.buildSlice T m parts.toArray)(r:P.underlying T=some (.slice e))(s:Elt P e u j g)
  (t:(evs L (parts.map (·.2))).map (List.zip (parts.map (·.1)))=some vs)(d:m*j<=16777216)(k:0<m)(l:Instr.fill (λi=>some (i*j,j)) ((Array.range (m*j)).map (u.cells[· % u.cells.size]!)) vs=some out.toArray):
  CA P n ds L o w (λv c=>∃b,v=.slice (some ⟨b,0,none⟩) m m/\Sep z (blk b out e::Γ) c):=λa q=>by
 obtain ⟨v,c,x,b,rfl,hs,_,f,h⟩:=Nw (w:=w) p r s t d k l a q;exact ⟨_,c,x,b,Z,H.new h U f⟩
theorem EZ(H:Sep z Γ w){e:TypeId}(g:o.op=.buildSlice T 0 #[])(h:P.underlying T=some (.slice e))(k:Elt P e u m j):
  CA P n ds L o w (λv w'=>∃b,v=.slice (some ⟨b,0,none⟩) 0 0/\Sep z (blk b [] e::Γ) w'):=λa r=>by
 obtain ⟨i,hi,q,hs,p,l,d,f⟩:=k;refine ⟨_,_,?_,w.heap.size,Z,H.new (Dv w (.cells #[] e)) (Aek _) (by show (w.heap.push _)[w.heap.size]?=_;simp)⟩;simp only[execOp,g,AeZ];have c:∀w,(sizeOf e).run P w=.ok m w:=λw=>by simp[sizeOf,typeInfo,hi,hs,go_sem]
 simp[Instr.buildSlice,run_underlying h,c,newRow,newObj,go_sem,Sem.run,Instr.fill]
end
end
section
def Cl(l:List UInt8):Value:=.string ⟨l.toArray⟩
def Rn(P:Program)(t:TypeId):Bool:=match P.underlying t with
 | some (.slice e)=>(match P.underlying e with|some (.int .u8)=>(match P.info? e with|some i=>Nat.beq i.size 1|none=>false)|_=>false)
 | _=>false
theorem PW{P:Program}(h:Rn P T=true):∃e i,P.underlying T=some (.slice e)/\P.underlying e=some (.int .u8)/\P.info? e=some i/\i.size=1:=by
 unfold Rn at h;split at h
 ·rename_i e a
  split at h
  ·rename_i b
   split at h
   ·rename_i i c;exact ⟨e,i,a,b,c,by simpa using h⟩
   cases h
  cases h
 cases h
section
variable{P:Program}{C:World->Prop}{o:Oper}{a:Act}{w z:World}{Γ:List Ai}{n:Nat}{ds:List Deferred}{L:List (Nat×Value)}{v:Value}{x y:Operand}{xt yt:TypeId}{A:Ai}

theorem Ch{l:List UInt8}(ho:o.op=.convert xt T x)(s:Rn P xt=true)(h2:G8 P T=true)(t:ev L x=some u)(hr:∀w,C w->Rd 1 u l.length (l.map u8) w):Av P C n ds L o (Cl l):=λa y w z=>by
 obtain ⟨e,i,m,f,_,_⟩:=PW s;have k:=GF h2;obtain ⟨g,c,rfl,a0,_,_,h⟩:=hr w z;have key:(convert xt T (.slice g l.length c)).run P w=.ok (Cl l) w:=by
  cases g with
  | none=>
   have:l=[]:=by
    cases l with
    | nil=>rfl
    | cons p q=>obtain ⟨b,p',e,_⟩:=h 0 (u8 p) O;cases e
   subst this;exact run_convert_bytes_nil _ xt e m f _ _ T k
  | some ad=>
   refine run_convert_bytes_back w xt T e ad c l m f k λj r=>?_;obtain ⟨b,p,e2,d⟩:=h j (u8 l[j]) (by simp[r]);simp only[Aen] at e2;subst e2;have e3:(Addr.add ⟨b,p,none⟩ j)=⟨b,p+j,none⟩:=by
    unfold Addr.add;split
    ·rename_i v;simp[v]
    rfl
   rw[e3];exact d
 simp only[execOp,ho,y.ev t,Aex,key,Aet,AeC]
theorem IQ{l m:List UInt8}(f:o.op=.binOp .eql xt x y yt)(b:G8 P xt=true)(d:ev L x=some (Cl l))(e:ev L y=some (Cl m)):Av P C n ds L o (.bool (decide (l=m))):=λa c w _=>by
 have b:=GF b;simp only[execOp,f,c.ev d,c.ev e,Cl];simp[b,go_sem]
 first |(rw[Aey];simp;done)|skip
theorem IR{l m:List UInt8}(f:o.op=.binOp .neq xt x y yt)(b:G8 P xt=true)(d:ev L x=some (Cl l))(e:ev L y=some (Cl m)):Av P C n ds L o (.bool (decide (l≠m))):=λa c w _=>by
 have b:=GF b;simp only[execOp,f,c.ev d,c.ev e,Cl];simp[b,go_sem]
 first |(rw[Aey];simp;done)|skip
theorem Uy{t:TypeId}{l:List UInt8}(b:o.op=.call {callee:=.builtin .len,args:= #[x],argTypes:= #[t]})(c:G8 P t=true)(a:ev L x=some (Cl l)):Av P C n ds L o (I l.length):=AaJ b c a

theorem JS{sT ty:TypeId}{a dc:Nat}{t:TypeId}{news:List Value}(hd:∃e i,P.underlying T=some (.slice e)/\P.info? e=some i/\i.size=1)(b:(Rd 1 u m news w)\/(∃l,u=Cl l/\news=l.map u8/\m=l.length))(h1:∀c∈news,c.oneCell'=true)(hb:Blk g V t w)(hl:r+min m a<=V.length):
  ∃y,(Builtin.copy_ #[T,sT] ty #[.slice (some ⟨g,r,none⟩) a dc,u]).run P w=.ok (I (min m a:Nat)) y/\Blk g (V.take r++news.take (min m a)++V.drop (r+min m a)) t y/\Ext (· =g) w y/\y.heap.size=w.heap.size:=by
 obtain ⟨e,i,ht,hi,hs⟩:=hd;have a1:∀w,(sizeOf e).run P w=.ok 1 w:=λw=>by simp[sizeOf,typeInfo,hi,hs,go_sem]
 have f:(news.take (min m a)).length=min m a:=by
  have:news.length=m:=by
   rcases b with ⟨_,_,_,_,_,hl,_⟩|⟨l,_,rfl,rfl⟩
   ·simpa using hl
   simp
  rw[Aez,this];omega
 have d:=run_storeCells_at P g r t (news.take (min m a)) 0 V.toArray w hb (by rw[f];simpa using hl) (λc hc=>h1 c (Afh hc));rw[f] at d;simp only[Ag6,Af1] at d;refine ⟨_,?_,setRow_heap w g _ _ t (0,0) hb,⟨Z,Z,Z,by simp,λk _ hk=>setRow_other w g k _ hk⟩,by simp⟩;have s:(Builtin.lenOf u).run P w=.ok m w:=by
  rcases b with ⟨ao,c,rfl,_⟩|⟨l,rfl,rfl,rfl⟩
  ·rfl
  rfl
 have h:m.min a=min m a:=rfl;have z:(Builtin.firstCells 1 (min m a) u).run P w=.ok (news.take (min m a)).toArray w:=by
  rcases b with ⟨ao,c,rfl,a2,_,a3,o⟩|⟨l,rfl,rfl,rfl⟩
  ·cases ao with
   | none=>
    have hn:news=[]:=by
     cases news with
     | nil=>rfl
     | cons q qs=>obtain ⟨b',p',x,_⟩:=o 0 q Z;cases x
    subst hn;simp[Builtin.firstCells,AeC]
   | some ad=>
    have:=run_loadCells_list (P:=P) w ad (news.take (min m a)) (λj q v=>by
     have a0:news[j]?=some q:=by
      rw[Ae0] at v;split at v
      ·exact v
      cases v
     obtain ⟨b',p,x,n⟩:=o j q a0;simp only[Aen] at x;subst x;have e3:(Addr.add ⟨b',p,none⟩ j)=⟨b',p+j,none⟩:=by
      unfold Addr.add;split
      ·rename_i h0;simp[h0]
      rfl
     rw[e3];exact n)
    rw[f] at this;simp only[Builtin.firstCells,AeR];exact this
  have e:((({data:=l.toArray} :ByteArray).extract 0 (min l.length a)).data.map λg=>Value.int .u8 g.toNat)=((l.map u8).take (min l.length a)).toArray:=by
   apply Array.ext';rw[Array.toList_map,Lib.extract_data];simp[u8,Afr];rfl
  simp only[Cl,Builtin.firstCells,AeC,e]
 simp only[Builtin.copy_,Afg,AeT,AeA,Aex,run_underlying ht,Aet,s,a1,h,z,d,AeC,goInt]
theorem F9(i:Nat){t s:TypeId}{b d p dc m:Nat}{ct:TypeId}{cs news:List Value}{u:Value}(H:Sep z Γ w)(hi:Γ[i]?=some (blk b cs ct))(ho:o.op=.call {callee:=.builtin .copy,args:= #[x,y],argTypes:= #[t,s]})(hd:Rn P t=true)(hx:ev L x=some (.slice (some ⟨b,d,none⟩) p dc))(hy:ev L y=some u)
  (j:(Rd 1 u m news w)\/(∃l,u=Cl l/\news=l.map u8/\m=l.length))(h1:∀c∈news,c.oneCell'=true)(hl:d+min m p<=cs.length){k:Nat}(hk:min m p=k){out:List Value}(h:cs.take d++news.take k++cs.drop (d+k)=out):
  CA P n ds L o w (λv r=>v=I k/\Sep z (Γ.set i (blk b out ct)) r):=λa hF=>by
 obtain ⟨r,hr,hB,f,_⟩:=JS (P:=P) (sT:=s) (ty:=o.type) (dc:=dc) (by obtain ⟨e,i,ht,_,hi,hs⟩:=PW hd;exact ⟨e,i,ht,hi,hs⟩) j h1 (H.blk i hi) hl;rw[hk,h] at hB;rw[hk] at hr;refine ⟨_,r,?_,Z,H.write i hi f.os f.tape f.output hB (λq hq=>?_)⟩
 ·simp only[execOp,ho,resolve,invoke,builtin,Aex,AeC,Aet,AeZ,AeL,AfB,hF.ev hx,hF.ev hy,hr]
 rcases Aes q w.heap.size with g|g
 ·exact f.block q g hq
 rw[Ae2 g,Ae2 U]
theorem XS(i:Nat){t st:TypeId}{b d p dc m:Nat}{ct:TypeId}{cs news:List Value}{u:Value}(H:Sep z Γ w)(hi:Γ[i]?=some (blk b cs ct))(ho:o.op=.call {callee:=.builtin .copy,args:= #[x,y],argTypes:= #[t,st]})(hd:Do P t=some 1)(hx:ev L x=some (.slice (some ⟨b,d,none⟩) p dc))(hy:ev L y=some u)
  (j:(Rd 1 u m news w)\/(∃l,u=Cl l/\news=l.map u8/\m=l.length))(r:∀c∈news,c.oneCell'=true)(hl:d+min m p<=cs.length){k:Nat}(hk:min m p=k){out:List Value}(h:cs.take d++news.take k++cs.drop (d+k)=out):
  CA P n ds L o w (λv s=>v=I k/\Sep z (Γ.set i (blk b out ct)) s):=λa hF=>by
 obtain ⟨s,hr,hB,f,_⟩:=JS (P:=P) (sT:=st) (ty:=o.type) (dc:=dc) (by obtain ⟨e,i0,r,h2,h3⟩:=Ff hd;exact ⟨e,i0,r,h2,h3⟩) j r (H.blk i hi) hl;rw[hk,h] at hB;rw[hk] at hr;refine ⟨_,s,?_,Z,H.write i hi f.os f.tape f.output hB (λq hq=>?_)⟩
 ·simp only[execOp,ho,resolve,invoke,builtin,Aex,AeC,Aet,AeZ,AeL,AfB,hF.ev hx,hF.ev hy,hr]
 rcases Aes q w.heap.size with g|g
 ·exact f.block q g hq
 rw[Ae2 g,Ae2 U]
theorem Eo{e:TypeId}{k:Nat}(H:Sep z Γ w)(ho:o.op=.makeSlice T x y)(ht:P.underlying T=some (.slice e))(hE:Elt P e u 1 m)(q:u.cells= #[u])(h:ev L x=some (I k))(l:ev L y=some (I k))(hk:m*k<=140737488355328):
  CA P n ds L o w (λv w'=>∃b,v=.slice (some ⟨b,0,none⟩) k k/\Sep z (blk b (List.replicate k u) e::Γ) w'):=λa f=>by
 obtain ⟨i,hi,p,hs,t,r,s,c⟩:=hE;have d:(i.bytes:Int)*(k:Int)<=281474976710656:=by
  rw[t,<-Int.natCast_mul];omega
 have g:=run_make (P:=P) (w:=w) T e i u ht hi p .i64 .i64 (k:Int) (k:Int) U (Afo _) d (by
  have:1*k<=m*k:=AfI _ c;omega)
 have e1:madeCells u.cells (((k:Int)).toNat*i.size)=(List.replicate k u).toArray:=by
  apply Array.ext';simp only[madeCells,hs,q,Ae6,AeR];rw[Af1];apply AgZ
  ·simp
  intro j h1 h2;simp[Nat.mod_one]
 rw[e1] at g;refine ⟨_,_,?_,w.heap.size,Z,H.new (Dv w (.cells (List.replicate k u).toArray e)) (Aek _) (by show (w.heap.push _)[w.heap.size]?=_;simp)⟩;simp only[execOp,ho,f.ev h,f.ev l,Aex,g,Aet,AeC,Ae6];rfl

abbrev IE:=Int×Value×Nat
def Cw(p:IE):MapEntry:=⟨.int .i64 p.1,p.2.1,p.2.2⟩
def AI(m:Nat)(l:List IE)(clk:Nat):Ai:=bk m (.map (l.map Cw).toArray clk)
def fnd:List IE->Int->Nat->Option (Nat×Value)
 | [],_,_=>none
 | p::l,k,i=>if k=p.1 then some (i,p.2.1) else fnd l k (i+1)
def CP:List IE->Int->Option Value
 | [],_=>none
 | p::l,k=>if k=p.1 then some p.2.1 else CP l k
def CQ(l:List IE)(k:Int):Bool:=(CP l k).isSome
def updM:List IE->Int->Value->List IE
 | [],_,_=>[]
 | p::l,k,v=>if k=p.1 then (k,v,p.2.2)::l else p::updM l k v
def delM:List IE->Int->List IE
 | [],_=>[]
 | p::l,k=>if k=p.1 then l else p::delM l k
def E6(l:List IE)(k:Int)(v:Value)(clk:Nat):List IE:=if CQ l k then updM l k v else l++[(k,v,clk)]
def putC(l:List IE)(k:Int)(clk:Nat):Nat:=if CQ l k then clk else clk+1
theorem Jl(l:List IE)(k:Int):∀i,(fnd l k i).map (·.2)=CP l k:=by
 induction l with
 | nil=>intro i;rfl
 | cons p l ih=>intro i;simp only[fnd,CP];split<;>simp[ih]
theorem SA{l:List IE}:∀i j u,fnd l t i=some (j,u)->i<=j:=by
 induction l with
 | nil=>intro i j u h;simp[fnd] at h
 | cons p l ih=>
  intro i j u h;simp only[fnd] at h;split at h
  ·simp at h;omega
  have:=ih _ _ _ h;omega
theorem XT(l:List IE)(k:Int)(v:Value):∀i j u,fnd l k i=some (j,u)->(l.map Cw).modify (j-i) (λe=> {e with key:=I k,val:=v})=(updM l k v).map Cw/\((l.map Cw)[j-i]?).map (·.key)=some (I k):=by
 induction l with
 | nil=>intro i j u h;simp[fnd] at h
 | cons p l ih=>
  intro i j u h;simp only[fnd] at h;simp only[updM];split at h
  ·rename_i e
   simp at h;obtain ⟨rfl,_⟩:=h;simp[e,Cw]
  rename_i e;have c:=SA _ _ _ h;obtain ⟨a,b⟩:=ih _ _ _ h;obtain ⟨q,rfl⟩:∃q,j=i+1+q:=⟨j-(i+1),by omega⟩;rw[show i+1+q-(i+1)=q from by omega] at a b;rw[show i+1+q-i=q+1 from by omega];refine ⟨by simp[e,a],?_⟩;rw[AeL,AeA];exact b
theorem XU(l:List IE)(k:Int):∀i j u,fnd l k i=some (j,u)->(l.map Cw).eraseIdx (j-i)=(delM l k).map Cw/\j-i<l.length:=by
 induction l with
 | nil=>intro i j u h;simp[fnd] at h
 | cons p l ih=>
  intro i j u h;simp only[fnd] at h;simp only[delM];split at h
  ·rename_i e
   simp at h;obtain ⟨rfl,_⟩:=h;simp[e]
  rename_i e;have c:=SA _ _ _ h;obtain ⟨a,b⟩:=ih _ _ _ h;obtain ⟨q,rfl⟩:∃q,j=i+1+q:=⟨j-(i+1),by omega⟩;rw[show i+1+q-(i+1)=q from by omega] at a b;rw[show i+1+q-i=q+1 from by omega];simp[e,a];omega
theorem NB(l:List IE)(k:Int)(h:CP l k=none):delM l k=l:=by
 induction l with
 | nil=>rfl
 | cons p l ih=>
  simp only[CP] at h;simp only[delM];split at h
  ·cases h
  rename_i e;rw[if_neg e,ih h]
def EQ(P:Program)(t:TypeId):Option TypeId:=match P.underlying t with
 | some (.map k e)=>(match P.underlying k with|some (.int _)=>some e|_=>none)
 | _=>none
theorem D6{e:TypeId}(h:EQ P T=some e):∃k a,P.underlying T=some (.map k e)/\P.underlying k=some (.int a):=by
 unfold EQ at h;split at h
 ·rename_i k d b
  split at h
  ·rename_i a c;simp only[Aen] at h;subst h;exact ⟨k,a,b,c⟩
  cases h
 cases h
theorem ER{a:IntKind}(b:P.underlying T=some (.int a))(l:List IE)(k:Int)(w:World):(Instr.findKey T (I k) (l.map Cw)).run P w=.ok (fnd l k 0) w:=by
 have key:∀(l:List IE) (i:Nat),Instr.findNow (.int a) (I k) (l.map Cw) i=some (fnd l k i):=by
  intro l
  induction l with
  | nil=>intro i;rfl
  | cons p l ih=>
   intro i;simp only[AeL,Instr.findNow,Cw,Instr.sameNow,if_true,fnd];by_cases e:k=p.1
   ·simp[e]
   have:(k==p.1)=false:=by simpa using e
   rw[this,if_neg e];exact ih _
 simp only[Instr.findKey,Aex,run_underlying b,Aet,key,AeC]
theorem Ep{c:IntKind}(a:P.underlying T=some (.int c))(b:Bool)(k:Int)(w:World):(Instr.checkKey b 10000 T (I k)).run P w=.ok () w:=by
 unfold Instr.checkKey;simp only[Aex,run_underlying a,Aet,AeC]
theorem FP{e:TypeId}{l:List IE}{zv:Value}(z:o.op=.lookup T x y false)(v:EQ P T=some e)(c:(P.info? e).bind (·.zero)=some zv)(p:ev L x=some (.map (some m)))(r:ev L y=some (I s))
  (k:∀w,C w->w.heap[m]?=some (.map (l.map Cw).toArray j)):Av P C n ds L o ((CP l s).getD zv):=λa f w u=>by
 obtain ⟨kt,ik,h,g⟩:=D6 v;have d:(zeroValue e).run P w=.ok zv w:=by
  cases hi:P.info? e with
  | none=>rw[hi] at c;cases c
  | some i=>rw[hi] at c;simp[zeroValue,typeInfo,hi,show i.zero=some zv from c,go_sem]
 have t:(getObj m).run P w=.ok (.map (l.map Cw).toArray j) w:=by simp[getObj,Sem.run,k w u]
 have b:=Jl l s 0;simp only[execOp,z,f.ev p,f.ev r,Instr.lookup,Aex,run_underlying h,Aet,t,AeC,Ep g,Af1,ER g]
 cases hf:fnd l s 0 with
 | none=>rw[hf] at b;rw[<-b];simp[d,Aex,AeC]
 | some q=>rw[hf] at b;rw[<-b];simp[AeC]
theorem DP(i:Nat){e:TypeId}{l:List IE}{xo ko y:Operand}(H:Sep z Γ w)(hi:Γ[i]?=some (AI m l g))(ho:o.op=.mapUpdate T xo ko y)(ht:EQ P T=some e)(hx:ev L xo=some (.map (some m)))(hk:ev L ko=some (I s))(hv:ev L y=some v):
  DI P n ds L o w (λw'=>Sep z (Γ.set i (AI m (E6 l s v g) (putC l s g))) w'):=λa t=>by
 obtain ⟨kt,ik,h1,h2⟩:=D6 ht;have d:w.heap[m]?=some (.map (l.map Cw).toArray g):=H.bk i hi;have hg:(getObj m).run P w=.ok (.map (l.map Cw).toArray g) w:=by simp[getObj,Sem.run,d]
 have c:∀ob,(setObj m ob).run P w=.ok () {w with heap:=w.heap.setIfInBounds m ob} :=λob=>by simp[setObj,Sem.run,d]
 have r:m<w.heap.size:=(Ae3.1 d).1;have fin:∀ob,Sep z (Γ.set i (bk m ob)) {w with heap:=w.heap.setIfInBounds m ob} :=λob=>
  H.write i hi Z Z Z (by show (w.heap.setIfInBounds m ob)[m]?=_;simp[r]) (λq hq=>by show (w.heap.setIfInBounds m ob)[q]?=_;rw[AfR (AfU hq)])
 have b:=Jl l s 0;have f:(Instr.mapUpdate T (.map (some m)) (I s) v).run P w=.ok () {w with heap:=w.heap.setIfInBounds m (.map ((E6 l s v g).map Cw).toArray (putC l s g))} :=by
  simp only[Instr.mapUpdate,Aex,run_underlying h1,Aet,hg,AeC,Ep h2,Af1,ER h2]
  cases hf:fnd l s 0 with
  | none=>
   rw[hf] at b;have k:CQ l s=false:=by simp[CQ,<-b]
   simp only[E6,putC,k,if_false,Afu,c];simp[Cw]
  | some q=>
   obtain ⟨j,u⟩:=q;rw[hf] at b;have k:CQ l s=true:=by simp[CQ,<-b]
   obtain ⟨f1,x⟩:=XT l s v 0 j u hf;simp only[Ag5] at f1 x;have h:((((l.map Cw).toArray)[j]?).map (·.key)).getD (I s)=I s:=by
    rw[Afg,x];rfl
   simp only[E6,putC,k,if_true,h];have p:(Instr.keyThatStays (I s) (I s)).run P w=.ok (I s) w:=by
    simp[Instr.keyThatStays,Instr.sameBits,AeC]
   simp only[p,Aex,Aet];rw[<-f1];have:((l.map Cw).toArray.modify j λe=> {e with key:=I s,val:=v})=((l.map Cw).modify j λe=> {e with key:=I s,val:=v}).toArray:=by simp
   rw[this];exact c _
 refine ⟨_,?_,fin _⟩;simp only[execOp,ho,t.ev hx,t.ev hk,t.ev hv,Aex,f,Aet,AeC]
theorem NC(i:Nat){t e g:TypeId}{m clk:Nat}{l:List IE}{k:Int}(H:Sep z Γ w)(hi:Γ[i]?=some (AI m l clk))(ho:o.op=.call {callee:=.builtin .delete,args:= #[x,y],argTypes:= #[t,g]})(ht:EQ P t=some e)(hx:ev L x=some (.map (some m)))(hk:ev L y=some (I k)):
  CA P n ds L o w (λv w'=>v=.tuple #[]/\Sep z (Γ.set i (AI m (delM l k) clk)) w'):=λa p=>by
 obtain ⟨kt,ik,h1,r⟩:=D6 ht;have c:w.heap[m]?=some (.map (l.map Cw).toArray clk):=H.bk i hi;have hg:(getObj m).run P w=.ok (.map (l.map Cw).toArray clk) w:=by simp[getObj,Sem.run,c]
 have b:∀ob,(setObj m ob).run P w=.ok () {w with heap:=w.heap.setIfInBounds m ob} :=λob=>by simp[setObj,Sem.run,c]
 have h:m<w.heap.size:=(Ae3.1 c).1;have fin:∀ob,Sep z (Γ.set i (bk m ob)) {w with heap:=w.heap.setIfInBounds m ob} :=λob=>
  H.write i hi Z Z Z (by show (w.heap.setIfInBounds m ob)[m]?=_;simp[h]) (λq hq=>by show (w.heap.setIfInBounds m ob)[q]?=_;rw[AfR (AfU hq)])
 have f:=Jl l k 0;have d:(Builtin.delete_ #[t,g] o.type #[.map (some m),I k]).run P w=.ok (.tuple #[]) {w with heap:=w.heap.setIfInBounds m (.map ((delM l k).map Cw).toArray clk)} :=by
  simp only[Builtin.delete_,Afg,AeT,AeA,Aex,run_underlying h1,Aet,hg,AeC,Ep r,ER r]
  cases hf:fnd l k 0 with
  | none=>
   rw[hf] at f;simp only[Aex,b,Aet,NB l k f.symm,AeC]
  | some q=>
   obtain ⟨j,u⟩:=q;obtain ⟨s,f2⟩:=XU l k 0 j u hf;simp only[Ag5] at s f2;have:((l.map Cw).toArray.eraseIdxIfInBounds j)=((delM l k).map Cw).toArray:=by
    rw[<-s];simp
   simp only[this,Aex,b,Aet,AeC]
 refine ⟨_,_,?_,Z,fin _⟩;simp only[execOp,ho,resolve,invoke,builtin,Aex,AeC,Aet,AeZ,AeL,AfB,p.ev hx,p.ev hk,d]
theorem Ga(H:Sep z Γ w)(b:o.op=.makeMap T none):CA P n ds L o w (λv w'=>∃m,v=.map (some m)/\Sep z (AI m [] 0::Γ) w'):=λa c=>by
 refine ⟨_,_,?_,w.heap.size,Z,H.new (Dv w (.map #[] 0)) (Aek _) (by show (w.heap.push _)[w.heap.size]?=_;simp)⟩;simp[execOp,b,Instr.makeMap,newObj,go_sem,Sem.run]
def Jm(P:Program)(t:TypeId):Option Nat:=match P.underlying t with
 | some (.array l e)=>(match P.info? e with|some i=>if Nat.beq i.size 1&&Gi P e then some l else none|none=>none)
 | _=>none
theorem KA(h:Jm P T=some m):∃e i,P.underlying T=some (.array m e)/\P.info? e=some i/\i.size=1/\Gi P e=true:=by
 unfold Jm at h;split at h
 ·rename_i l' e b
  split at h
  ·rename_i i c
   split at h
   ·rename_i a
    simp only[AeE] at a;simp only[Aen] at h;subst h;exact ⟨e,i,b,c,by simpa using a.1,a.2⟩
   cases h
  cases h
 cases h
theorem ND{k:IntKind}(v:o.op=.index T x y)(c:Jm P T=some m)(q:ev L x=some (.agg V.toArray))(t:V=l.map I)(hm:l.length=m)(u:ev L y=some (.int k s))(d:s=j)(h:l[j]?=some p):Av P C n ds L o (I p):=λa g w _=>by
 obtain ⟨e,i0,c,hi,r,hf⟩:=KA c;subst d;have hj:j<l.length:=(Aed.1 h).1;have i:(0:Int)<=(j:Int)/\(j:Int)<(m:Int):=by omega
 have z:V[j]?=some (I p):=by rw[t,Aeq,h];rfl
 have b:(part e V.toArray (j*1)).run P w=.ok (I p) w:=by
  simp only[part,Aex,FO hf,Aet,if_false,Afu,AeR,Afg,z,AeC]
 have f:(sizeOf e).run P w=.ok 1 w:=by simp[sizeOf,typeInfo,hi,r,go_sem]
 simp only[execOp,v,g.ev q,g.ev u,Instr.index,asIntOf,Aex,AeC,Aet,run_underlying c,if_pos i,Ae6,f,b]

def Slc(v:Value)(l:Nat):Prop:=∃ao c,v=.slice ao l c
theorem grow.slc{e:TypeId}{sz:Nat}{xs:List Value}(g:grow e sz u m xs h):Slc u m:=by
 rcases g.form with ⟨rfl,rfl⟩|⟨b,c,rfl,_⟩
 ·exact ⟨_,_,Z⟩
 exact ⟨_,_,Z⟩
theorem rdH.slc{sz:Nat}{xs:List Value}(g:rdH sz u m xs h):Slc u m:=by
 obtain ⟨a,c,rfl,_⟩:=g;exact ⟨_,_,Z⟩
theorem Ef{t:TypeId}{sz l:Nat}{u:Value}(e:o.op=.call {callee:=.builtin .len,args:= #[x],argTypes:= #[t]})(b:Do P t=some sz)(d:ev L x=some u)(a:Slc u l):Av P C n ds L o (I l):=by
 obtain ⟨f,c,rfl⟩:=a;exact Fu e b d
theorem Sep.ungrow(i:Nat){e:TypeId}{sz:Nat}{xs:List Value}(H:Sep z Γ w)(hi:Γ[i]?=some (YtemljpjnhjnncaaGreatDoor.grow e sz u m xs))(o:0<m):
  ∃g a rest,u=.slice (some ⟨g,0,none⟩) m a/\m<=a/\a<=9223372036854775807/\rest.length=(a-m)*sz/\Sep z (Γ.set i (YtemljpjnhjnncaaGreatDoor.blk g (xs++rest) e)) w:=by
 obtain ⟨⟨g,a,rest⟩,⟨a1,a2,a3,a4⟩,j⟩:=H.exAt i (σ:=Nat×Nat×List Value) (p:=λq=>u=.slice (some ⟨q.1,0,none⟩) m q.2.1/\m<=q.2.1/\q.2.1<=9223372036854775807/\q.2.2.length=(q.2.1-m)*sz) (B:=λq=>YtemljpjnhjnncaaGreatDoor.blk q.1 (xs++q.2.2) e) hi (λh g=>by
  rcases g.2 with ⟨_,rfl⟩|⟨b,a,c,n,k,f,d,hs,l⟩
  ·omega
  refine ⟨⟨b,a,c.toList.drop (m*sz)⟩,⟨n,f,by unfold maxLen at d;omega,?_⟩,?_⟩
  ·simp[hs,Nat.sub_mul]
  rw[<-l,AeP];simpa [YtemljpjnhjnncaaGreatDoor.blk,YtemljpjnhjnncaaGreatDoor.bk] using k)
 exact ⟨g,a,rest,a1,a2,a3,a4,j⟩
theorem Uz{lo hi u:Operand}{p q sz o' l':Nat}{k1 k2 k3:IntKind}{v y:Int}(ho:o.op=.slice T x (some lo) (some hi) (some u))(h:Do P T=some sz)(hx:ev L x=some (.slice (some ⟨m,i,none⟩) j g))
  (r:ev L lo=some (.int k1 s))(l:ev L hi=some (.int k2 v))(k:ev L u=some (.int k3 y))(e1:s=(p:Int))(e2:v=(q:Int))(e3:y=(q:Int))(a0:p<q)(f:q<=g)(h1:i+p*sz=o')(h2:q-p=l'):Av P C n ds L o (.slice (some ⟨m,o',none⟩) l' l'):=λa b w _=>by
 obtain ⟨e,i0,h,d,hz⟩:=Ff h;subst e1;subst e2;subst e3;have g1:(0:Int)<=(p:Int)/\(p:Int)<=(q:Int):=by omega
 have z:(0:Int)<=(q:Int)/\(q:Int)<=(g:Int):=by omega
 have g3:(0:Int)<=(q:Int)/\(q:Int)<=(q:Int):=by omega
 have key:((⟨m,i,none⟩:Addr).add (p*sz))=⟨m,o',none⟩:=by
  subst h1;unfold Addr.add;split
  ·rename_i h0;simp[h0]
  rfl
 have c:¬q=p:=by omega
 have t:p<=q:=by omega
 simp only[execOp,ho,AeU,b.ev hx,b.ev r,b.ev l,b.ev k];simp[Instr.sliceAt,Instr.slice,run_underlying h,Instr.sliceBounds,Instr.sliceBound,asIntOf,g1,z,g3,sizeOf,typeInfo,d,hz,t,f,c,go_sem,key,h2]
end
end
section
section
variable{P:Program}{C:World->Prop}{o:Oper}{a:Act}{w z:World}{Γ:List Ai}{n:Nat}{ds:List Deferred}{L:List (Nat×Value)}{v:Value}{x y:Operand}{xt yt:TypeId}
theorem AaP{k:IntKind}(g:o.op=.binOp .shr xt x y yt)(e:ev L x=some (I p))(f:ev L y=some (.int k q))(hq:q=m)(h:m<64):Av P C n ds L o (I (p/2^m)):=λa c w _=>by
 subst hq;simp only[execOp,g,c.ev e,c.ev f];have d:¬((m:Int)<0):=by omega
 have b:min m 64=m:=by omega
 simp[go_sem,Op.shift,IntKind.bits,d,b]
theorem SB{k:IntKind}(g:o.op=.binOp .shl xt x y yt)(e:ev L x=some (I p))(f:ev L y=some (.int k q))(hq:q=m)(h:m<64):Av P C n ds L o (I (IntKind.i64.wrap (p*2^m))):=λa c w _=>by
 subst hq;simp only[execOp,g,c.ev e,c.ev f];have d:¬((m:Int)<0):=by omega
 have b:min m 64=m:=by omega
 simp[go_sem,Op.shift,IntKind.bits,d,b]
theorem SC(c:o.op=.binOp .add xt x y yt)(a:ev L x=some (I p))(b:ev L y=some (I q)):Av P C n ds L o (I (IntKind.i64.wrap (p+q))):=W5 (P:=P) (C:=C) (n:=n) (ds:=ds) (L:=L) c a b
theorem AaQ{q:Nat}(hp:p%256=0)(hq:q<256):((BitVec.ofInt 64 p|||BitVec.ofInt 64 (q:Int)).toNat:Int)%18446744073709551616=(p+q)%18446744073709551616:=by
 have e1:(BitVec.ofInt 64 p).toNat=(p%18446744073709551616).toNat:=by simp[BitVec.toNat_ofInt]
 have e2:(BitVec.ofInt 64 (q:Int)).toNat=q:=by simp[BitVec.toNat_ofInt];omega
 have b:∃r,(p%18446744073709551616).toNat=r <<< 8:=⟨(p%18446744073709551616).toNat/256,by rw[Nat.shiftLeft_eq];omega⟩;obtain ⟨r,a⟩:=b;rw[BitVec.toNat_or,e1,e2,a,<-Nat.shiftLeft_add_eq_or_of_lt (by omega:q<2^8),<-a];omega
theorem Xh(f:o.op=.binOp .or xt x y yt)(d:ev L x=some (I p))(e:ev L y=some (I q))(hp:p%256=0)(hq:0<=q/\q<256):Av P C n ds L o (I (IntKind.i64.wrap (p+q))):=λa c w _=>by
 obtain ⟨q,rfl⟩:=AfZ hq.1;have h:=AaQ (p:=p) (q:=q) hp U;have key:IntKind.i64.wrap ((BitVec.ofInt IntKind.i64.bits p|||BitVec.ofInt IntKind.i64.bits (q:Int)).toNat:Int)=IntKind.i64.wrap (p+q):=by
  show (if (true&&decide (((BitVec.ofInt 64 p|||BitVec.ofInt 64 (q:Int)).toNat:Int)%(2^64:Int)>=(2^(64-1):Int)))=true then ((BitVec.ofInt 64 p|||BitVec.ofInt 64 (q:Int)).toNat:Int)%(2^64:Int)-(2^64:Int) else ((BitVec.ofInt 64 p|||BitVec.ofInt 64 (q:Int)).toNat:Int)%(2^64:Int))=(if (true&&decide ((p+q)%(2^64:Int)>=(2^(64-1):Int)))=true then (p+q)%(2^64:Int)-(2^64:Int) else (p+q)%(2^64:Int));simp only[show (2:Int)^64=18446744073709551616 from Z,h]
 have b:IntKind.i64.wrap ((BitVec.ofInt 64 p|||BitVec.ofInt 64 (q:Int)).toNat:Int)=IntKind.i64.wrap (p+q):=key;rw[Ag8] at b;simp only[execOp,f,c.ev d,c.ev e];simp only[binOp,Op.intBits,go_sem,key]
 first |(simp[go_sem,b];done)|(simp only[go_sem];exact congrArg (λv=>Result.ok (I v) _) b)|(simp[go_sem];exact b)
theorem J2{l:List UInt8}{k:IntKind}{b:UInt8}(p:o.op=.index T x y)(c:G8 P T=true)(h:ev L x=some (Cl l))(i:ev L y=some (.int k s))(d:s=j)(e:l[j]?=some b):Av P C n ds L o (u8 b):=λa f w _=>by
 have c:=GF c;subst d;have g:j<l.length:=(Aed.1 e).1;have m:(⟨l.toArray⟩:ByteArray)[j]?=some b:=by
  have hs:(⟨l.toArray⟩:ByteArray).size=l.length:=by show l.toArray.size=_;simp
  rw[getElem?_pos (⟨l.toArray⟩:ByteArray) j (by rw[hs];exact g)];show some (l.toArray[j]'_)=_;simp[(Aed.1 e).2]
 simp only[execOp,p,f.ev h,f.ev i,Cl,Instr.index,asIntOf,Aex,AeC,Aet,run_underlying c,if_pos (Int.natCast_nonneg j),Ae6,m];rfl
theorem SD{t e:TypeId}{zv:Value}{sz by_ k d m b h:Nat}{u:Value}{xs news:List Value}(H:Sep z Γ w)(ho:o.op=.call {callee:=.builtin .append,args:= #[x,y],argTypes:= #[t,t]})
  (ht:P.underlying t=some (.slice e))(hE:Elt P e zv sz by_)(hx:ev L x=some (.slice (some ⟨b,h,none⟩) k d))(hy:ev L y=some u)(s:Rd sz (.slice (some ⟨b,h,none⟩) k d) k xs w)(v:Rd sz u m news w)(hg:d<k+m)(h1:∀c∈news,c.oneCell'=true)(b0:(k+m)*by_<=140737488355328):
  CA P n ds L o w (λv' w'=>Sep z (grow e sz v' (k+m) (xs++news)::Γ) w'):=λa hF=>by
 obtain ⟨i,hi,hz,hs,hb,a8,a9,a2⟩:=hE;obtain ⟨b1,c1,e1,b4,_,a5,a0⟩:=s;cases e1;obtain ⟨ao,c,rfl,b5,_,hl,l⟩:=v;have a3:k+m<=maxLen:=by
  have:(k+m)*1<=(k+m)*by_:=Agv _ a2;unfold maxLen;omega
 have a1:0<news.length:=by
  have:1*1<=m*sz:=Nat.mul_le_mul U U;omega
 obtain ⟨b',p',e2,_⟩:=l 0 news[0] (Aef a1);subst e2;have f:∀(b p j:Nat),(Addr.add ⟨b,p,none⟩ j)=⟨b,p+j,none⟩:=λb p j=>by
  unfold Addr.add;split
  ·rename_i h0;simp[h0]
  rfl
 obtain ⟨v',w',hr,h2,h3⟩:=run_append_arg_grows (P:=P) w t o.type e i zv sz by_ ht hi hz hs hb a8 a9 ⟨b,h,none⟩ k d xs a5 (λj q hj=>by
  obtain ⟨b2,p2,e3,hc⟩:=a0 j q hj;cases e3;rw[f];exact hc) ⟨b',p',none⟩ m c news hl (λj q hj=>by
  obtain ⟨b2,p2,e3,hc⟩:=l j q hj;cases e3;rw[f];exact hc) hg a3 b0
 have a7:Ext No w w':=(Ext.of_grown h3).mono (λ_ _ q=>by cases q);refine ⟨v',w',?_,H.grow a7 ?_⟩
 ·simp only[execOp,ho,resolve,invoke,builtin,Aex,AeC,Aet,AeZ,AeL,AfB,hF.ev hx,hF.ev hy,hr]
 refine ⟨h2.1,?_⟩;rcases h2.2 with q|⟨g,d,a4,hv,b3,a6,r⟩
 ·exact .inl q
 refine .inr ⟨g,d,a4,hv,?_,r⟩;show (if g<w.heap.size then none else w'.heap[g]?)=_;rw[if_neg U];exact a6
theorem Mx(p:o.op=.sliceToArrayPointer T x)(b:(match P.underlying T with|some (.array k _)=>Nat.beq k m|_=>false)=true)(d:ev L x=some (.slice (some ⟨i,j,none⟩) g r))(l:m<=g):Av P C n ds L o (.pointer (some ⟨i,j,none⟩)):=λa f w _=>by
 split at b
 ·rename_i k e h
  have c:k=m:=by simpa using b
  subst c;simp only[execOp,p,f.ev d];simp[Instr.arrayAt,run_underlying h,go_sem,l]
 cases b
theorem PX{g l k b f c1 c2 c:UInt8}(ho:o.op=.binOp .neq xt x y yt)(r:(match P.underlying xt with|some (.array 4 e)=>(match P.underlying e,P.info? e with|some (.int .u8),some i=>Nat.beq i.size 1|_,_=>false)|_=>false)=true)(hg:P.eqGuardType P.depth xt=false)(hx:ev L x=some (.agg #[u8 g,u8 l,u8 k,u8 b]))(hy:ev L y=some (.agg #[u8 f,u8 c1,u8 c2,u8 c])):Av P C n ds L o (.bool (decide ([g,l,k,b]≠[f,c1,c2,c]))):=λa hF w _=>by
 split at r
 ·rename_i e h
  split at r
  ·rename_i i h1 h2
   have hz:i.size=1:=by simpa using r
   have a0:∀w,(sizeOf e).run P w=.ok 1 w:=λw=>by simp[sizeOf,typeInfo,h2,hz,go_sem]
   have z:∀w,(isAgg e).run P w=.ok false w:=FO (by simp[Gi,h1]);have hp:∀(cs:Array Value) (j:Nat) (u:Value) w,cs[j]?=some u->(part e cs j).run P w=.ok u w:=λcs j u w hc=>by
    simp only[part,Aex,z,Aet,if_false,Afu,hc,AeC]
   have s:∀(d:Nat) (p q:UInt8) w,(Op.equalIn (d+1) e (u8 p) (u8 q)).run P w=.ok (decide (p=q)) w:=λd p q w=>by
    simp only[Op.equalIn,Aex,run_underlying h1,Aet,u8];simp[go_sem];rw[Aey];simp;exact ⟨λh=>Ag7.1 U,λh=>by rw[h]⟩
   have t:∀d,(Op.equalIn (d+1+1) xt (.agg #[u8 g,u8 l,u8 k,u8 b]) (.agg #[u8 f,u8 c1,u8 c2,u8 c])).run P w=.ok (decide ([g,l,k,b]=[f,c1,c2,c])) w:=λd=>by
    have q0:=hp #[u8 g,u8 l,u8 k,u8 b] 0 (u8 g) w Z;have q1:=hp #[u8 g,u8 l,u8 k,u8 b] 1 (u8 l) w Z;have q2:=hp #[u8 g,u8 l,u8 k,u8 b] 2 (u8 k) w Z;have q3:=hp #[u8 g,u8 l,u8 k,u8 b] 3 (u8 b) w Z;have r0:=hp #[u8 f,u8 c1,u8 c2,u8 c] 0 (u8 f) w Z;have r1:=hp #[u8 f,u8 c1,u8 c2,u8 c] 1 (u8 c1) w Z;have r2:=hp #[u8 f,u8 c1,u8 c2,u8 c] 2 (u8 c2) w Z;have r3:=hp #[u8 f,u8 c1,u8 c2,u8 c] 3 (u8 c) w Z;rw[Op.equalIn];simp only[Aex,run_underlying h,Aet,a0,Std.Legacy.Range.forIn_eq_forIn_range',Std.Legacy.Range.size];simp[List.range',Aex,q0,q1,q2,q3,r0,r1,r2,r3,s];by_cases g0:g=f<;>by_cases g1:l=c1<;>by_cases g2:k=c2<;>by_cases g3:b=c<;>simp[g0,g1,g2,g3,q0,q1,q2,q3,r0,r1,r2,r3,s,Aex]
   have v:(Op.equal xt (.agg #[u8 g,u8 l,u8 k,u8 b]) (.agg #[u8 f,u8 c1,u8 c2,u8 c])).run P w=.ok (decide ([g,l,k,b]=[f,c1,c2,c])) w:=t 9998;have m:(eqGuard .neq xt x y (.agg #[u8 g,u8 l,u8 k,u8 b]) (.agg #[u8 f,u8 c1,u8 c2,u8 c])).run P w=.ok () w:=by
    simp[eqGuard,Aex,program,Sem.run,hg]
   simp only[execOp,ho,hF.ev hx,hF.ev hy];simp only[binOp,Aex,m,v,Aet,AeC];simp
  cases r
 cases r
end
theorem Slc.cells{v:Value}{n:Nat}(h:Slc v n):v.cells= #[v]:=by obtain ⟨_,_,rfl⟩:=h;rfl
theorem Slc.one{v:Value}{n:Nat}(h:Slc v n):v.oneCell'=true:=by obtain ⟨_,_,rfl⟩:=h;rfl
theorem Aw:∀u∈([]:List Value),u.oneCell'=true:=λ_ h=>by cases h
theorem Ad(h:u.oneCell'=true)(hs:∀u∈V,u.oneCell'=true):∀x∈u::V,x.oneCell'=true:=λx a=>by
 rcases Aep.1 a with rfl|q
 ·exact h
 exact hs x q
theorem rdH.cut{b n c lo c':Nat}{xs:List UInt8}(r:rdH 1 (.slice (some ⟨b,i,none⟩) n c) n (xs.map u8) h)(o:lo+m<=n)(k:m<=c')(q:c'<=c):rdH 1 (.slice (some ⟨b,i+lo,none⟩) m c') m (((xs.drop lo).take m).map u8) h:=by
 obtain ⟨p,v,e,s,t,g,l⟩:=r;cases e;refine ⟨_,_,Z,k,by omega,by simp at g ⊢;omega,λj u a=>?_⟩;have d:(xs.map u8)[lo+j]?=some u:=by
  rw[Aeq,Ae0] at a;split at a
  ·rw[Afm] at a;rw[Aeq];exact a
  cases a
 obtain ⟨b',p',e,f⟩:=l _ _ d;cases e;exact ⟨_,_,Z,by rw[Age];exact f⟩
theorem rdH.pre{b n c c':Nat}{xs:List UInt8}(r:rdH 1 (.slice (some ⟨b,i,none⟩) n c) n (xs.map u8) h)(d:m<=n)(a:m<=c'/\c'<=c):rdH 1 (.slice (some ⟨b,i,none⟩) m c') m ((xs.take m).map u8) h:=by
 have:=r.cut (lo:=0) (m:=m) (c':=c') U a.1 a.2;simpa using this
theorem rdH.at{b n c:Nat}{xs:List UInt8}{x:UInt8}(r:rdH 1 (.slice (some ⟨b,m,none⟩) n c) n (xs.map u8) h)(f:xs[j]?=some x):celH h b (m+j) (u8 x):=by
 obtain ⟨k,o,e,p,i,l,d⟩:=r;obtain ⟨b',p',g,a⟩:=d j (u8 x) (by rw[Aeq,f];rfl);cases e;cases g;exact a
theorem Sep.cell4{z w:World}{Γ:List Ai}(i:Nat)(H:Sep z Γ w)(hi:Γ[i]?=some A){b c:Nat}{xs:List UInt8}(d:∀h,A h->rdH 1 (.slice (some ⟨b,m,none⟩) 256 c) 256 (xs.map u8) h){ys:List UInt8}(g:xs.drop 252=ys):∀j u,(ys.map u8)[j]?=some u->FH b (m+252+j) u w:=λj u a=>by
 rw[Aeq,AgA] at a;obtain ⟨y,e,rfl⟩:=a;have f:xs[252+j]?=some y:=by rw[<-Afm,g];exact e
 have:=H.cell i hi (λh q=>(d h q).at f);rwa[<-Age] at this
theorem rdH.cap{b n c:Nat}{xs:List UInt8}(r:rdH 1 (.slice (some ⟨b,m,none⟩) n c) n (xs.map u8) h):n<=c/\c<=9223372036854775807:=by
 obtain ⟨_,_,e,d,a,_⟩:=r;cases e;exact ⟨d,a⟩
theorem rdH.len{v:Value}{n:Nat}{xs:List UInt8}(r:rdH 1 v n (xs.map u8) h):xs.length=n:=by
 obtain ⟨_,_,_,_,_,q,_⟩:=r;simpa using q
end
set_option linter.unusedSimpArgs false
def bw(F:Nat->Bool)(k:Nat):BitVec 64:=(BitVec.ofBoolListLE ((List.range 64).map λj=>F (64*k+j))).cast O
theorem DV(F:Nat->Bool)(k j:Nat)(h:j<64):(bw F k).getLsbD j=F (64*k+j):=by
 unfold bw;rw[BitVec.getLsbD_cast,BitVec.getLsbD_ofBoolListLE];simp[List.getD,h]
theorem KB{x:BitVec 64}(h:∀j,j<64->x.getLsbD j=F (64*n+j)):x=bw F n:=
 BitVec.eq_of_getLsbD_eq λj a=>by rw[h j a,DV _ _ _ a]
theorem Ac1(F G:Nat->Bool)(k:Nat):bw F k|||bw G k=bw (λp=>F p||G p) k:=KB λj a=>by
 rw[BitVec.getLsbD_or,DV _ _ _ a,DV _ _ _ a]
def Ej(m:Nat):BitVec 64:=BitVec.twoPow 64 m
theorem AaR(F:Nat->Bool)(p k:Nat):(if p/64=k then bw F k|||Ej (p%64) else bw F k)=bw (λq=>F q||decide (q=p)) k:=by
 refine KB λj a=>?_;split
 ·rename_i e
  rw[BitVec.getLsbD_or,DV _ _ _ a,Ej,Ag2];congr 1;rw[Aey];simp;omega
 rename_i e;rw[DV _ _ _ a];have:¬(64*k+j=p):=by omega
 simp[this]
theorem AaS(F:Nat->Bool)(p k:Nat):(if p/64=k then bw F k&&& ~~~(Ej (p%64)) else bw F k)=bw (λq=>F q && !decide (q=p)) k:=by
 refine KB λj a=>?_;split
 ·rename_i e
  rw[BitVec.getLsbD_and,DV _ _ _ a,BitVec.getLsbD_not,Ej,Ag2];congr 1;rw[Aey];simp;omega
 rename_i e;rw[DV _ _ _ a];have:¬(64*k+j=p):=by omega
 simp[this]
theorem AaT(F:Nat->Bool)(p:Nat):(bw F (p/64))>>>(p%64)&&&1#64=if F p then 1#64 else 0#64:=by
 refine BitVec.eq_of_getLsbD_eq λj a=>?_;rw[BitVec.getLsbD_and,BitVec.getLsbD_ushiftRight];have e1:∀j,(1#64).getLsbD j=decide (j=0):=λj=>by
  rw[show (1#64)=BitVec.twoPow 64 0 from Z,Ag2,Aey];simp;omega
 by_cases h:j=0
 ·subst h
  rw[DV _ _ _ U,e1,show 64*(p/64)+(p%64+0)=p by omega];cases F p<;>simp
 rw[e1];have:(if F p then 1#64 else 0#64).getLsbD j=false:=by
  split
  ·rw[e1];simp[h]
  simp
 rw[this];simp[h]
theorem bw_zero :bw F n=0#64↔∀j,j<64->F (64*n+j)=false:=by
 constructor
 ·intro h j a;rw[<-DV F n j a,h];simp
 intro h;exact (KB λj a=>by rw[h j a];simp).symm

def cnt(F:Nat->Bool)(a:Nat):Nat->Nat
 | 0=>0
 | n+1=>cnt F a n+(F (a+n)).toNat
theorem HG(F:Nat->Bool)(a m n:Nat):cnt F a (m+n)=cnt F a m+cnt F (a+m) n:=by
 induction n with
 | zero=>rfl
 | succ n ih=>rw[<-Age];simp only[cnt];rw[ih,show a+(m+n)=a+m+n by omega];omega
def Cx(w:Nat):List Nat->Nat
 | []=>0
 | d::l=>d+2^w*Cx w l
def evN:List Nat->List Nat
 | a::_::l=>a::evN l
 | _=>[]
def GK:List Nat->List Nat
 | _::b::l=>b::GK l
 | _=>[]
theorem SE(a:j<2^n)(b:e<2^n):(j+2^n*m)&&&(e+2^n*i)=(j&&&e)+2^n*(m&&&i):=by
 have e1:((j+2^n*m)&&&(e+2^n*i))%2^n=j&&&e:=by
  rw[Nat.and_mod_two_pow,AgQ,AgQ,AfC a,AfC b]
 have hp:0<2^n:=AgR n;have e2:((j+2^n*m)&&&(e+2^n*i))/2^n=m&&&i:=by
  rw[Nat.and_div_two_pow,AgH _ _ hp,AgH _ _ hp,AgI a,AgI b,AfO,AfO]
 have:=Nat.mod_add_div ((j+2^n*m)&&&(e+2^n*i)) (2^n);rw[e1,e2] at this;exact this.symm
theorem KC(w:Nat):∀l:List Nat,l.length%2=0->(∀d∈l,d<2^w)->Cx w l&&&Cx (2*w) (List.replicate (l.length/2) (2^w-1))=Cx (2*w) (evN l)
 | [],_,_=>by simp[Cx,evN]
 | [_],h,_=>by simp at h
 | a::b::l,h,hd=>by
  have ih:=KC w l (by simp at h;omega) (λd g=>hd d (by simp[g]));have i:=hd a O;have f:=hd b O;have e2:(2:Nat)^(2*w)=2^w*2^w:=by rw[<-Nat.pow_add];congr 1;omega
  have hp:0<2^w:=AgR w;simp only[Cx,evN];rw[show (a::b::l).length/2=l.length/2+1 by simp;omega,List.replicate_succ];simp only[Cx];have c:a+2^w*b<2^(2*w):=by
   rw[e2];have:2^w*(b+1)<=2^w*2^w:=Agv _ f;rw[Agr] at this;omega
  have e:(2^w-1)<2^(2*w):=by
   rw[e2];have:2^w*1<=2^w*2^w:=Agv _ hp;omega
  have j:a+2^w*(b+2^w*Cx w l)=(a+2^w*b)+2^(2*w)*Cx w l:=by
   rw[e2,Agr,Nat.mul_assoc];omega
  rw[j,SE c e,ih,Ag9,AgQ,AfC i]
theorem NE(w:Nat):∀(l:List Nat) (d:Nat),Cx w (l++[d])=Cx w l+2^(w*l.length)*d
 | [],d=>by simp[Cx]
 | a::l,d=>by
  simp only[AfD,Cx,NE w l d,Aei];rw[Agr,<-Nat.mul_assoc,<-Nat.pow_add,show w+w*l.length=w*(l.length+1) by rw[Agr];omega];omega
theorem PY(h:m<2^n):Cx n (m::R)/2^n=Cx n R:=by
 simp only[Cx];rw[AgH _ _ (AgR n),AgI h,AfO]
theorem NF(w:Nat)(l:List Nat):Cx w (l++[0])=Cx w l:=by rw[NE];simp
theorem Lz(w:Nat):∀(l m:List Nat),l.length=m.length->Cx w l+Cx w m=Cx w (List.zipWith (·+·) l m)
 | [],[],_=>rfl
 | a::l,b::m,h=>by
  simp only[List.zipWith,Cx];rw[<-Lz w l m (by simpa using h),Agr];omega
 | [],_::_,h=>by simp at h
 | _::_,[],h=>by simp at h
theorem LA:∀l:List Nat,(evN l).length=l.length/2
 | []=>rfl
 | [_]=>by simp[evN]
 | a::b::l=>by simp only[evN,Aei,LA l];omega
theorem LB:∀l:List Nat,(GK l).length=l.length/2
 | []=>rfl
 | [_]=>by simp[GK]
 | a::b::l=>by simp only[GK,Aei,LB l];omega
theorem J3:∀(a:Nat) (l:List Nat),(a::l).length%2=0->evN (l++[0])=GK (a::l)
 | a,[],h=>by simp at h
 | a,[b],_=>by simp[evN,GK]
 | a,b::c::l,h=>by
  simp only[AfD,evN,GK];rw[J3 c l (by simp at h ⊢;omega)]
theorem evN_mem:∀(l:List Nat),∀d∈evN l,d∈l
 | [],d,h=>by simp[evN] at h
 | [_],d,h=>by simp[evN] at h
 | a::b::l,d,h=>by
  simp only[evN,Aep] at h;rcases h with rfl|h
  ·simp
  simp[evN_mem l d h]
theorem odN_mem:∀(l:List Nat),∀d∈GK l,d∈l
 | [],d,h=>by simp[GK] at h
 | [_],d,h=>by simp[GK] at h
 | a::b::l,d,h=>by
  simp only[GK,Aep] at h;rcases h with rfl|h
  ·simp
  simp[odN_mem l d h]
def psm(l:List Nat):List Nat:=List.zipWith (·+·) (evN l) (GK l)
theorem LD(l:List Nat):(psm l).length=l.length/2:=by simp[psm,LA,LB]
theorem Jn:∀l:List Nat,l.length%2=0->(psm l).sum=l.sum
 | [],_=>rfl
 | [_],h=>by simp at h
 | a::b::l,h=>by
  have:=Jn l (by simp at h;omega);simp only[psm,evN,GK,List.zipWith,List.sum_cons] at this ⊢;omega
theorem NG{c d:Nat}:∀(l m:List Nat),(∀x∈l,x<=c)->(∀x∈m,x<=d)->∀x∈List.zipWith (·+·) l m,x<=c+d
 | [],_,_,_,x,h=>by simp at h
 | _::_,[],_,_,x,h=>by simp at h
 | a::l,b::m,h1,h2,x,h=>by
  simp only[List.zipWith,Aep] at h;rcases h with rfl|h
  ·have:=h1 a O;have:=h2 b O;omega
  exact NG l m (λx e=>h1 x (by simp[e])) (λx e=>h2 x (by simp[e])) x h
theorem NH(l:List Nat)(c:Nat)(h:∀d∈l,d<=c):∀d∈psm l,d<=c+c:=
 NG _ _ (λx a=>h x (evN_mem l x a)) (λx a=>h x (odN_mem l x a))
def PZ(w n:Nat):Nat:=Cx (2*w) (List.replicate n (2^w-1))
theorem AaU(w:Nat)(l:List Nat)(h:l.length%2=0)(c:∀d∈l,d<2^w):Cx w l/2^w&&&PZ w (l.length/2)=Cx (2*w) (GK l):=by
 cases l with
 | nil=>simp[Cx,GK]
 | cons a l=>
  rw[PY (c a O),<-NF,<-J3 a l h];have:=KC w (l++[0]) (by simp at h ⊢;omega) (λd b=>by
   simp only[Aer,Afn] at b;rcases b with b|rfl
   ·exact c d (by simp[b])
   exact AgR w)
  have e:(l++[0]).length=(a::l).length:=by simp
  rw[e] at this;exact this
theorem NI(w:Nat)(l:List Nat)(h:l.length%2=0)(a:∀d∈l,d<2^w):(Cx w l/2^w&&&PZ w (l.length/2))+(Cx w l&&&PZ w (l.length/2))=Cx (2*w) (psm l):=by
 rw[AaU w l h a,show Cx w l&&&PZ w (l.length/2)=Cx (2*w) (evN l) from KC w l h a,AgT,Lz _ _ _ (by rw[LA,LB])];rfl
theorem KD(w:Nat):∀(l:List Nat),(∀d∈l,d<2^w)->Cx w l<2^(w*l.length)
 | [],_=>by simp[Cx]
 | a::l,h=>by
  have:=KD w l (λd b=>h d (by simp[b]));have c:=h a O;simp only[Cx,Aei];rw[show w*(l.length+1)=w+w*l.length by rw[Agr];omega,Nat.pow_add];have:2^w*(Cx w l+1)<=2^w*2^(w*l.length):=Agv _ this;rw[Agr] at this;omega
def LE(x:BitVec 64):BitVec 64:=
 let a:=(x>>>1&&&6148914691236517205#64)+(x&&&6148914691236517205#64);let b:=(a>>>2&&&3689348814741910323#64)+(a&&&3689348814741910323#64);let c:=(b>>>4+b)&&&1085102592571150095#64;let d:=c+c>>>8;let e:=d+d>>>16
 e+e>>>32
theorem AaV{b:BitVec 64}(j:R.length=16)(k:∀d∈R,d<=4)(n:b.toNat=Cx 4 R):((b>>>4+b)&&&1085102592571150095#64).toNat=Cx 8 (psm R):=by
 rw[Agh,AgJ,Af9,n,Af7]
 cases R with
 | nil=>simp at j
 | cons a R=>
  have p:=k a O;rw[PY U,<-NF,Lz _ _ _ O];have e:∀d∈List.zipWith (·+·) (R++[0]) (a::R),d<2^4:=λd h=>by
   have:=NG (c:=4) (d:=4) _ _ (λx i=>by
    simp only[Aer,Afn] at i;rcases i with i|rfl
    ·exact k x (by simp[i])
    omega) k d h
   omega
  have f:(List.zipWith (·+·) (R++[0]) (a::R)).length=16:=by simp at j ⊢;omega
  have g:=KD 4 _ e;rw[f] at g;rw[AfC g];have m:=KC 4 _ (by rw[f]) e;rw[f,show Cx (2*4) (List.replicate (16/2) (2^4-1))=1085102592571150095 by decide+kernel] at m;rw[show (1085102592571150095#64).toNat=1085102592571150095 from Z,m];have o:∀(l l':List Nat),evN (List.zipWith (·+·) l l')=List.zipWith (·+·) (evN l) (evN l'):=λl=>by
   induction l using evN.induct with
   | case1 a b l ih=>
    intro l'
    match l' with
    | []=>simp[evN]
    | [_]=>simp[evN]
    | x::y::l'=>simp only[List.zipWith,evN,ih l']
   | case2 l h=>
    intro l'
    match l,l' with
    | [],_=>simp[evN]
    | [_],[]=>simp[evN]
    | [_],_::_=>simp[evN]
    | a::b::l,_=>exact absurd Z (h a b l)
  rw[o,J3 a R (by rw[j]),psm];congr 1;exact List.zipWith_comm_of_comm (λx y=>AgT x y)
theorem LF(c:BitVec 64)(k p lo hi b:Nat)(hp:2^k=p)(e:c.toNat=n)(f:n=lo+p*hi)(a:lo<p)(i:n<=b)(g:hi<=b)(d:b<9223372036854775808):(c+c>>>k).toNat=n+hi:=by
 subst hp;have h:n/2^k=hi:=by rw[f,AgH _ _ (AgR k),AgI a,AfO]
 rw[AgJ,Af9,Af7,e,h];exact AfC U
theorem AaW(t K:Nat)(e:n=m)(h:m=t+256*K)(b:t<=64)(a:K<=20000000000000000):n<9223372036854775808/\n%128=t:=by omega
theorem AaX(j h g f e d b a:Nat)(l:j<=8)(n:h<=8)(o:g<=8)(m:f<=8)(q:e<=8)(r:d<=8)(p:b<=8)(s:a<=8)(c:BitVec 64)(i:c.toNat=j+256*h+65536*g+16777216*f+4294967296*e+1099511627776*d+281474976710656*b+72057594037927936*a):
  ((c+c>>>8)+(c+c>>>8)>>>16+((c+c>>>8)+(c+c>>>8)>>>16)>>>32).toNat<9223372036854775808/\((c+c>>>8)+(c+c>>>8)>>>16+((c+c>>>8)+(c+c>>>8)>>>16)>>>32).toNat%128=j+h+g+f+e+d+b+a:=by
 have e1:=LF c 8 256 j (h+256*g+65536*f+16777216*e+4294967296*d+1099511627776*b+281474976710656*a) 1000000000000000000 Z i U U U U (by decide);have e2:=LF (c+c>>>8) 16 65536 (j+h+256*(h+g)) (g+f+256*(f+e)+65536*(e+d)+16777216*(d+b)+4294967296*(b+a)+1099511627776*a) 2000000000000000000 (by decide) e1 U U U U (by decide);have k:=LF (c+c>>>8+(c+c>>>8)>>>16) 32 4294967296 (j+h+g+f+256*(h+g+f+e)+65536*(g+f+e+d)+16777216*(f+e+d+b)) (e+d+b+a+256*(d+b+a)+65536*(b+a)+16777216*a) 4000000000000000000 O e2 (by clear e1 e2 i;omega) (by clear e1 e2 i;omega) (by clear e1 e2 i;omega) (by clear e1 e2 i;omega) (by decide);refine AaW (j+h+g+f+e+d+b+a) ((h+g+f+e+d+b+a)+256*((g+f+e+d+b+a)+256*((f+e+d+b+a)+256*((e+d+b+a)+256*((d+b+a)+256*((b+a)+256*a)))))) k ?_ ?_ ?_
 ·clear e1 e2 k i;omega
 ·clear e1 e2 k i;omega
 clear e1 e2 k i;omega
theorem AaY{c:BitVec 64}(b:R.length=8)(a:∀d∈R,d<=8)(e:c.toNat=Cx 8 R):((c+c>>>8)+(c+c>>>8)>>>16+((c+c>>>8)+(c+c>>>8)>>>16)>>>32).toNat<9223372036854775808/\((c+c>>>8)+(c+c>>>8)>>>16+((c+c>>>8)+(c+c>>>8)>>>16)>>>32).toNat%128=R.sum:=by
 match R,b with
 | [m0,m1,m2,m3,m4,m5,m6,m7],_=>
  have:=AaX m0 m1 m2 m3 m4 m5 m6 m7 (a m0 O) (a m1 O) (a m2 O) (a m3 O) (a m4 O) (a m5 O) (a m6 O) (a m7 O) c (by rw[e];simp only[Cx];omega);refine ⟨this.1,this.2.trans ?_⟩;simp only[List.sum_cons,List.sum_nil];omega
theorem XV(l:List Nat)(g:l.length=64)(i:∀d∈l,d<=1)(x:BitVec 64)(m:x.toNat=Cx 1 l):(LE x).toNat<9223372036854775808/\(LE x).toNat%128=l.sum:=by
 have d1:∀d∈l,d<2^1:=λd h=>by have:=i d h;omega
 have b:(psm l).length=32:=by rw[LD,g]
 have c:(psm (psm l)).length=16:=by rw[LD,b]
 have k:(psm (psm (psm l))).length=8:=by rw[LD,c]
 have f:=NH l 1 i;have e:=NH _ _ f;have s:=NH _ _ e;have p:=Jn l U;have j:=Jn (psm l) U;have r:=Jn (psm (psm l)) U;have e1:=NI 1 l U d1;have e2:=NI 2 (psm l) U (λd h=>by have:=f d h;omega);rw[g,show PZ 1 (64/2)=6148914691236517205 by decide+kernel] at e1;rw[b,show PZ 2 (32/2)=3689348814741910323 by decide+kernel] at e2;have t1:=KD 2 (psm l) (λd h=>by have:=f d h;omega);have t2:=KD 4 (psm (psm l)) (λd h=>by have:=e d h;omega);rw[b] at t1;rw[c] at t2;have n:((x>>>1&&&6148914691236517205#64)+(x&&&6148914691236517205#64)).toNat=Cx 2 (psm l):=by
  rw[AgJ,Agh,Agh,Af9,m,Af7];rw[show (6148914691236517205#64).toNat=6148914691236517205 from Z,e1];exact AfC t1
 have t:∀a:BitVec 64,a.toNat=Cx 2 (psm l)->((a>>>2&&&3689348814741910323#64)+(a&&&3689348814741910323#64)).toNat=Cx 4 (psm (psm l)):=λa o=>by
  rw[AgJ,Agh,Agh,Af9,o,Af7];rw[show (3689348814741910323#64).toNat=3689348814741910323 from Z,e2];exact AfC t2
 have q:=AaV c e (t _ n);have:=AaY k s q;rw[<-p,<-j,<-r];exact this
theorem JT:∀l:List Bool,(BitVec.ofBoolListLE l).toNat=Cx 1 (l.map Bool.toNat)
 | []=>rfl
 | b::l=>by
  have ih:=JT l;simp only[BitVec.ofBoolListLE,AeL,Cx];rw[BitVec.toNat_concat,ih];omega
theorem P0(F:Nat->Bool)(a:Nat):∀n,((List.range n).map λj=>(F (a+j)).toNat).sum=cnt F a n
 | 0=>rfl
 | n+1=>by rw[Aha,AeH,List.sum_append,P0 F a n];simp[cnt]
theorem LG(F:Nat->Bool)(k:Nat):(LE (bw F k)).toNat<9223372036854775808/\(LE (bw F k)).toNat%128=cnt F (64*k) 64:=by
 have:=XV ((List.range 64).map λj=>(F (64*k+j)).toNat) O (λd h=>by
  simp only[Aem] at h;obtain ⟨j,_,rfl⟩:=h;cases F (64*k+j)<;>simp) (bw F k) (by
   unfold bw;rw[BitVec.toNat_cast,JT,Afp];rfl)
 rw[P0] at this;exact this
section
def u64(b:BitVec 64):Value:=.int .u64 b.toNat
theorem SF(n:Nat)(h:n<18446744073709551616):IntKind.u64.wrap (n:Int)=n:=by
 simp[IntKind.wrap,IntKind.bits,IntKind.signed];omega
theorem Ro(b:BitVec 64):IntKind.u64.wrap (b.toNat:Int)=b.toNat:=SF _ b.isLt
theorem Gw(p:BitVec 64):BitVec.ofInt 64 (p.toNat:Int)=p:=by rw[Ag8];simp
section
variable{P:Program}{C:World->Prop}{o:Oper}{a:Act}{w z:World}{Γ:List Ai}{n:Nat}{ds:List Deferred}{L:List (Nat×Value)}{v:Value}{x y:Operand}{xt yt:TypeId}
theorem AdJ(p q:BitVec 64):Op.intBits .or .u64 (p.toNat:Int) (q.toNat:Int)=pure (u64 (p|||q)):=by
 have e:Op.intBits .or .u64 (p.toNat:Int) (q.toNat:Int)=pure (.int .u64 (IntKind.u64.wrap ((BitVec.ofInt 64 (p.toNat:Int)|||BitVec.ofInt 64 (q.toNat:Int)).toNat:Int))):=rfl;rw[Gw,Gw,Ro] at e;exact e
theorem Ac2(p q:BitVec 64):Op.intBits .and .u64 (p.toNat:Int) (q.toNat:Int)=pure (u64 (p&&&q)):=by
 have e:Op.intBits .and .u64 (p.toNat:Int) (q.toNat:Int)=pure (.int .u64 (IntKind.u64.wrap ((BitVec.ofInt 64 (p.toNat:Int)&&&BitVec.ofInt 64 (q.toNat:Int)).toNat:Int))):=rfl;rw[Gw,Gw,Ro] at e;exact e
theorem AaZ(p q:BitVec 64):Op.intBits .andNot .u64 (p.toNat:Int) (q.toNat:Int)=pure (u64 (p&&& ~~~q)):=by
 have e:Op.intBits .andNot .u64 (p.toNat:Int) (q.toNat:Int)=pure (.int .u64 (IntKind.u64.wrap ((BitVec.ofInt 64 (p.toNat:Int)&&& ~~~(BitVec.ofInt 64 (q.toNat:Int))).toNat:Int))):=rfl;rw[Gw,Gw,Ro] at e;exact e
theorem NJ{p q:BitVec 64}(f:o.op=.binOp .or xt x y yt)(c:ev L x=some (u64 p))(d:ev L y=some (u64 q)):Av P C n ds L o (u64 (p|||q)):=λa b w _=>by
 have e:=AdJ p q;simp only[execOp,f,b.ev c,b.ev d,u64];simp only[binOp,go_sem,e];rfl
theorem Fh{p q:BitVec 64}(f:o.op=.binOp .and xt x y yt)(c:ev L x=some (u64 p))(d:ev L y=some (u64 q)):Av P C n ds L o (u64 (p&&&q)):=λa b w _=>by
 have e:=Ac2 p q;simp only[execOp,f,b.ev c,b.ev d,u64];simp only[binOp,go_sem,e];rfl
theorem UA{p q:BitVec 64}(f:o.op=.binOp .andNot xt x y yt)(c:ev L x=some (u64 p))(d:ev L y=some (u64 q)):Av P C n ds L o (u64 (p&&& ~~~q)):=λa b w _=>by
 have e:=AaZ p q;simp only[execOp,f,b.ev c,b.ev d,u64];simp only[binOp,go_sem,e];rfl
theorem HH{p q:BitVec 64}(f:o.op=.binOp .add xt x y yt)(c:ev L x=some (u64 p))(d:ev L y=some (u64 q)):Av P C n ds L o (u64 (p+q)):=λa b w _=>by
 simp only[execOp,f,b.ev c,b.ev d,u64];have e:IntKind.u64.wrap ((p.toNat:Int)+(q.toNat:Int))=((p+q).toNat:Int):=by
  rw[AgJ];simp[IntKind.wrap,IntKind.bits,IntKind.signed]
 simp[go_sem,e]
theorem Aa0{p q:BitVec 64}(f:o.op=.binOp .mul xt x y yt)(c:ev L x=some (u64 p))(d:ev L y=some (u64 q)):Av P C n ds L o (u64 (p*q)):=λa b w _=>by
 simp only[execOp,f,b.ev c,b.ev d,u64];have e:IntKind.u64.wrap ((p.toNat:Int)*(q.toNat:Int))=((p*q).toNat:Int):=by
  rw[BitVec.toNat_mul];simp[IntKind.wrap,IntKind.bits,IntKind.signed]
 simp[go_sem,e]
theorem Aa1{p:BitVec 64}(b:o.op=.unOp .neg xt x)(a:ev L x=some (u64 p)):Av P C n ds L o (u64 (-p)):=by
 have:=Xc (P:=P) (C:=C) (n:=n) (ds:=ds) (L:=L) b a;have e:IntKind.u64.wrap (0-(p.toNat:Int))=((-p).toNat:Int):=by
  have:=p.isLt;rw[BitVec.toNat_neg];simp[IntKind.wrap,IntKind.bits,IntKind.signed];omega
 rw[e] at this;exact this
theorem Fx{p:BitVec 64}{k:IntKind}(g:o.op=.binOp .shr xt x y yt)(e:ev L x=some (u64 p))(f:ev L y=some (.int k q))(hq:q=m)(h:m<64):Av P C n ds L o (u64 (p>>>m)):=λa c w _=>by
 subst hq;simp only[execOp,g,c.ev e,c.ev f,u64];have d:¬((m:Int)<0):=by omega
 have b:min m 64=m:=by omega
 simp[go_sem,Op.shift,IntKind.bits,d,b,Aht]
theorem NK{k:IntKind}(j:o.op=.binOp .shl xt x y yt)(h:ev L x=some (.int .u64 1))(i:ev L y=some (.int k q))(hq:q=m)(c:m<64):Av P C n ds L o (u64 (Ej m)):=λa d w _=>by
 subst hq;have g:¬((m:Int)<0):=by omega
 have b:min m 64=m:=by omega
 have e:Op.shift .shl .u64 1 k (m:Int)=pure (u64 (Ej m)):=by
  have f:(Ej m).toNat=2^m:=by unfold Ej;rw[BitVec.toNat_twoPow];exact AfC (Nat.pow_lt_pow_right U c)
  unfold Op.shift u64;rw[if_neg g,f];simp only[IntKind.bits,Ae6,b];rw[Int.one_mul,<-SF (2^m) (Nat.pow_lt_pow_right (m:=m) (n:=64) (a:=2) U c)];simp
 simp only[execOp,j,d.ev h,d.ev i];simp only[binOp,go_sem,e];rfl
theorem NL{p q:BitVec 64}(i:o.op=.binOp .eql xt x y yt){k:IntKind}(g:Ea P xt xt=some k)(e:ev L x=some (u64 p))(f:ev L y=some (u64 q)):Av P C n ds L o (.bool (decide (p=q))):=λa b w _=>by
 obtain ⟨d,j,c⟩:=FN g;simp only[execOp,i,b.ev e,b.ev f,u64];simp[c,go_sem];rw[Aey];simp;exact ⟨λh=>Ag3 U,λh=>by rw[h]⟩
theorem SG{p q:BitVec 64}(j:o.op=.binOp .neq xt x y yt){k:IntKind}(i:Ea P xt xt=some k)(f:ev L x=some (u64 p))(g:ev L y=some (u64 q)):Av P C n ds L o (.bool (decide (p≠q))):=λa b w _=>by
 obtain ⟨d,l,c⟩:=FN i;simp only[execOp,j,b.ev f,b.ev g,u64];simp[c,go_sem];rw[Aey];simp;exact ⟨λh e=>h (by rw[e]),λh e=>h (Ag3 U)⟩
theorem Ac3{p:BitVec 64}(c:o.op=.convert xt T x)(b:Ea P xt T=some .i64)(a:ev L x=some (u64 p))(hp:p.toNat<9223372036854775808):Av P C n ds L o (I p.toNat):=by
 have:=HA (P:=P) (C:=C) (n:=n) (ds:=ds) (L:=L) c b a;rwa[AfN _ U] at this
theorem SH{hi l:Operand}{n' q z:Nat}{k2 k3:IntKind}(ho:o.op=.slice T x none (some hi) (some l))(y:Ii P T=some (n',z))
  (t:ev L x=some (.pointer (some ⟨m,i,none⟩)))(h:ev L hi=some (.int k2 s))(k:ev L l=some (.int k3 p))(e2:s=(q:Int))(e3:p=(q:Int))(hq:0<q)(f:q<=n'):Av P C n ds L o (.slice (some ⟨m,i,none⟩) q q):=λa d w _=>by
 obtain ⟨e,i0,g,c,u⟩:=Ij y;subst e2;subst e3;have r:(0:Int)<=(q:Int)/\(q:Int)<=(n':Int):=by omega
 have v:(0:Int)<=(q:Int)/\(q:Int)<=(q:Int):=by omega
 have b:¬q=0:=by omega
 have j:0<=q:=by omega
 simp only[execOp,ho,AeU,AfA,d.ev t,d.ev h,d.ev k];simp[Instr.sliceAt,Instr.slice,run_underlying g,Instr.sureAddr,Instr.sliceBounds,Instr.sliceBound,asIntOf,r,v,sizeOf,typeInfo,c,u,j,f,b,go_sem]<;>(try simp_all)
theorem UB{lo:Operand}{p z o' l' c':Nat}{k:IntKind}(u:o.op=.slice T x (some lo) none none)(t:Do P T=some z)
  (d:ev L x=some (.slice (some ⟨m,j,none⟩) g r))(f:ev L lo=some (.int k s))(hi:s=(p:Int))(a:p<=g)(b:g<=r)
  (c:(if r=p then j else j+p*z)=o')(l:g-p=l')(h:r-p=c'):Av P C n ds L o (.slice (some ⟨m,o',none⟩) l' c'):=by
 have:=Jk (P:=P) (C:=C) (n:=n) (ds:=ds) (L:=L) (p:=p) (q:=g) u t d (.inr ⟨lo,k,s,Z,f,hi⟩) (.inl ⟨Z,Z⟩) a b;rw[l,h] at this;have e:(if r=p then (some ⟨m,j,none⟩:Option Addr) else (some ⟨m,j,none⟩:Option Addr).map (·.add (p*z)))=some ⟨m,o',none⟩:=by
  subst c;split
  ·rfl
  simp only[AeU,Aen];unfold Addr.add;split
  ·rename_i i;simp[i]
  rfl
 rwa[e] at this
theorem XW(g:o.op=.binOp .and xt x y yt)(d:ev L x=some (I p))(f:ev L y=some (I 127))(hp:0<=p/\p<9223372036854775808):Av P C n ds L o (I (p%128)):=λa c w _=>by
 obtain ⟨q,rfl⟩:=AfZ hp.1;have e:Op.intBits .and .i64 (q:Int) 127=pure (I (IntKind.i64.wrap ((BitVec.ofInt 64 (q:Int)&&&BitVec.ofInt 64 127).toNat:Int))):=rfl;have e1:(BitVec.ofInt 64 (q:Int)&&&BitVec.ofInt 64 127).toNat=q%128:=by
  rw[Agh,show (BitVec.ofInt 64 127).toNat=2^7-1 from Z,Ag9,Ag8,BitVec.toNat_ofNat,AfC (a:=q) (b:=2^64) U]
 rw[e1,AfN _ U,show ((q%128:Nat):Int)=(q:Int)%128 from by omega] at e;simp only[execOp,g,c.ev d,c.ev f];simp only[binOp,go_sem,e];rfl
end
end
section
inductive Pt where
 | b (b:Nat) (cs:List Value) (ty:TypeId)
 | a (A:Ai)
def DQ:List Pt->List Ai->List Ai
 | [],R=>R
 | .b b cs ty::G,R=>blk b cs ty::DQ G R
 | .a A::G,R=>A::DQ G R
class Rf(Γ:List Ai)(G:outParam (List Pt))(R:outParam (List Ai)):Prop where
 e:Γ=DQ G R
instance rf0 {R:List Ai}:Rf R [] R:=⟨Z⟩
instance rf1 {A:Ai}{Γ R:List Ai}{G:List Pt}[h:Rf Γ G R]:Rf (A::Γ) (.a A::G) R:=⟨congrArg (A:: ·) h.e⟩
instance rf2 {b:Nat}{cs:List Value}{ty:TypeId}{Γ R:List Ai}{G:List Pt}[h:Rf Γ G R]:Rf (blk b cs ty::Γ) (.b b cs ty::G) R:=⟨congrArg (blk b cs ty:: ·) h.e⟩
instance rf3 {Γ R:List Ai}{G:List Pt}[h:Rf Γ G R]:Rf ([]++Γ) G R:=h
instance rf4 {A:Ai}{Γ Γ' R:List Ai}{G:List Pt}[h:Rf (Γ++Γ') G R]:Rf ((A::Γ)++Γ') (.a A::G) R:=⟨congrArg (A:: ·) h.e⟩
instance rf5 {b:Nat}{cs:List Value}{ty:TypeId}{Γ Γ' R:List Ai}{G:List Pt}[h:Rf (Γ++Γ') G R]:Rf ((blk b cs ty::Γ)++Γ') (.b b cs ty::G) R:=⟨congrArg (blk b cs ty:: ·) h.e⟩
theorem Dk{R:List Ai}:∀{G:List Pt} {j b:Nat} {cs:List Value} {ty:TypeId},G[j]?=some (.b b cs ty)->(DQ G R)[j]?=some (blk b cs ty)
 | [],_,_,_,_,h=>by simp at h
 | .b b' cs' ty'::G,0,b,cs,ty,h=>by simp at h;obtain ⟨rfl,rfl,rfl⟩:=h;rfl
 | .a A::G,0,b,cs,ty,h=>by simp at h
 | .b b' cs' ty'::G,j+1,b,cs,ty,h=>by simpa [DQ] using Dk (j:=j) (by simpa using h)
 | .a A::G,j+1,b,cs,ty,h=>by simpa [DQ] using Dk (j:=j) (by simpa using h)
theorem J4{R:List Ai}:∀{G:List Pt} {j b:Nat} {cs:List Value} {ty:TypeId},j<G.length->(DQ G R).set j (blk b cs ty)=DQ (G.set j (.b b cs ty)) R
 | [],_,_,_,_,h=>by simp at h
 | .b b' cs' ty'::G,0,b,cs,ty,h=>rfl
 | .a A::G,0,b,cs,ty,h=>rfl
 | .b b' cs' ty'::G,j+1,b,cs,ty,h=>by simp[DQ,J4 (j:=j) (by simpa using h)]
 | .a A::G,j+1,b,cs,ty,h=>by simp[DQ,J4 (j:=j) (by simpa using h)]

inductive Kd where
 | fin
 | seq (c:Code) (k:Kd)
 | blk (i:Nat) (k:Kd)
inductive Pos where
 | c (c:Code) (k:Kd)
 | o (ops os:List Oper) (k:Kd)
 | n (k:Kd)
 | x (i:Nat) (k:Kd)
 | r
section
variable(P:Program)(N:Act->World->Prop)(X:Nat->Act->World->Prop)(R:Act->World->Prop)
def kQ:Kd->(Act->World->Prop)×(Nat->Act->World->Prop)
 | .fin=>(N,X)
 | .seq c k=>(λa w=>c.wp P (Qp (kQ k).1 (kQ k).2 R) a w,(kQ k).2)
 | .blk i k=>((kQ k).1,upd (kQ k).2 i (kQ k).1)
def BT:Pos->Act->World->Prop
 | .c c k=>c.wp P (Qp (kQ P N X R k).1 (kQ P N X R k).2 R)
 | .o ops os k=>wpList P ops.toArray (Qp (kQ P N X R k).1 (kQ P N X R k).2 R) os
 | .n k=>(kQ P N X R k).1
 | .x i k=>(kQ P N X R k).2 i
 | .r=>R
end
def Xi(L:List (Nat×Value))(k:Kd):Code->Option Pos
 | .seq x y=>some (.c x (.seq y k))
 | .skip=>some (.n k)
 | .ret=>some .r
 | .exit i=>some (.x i k)
 | .block i c=>some (.c c (.blk i k))
 | .cond o x y=>match ev L o with
  | some (.bool true)=>some (.c x k)
  | some (.bool false)=>some (.c y k)
  | _=>none
 | .region _ ops false=>some (.o ops.toList ops.toList k)
 | _=>none
def Rp(L:List (Nat×Value)):Pos->Option Pos
 | .c c k=>Xi L k c
 | .n (.seq c k)=>some (.c c k)
 | .n (.blk _ k)=>some (.n k)
 | .x i (.seq _ k)=>some (.x i k)
 | .x i (.blk j k)=>bif Nat.beq i j then some (.n k) else some (.x i k)
 | .o _ [] k=>some (.n k)
 | _=>none
theorem pstep_ok{P:Program}{N R:Act->World->Prop}{X:Nat->Act->World->Prop}{n:Nat}{ds:List Deferred}{L:List (Nat×Value)}{w:World}{p p':Pos}(h:Rp L p=some p')(K:∀x,Fr n ds L x->BT P N X R p' x w):∀x,Fr n ds L x->BT P N X R p x w:=by
 unfold Rp at h;split at h
 ·rename_i c k
  unfold Xi at h;split at h
  ·cases h;exact A0 K
  ·cases h;exact DH K
  ·cases h;exact D9 K
  ·cases h;exact Sg K
  ·cases h;exact FM K
  ·split at h
   ·rename_i a;cases h;exact Sh a K
   ·rename_i a;cases h;exact EC a K
   cases h
  ·rename_i id ops;cases h
   have:=AJ (id:=id) (ops:=ops.toList) (P:=P) (N:=(kQ P N X R k).1) (X:=(kQ P N X R k).2) (R:=R) K;simp only[Array.toArray_toList] at this;exact this
  cases h
 ·cases h;exact K
 ·cases h;exact K
 ·cases h;exact K
 ·rename_i i j k
  cases hb:Nat.beq i j with
  | true=>rw[hb] at h;cases h;rw[AfM hb];exact IM K
  | false=>rw[hb] at h;cases h;exact AcR hb K
 ·cases h;exact K
 cases h

def FI:Option Prop->Prop
 | none=>True
 | some p=>p
def cj:Option Prop->Option Prop->Option Prop
 | none,q=>q
 | some p,none=>some p
 | some p,some q=>some (p/\q)
theorem Ir{p q:Option Prop}(h:FI (cj p q)):FI p/\FI q:=by
 cases p<;>cases q<;>simp[cj,FI] at h ⊢ <;>exact h

def Ha{α β:Type}:List α->(List α->β)->β
 | [],k=>k []
 | x::xs,k=>Ha xs λys=>k (x::ys)
theorem E7{α β:Type}:∀(l:List α) (k:List α->β),Ha l k=k l
 | [],_=>rfl
 | x::xs,k=>E7 xs λys=>k (x::ys)
def SI{β:Type}(v:Value)(k:Value->β):β:=match v with
 | .bool b=>k (.bool b)
 | .int i n=>k (.int i n)
 | .pointer a=>k (.pointer a)
 | .slice a l c=>k (.slice a l c)
 | .map r=>k (.map r)
 | .agg cs=>k (.agg cs)
 | v=>k v
theorem SJ{β:Type}(v:Value)(k:Value->β):SI v k=k v:=by cases v<;>rfl
def Jo{β:Type}:List Value->(List Value->β)->β
 | [],k=>k []
 | x::xs,k=>SI x λy=>Jo xs λys=>k (y::ys)
theorem KE{β:Type}:∀(l:List Value) (k:List Value->β),Jo l k=k l
 | [],_=>rfl
 | x::xs,k=>by rw[Jo,SJ,KE xs]
structure OvR where
 v:Value
 hs:List Nat
 zs:List Int
 ok:Bool
 a:List (Nat×Nat)
 ob:Option Prop
def icp(b:BinOp)(p q:Int):Option Prop:=match b with
 | .lss=>some (p<q)
 | .leq=>some (p<=q)
 | .gtr=>some (q<p)
 | .geq=>some (q<=p)
 | .eql=>some (p=q)
 | .neq=>some (p≠q)
 | _=>none
theorem SK{b:BinOp}{p q:Int}{a:Prop}(h:icp b p q=some a):(a->icmp b p q=some (.bool true))/\(¬a->icmp b p q=some (.bool false)):=by
 unfold icp at h;split at h<;>first|cases h|skip
 all_goals (constructor<;>intro hp<;>simp only[icmp,Aen,Value.bool.injEq]<;>first|exact decide_eq_true hp|exact decide_eq_false hp)
def iar(b:BinOp)(p q r:Int):Option Prop:=match b with
 | .add=>some (p+q=r/\ -9223372036854775808<=r/\r<=9223372036854775807)
 | .sub=>some (p-q=r/\ -9223372036854775808<=r/\r<=9223372036854775807)
 | .mul=>some (p*q=r/\ -9223372036854775808<=r/\r<=9223372036854775807)
 | .quo=>some (0<=p/\0<q/\p/q=r/\p<=9223372036854775807)
 | .rem=>some (0<=p/\q≠0/\p%q=r)
 | _=>none
def i64:IntKind->Bool
 | .i64=>true
 | _=>false
theorem SL{k:IntKind}(h:i64 k=true):k=.i64:=by cases k<;>first|rfl|cases h
def UC(P:Program)(b:BinOp)(xt:TypeId)(u v:Value)(hs:List Nat)(zs:List Int):Option OvR:=match u,v with
 | .int k p,.int k' q=>match icp b p q with
  | some pr=>match hs with
   | 0::hs=>match icmp b p q with
    | some c=>some ⟨c,hs,zs,Mv k k',[],none⟩
    | none=>none
   | 1::hs=>some ⟨.bool true,hs,zs,Mv k k',[],some pr⟩
   | 2::hs=>some ⟨.bool false,hs,zs,Mv k k',[],some (¬pr)⟩
   | 3::hs=>match icmp b p q with
    | some (.bool c)=>some ⟨.bool true,hs,zs,c&&Mv k k',[],none⟩
    | _=>none
   | 4::hs=>match icmp b p q with
    | some (.bool c)=>some ⟨.bool false,hs,zs,!c&&Mv k k',[],none⟩
    | _=>none
   | _=>none
  | none=>match zs with
   | r::zs=>match iar b p q r with
    | some pr=>some ⟨.int .i64 r,hs,zs,i64 k&&i64 k',[],some pr⟩
    | none=>none
   | []=>none
 | .pointer (some _),.pointer none=>match b with
  | .eql=>some ⟨.bool false,hs,zs,F5 P xt,[],none⟩
  | .neq=>some ⟨.bool true,hs,zs,F5 P xt,[],none⟩
  | _=>none
 | .pointer none,.pointer none=>match b with
  | .eql=>some ⟨.bool true,hs,zs,F5 P xt,[],none⟩
  | .neq=>some ⟨.bool false,hs,zs,F5 P xt,[],none⟩
  | _=>none
 | _,_=>none
def SM:Option Nat->Nat->Bool
 | some x,z=>Nat.beq x z
 | none,_=>false
theorem KF{x:Option Nat}{z:Nat}(h:SM x z=true):x=some z:=by
 cases x with
 | none=>cases h
 | some y=>rw[AfM (n:=y) (m:=z) h]
def UD:Option (Nat×Nat)->Nat->Nat->Bool
 | some x,l,z=>Nat.beq x.1 l&&Nat.beq x.2 z
 | none,_,_=>false
theorem XX{x:Option (Nat×Nat)}{z:Nat}(h:UD x m z=true):x=some (m,z):=by
 cases x with
 | none=>cases h
 | some y=>
  simp only[UD,AeE] at h;rw[<-AfM h.1,<-AfM h.2]
def UE(P:Program)(G:List Pt)(L:List (Nat×Value))(hs:List Nat)(zs:List Int):Op->Option OvR
 | .move x=>match ev L x with|some v=>some ⟨v,hs,zs,true,[],none⟩|none=>none
 | .assign x=>match ev L x with|some v=>some ⟨v,hs,zs,true,[],none⟩|none=>none
 | .pick c x y=>match ev L c with
  | some (.bool true)=>(match ev L x with|some v=>some ⟨v,hs,zs,true,[],none⟩|none=>none)
  | some (.bool false)=>(match ev L y with|some v=>some ⟨v,hs,zs,true,[],none⟩|none=>none)
  | _=>none
 | .extract x i=>match ev L x with
  | some (.tuple vs)=>(match vs.toList[i]? with|some v=>some ⟨v,hs,zs,true,[],none⟩|none=>none)
  | _=>none
 | .nilCheck x=>match ev L x with
  | some (.pointer (some ad))=>some ⟨.pointer (some ad),hs,zs,true,[],none⟩
  | _=>none
 | .unOp b _ x=>match b with
  | .not=>(match ev L x with|some (.bool c)=>some ⟨.bool !c,hs,zs,true,[],none⟩|_=>none)
  | _=>none
 | .binOp b xt x y _=>match ev L x with
  | some u=>(match ev L y with|some v=>UC P b xt u v hs zs|none=>none)
  | none=>none
 | .fieldAddr s x f=>match hs with
  | r::hs=>(match ev L x with
   | some (.pointer (some ⟨b,p,none⟩))=>some ⟨.pointer (some ⟨b,r,none⟩),hs,zs,noq (Em P s f) p r,[],none⟩
   | _=>none)
  | []=>none
 | .load t x=>match hs with
  | j::0::hs=>(match ev L x with
   | some (.pointer (some ⟨b,p,none⟩))=>(match G[j]? with
    | some (.b b' cs _)=>(match cs[p]? with
     | some v=>some ⟨v,hs,zs,Gi P t,[(b,b')],none⟩
     | none=>none)
    | _=>none)
   | _=>none)
  | j::m::hs=>(match ev L x with
   | some (.pointer (some ⟨b,p,none⟩))=>(match G[j]? with
    | some (.b b' cs _)=>Ha ((cs.drop p).take m) λvs=>some ⟨.agg vs.toArray,hs,zs,SM (Ik P t) m&&Nat.beq vs.length m,[(b,b')],none⟩
    | _=>none)
   | _=>none)
  | _=>none
 | .indexAddr t x y=>match ev L x with
  | some (.slice (some ⟨b,p,none⟩) l _)=>(match ev L y with
   | some (.int _ i)=>(match hs with
    | z::j::r::hs=>some ⟨.pointer (some ⟨b,r,none⟩),hs,zs,SM (Do P t) z,[],some (i=(j:Int)/\j<l/\p+j*z=r)⟩
    | _=>none)
   | _=>none)
  | some (.pointer (some ⟨b,p,none⟩))=>(match ev L y with
   | some (.int _ i)=>(match hs with
    | l::z::j::r::hs=>some ⟨.pointer (some ⟨b,r,none⟩),hs,zs,UD (Ii P t) l z,[],some (i=(j:Int)/\j<l/\p+j*z=r)⟩
    | _=>none)
   | _=>none)
  | _=>none
 | .call ⟨.builtin .len,⟨[x]⟩,⟨[t]⟩⟩=>match ev L x with
  | some (.slice _ l _)=>some ⟨.int .i64 l,hs,zs,(Do P t).isSome,[],none⟩
  | _=>none
 | .build t ⟨ps⟩=>match (evs L (ps.map (·.2))).map (List.zip (ps.map (·.1))) with
  | some us=>match P.built t us with
   | some cs=>Jo cs.toList λcs=>some ⟨.agg cs.toArray,hs,zs,true,[],none⟩
   | none=>none
  | none=>none
 | _=>none
section
variable{P:Program}{G:List Pt}{L:List (Nat×Value)}{n:Nat}{ds:List Deferred}{w:World}{C:World->Prop}{o:Oper}{hs:List Nat}{zs:List Int}{q:OvR}
theorem XY{b:BinOp}{yt:TypeId}{y:Operand}{v:Value}(f:o.op=.binOp b T x y yt)(a:ev L x=some u)(d:ev L y=some v)(h:UC P b T u v hs zs=some q)(e:q.ok=true)(hq:FI q.ob):Av P C n ds L o q.v:=by
 have i:∀{k:IntKind} {p r:Int} {c:Value},ev L x=some (.int k p)->ev L y=some (.int k r)->icmp b p r=some c->Av P C n ds L o c:=by
  intro k p r c a d l;unfold icmp at l;split at l<;>first|(cases l;first|exact Rg f a d|exact W6 f a d|exact W7 f a d|exact W8 f a d|exact Xa f a d|exact Xb f a d)|cases l
 unfold UC at h;split at h
 ·rename_i k p s r
  split at h
  ·rename_i m g
   split at h
   ·split at h
    ·rename_i j;cases h;obtain rfl:=HE e;exact i a d j
    cases h
   ·cases h;obtain rfl:=HE e;exact i a d ((SK g).1 hq)
   ·cases h;obtain rfl:=HE e;exact i a d ((SK g).2 hq)
   ·split at h
    ·rename_i c j;cases h;simp only[AeE] at e;obtain rfl:=HE e.2;rw[e.1] at j;exact i a d j
    cases h
   ·split at h
    ·rename_i c j;cases h;simp only[AeE,Bool.not_eq_true'] at e;obtain rfl:=HE e.2;rw[e.1] at j;exact i a d j
    cases h
   cases h
  split at h
  ·split at h
   ·rename_i m g
    cases h
    simp only[AeE] at e;obtain rfl:=SL e.1;obtain rfl:=SL e.2;unfold iar at g;split at g<;>first|cases g|skip
    ·exact C3 f a d hq.1 hq.2
    ·exact Hy f a d hq.1 hq.2
    ·exact Hz f a d hq.1 hq.2
    ·exact Lr f a d hq.1 hq.2.1 hq.2.2.1 hq.2.2.2
    exact Ls f a d hq.1 hq.2.1 hq.2.2
   cases h
  cases h
 ·split at h
  ·cases h;exact Ny f e a d
  ·cases h;exact Ut f e a d
  cases h
 ·split at h
  ·cases h;exact Uu f e a d
  ·cases h;exact Uv f e a d
  cases h
 cases h
theorem oval_ok(hM:∀w,C w->∀(j b:Nat) (cs:List Value) (ty:TypeId),G[j]?=some (Pt.b b cs ty)->Blk b cs ty w)(h:UE P G L hs zs o.op=some q)(e:q.ok=true)(ha:B7 q.a)(hq:FI q.ob):Av P C n ds L o q.v:=by
 unfold UE at h;split at h
 ·rename_i d
  split at h
  ·rename_i c;cases h;exact Ck d c
  cases h
 ·rename_i d
  split at h
  ·rename_i c;cases h;exact Bf d c
  cases h
 ·rename_i d
  split at h
  ·rename_i hc
   split at h
   ·rename_i c;cases h;exact Nq d hc c
   cases h
  ·rename_i hc
   split at h
   ·rename_i c;cases h;exact Nr d hc c
   cases h
  cases h
 ·rename_i d
  split at h
  ·rename_i vs c
   split at h
   ·rename_i m;cases h
    exact Fg (vs:=vs.toList) d (by simpa using c) m
   cases h
  cases h
 ·rename_i d
  split at h
  ·rename_i c;cases h;exact Kz d c
  cases h
 ·rename_i d
  split at h
  ·split at h
   ·rename_i c;cases h;exact Kx d c
   cases h
  cases h
 ·rename_i b xt x y _ d
  split at h
  ·rename_i u c
   split at h
   ·rename_i v i;exact XY d c i h e hq
   cases h
  cases h
 ·rename_i s x f d
  split at h
  ·split at h
   ·rename_i b p c
    cases h
    dsimp only at e
    cases g:Em P s f with
    | none=>rw[g] at e;cases e
    | some k=>
     rw[g] at e;exact DU d g c (AfM e)
   cases h
  cases h
 ·rename_i t x d
  split at h
  ·split at h
   ·rename_i b p c
    split at h
    ·rename_i b' cs ty r
     split at h
     ·rename_i v m
      cases h
      have e1:b=b':=ha.1;exact Bn d c e (λw hw=>by rw[e1];exact (hM w hw _ _ _ _ r).cel p m)
     cases h
    cases h
   cases h
  ·split at h
   ·rename_i b p c
    split at h
    ·rename_i b' cs ty r
     rw[E7] at h;cases h;have e1:b=b':=ha.1;simp only[AeE] at e;have hl:=AfM e.2;refine B0 d c (by rw[KF e.1,hl]) (λw hw=>?_);rw[e1];exact (hM w hw _ _ _ _ r).part p _ _ Z
    cases h
   cases h
  cases h
 ·rename_i t x y d
  split at h
  ·rename_i b p l _ c
   split at h
   ·rename_i i
    split at h
    ·cases h
     exact CJ d (KF e) c i hq.1 hq.2.1 hq.2.2
    cases h
   cases h
  ·rename_i b p c
   split at h
   ·rename_i i
    split at h
    ·cases h
     exact JZ d (XX e) c i hq.1 hq.2.1 hq.2.2
    cases h
   cases h
  cases h
 ·rename_i x t d
  split at h
  ·rename_i l _ c
   cases h
   dsimp only at e
   cases hz:Do P t with
   | none=>rw[hz] at e;cases e
   | some z=>exact Fu d hz c
  cases h
 ·rename_i t ps d
  split at h
  ·rename_i us m
   split at h
   ·rename_i cs g
    rw[KE] at h;cases h;exact Bg (parts:=ps) d m (by simpa using g)
   cases h
  cases h
 cases h
end

def IS:Value->List Value
 | .agg cs=>cs.toList
 | v=>[v]
theorem P4(v:Value):v.cells=(IS v).toArray:=by cases v<;>simp[IS,Value.cells]
def J5:List Value->Nat->List Value->List Value
 | cs,_,[]=>cs
 | [],_,_::_=>[]
 | _::cs,0,v::vs=>v::J5 cs 0 vs
 | c::cs,p+1,v::vs=>c::J5 cs p (v::vs)
theorem LH:∀(cs:List Value) (p:Nat) (vs:List Value),p+vs.length<=cs.length->cs.take p++vs++cs.drop (p+vs.length)=J5 cs p vs
 | cs,p,[],h=>by simp[J5]
 | [],p,v::vs,h=>by simp at h
 | c::cs,0,v::vs,h=>by
  have:=LH cs 0 vs (by simp at h ⊢;omega);simp only[AfG,AeS,AfO] at this;simp[J5,this]
 | c::cs,p+1,v::vs,h=>by
  have:=LH cs p (v::vs) (by simp at h ⊢;omega);simp only[J5,Ae7,AfD];rw[<-this];simp only[Aei,AfD];rw[show p+1+(vs.length+1)=(p+(vs.length+1))+1 from by omega,Ae5]
structure OtR where
 G:List Pt
 hs:List Nat
 ok:Bool
 a:List (Nat×Nat)
def ost(P:Program)(G:List Pt)(L:List (Nat×Value))(hs:List Nat):Op->Option OtR
 | .store t x y=>match hs with
  | j::hs=>(match ev L x with
   | some (.pointer (some ⟨b,p,none⟩))=>(match ev L y with
    | some v=>(match G[j]? with
     | some (.b b' cs ty)=>Ha (J5 cs p (IS v)) λcs'=>Ha (G.set j (.b b' cs' ty)) λG=>some ⟨G,hs,(SM ((P.info? t).map (·.size)) (IS v).length&&Nat.ble (p+(IS v).length) cs.length)&&(IS v).all (·.oneCell'),[(b,b')]⟩
     | _=>none)
    | none=>none)
   | _=>none)
  | []=>none
 | _=>none
structure Mo(wr:Bool)(S:List Pt->World->Prop):Prop where
 ld:∀{G:List Pt} {w:World} {j b:Nat} {cs:List Value} {ty:TypeId},S G w->G[j]?=some (.b b cs ty)->Blk b cs ty w
 st:wr=true->∀{G:List Pt} {w w':World} {j b:Nat} {cs cs':List Value} {ty:TypeId},S G w->G[j]?=some (.b b cs ty)->w'.os=w.os->w'.tape=w.tape->w'.output=w.output->Blk b cs' ty w'->(∀k:Nat,k≠b->w'.heap[k]?=w.heap[k]?)->S (G.set j (.b b cs' ty)) w'
section
variable{P:Program}{G:List Pt}{L:List (Nat×Value)}{n:Nat}{ds:List Deferred}{o:Oper}{hs:List Nat}{zs:List Int}{S:List Pt->World->Prop}{wr:Bool}
theorem Aa5(j:Mo true S){q:OtR}(h:ost P G L hs o.op=some q)(l:q.ok=true)(z:B7 q.a){w:World}(i:S G w):DI P n ds L o w (λf=>S q.G f):=by
 unfold ost at h;split at h
 ·rename_i t x y ho
  split at h
  ·split at h
   ·rename_i b p r
    split at h
    ·rename_i v s
     split at h
     ·rename_i b' cs ty g
      rw[E7,E7] at h;cases h;have e:b=b':=z.1;subst e;simp only[AeE] at l;obtain ⟨⟨m,d⟩,h3⟩:=l;have d:p+(IS v).length<=cs.length:=Nat.le_of_ble_eq_true d;intro a hF;obtain ⟨f,hr,u,c,_⟩:=PP (w:=w) ho r s (P4 v) (by simpa using h3) (KF m) (j.ld i g) d (LH cs p _ d) a hF;refine ⟨f,hr,j.st Z i g c.os c.tape c.output u (λk hk=>?_)⟩;rcases Aes k w.heap.size with q|q
      ·exact c.block k q hk
      rw[Ae2 q,Ae2 U]
     cases h
    cases h
   cases h
  cases h
 cases h

structure OsR where
 L:List (Nat×Value)
 G:List Pt
 hs:List Nat
 zs:List Int
 ok:Bool
 a:List (Nat×Nat)
 ob:Option Prop
def ostep(P:Program)(wr:Bool)(n:Nat)(ops:List Oper)(o:Oper)(hs:List Nat)(zs:List Int)(L:List (Nat×Value))(G:List Pt):Option OsR:=match o.dst with
 | some d=>(match BP ops L o.guard with
  | true=>(match UE P G L hs zs o.op with
   | some ⟨v,hs,zs,ok,a,ob⟩=>some ⟨(d,v)::L,G,hs,zs,Nat.blt d n&&ok,a,ob⟩
   | none=>none)
  | false=>(match EY ops L o.guard with
   | true=>some ⟨(d,undef)::L,G,hs,zs,Nat.blt d n,[],none⟩
   | false=>none))
 | none=>(match BP ops L o.guard with
  | true=>(match wr with
   | true=>(match ost P G L hs o.op with
    | some ⟨G,hs,ok,a⟩=>some ⟨L,G,hs,zs,ok,a,none⟩
    | none=>none)
   | false=>none)
  | false=>(match EY ops L o.guard with
   | true=>some ⟨L,G,hs,zs,true,[],none⟩
   | false=>none))
theorem UF(m:Mo wr S){Q:Exit->Act->World->Prop}{ops k:List Oper}{q:OsR}(h:ostep P wr n ops o hs zs L G=some q)(f:q.ok=true)(l:B7 q.a)(hq:FI q.ob)(K:∀w,S q.G w->∀x,Fr n ds q.L x->wpList P ops.toArray Q k x w):∀w,S G w->∀x,Fr n ds L x->wpList P ops.toArray Q (o::k) x w:=by
 intro w c;unfold ostep at h;split at h
 ·rename_i d b
  split at h
  ·rename_i g
   split at h
   ·rename_i j
    cases h
    simp only[AeE] at f;exact s_do g b f.1 (oval_ok (λr p _ _ _ _ e=>by subst p;exact m.ld c e) j f.2 l hq) (K w c)
   cases h
  split at h
  ·rename_i i;cases h;exact Sl i b f (K w c)
  cases h
 rename_i b;split at h
 ·rename_i g
  split at h
  ·split at h
   ·rename_i j
    cases h
    exact F4 g b (Aa5 m j f l c) K
   cases h
  cases h
 split at h
 ·rename_i i;cases h;exact XJ i b (K w c)
 cases h
def Xj:Pos->Option (List Oper×Oper×List Oper×Kd)
 | .o ops (o::os) k=>some (ops,o,os,k)
 | _=>none
theorem SN{p:Pos}{ops a:List Oper}{o:Oper}{k:Kd}(h:Xj p=some (ops,o,a,k)):p=.o ops (o::a) k:=by
 unfold Xj at h;split at h<;>cases h;rfl
structure GsR where
 L:List (Nat×Value)
 G:List Pt
 p:Pos
 ok:Bool
 a:List (Nat×Nat)
 ob:Option Prop
def go(P:Program)(wr:Bool)(n:Nat):Nat->List Nat->List Int->List (Nat×Value)->List Pt->Pos->Bool->List (Nat×Nat)->Option Prop->Option GsR
 | 0,_,_,L,G,p,ok,a,ob=>some ⟨L,G,p,ok,a,ob⟩
 | k+1,hs,zs,L,G,p,ok,a,ob=>match Xj p with
  | some (ops,o,os,kk)=>(match ostep P wr n ops o hs zs L G with
   | some ⟨L,G,hs,zs,ok',a',ob'⟩=>go P wr n k hs zs L G (.o ops os kk) (ok'&&ok) (a'++a) (cj ob' ob)
   | none=>none)
  | none=>(match Rp L p with
   | some p=>go P wr n k hs zs L G p ok a ob
   | none=>none)
theorem XZ:∀{k:Nat} {hs:List Nat} {zs:List Int} {L:List (Nat×Value)} {G:List Pt} {p:Pos} {d:Bool} {a:List (Nat×Nat)} {ob:Option Prop} {q:GsR},go P wr n k hs zs L G p d a ob=some q->q.ok=true->B7 q.a->FI q.ob->d=true/\B7 a/\FI ob:=by
 intro k
 induction k with
 | zero=>intro hs zs L G p d a ob q h c b hq;simp only[go,Aen] at h;subst h;exact ⟨c,b,hq⟩
 | succ k ih=>
  intro hs zs L G p d a ob q h c b hq;simp only[go] at h;split at h
  ·split at h
   ·obtain ⟨e,g,f⟩:=ih h c b hq
    simp only[AeE] at e;exact ⟨e.2,(Cp g).2,(Ir f).2⟩
   cases h
  split at h
  ·exact ih h c b hq
  cases h
theorem Is{N R:Act->World->Prop}{X:Nat->Act->World->Prop}(i:Mo wr S):∀(k:Nat) {hs:List Nat} {zs:List Int} {L:List (Nat×Value)} {G:List Pt} {p:Pos} {d:Bool} {a:List (Nat×Nat)} {ob:Option Prop} {q:GsR},go P wr n k hs zs L G p d a ob=some q->q.ok=true->B7 q.a->FI q.ob->(∀w,S q.G w->∀x,Fr n ds q.L x->BT P N X R q.p x w)->∀w,S G w->∀x,Fr n ds L x->BT P N X R p x w:=by
 intro k
 induction k with
 | zero=>intro hs zs L G p d a ob q h b c hq K;simp only[go,Aen] at h;subst h;exact K
 | succ k ih=>
  intro hs zs L G p d a ob q h b c hq K;simp only[go] at h;split at h
  ·rename_i l
   obtain rfl:=SN l;split at h
   ·rename_i m
    obtain ⟨e,j,f⟩:=XZ h b c hq;simp only[AeE] at e;exact UF i m e.1 (Cp j).1 (Ir f).1 (ih h b c hq K)
   cases h
  split at h
  ·rename_i hp
   intro w g;exact pstep_ok hp (ih h b c hq K w g)
  cases h
end

section
variable{P:Program}{G:List Pt}{L:List (Nat×Value)}{n:Nat}{ds:List Deferred}{o:Oper}{hs:List Nat}{zs:List Int}
theorem LI{C:World->Prop}{ops:List Oper}{q:OsR}(k:∀w,C w->∀(j b:Nat) (cs:List Value) (ty:TypeId),G[j]?=some (Pt.b b cs ty)->Blk b cs ty w){d:Nat}(f:o.dst=some d)(h:ostep P false n ops o hs zs L G=some q)(e:q.ok=true)(g:B7 q.a)(hq:FI q.ob):
  ∃v,q.L=(d,v)::L/\Nat.blt d n=true/\((BP ops L o.guard=true/\Av P C n ds L o v)\/(EY ops L o.guard=true/\v=undef)):=by
 unfold ostep at h;split at h
 ·rename_i p c
  rw[f] at c;cases c;split at h
  ·rename_i i
   split at h
   ·rename_i m
    cases h
    simp only[AeE] at e;exact ⟨_,Z,e.1,.inl ⟨i,oval_ok k m e.2 g hq⟩⟩
   cases h
  split at h
  ·rename_i l;cases h;exact ⟨_,Z,e,.inr ⟨l,Z⟩⟩
  cases h
 rename_i c;rw[f] at c;cases c
structure QrR where
 L:List (Nat×Value)
 os:List Oper
 ok:Bool
 a:List (Nat×Nat)
 ob:Option Prop
def Eq(P:Program)(G:List Pt)(ops:List Oper)(n:Nat):Nat->List Nat->List Int->List (Nat×Value)->List Oper->Bool->List (Nat×Nat)->Option Prop->Option QrR
 | 0,_,_,L,os,ok,a,ob=>some ⟨L,os,ok,a,ob⟩
 | _+1,_,_,_,[],_,_,_=>none
 | k+1,hs,zs,L,o::os,ok,a,ob=>match o.dst with
  | some _=>(match ostep P false n ops o hs zs L G with
   | some ⟨L,_,hs,zs,ok',a',ob'⟩=>Eq P G ops n k hs zs L os (ok'&&ok) (a'++a) (cj ob' ob)
   | none=>none)
  | none=>none
theorem My{ops:List Oper}:∀{k:Nat} {hs:List Nat} {zs:List Int} {L:List (Nat×Value)} {b:List Oper} {c:Bool} {a:List (Nat×Nat)} {ob:Option Prop} {q:QrR},Eq P G ops n k hs zs L b c a ob=some q->q.ok=true->B7 q.a->FI q.ob->c=true/\B7 a/\FI ob:=by
 intro k
 induction k with
 | zero=>intro hs zs L b c a ob q h e d hq;simp only[Eq,Aen] at h;subst h;exact ⟨e,d,hq⟩
 | succ k ih=>
  intro hs zs L b c a ob q h e d hq
  cases b with
  | nil=>simp[Eq] at h
  | cons o b=>
   simp only[Eq] at h;split at h
   ·split at h
    ·obtain ⟨f,i,g⟩:=ih h e d hq
     simp only[AeE] at f;exact ⟨f.2,(Cp i).2,(Ir g).2⟩
    cases h
   cases h
theorem Xk{ops:List Oper}{C:World->Prop}{Q:Act->Prop}(z:∀w,C w->∀(j b:Nat) (cs:List Value) (ty:TypeId),G[j]?=some (Pt.b b cs ty)->Blk b cs ty w):∀(k:Nat) {hs:List Nat} {zs:List Int} {L:List (Nat×Value)} {c:List Oper} {l:Bool} {a:List (Nat×Nat)} {ob:Option Prop} {q:QrR},Eq P G ops n k hs zs L c l a ob=some q->q.ok=true->B7 q.a->FI q.ob->(∀x,Fr n ds q.L x->wpQuiet P ops.toArray C Q q.os x)->∀x,Fr n ds L x->wpQuiet P ops.toArray C Q c x:=by
 intro k
 induction k with
 | zero=>intro hs zs L c l a ob q h i m hq K;simp only[Eq,Aen] at h;subst h;exact K
 | succ k ih=>
  intro hs zs L c l a ob q h i m hq K
  cases c with
  | nil=>simp[Eq] at h
  | cons o c=>
   simp only[Eq] at h;split at h
   ·rename_i d g
    split at h
    ·rename_i hv
     obtain ⟨r,u,s⟩:=My h i m hq;simp only[AeE] at r;obtain ⟨v,e,f,y⟩:=LI (ds:=ds) z g hv r.1 (Cp u).1 (Ir s).1;dsimp only at e;subst e;have K':=ih h i m hq K;rcases y with ⟨t,p⟩|⟨hk,rfl⟩
     ·exact AM t g f p K'
     exact So hk g f K'
    cases h
   cases h
theorem Xl{ops:List Oper}{w:World}{Q:Act->Prop}(z:∀(j b:Nat) (cs:List Value) (ty:TypeId),G[j]?=some (Pt.b b cs ty)->Blk b cs ty w):∀(k:Nat) {hs:List Nat} {zs:List Int} {L:List (Nat×Value)} {c:List Oper} {l:Bool} {a:List (Nat×Nat)} {ob:Option Prop} {q:QrR},Eq P G ops n k hs zs L c l a ob=some q->q.ok=true->B7 q.a->FI q.ob->(∀x,Fr n ds q.L x->wpStill P ops.toArray w Q q.os x)->∀x,Fr n ds L x->wpStill P ops.toArray w Q c x:=by
 intro k
 induction k with
 | zero=>intro hs zs L c l a ob q h i m hq K;simp only[Eq,Aen] at h;subst h;exact K
 | succ k ih=>
  intro hs zs L c l a ob q h i m hq K
  cases c with
  | nil=>simp[Eq] at h
  | cons o c=>
   simp only[Eq] at h;split at h
   ·rename_i d g
    split at h
    ·rename_i hv
     obtain ⟨r,u,s⟩:=My h i m hq;simp only[AeE] at r;obtain ⟨v,e,f,y⟩:=LI (C:=(· =w)) (ds:=ds) (λw' e=>by subst e;exact z) g hv r.1 (Cp u).1 (Ir s).1;dsimp only at e;subst e;have K':=ih h i m hq K;rcases y with ⟨t,p⟩|⟨hk,rfl⟩
     ·exact Cc t g f p K'
     exact Su hk g f K'
    cases h
   cases h
structure ArR where
 L:List (Nat×Value)
 li:Array Bool
 ok:Bool
 a:List (Nat×Nat)
 ob:Option Prop
def arun(P:Program)(G:List Pt)(ops:List Oper)(n:Nat)(g:Nat->Bool):List Nat->List Nat->List Int->List (Nat×Value)->Array Bool->Bool->List (Nat×Nat)->Option Prop->Option ArR
 | [],_,_,L,li,ok,a,ob=>some ⟨L,li,ok,a,ob⟩
 | i::is,hs,zs,L,li,ok,a,ob=>match ops[i]? with
  | some o=>(match o.dst with
   | some _=>(match ostep P false n ops o hs zs L G with
    | some ⟨L,_,hs,zs,ok',a',ob'⟩=>arun P G ops n g is hs zs L (li.setIfInBounds i true) ((ok'&&(g i&&(Region.noSelect ops.toArray&&(Region.free .any ops.toArray li i&&(Region.ready .any ops.toArray li).contains i))))&&ok) (a'++a) (cj ob' ob)
    | none=>none)
   | none=>none)
  | none=>none
theorem SO{ops:List Oper}{g:Nat->Bool}:∀{c hs:List Nat} {zs:List Int} {L:List (Nat×Value)} {d:Array Bool} {b:Bool} {a:List (Nat×Nat)} {ob:Option Prop} {q:ArR},arun P G ops n g c hs zs L d b a ob=some q->q.ok=true->B7 q.a->FI q.ob->b=true/\B7 a/\FI ob:=by
 intro c
 induction c with
 | nil=>intro hs zs L d b a ob q h f e hq;simp only[arun,Aen] at h;subst h;exact ⟨f,e,hq⟩
 | cons i c ih=>
  intro hs zs L d b a ob q h f e hq;simp only[arun] at h;split at h
  ·split at h
   ·split at h
    ·obtain ⟨j,l,k⟩:=ih h f e hq
     simp only[AeE] at j;exact ⟨j.2,(Cp l).2,(Ir k).2⟩
    cases h
   cases h
  cases h
theorem Xm{ops:List Oper}{N R:Act->World->Prop}{X:Nat->Act->World->Prop}{S:World->Prop}{w:World}(hM:∀w,S w->∀(j b:Nat) (cs:List Value) (ty:TypeId),G[j]?=some (Pt.b b cs ty)->Blk b cs ty w)(t:S w):∀(f:List Nat) {hs:List Nat} {zs:List Int} {L:List (Nat×Value)} {k:Array Bool} {p:Bool} {a:List (Nat×Nat)} {ob:Option Prop} {q:ArR} {fuel:Nat},arun P G ops n (λ_=>true) f hs zs L k p a ob=some q->q.ok=true->B7 q.a->FI q.ob->
  (∀x,Fr n ds q.L x->wpAnyH P .any ops.toArray (Qp N X R) S fuel q.li x w)->∀x,Fr n ds L x->wpAnyH P .any ops.toArray (Qp N X R) S (fuel+f.length) k x w:=by
 intro f
 induction f with
 | nil=>intro hs zs L k p a ob q fuel h m r hq K;simp only[arun,Aen] at h;subst h;exact K
 | cons i f ih=>
  intro hs zs L k p a ob q fuel h m r hq K;simp only[arun] at h;split at h
  ·rename_i o u
   split at h
   ·rename_i d l
    split at h
    ·rename_i hv
     obtain ⟨c,h2,y⟩:=SO h m r hq;simp only[AeE] at c;obtain ⟨v,e,g,hx⟩:=LI (ds:=ds) hM l hv c.1.1 (Cp h2).1 (Ir y).1;dsimp only at e;subst e;have K':=ih h m r hq K;rcases hx with ⟨z,s⟩|⟨hk,rfl⟩
     ·exact BM (fuel:=fuel+f.length) i u c.1.2.2.1 c.1.2.2.2.1 c.1.2.2.2.2 z l g s t K'
     exact Sv (fuel:=fuel+f.length) i u c.1.2.2.1 c.1.2.2.2.1 c.1.2.2.2.2 hk l g t K'
    cases h
   cases h
  cases h
section
variable{ops:List Oper}{L':List (Nat×Value)}{ok':Bool}{a':List (Nat×Nat)}{ob:Prop}{z w:World}{Γ F:List Ai}
theorem DF(h:(ok',a'.map Prod.fst)=(true,a'.map Prod.snd)):ok'=true/\B7 a':=⟨congrArg Prod.fst h,Dw (congrArg Prod.snd h)⟩
theorem GL{Q:Act->Prop}(k:Nat)(hs:List Nat)(zs:List Int)[e:Rf Γ G F]{b a:List Oper}(h:Eq P G ops n k hs zs L b true [] none=some ⟨L',a,ok',a',none⟩)(c:(ok',a'.map Prod.fst)=(true,a'.map Prod.snd))(K:∀x,Fr n ds L' x->wpQuiet P ops.toArray (Sep z Γ) Q a x):∀x,Fr n ds L x->wpQuiet P ops.toArray (Sep z Γ) Q b x:=
 Xk (λ_ H _ _ _ _ q=>(show Sep z (DQ G F) _ from e.e▸H).blk _ (Dk q)) k h (DF c).1 (DF c).2 trivial K
theorem Mz{Q:Act->Prop}(k:Nat)(hs:List Nat)(zs:List Int)(H:Sep z Γ w)[e:Rf Γ G F]{b a:List Oper}(h:Eq P G ops n k hs zs L b true [] none=some ⟨L',a,ok',a',none⟩)(c:(ok',a'.map Prod.fst)=(true,a'.map Prod.snd))(K:∀x,Fr n ds L' x->wpStill P ops.toArray w Q a x):∀x,Fr n ds L x->wpStill P ops.toArray w Q b x:=
 Xl (λ_ _ _ _ q=>(show Sep z (DQ G F) _ from e.e▸H).blk _ (Dk q)) k h (DF c).1 (DF c).2 trivial K
theorem AT{N R:Act->World->Prop}{X:Nat->Act->World->Prop}(b hs:List Nat)(zs:List Int)(H:Sep z Γ w)[e:Rf Γ G F]{c a:Array Bool}(h:arun P G ops n (λ_=>true) b hs zs L c true [] none=some ⟨L',a,ok',a',none⟩)(d:(ok',a'.map Prod.fst)=(true,a'.map Prod.snd))(f:m+b.length=i)(K:∀x,Fr n ds L' x->wpAnyH P .any ops.toArray (Qp N X R) (Sep z Γ) m a x w):∀x,Fr n ds L x->wpAnyH P .any ops.toArray (Qp N X R) (Sep z Γ) i c x w:=
 f▸Xm (S:=Sep z Γ) (λ_ H _ _ _ _ q=>(show Sep z (DQ G F) _ from e.e▸H).blk _ (Dk q)) H b h (DF d).1 (DF d).2 trivial K
theorem Hb{Q:Act->Prop}(k:Nat)(hs:List Nat)(zs:List Int)[e:Rf Γ G F]{b a:List Oper}(h:Eq P G ops n k hs zs L b true [] none=some ⟨L',a,ok',a',some ob⟩)(c:(ok',a'.map Prod.fst)=(true,a'.map Prod.snd))(hq:ob)(K:∀x,Fr n ds L' x->wpQuiet P ops.toArray (Sep z Γ) Q a x):∀x,Fr n ds L x->wpQuiet P ops.toArray (Sep z Γ) Q b x:=
 Xk (λ_ H _ _ _ _ q=>(show Sep z (DQ G F) _ from e.e▸H).blk _ (Dk q)) k h (DF c).1 (DF c).2 hq K
theorem ES{Q:Act->Prop}(k:Nat)(hs:List Nat)(zs:List Int)(H:Sep z Γ w)[e:Rf Γ G F]{b a:List Oper}(h:Eq P G ops n k hs zs L b true [] none=some ⟨L',a,ok',a',some ob⟩)(c:(ok',a'.map Prod.fst)=(true,a'.map Prod.snd))(hq:ob)(K:∀x,Fr n ds L' x->wpStill P ops.toArray w Q a x):∀x,Fr n ds L x->wpStill P ops.toArray w Q b x:=
 Xl (λ_ _ _ _ q=>(show Sep z (DQ G F) _ from e.e▸H).blk _ (Dk q)) k h (DF c).1 (DF c).2 hq K
theorem HJ{N R:Act->World->Prop}{X:Nat->Act->World->Prop}(b hs:List Nat)(zs:List Int)(H:Sep z Γ w)[e:Rf Γ G F]{c a:Array Bool}(h:arun P G ops n (λ_=>true) b hs zs L c true [] none=some ⟨L',a,ok',a',some ob⟩)(d:(ok',a'.map Prod.fst)=(true,a'.map Prod.snd))(hq:ob)(f:m+b.length=i)(K:∀x,Fr n ds L' x->wpAnyH P .any ops.toArray (Qp N X R) (Sep z Γ) m a x w):∀x,Fr n ds L x->wpAnyH P .any ops.toArray (Qp N X R) (Sep z Γ) i c x w:=
 f▸Xm (S:=Sep z Γ) (λ_ H _ _ _ _ q=>(show Sep z (DQ G F) _ from e.e▸H).blk _ (Dk q)) H b h (DF d).1 (DF d).2 hq K
end
end

structure FiR where
 L:List (Nat×Value)
 G:List Pt
 p:Pos
 a:List Nat
 b:List Nat
 ob:Option Prop
def fin:Option GsR->Option FiR
 | some ⟨L,G,p,true,a,ob⟩=>some ⟨L,G,p,a.map Prod.fst,a.map Prod.snd,ob⟩
 | _=>none
def Nk{β:Type}:List Pt->List Ai->(List Ai->β)->β
 | [],R,k=>k R
 | .b b cs ty::G,R,k=>Nk G R λΓ=>k (blk b cs ty::Γ)
 | .a A::G,R,k=>Nk G R λΓ=>k (A::Γ)
theorem UG{β:Type}{R:List Ai}(G:List Pt):∀(k:List Ai->β),Nk G R k=k (DQ G R):=by
 induction G with
 | nil=>intro k;rfl
 | cons x G ih=>intro k;cases x<;>exact ih _
structure FwR where
 L:List (Nat×Value)
 Γ:List Ai
 p:Pos
 a:List Nat
 b:List Nat
 ob:Option Prop
def SP(F:List Ai):Option GsR->Option FwR
 | some ⟨L,G,p,true,a,ob⟩=>Nk G F λΓ=>some ⟨L,Γ,p,a.map Prod.fst,a.map Prod.snd,ob⟩
 | _=>none
theorem NM{F Γ:List Ai}{q:Option GsR}{L:List (Nat×Value)}{p:Pos}{al:List Nat}{ob:Option Prop}(h:SP F q=some ⟨L,Γ,p,al,al,ob⟩):∃a G,q=some ⟨L,G,p,true,a,ob⟩/\B7 a/\DQ G F=Γ:=by
 unfold SP at h;split at h
 ·rename_i a _
  rw[UG] at h;simp only[Aen,FwR.mk.injEq] at h;obtain ⟨rfl,d,rfl,b,c,rfl⟩:=h;exact ⟨_,_,Z,Dw (b.trans c.symm),d⟩
 cases h
theorem KG{q:Option GsR}{L:List (Nat×Value)}{G:List Pt}{p:Pos}{al:List Nat}{ob:Option Prop}(h:fin q=some ⟨L,G,p,al,al,ob⟩):∃a,q=some ⟨L,G,p,true,a,ob⟩/\B7 a:=by
 unfold fin at h;split at h
 ·rename_i a _
  simp only[Aen,FiR.mk.injEq] at h;obtain ⟨rfl,rfl,rfl,b,c,rfl⟩:=h;exact ⟨_,Z,Dw (b.trans c.symm)⟩
 cases h
section
variable{P:Program}{N R:Act->World->Prop}{X:Nat->Act->World->Prop}{n:Nat}{ds:List Deferred}{L L':List (Nat×Value)}{w z:World}{p p':Pos}{al:List Nat}{G G':List Pt}{Γ F:List Ai}
theorem Aa6(w:World):Mo false (λG w'=>G=[]/\w'=w):=⟨λh e=>by rw[h.1] at e;simp at e,λh=>by cases h⟩
theorem Aa7(z:World)(F:List Ai)(w:World):Mo false (λG w'=>Sep z (DQ G F) w'/\w'=w):=⟨λH e=>H.1.blk _ (Dk e),λh=>by cases h⟩
theorem UH(z:World)(F:List Ai):Mo true (λG w=>Sep z (DQ G F) w):=⟨λH e=>H.blk _ (Dk e),λ_ {G w k j b cs a ty} H e c i g f h=>by
 have:=H.write j (Dk e) c i g f h;have d:j<G.length:=(Aed.1 e).1;exact (J4 (R:=F) (b:=b) (cs:=a) (ty:=ty) d)▸this⟩
theorem Z0(k:Nat)(hs:List Nat)(h:fin (go P false n k hs [] L [] p true [] none)=some ⟨L',[],p',[],[],none⟩)(K:∀x,Fr n ds L' x->BT P N X R p' x w):∀x,Fr n ds L x->BT P N X R p x w:=by
 obtain ⟨a,h,c⟩:=KG h;exact Is (Aa6 w) k h Z c trivial (λ_ b=>b.2▸K) w ⟨Z,Z⟩
theorem Zc(k:Nat)(h:fin (go P false n k [] [] L [] p true [] none)=some ⟨L',[],p',[],[],none⟩)(K:∀x,Fr n ds L' x->BT P N X R p' x w):∀x,Fr n ds L x->BT P N X R p x w:=Z0 k [] h K
theorem Z1(k:Nat)(hs:List Nat)(zs:List Int){ob:Prop}(h:fin (go P false n k hs zs L [] p true [] none)=some ⟨L',[],p',[],[],some ob⟩)(hq:ob)(K:∀x,Fr n ds L' x->BT P N X R p' x w):∀x,Fr n ds L x->BT P N X R p x w:=by
 obtain ⟨a,h,c⟩:=KG h;exact Is (Aa6 w) k h Z c hq (λ_ b=>b.2▸K) w ⟨Z,Z⟩
theorem Z2(k:Nat)(hs:List Nat)(H:Sep z Γ w)[e:Rf Γ G F](h:fin (go P false n k hs [] L G p true [] none)=some ⟨L',G',p',al,al,none⟩)(K:∀x,Fr n ds L' x->BT P N X R p' x w):∀x,Fr n ds L x->BT P N X R p x w:=by
 obtain ⟨a,h,c⟩:=KG h;exact Is (Aa7 z F w) k h Z c trivial (λ_ b=>b.2▸K) w ⟨e.e▸H,Z⟩
theorem Z3(k:Nat)(hs:List Nat)(zs:List Int)(H:Sep z Γ w)[e:Rf Γ G F]{ob:Prop}(h:fin (go P false n k hs zs L G p true [] none)=some ⟨L',G',p',al,al,some ob⟩)(hq:ob)(K:∀x,Fr n ds L' x->BT P N X R p' x w):∀x,Fr n ds L x->BT P N X R p x w:=by
 obtain ⟨a,h,c⟩:=KG h;exact Is (Aa7 z F w) k h Z c hq (λ_ b=>b.2▸K) w ⟨e.e▸H,Z⟩
theorem Z4(k:Nat)(hs:List Nat)(H:Sep z Γ w)[e:Rf Γ G F]{Γ':List Ai}(h:SP F (go P true n k hs [] L G p true [] none)=some ⟨L',Γ',p',al,al,none⟩)(K:∀w,Sep z Γ' w->∀x,Fr n ds L' x->BT P N X R p' x w):∀x,Fr n ds L x->BT P N X R p x w:=by
 obtain ⟨a,G',c,b,rfl⟩:=NM h;exact Is (UH z F) k c Z b trivial K w (e.e▸H)
theorem Z5(k:Nat)(hs:List Nat)(zs:List Int)(H:Sep z Γ w)[e:Rf Γ G F]{Γ':List Ai}{ob:Prop}(h:SP F (go P true n k hs zs L G p true [] none)=some ⟨L',Γ',p',al,al,some ob⟩)(hq:ob)(K:∀w,Sep z Γ' w->∀x,Fr n ds L' x->BT P N X R p' x w):∀x,Fr n ds L x->BT P N X R p x w:=by
 obtain ⟨a,G',c,b,rfl⟩:=NM h;exact Is (UH z F) k c Z b hq K w (e.e▸H)
end

section
variable{P:Program}{N R:Act->World->Prop}{X:Nat->Act->World->Prop}{n d:Nat}{ds:List Deferred}{L:List (Nat×Value)}{w z:World}{k:Kd}{ops rest:List Oper}{o:Oper}{v:Value}
theorem Ae{f:FuncId}{d:Func}{c:Code}{R:Value->World->Prop}(i:P.funcs[f]?=some d)(g:d.body=some c)(e:d.ntmps=n)(b:Nat.ble V.length n=true)
  (h:∀a,Fr n [] (first 0 V) a->BT P (Gh P d R) IK (Gh P d R) (.c c .fin) a w):Calls P f V.toArray w (Ret R):=enter i g n e b h
theorem gf(K:∀x,Fr n ds L x->N x w):∀x,Fr n ds L x->BT P N X R (.n .fin) x w:=K
theorem gx{a R':Act->World->Prop}(K:∀x,Fr n ds L x->BT P N X R (.x i k) x w):∀x,Fr n ds L x->BT P a (kQ P N X R k).2 R' (.x i .fin) x w:=K
theorem gn(K:∀x,Fr n ds L x->BT P N X R (.n k) x w):∀x,Fr n ds L x->(kQ P N X R k).1 x w:=K
theorem gw(K:∀x,Fr n ds L x->BT P N X R (.o ops rest k) x w):∀x,Fr n ds L x->wpList P ops.toArray (Qp (kQ P N X R k).1 (kQ P N X R k).2 R) rest x w:=K
theorem Es{c:Operand}{x y:Code}(f:ev L c=some (.bool b))(d:b=true->∀a,Fr n ds L a->BT P N X R (.c x k) a w)(e:b=false->∀a,Fr n ds L a->BT P N X R (.c y k) a w):∀a,Fr n ds L a->BT P N X R (.c (.cond c x y) k) a w:=Si f d e
theorem Af{c:Operand}{x y:Code}{p:Prop}[hp:Decidable p](b:ev L c=some (.bool (decide p)))(d:p->∀a,Fr n ds L a->BT P N X R (.c x k) a w)(e:¬p->∀a,Fr n ds L a->BT P N X R (.c y k) a w):∀a,Fr n ds L a->BT P N X R (.c (.cond c x y) k) a w:=Gv b d e
theorem Xn{x y:Code}(M:Act->World->Prop)(h:∀a,Fr n ds L a->BT P M (kQ P N X R k).2 R (.c x .fin) a w)(h':∀a w,M a w->BT P N X R (.c y k) a w):∀a,Fr n ds L a->BT P N X R (.c (.seq x y) k) a w:=AcQ M h h'
theorem AD{c:Code}{σ:Type}(d:σ->List (Nat×Value))(G:σ->World->Prop)(m:σ->Nat)(e:σ)
  (h₀:∀a,Fr n ds L a->Fr n ds (d e) a)(g:G e w)
  (b:∀s w,G s w->∀a,Fr n ds (d s) a->BT P (λa' w'=>∃f,Fr n ds (d f) a'/\G f w'/\m f<m s) (kQ P N X R k).2 R (.c c .fin) a w):∀a,Fr n ds L a->BT P N X R (.c (.loop c) k) a w:=Sj d G m e h₀ g b
def IT(ops:List Oper)(L:List (Nat×Value))(n:Nat)(o:Oper):Option Nat:=match o.dst with
 | some d=>match BP ops L o.guard with
  | true=>bif Nat.blt d n then some d else none
  | false=>none
 | none=>none
theorem Eh(h:IT ops L n o=some d):BP ops L o.guard=true/\o.dst=some d/\Nat.blt d n=true:=by
 unfold IT at h;split at h
 ·rename_i b a
  split at h
  ·rename_i c
   cases hb:Nat.blt b n with
   | true=>rw[hb] at h;simp at h;subst h;exact ⟨c,a,hb⟩
   | false=>rw[hb] at h;cases h
  cases h
 cases h
theorem Ab(h:IT ops L n o=some d)(b:Av P (· =w) n ds L o v)(K:∀a',Fr n ds ((d,v)::L) a'->BT P N X R (.o ops rest k) a' w):∀a,Fr n ds L a->BT P N X R (.o ops (o::rest) k) a w:=s_do (Eh h).1 (Eh h).2.1 (Eh h).2.2 b K
theorem AP{Rr:Value->World->Prop}(h:IT ops L n o=some d)(c:CA P n ds L o w Rr)(K:∀v b,Rr v b->∀a',Fr n ds ((d,v)::L) a'->BT P N X R (.o ops rest k) a' b):∀a,Fr n ds L a->BT P N X R (.o ops (o::rest) k) a w:=E5 (Eh h).1 (Eh h).2.1 (Eh h).2.2 c K
theorem KH{Rr:Value->World->Prop}(c:BP ops L o.guard=true)(d:o.dst=none)(h:CA P n ds L o w Rr)(K:∀v b,Rr v b->∀a,Fr n ds L a->BT P N X R (.o ops rest k) a b):∀a,Fr n ds L a->BT P N X R (.o ops (o::rest) k) a w:=Xe c d h K
theorem AC{Rr:World->Prop}(d:BP ops L o.guard=true)(c:o.dst=none)(h:DI P n ds L o w Rr)(K:∀b,Rr b->∀a,Fr n ds L a->BT P N X R (.o ops rest k) a b):∀a,Fr n ds L a->BT P N X R (.o ops (o::rest) k) a w:=F4 d c h K
theorem An{p:Prop}[Decidable p](t:Nat)(d:CD L t=some (.bool (decide p)))(b:p->∀a,Fr n ds ((t,.bool true)::L) a->BT P N X R (.o ops (o::rest) k) a w)(c:¬p->∀a,Fr n ds ((t,.bool false)::L) a->BT P N X R (.o ops (o::rest) k) a w):∀a,Fr n ds L a->BT P N X R (.o ops (o::rest) k) a w:=Sm t d b c
theorem DR(t:Nat)(e:CD L t=some (.bool b))(c:b=true->∀a,Fr n ds ((t,.bool true)::L) a->BT P N X R (.o ops (o::rest) k) a w)(d:b=false->∀a,Fr n ds ((t,.bool false)::L) a->BT P N X R (.o ops (o::rest) k) a w):∀a,Fr n ds L a->BT P N X R (.o ops (o::rest) k) a w:=Uo t e c d
variable{Γ pre R':List Ai}{post:Value->List Ai->Prop}{f:FuncId}{vs:List Value}
def Nl(ops:List Oper)(L:List (Nat×Value))(n:Nat)(o:Oper):Option (Nat×FuncId×List Value):=match IT ops L n o with
 | some d=>match o.op with
  | .call ⟨.value (.func f),⟨xs⟩,_⟩=>match evs L xs with
   | some vs=>some (d,f,vs)
   | none=>none
  | _=>none
 | none=>none
theorem UI(h:Nl ops L n o=some (d,f,vs)):IT ops L n o=some d/\∃xs tys,o.op=.call {callee:=.value (.func f),args:=(xs:List Operand).toArray,argTypes:=tys} /\evs L xs=some vs:=by
 unfold Nl at h;split at h
 ·rename_i i a
  split at h
  ·rename_i g xs tys e
   split at h
   ·rename_i b c
    simp only[Aen,Afv] at h;obtain ⟨rfl,rfl,rfl⟩:=h;exact ⟨a,xs,tys,e,c⟩
   cases h
  cases h
 cases h
theorem Ar(h:Nl ops L n o=some (d,f,vs))(i:∀w,(callFunc f vs.toArray).run P w=.ok (.enter f vs.toArray) w)(e:Cn P f vs pre post)(H:Sep z (pre++R') w)
  (K:∀v c Γ',post v Γ'->Sep z (Γ'++R') c->∀a',Fr n ds ((d,v)::L) a'->BT P N X R (.o ops rest k) a' c):∀a,Fr n ds L a->BT P N X R (.o ops (o::rest) k) a w:=by
 obtain ⟨b,xs,tys,j,g⟩:=UI h;exact Fw (Eh b).1 (Eh b).2.1 (Eh b).2.2 j g i e H Z K
theorem z_E_{G:List Ai}(h:Nl ops L n o=some (d,f,vs))(g:∀w,(callFunc f vs.toArray).run P w=.ok (.enter f vs.toArray) w)(c:Cn P f vs pre (λv X=>v=u/\X=G))(H:Sep z (pre++R') w)
  (K:∀b,Sep z (G++R') b->∀a',Fr n ds ((d,u)::L) a'->BT P N X R (.o ops rest k) a' b):∀a,Fr n ds L a->BT P N X R (.o ops (o::rest) k) a w:=
 Ar h g c H λv b Γ' e=>by obtain ⟨rfl,rfl⟩:=e;exact K b
def LJ(L:List (Nat×Value)):List ResultVar->Option (List Value)
 | []=>some []
 | .tmp t::rs=>match CD L t with
  | some v=>match LJ L rs with
   | some vs=>some (v::vs)
   | none=>none
  | none=>none
 | _::_=>none
theorem LK{L:List (Nat×Value)}:∀{rs:List ResultVar} {vs:List Value},LJ L rs=some vs->EP P L w rs vs
 | [],vs,h=>by simp only[LJ,Aen] at h;subst h;trivial
 | .tmp t::rs,vs,h=>by
  simp only[LJ] at h;split at h
  ·rename_i v hv
   split at h
   ·rename_i us hu;cases h;exact ⟨hv,LK hu⟩
   cases h
  cases h
 | .cell _ _::_,_,h=>by simp[LJ] at h
def Rq(L:List (Nat×Value))(rs:List ResultVar):Option Value:=match LJ L rs with
 | some [v]=>some v
 | some vs=>some (.tuple vs.toArray)
 | none=>none
theorem P5{rs:List ResultVar}(h:Rq L rs=some v):∃vs,EP P L w rs vs/\G7 vs=v:=by
 unfold Rq at h;split at h
 ·rename_i u a;cases h;exact ⟨_,LK a,Z⟩
 ·rename_i vs b a;cases h;exact ⟨_,LK a,by cases vs with
   | nil=>rfl
   | cons x xs=>cases xs with
    | nil=>exact (b x Z).elim
    | cons y ys=>rfl⟩
 cases h
theorem Zr{b:Func}{R:Value->World->Prop}(h:Rq L b.results.toList=some v)(q:R v w):∀a,Fr n [] L a->BT P N X (Gh P b R) .r a w:=by
 obtain ⟨vs,c,d⟩:=P5 (P:=P) (w:=w) h;exact Ft O vs c d q
theorem Zf{b:Func}{R':Act->World->Prop}{R:Value->World->Prop}(h:Rq L b.results.toList=some v)(q:R v w):∀a,Fr n [] L a->BT P (Gh P b R) X R' (.n .fin) a w:=by
 obtain ⟨vs,c,d⟩:=P5 (P:=P) (w:=w) h;exact Ft O vs c d q

structure RmR where
 vs:List Value
 ok:Bool
 a:List (Nat×Nat)
def Iv(P:Program)(L:List (Nat×Value))(G:List Pt):List Nat->List ResultVar->Option RmR
 | _,[]=>some ⟨[],true,[]⟩
 | hs,.tmp t::rs=>match CD L t with
  | some v=>match Iv P L G hs rs with
   | some ⟨vs,ok,a⟩=>some ⟨v::vs,ok,a⟩
   | none=>none
  | none=>none
 | j::m::hs,.cell t ty::rs=>match CD L t with
  | some (.pointer (some ⟨b,p,none⟩))=>match G[j]? with
   | some (.b b' cs _)=>match Iv P L G hs rs with
    | some ⟨us,ok,a⟩=>Ha ((cs.drop p).take m) λvs=>some ⟨.agg vs.toArray::us,SM (Ik P ty) vs.length&&ok,(b,b')::a⟩
    | none=>none
   | _=>none
  | _=>none
 | _,_=>none
theorem LL{G:List Pt}(c:∀(j b:Nat) (cs:List Value) (ty:TypeId),G[j]?=some (Pt.b b cs ty)->Blk b cs ty w):∀{rs:List ResultVar} {hs:List Nat} {q:RmR},Iv P L G hs rs=some q->q.ok=true->B7 q.a->EP P L w rs q.vs
 | [],hs,q,h,_,_=>by simp only[Iv,Aen] at h;subst h;trivial
 | .tmp t::rs,hs,q,h,hb,ha=>by
  simp only[Iv] at h;split at h
  ·rename_i v hv
   split at h
   ·rename_i hu;cases h;exact ⟨hv,LL c hu hb ha⟩
   cases h
  cases h
 | .cell t ty::rs,j::m::hs,q,h,hb,ha=>by
  simp only[Iv] at h;split at h
  ·rename_i b p hv
   split at h
   ·rename_i b' cs ty' hG
    split at h
    ·rename_i hu
     rw[E7] at h;cases h;simp only[AeE] at hb;have e:b=b':=ha.1;subst e;exact ⟨⟨b,p,hv,Pv (KF hb.1) (c _ _ _ _ hG) (by rw[Aez,List.take_eq_take_iff];simp)⟩,LL c hu hb.2 ha.2⟩
    cases h
   cases h
  cases h
 | .cell t ty::rs,[],q,h,_,_=>by simp[Iv] at h
 | .cell t ty::rs,[_],q,h,_,_=>by simp[Iv] at h
structure RvR where
 v:Value
 a:List Nat
 b:List Nat
def UJ:Option RmR->Option RvR
 | some ⟨[v],true,a⟩=>some ⟨v,a.map Prod.fst,a.map Prod.snd⟩
 | some ⟨vs,true,a⟩=>some ⟨.tuple vs.toArray,a.map Prod.fst,a.map Prod.snd⟩
 | _=>none
theorem X0{q:Option RmR}{al:List Nat}(h:UJ q=some ⟨v,al,al⟩):∃vs a,q=some ⟨vs,true,a⟩/\B7 a/\G7 vs=v:=by
 unfold UJ at h;split at h
 ·simp only[Aen,RvR.mk.injEq] at h
  obtain ⟨rfl,b,c⟩:=h;exact ⟨_,_,Z,Dw (b.trans c.symm),Z⟩
 ·rename_i vs a d
  simp only[Aen,RvR.mk.injEq] at h;obtain ⟨rfl,b,c⟩:=h;refine ⟨_,_,Z,Dw (b.trans c.symm),?_⟩
  cases vs with
  | nil=>rfl
  | cons x xs=>cases xs with
   | nil=>exact (d x Z).elim
   | cons y ys=>rfl
 cases h
theorem Zl(hs:List Nat){G:List Pt}{F:List Ai}{al:List Nat}(H:Sep z Γ w)[e:Rf Γ G F]{b:Func}{R:Value->World->Prop}(h:UJ (Iv P L G hs b.results.toList)=some ⟨v,al,al⟩)(q:R v w):∀a,Fr n [] L a->BT P N X (Gh P b R) .r a w:=by
 obtain ⟨vs,a,c,d,f⟩:=X0 h;have H:Sep z (DQ G F) w:=e.e▸H;exact Ft O vs (LL (λ_ _ _ _ e=>H.blk _ (Dk e)) c Z d) f q
structure AlR where
 L:List (Nat×Value)
 Γ:List Ai
 ops:List Oper
 os:List Oper
 k:Kd
 d:Nat
 zs:List Value
 e:TypeId
 ob:Option Prop
 a:List Nat
 b:List Nat
def alc(P:Program)(n:Nat):Option FwR->Option AlR
 | some ⟨L,G,p,a,b,ob⟩=>match Xj p with
  | some (ops,o,os,k)=>match IT ops L n o with
   | some d=>match o.op with
    | .alloc e=>match zeroCells P e with
     | some zs=>Ha zs.toList λzs=>some ⟨L,G,ops,os,k,d,zs,e,ob,a,b⟩
     | none=>none
    | .box e x=>match ev L x with
     | some v=>Ha (IS v) λzs=>some ⟨L,G,ops,os,k,d,zs,e,ob,a,b⟩
     | none=>none
    | _=>none
   | none=>none
  | none=>none
 | none=>none
theorem Aa9{q:Option FwR}{L':List (Nat×Value)}{G':List Ai}{i:List Oper}{zs:List Value}{ob:Option Prop}{al:List Nat}(h:alc P n q=some ⟨L',G',ops,i,k,d,zs,T,ob,al,al⟩)(K:∀b w,Sep z (blk b zs T::G') w->∀x,Fr n ds ((d,Y b)::L') x->BT P N X R (.o ops i k) x w):
  ∃p',q=some ⟨L',G',p',al,al,ob⟩/\∀w,Sep z G' w->∀x,Fr n ds L' x->BT P N X R p' x w:=by
 unfold alc at h;split at h
 ·rename_i L1 G1 p a b s
  split at h
  ·rename_i l o u k1 r
   obtain rfl:=SN r;split at h
   ·rename_i d1 j
    split at h
    ·rename_i e1 e
     split at h
     ·rename_i g m
      rw[E7] at h;simp only[Aen,AlR.mk.injEq] at h;obtain ⟨rfl,rfl,rfl,rfl,rfl,rfl,rfl,rfl,rfl,rfl,rfl⟩:=h;refine ⟨_,Z,λw H=>AP j (BZ H e (zs:=g.toList) (by simpa using m)) ?_⟩;rintro _ f ⟨b,rfl,c⟩;exact K b f c
     cases h
    ·rename_i e1 v e
     split at h
     ·rename_i y t
      rw[E7] at h;simp only[Aen,AlR.mk.injEq] at h;obtain ⟨rfl,rfl,rfl,rfl,rfl,rfl,rfl,rfl,rfl,rfl,rfl⟩:=h;refine ⟨_,Z,λw H=>AP j (G9 H e t (P4 _)) ?_⟩;rintro _ f ⟨b,rfl,c⟩;exact K b f c
     cases h
    cases h
   cases h
  cases h
 cases h
theorem Za(m:Nat)(hs:List Nat){L':List (Nat×Value)}{G:List Pt}{G':List Ai}{p:Pos}{c:List Oper}{zs:List Value}{al:List Nat}{F:List Ai}(H:Sep z Γ w)[r:Rf Γ G F](h:alc P n (SP F (go P true n m hs [] L G p true [] none))=some ⟨L',G',ops,c,k,d,zs,T,none,al,al⟩)
  (K:∀b w,Sep z (blk b zs T::G') w->∀x,Fr n ds ((d,Y b)::L') x->BT P N X R (.o ops c k) x w):∀x,Fr n ds L x->BT P N X R p x w:=by
 obtain ⟨p',f,j⟩:=Aa9 h K;obtain ⟨a,G1,i,g,rfl⟩:=NM f;exact Is (UH z F) m i Z g trivial j w (r.e▸H)
theorem gr(K:∀x,Fr n ds L x->R x w):∀x,Fr n ds L x->BT P N X R .r x w:=K
end
end
structure Sup where
 gen:Int
 epoch:Int
 pages:Int
 start:Int
 len:Int
 head:Int
 seq:Int
def Sup.list(s:Sup):List Int:=[s.gen,s.epoch,s.pages,s.start,s.len,s.head,s.seq]
def Sup.cells(s:Sup):List Value:=[.int .i64 s.gen,.int .i64 s.epoch,.int .i64 s.pages,.int .i64 s.start,.int .i64 s.len,.int .i64 s.head,.int .i64 s.seq]
def Sup.Ok(s:Sup)(n:Int):Prop:=(∀x∈s.list,0<=x/\x<=1099511627776)/\16<=s.pages/\s.pages<=1024/\2+s.pages<=s.start/\64<=s.len/\s.start<=n-s.len/\s.len<=n/\s.head<s.len
instance(s:Sup)(n:Int):Decidable (s.Ok n):=by unfold Sup.Ok;exact inferInstance
theorem Sup.get{s:Sup}{n:Int}(h:s.Ok n):(0<=s.gen/\s.gen<=1099511627776)/\(0<=s.epoch/\s.epoch<=1099511627776)/\(0<=s.pages/\s.pages<=1099511627776)/\(0<=s.start/\s.start<=1099511627776)/\(0<=s.len/\s.len<=1099511627776)/\(0<=s.head/\s.head<=1099511627776)/\(0<=s.seq/\s.seq<=1099511627776):=by
 have:=h.1;simpa [Sup.list] using this

structure Dsk where
 n:Nat
 dur:Nat->List UInt8
 ver:Nat->List (List UInt8)
 f1:Int
 f2:Int
 f3:Int
 cut:Bool
 left:Int
def Dsk.cont(D:Dsk)(i:Nat):List UInt8:=(D.ver i).getLast?.getD (D.dur i)
def Bi(f:Int):Int:=if f=0 then 0 else f-1
structure Ent where
 key:Nat
 v:Value
 pvs:List Value
 ps:List (List UInt8)
 born:Nat
def Ent.ie(e:Ent):IE:=((e.key:Int),e.v,e.born)
def Ent.row(e:Ent):Ai:=grow 46 1 e.v e.pvs.length e.pvs
def Ent.Ok(hq:Hp)(e:Ent):Prop:=e.pvs.length=e.ps.length/\e.ps≠[]/\∀(j:Nat) (pv:Value) (p:List UInt8),e.pvs[j]?=some pv->e.ps[j]?=some p->p.length=256/\rdH 1 pv 256 (p.map u8) hq
def poolA(hq:Hp):Ai:=λh=>CK hq h
structure Dsk.Ok(D:Dsk):Prop where
 n1:1<=D.n
 n2:D.n<=4096
 dur:∀i,i<D.n->(D.dur i).length=256
 ver:∀i,i<D.n->∀p∈D.ver i,p.length=256
 f1:0<=D.f1/\D.f1<=1099511627776
 f2:0<=D.f2/\D.f2<=1099511627776
 f3:0<=D.f3/\D.f3<=1099511627776
 left:0<=D.left/\D.left<=1099511627776
structure Dsk.In(D:Dsk)(bs:List UInt8)(es:List Ent)(clk:Nat)(hq:Hp):Prop where
 len:bs.length=D.n*256
 own:∀i,i<D.n->(bs.drop (i*256)).take 256=D.dur i
 ent:∀e∈es,e.key<D.n/\e.ps=D.ver e.key/\e.Ok hq
 all:∀i,i<D.n->D.ver i≠[]->∃e∈es,e.key=i
 nodup:(es.map Ent.key).Nodup
 born:(es.map Ent.born).Nodup
 clk:∀e∈es,e.born<clk
def E1(pd bd m:Nat)(D:Dsk)(f0:Int)(bs:List UInt8)(es:List Ent)(clk:Nat)(hq:Hp):List Ai:=
  [blk pd [.slice (some ⟨bd,0,none⟩) (D.n*256) (D.n*256),.map (some m),.int .i64 f0,.int .i64 D.f1,.int .i64 D.f2,.int .i64 D.f3,.bool D.cut,.int .i64 D.left] 98,
   blk bd (bs.map u8) 5,AI m (es.map Ent.ie) clk,poolA hq,seps (es.map Ent.row)]
def diskA(pd:Nat)(D:Dsk):Ai:=λh=>∃(bd m:Nat) (f0:Int) (bs:List UInt8) (es:List Ent) (clk:Nat) (hq:Hp),(D.Ok/\D.In bs es clk hq)/\seps (E1 pd bd m D f0 bs es clk hq) h
theorem diskA.ok{pd:Nat}{D:Dsk}(a:diskA pd D h):D.Ok:=by
 obtain ⟨_,_,_,_,_,_,_,hp,_⟩:=a;exact hp.1
structure DskX where
 bd:Nat
 m:Nat
 f0:Int
 bs:List UInt8
 es:List Ent
 clk:Nat
 hq:Hp
theorem Sep.disk{w:World}{pd:Nat}{D:Dsk}(H:Sep z (diskA pd D::Γ) w):∃bd m f0 bs es clk hq,D.Ok/\D.In bs es clk hq/\Sep z (E1 pd bd m D f0 bs es clk hq++Γ) w:=by
 obtain ⟨x,⟨b,c⟩,H⟩:=H.into (σ:=DskX) (p:=λx=>D.Ok/\D.In x.bs x.es x.clk x.hq) (As:=λx=>E1 pd x.bd x.m D x.f0 x.bs x.es x.clk x.hq)
  (λh a=>by obtain ⟨bd,m,f0,bs,es,clk,hq,hp,hs⟩:=a;exact ⟨⟨bd,m,f0,bs,es,clk,hq⟩,hp,hs⟩)
 exact ⟨_,_,_,_,_,_,_,b,c,H⟩
theorem Sep.toDisk{w:World}{pd bd:Nat}{D:Dsk}{f0:Int}{bs:List UInt8}{es:List Ent}{clk:Nat}{hq:Hp}(H:Sep z (E1 pd bd m D f0 bs es clk hq++Γ) w)(b:D.Ok)(c:D.In bs es clk hq):Sep z (diskA pd D::Γ) w:=
 H.shut.mono 0 Z (λh a=>⟨_,_,_,_,_,_,_,⟨b,c⟩,a⟩)
theorem get_ent:∀(es:List Ent) (k:Nat),(es.map Ent.key).Nodup->(CP (es.map Ent.ie) (k:Int)=none/\∀e∈es,e.key≠k)\/∃(i:Nat) (e:Ent),es[i]?=some e/\e.key=k/\CP (es.map Ent.ie) (k:Int)=some e.v
 | [],k,_=>.inl ⟨Z,λe h=>by cases h⟩
 | e::es,k,hn=>by
  simp only[AeL,Afj] at hn;simp only[AeL,CP,Ent.ie];by_cases q:(k:Int)=(e.key:Int)
  ·exact .inr ⟨0,e,Z,by omega,by rw[if_pos q]⟩
  rw[if_neg q];rcases get_ent es k hn.2 with ⟨h1,h2⟩|⟨i,e',h1,h2,h3⟩
  ·exact .inl ⟨h1,λe' h=>by
    rcases Aep.1 h with rfl|h
    ·intro q';exact q (by rw[q'])
    exact h2 e' h⟩
  exact .inr ⟨i+1,e',by simpa using h1,h2,h3⟩
theorem Rd.at{sz:Nat}{a:Option Addr}{c:Nat}{xs:List Value}{w:World}(r:Rd sz (.slice a n c) n xs w)(h:xs[j]?=some u):At a j u w:=by
 obtain ⟨b,c',e,_,_,_,d⟩:=r;cases e;exact d j u h
theorem FQ(hs:seps Γ h)(hi:Γ[i]?=some A):∃h',A h'/\CK h' h:=by
 obtain ⟨own,a⟩:=hs;exact ⟨_,a i A hi,λk o e=>(En e).2⟩
theorem Aba{D:Dsk}{es:List Ent}{hq:Hp}(l:D.In B es m hq)(w:g<D.n):
  ∃v a,(CP (es.map Ent.ie) (g:Int)).getD (.slice none 0 0)=v/\a.length=(D.ver g).length/\(∀h,seps (es.map Ent.row) h->rdH 1 v a.length a h)/\
   (∀(j:Nat) (c:Value) (p:List UInt8),a[j]?=some c->(D.ver g)[j]?=some p->∀h,poolA hq h->rdH 1 c 256 (p.map u8) h):=by
 rcases get_ent es g l.nodup with ⟨f,r⟩|⟨i,e,hi,d,f⟩
 ·have y:D.ver g=[]:=by
   cases hvk:D.ver g with
   | nil=>rfl
   | cons p ps=>
    obtain ⟨e,d,k⟩:=l.all g w (by rw[hvk];simp);exact absurd k (r e d)
  exact ⟨.slice none 0 0,[],by simp[f],by rw[y];rfl,λh _=>rdH.nil 1 h,λj c p h=>by simp at h⟩
 obtain ⟨_,o,u,z,x⟩:=l.ent e (Aee hi);subst d;refine ⟨e.v,e.pvs,by simp[f],u.trans (congrArg _ o),λh hs=>?_,λj c p t hp h s=>((x j c p t (by rw[o];exact hp)).2).le s⟩;obtain ⟨h',q,b⟩:=FQ hs (i:=i) (A:=e.row) (by rw[Aeq,hi];rfl);exact (grow.rd q).le b
def IU(D:Dsk)(k:Nat):Nat->List UInt8
 | 0=>D.dur k
 | _+1=>D.cont k
theorem J6{D:Dsk}(h:D.ver n=[]):D.cont n=D.dur n:=by simp[Dsk.cont,h]
theorem MA{D:Dsk}(a:n=(D.ver m).length)(h:(D.ver m)[n-1]?=some B):D.cont m=B:=by
 subst a;simp[Dsk.cont,List.getLast?_eq_getElem?,h]
theorem Dsk.In.f{D:Dsk}{bs:List UInt8}{es:List Ent}{clk:Nat}{hq:Hp}(h:D.In bs es clk hq)(a b c:Int)(d:Bool)(e:Int):Dsk.In {D with f1:=a,f2:=b,f3:=c,cut:=d,left:=e} bs es clk hq:=
 ⟨h.len,h.own,h.ent,h.all,h.nodup,h.born,h.clk⟩
theorem Dsk.Ok.f{D:Dsk}(h:D.Ok){a b c e:Int}{d:Bool}(k:0<=a/\a<=1099511627776)(i:0<=b/\b<=1099511627776)(j:0<=c/\c<=1099511627776)(g:0<=e/\e<=1099511627776):Dsk.Ok {D with f1:=a,f2:=b,f3:=c,cut:=d,left:=e} :=
 ⟨h.n1,h.n2,h.dur,h.ver,k,i,j,g⟩
theorem Fi(h:0<=t/\t<=1099511627776):0<=Bi t/\Bi t<=1099511627776:=by unfold Bi;split<;>omega
theorem Dsk.cont_len{D:Dsk}(h:D.Ok)(hi:i<D.n):(D.cont i).length=256:=by
 unfold Dsk.cont
 cases hl:(D.ver i).getLast? with
 | none=>exact h.dur i hi
 | some p=>exact h.ver i hi p (List.mem_of_getLast? hl)
variable{D:Dsk}
abbrev stB(ps pd pt:Nat)(x:Sup)(lp:Value)(md:Nat)(un:Bool)(mo:Value):Ai:=blk ps [.pointer (some ⟨pd,0,none⟩),.pointer (some ⟨pt,0,none⟩),.int .i64 x.gen,.int .i64 x.epoch,.int .i64 x.pages,.int .i64 x.start,.int .i64 x.len,.int .i64 x.head,.int .i64 x.seq,lp,.map (some md),.bool un,mo] 136
abbrev lgB(pl pd pt:Nat)(s:Sup)(a q u:Int)(b nu:Bool):Ai:=blk pl [.pointer (some ⟨pd,0,none⟩),.pointer (some ⟨pt,0,none⟩),.int .i64 s.gen,.int .i64 s.epoch,.int .i64 s.pages,.int .i64 s.start,.int .i64 s.len,.int .i64 s.head,.int .i64 s.seq,.int .i64 a,.int .i64 q,.int .i64 u,.bool b,.bool nu] 244
theorem Bm:Elt prog 40 (.agg #[I 0,I 0,I 0,.slice none 0 0]) 4 48:=Elt.mk J Z U U
theorem A6:Elt prog 90 (.agg #[I 0,Cl []]) 2 24:=Elt.mk J Z U U
theorem CL:Elt prog 5 (u8 0) 1 1:=Elt.mk J Z U U
theorem Ci:Elt prog 77 (.agg #[I 0,I 0,I 0,I 0,I 0,I 0]) 6 48:=Elt.mk J Z U U
theorem BC:Elt prog 3 (I 0) 1 8:=Elt.mk J Z U U
theorem FJ:Elt prog 262 (.agg #[I 0,I 0]) 2 16:=Elt.mk J Z U U
theorem Fy:Elt prog 159 (.agg #[I 0,.slice none 0 0]) 2 32:=Elt.mk J Z U U
theorem DB:Elt prog 161 (.agg #[I 0,I 0,.slice none 0 0]) 3 40:=Elt.mk J Z U U
theorem KI:Elt prog 46 (.slice none 0 0) 1 24:=Elt.mk J Z U U
theorem CY:Aj 99 [I t,I s] [] (λv G=>v=.bool (decide (0<=t/\t<=s))/\G=[]):=by
 intro z R w H;refine Ae func99 Z ntmps99 Z (Z0 10 [0] Z (An 7 Z (λa=>?_) (λa=>?_)))
 ·refine Z0 8 [0] Z (Zr Z ?_);exact ⟨_,⟨congrArg Value.bool (by rw[Aey];simp<;>omega),Z⟩,H⟩
 refine Zc 8 Z (Zr Z ?_);exact ⟨_,⟨congrArg Value.bool (by rw[Aey];simp<;>omega),Z⟩,H⟩
theorem KJ(pd bd m N:Nat)(f0 c d b lf:Int)(a:Bool)(hN:N<=9223372036854775807):Aj 90 [Y pd] [blk pd [.slice (some ⟨bd,0,none⟩) N N,.map (some m),I f0,I c,I d,I b,.bool a,I lf] 98] (λv G=>v=I ((N:Int)/256)/\G=[blk pd [.slice (some ⟨bd,0,none⟩) N N,.map (some m),I f0,I c,I d,I b,.bool a,I lf] 98]):=by
 intro z R w H;refine Ae func90 Z ntmps90 Z (Z3 17 [0,0,0] [(N:Int)/256] H Z U (Zr Z ?_));exact ⟨_,⟨Z,Z⟩,H⟩
theorem P6{lf:Int}{x k:Int}(hN:j<=9223372036854775807):Aj 147 [Y n,I x,I k] [blk n [.slice (some ⟨i,0,none⟩) j j,.map (some m),I t,I s,I p,I q,.bool b,I lf] 98] (λv G=>v=.bool (decide (0<=x/\0<k/\x<(j:Int)/256/\k<=(j:Int)/256-x))/\G=[blk n [.slice (some ⟨i,0,none⟩) j j,.map (some m),I t,I s,I p,I q,.bool b,I lf] 98]):=by
 intro z R w H;refine Ae func147 Z ntmps147 Z (Z0 10 [0] Z (An 9 Z (λa=>?_) (λa=>?_)))
 ·refine Z0 4 [0] Z (An 13 Z (λc=>?_) (λc=>?_))
  ·refine Zc 2 Z (z_E_ Z (call90 _) (KJ _ _ _ _ _ _ _ _ _ _ U) H ?_);intro w H;refine Z0 3 [0] Z (An 19 Z (λd=>?_) (λd=>?_))
   ·refine Zc 2 Z (z_E_ Z (call90 _) (KJ _ _ _ _ _ _ _ _ _ _ U) H ?_);intro w H;refine Z1 8 [0] [((j:Int)/256)-x] Z U (Zr Z ?_);exact ⟨_,⟨congrArg Value.bool (by first|(rw[eq_comm,decide_eq_false_iff_not];omega)|(rw[Aey];simp<;>omega)),Z⟩,H⟩
   refine Zc 11 Z (Zr Z ?_);exact ⟨_,⟨congrArg Value.bool (by first|(rw[eq_comm,decide_eq_false_iff_not];omega)|(rw[Aey];simp<;>omega)),Z⟩,H⟩
  refine Zc 17 Z (Zr Z ?_);exact ⟨_,⟨congrArg Value.bool (by first|(rw[eq_comm,decide_eq_false_iff_not];omega)|(rw[Aey];simp<;>omega)),Z⟩,H⟩
 refine Zc 21 Z (Zr Z ?_);exact ⟨_,⟨congrArg Value.bool (by first|(rw[eq_comm,decide_eq_false_iff_not];omega)|(rw[Aey];simp<;>omega)),Z⟩,H⟩
theorem SQ{lf:Int}:Aj 149 [Y n] [blk n [.slice (some ⟨i,0,none⟩) j j,.map (some m),I t,I s,I p,I q,.bool b,I lf] 98] (λv G=>v=.bool (b&&decide (lf=0))/\G=[blk n [.slice (some ⟨i,0,none⟩) j j,.map (some m),I t,I s,I p,I q,.bool b,I lf] 98]):=by
 intro z R w H;refine Ae func149 Z ntmps149 Z (Z2 12 [6,0,0] H Z (DR 7 Z (λa=>?_) (λa=>?_)))
 ·refine Z2 10 [7,0,0,0] H Z (Zr Z ?_);exact ⟨_,⟨congrArg Value.bool (by simp_all),Z⟩,H⟩
 refine Zc 10 Z (Zr Z ?_);exact ⟨_,⟨congrArg Value.bool (by simp_all),Z⟩,H⟩
theorem UK{lf:Int}(c:0<=s/\s<=9223372036854775807):Aj 148 [Y n,I 1] [blk n [.slice (some ⟨i,0,none⟩) j j,.map (some m),I t,I s,I p,I q,.bool b,I lf] 98] (λv G=>v=.bool (decide (s=1))/\G=[blk n [.slice (some ⟨i,0,none⟩) j j,.map (some m),I t,I (if s=0 then 0 else s-1),I p,I q,.bool b,I lf] 98]):=by
 intro z R w H;refine Ae func148 Z ntmps148 Z (Z3 17 [2,4,1,1,3,0,0,0] [] H Z U (Af Z (λd=>?_) (λd=>?_)))
 ·refine Zc 6 Z (Zr Z ?_);exact ⟨[blk n [.slice (some ⟨i,0,none⟩) j j,.map (some m),I t,I s,I p,I q,.bool b,I lf] 98],⟨congrArg Value.bool (by first|(rw[Aey];simp<;>omega)|(simp_all<;>omega)),by simp_all⟩,H⟩
 refine Zc 3 Z (BK 10 J J (A4 H λw a=>?_));have H:=a.l1;refine ES 10 [2,4,1,1,3,0,0,2,4,1,1,3] [s-1] H Z J U (CG (gw (Z5 16 [0,2,4,1,1,3,0,0,0] [] H Z U ?_)));intro w H;refine Zr Z ?_;exact ⟨[blk n [.slice (some ⟨i,0,none⟩) j j,.map (some m),I t,I (s-1),I p,I q,.bool b,I lf] 98],⟨congrArg Value.bool (by first|(rw[Aey];simp<;>omega)|(simp_all<;>omega)),by simp_all⟩,H⟩
theorem UL{lf:Int}(d:0<=p/\p<=9223372036854775807):Aj 148 [Y n,I 2] [blk n [.slice (some ⟨i,0,none⟩) j j,.map (some m),I t,I s,I p,I q,.bool b,I lf] 98] (λv G=>v=.bool (decide (p=1))/\G=[blk n [.slice (some ⟨i,0,none⟩) j j,.map (some m),I t,I s,I (if p=0 then 0 else p-1),I q,.bool b,I lf] 98]):=by
 intro z R w H;refine Ae func148 Z ntmps148 Z (Z3 17 [2,4,1,2,4,0,0,0] [] H Z U (Af Z (λc=>?_) (λc=>?_)))
 ·refine Zc 6 Z (Zr Z ?_);exact ⟨[blk n [.slice (some ⟨i,0,none⟩) j j,.map (some m),I t,I s,I p,I q,.bool b,I lf] 98],⟨congrArg Value.bool (by first|(rw[Aey];simp<;>omega)|(simp_all<;>omega)),by simp_all⟩,H⟩
 refine Zc 3 Z (BK 10 J J (A4 H λw a=>?_));have H:=a.l1;refine ES 10 [2,4,1,2,4,0,0,2,4,1,2,4] [p-1] H Z J U (CG (gw (Z5 16 [0,2,4,1,2,4,0,0,0] [] H Z U ?_)));intro w H;refine Zr Z ?_;exact ⟨[blk n [.slice (some ⟨i,0,none⟩) j j,.map (some m),I t,I s,I (p-1),I q,.bool b,I lf] 98],⟨congrArg Value.bool (by first|(rw[Aey];simp<;>omega)|(simp_all<;>omega)),by simp_all⟩,H⟩
theorem UM{lf:Int}(c:0<=q/\q<=9223372036854775807):Aj 148 [Y n,I 3] [blk n [.slice (some ⟨i,0,none⟩) j j,.map (some m),I t,I s,I p,I q,.bool b,I lf] 98] (λv G=>v=.bool (decide (q=1))/\G=[blk n [.slice (some ⟨i,0,none⟩) j j,.map (some m),I t,I s,I p,I (if q=0 then 0 else q-1),.bool b,I lf] 98]):=by
 intro z R w H;refine Ae func148 Z ntmps148 Z (Z3 17 [2,4,1,3,5,0,0,0] [] H Z U (Af Z (λd=>?_) (λd=>?_)))
 ·refine Zc 6 Z (Zr Z ?_);exact ⟨[blk n [.slice (some ⟨i,0,none⟩) j j,.map (some m),I t,I s,I p,I q,.bool b,I lf] 98],⟨congrArg Value.bool (by first|(rw[Aey];simp<;>omega)|(simp_all<;>omega)),by simp_all⟩,H⟩
 refine Zc 3 Z (BK 10 J J (A4 H λw a=>?_));have H:=a.l1;refine ES 10 [2,4,1,3,5,0,0,2,4,1,3,5] [q-1] H Z J U (CG (gw (Z5 16 [0,2,4,1,3,5,0,0,0] [] H Z U ?_)));intro w H;refine Zr Z ?_;exact ⟨[blk n [.slice (some ⟨i,0,none⟩) j j,.map (some m),I t,I s,I p,I (q-1),.bool b,I lf] 98],⟨congrArg Value.bool (by first|(rw[Aey];simp<;>omega)|(simp_all<;>omega)),by simp_all⟩,H⟩
theorem Xo{c a lf:Int}(i:Nat)(hN:e<=9223372036854775807)(hi:(i+1)*256<=e):Aj 152 [Y n,I (i:Int)] [blk n [.slice (some ⟨j,0,none⟩) e e,.map (some m),I t,I s,I c,I a,.bool b,I lf] 98] (λv G=>v=.slice (some ⟨j,i*256,none⟩) 256 (e-i*256)/\G=[blk n [.slice (some ⟨j,0,none⟩) e e,.map (some m),I t,I s,I c,I a,.bool b,I lf] 98]):=by
 intro z R w H;refine Ae func152 Z ntmps152 Z (Z3 16 [0,0,0] [(i:Int)*256,(i:Int)+1,((i:Int)+1)*256] H Z U (Ab Z (BO Z (z:=1) (p:=(i*256)) (q:=((i+1)*256)) (o':=i*256) (l':=256) (c':=e-i*256) J Z (.inr ⟨_,_,_,Z,Z,U⟩) (.inr ⟨_,_,_,Z,Z,U⟩) U U U U U U) (Zc 4 Z (Zr Z ?_))));exact ⟨_,⟨Z,Z⟩,H⟩
section
abbrev FX(ro:Option Nat):Fence:= {Fence.wide with round:=ro}
def RW(P:Program)(ro:Option Nat)(c:Code)(Q:Exit->Act->World->Prop)(a:Act)(w:World):Prop:=c.wpIn (FX ro) 0 P Q a w
section
variable{P:Program}{ro:Option Nat}{N R:Act->World->Prop}{X:Nat->Act->World->Prop}{a:Act}{w:World}{n:Nat}{ds:List Deferred}{L:List (Nat×Value)}
theorem CT{x y:Code}(h:∀a,Fr n ds L a->RW P ro x (Qp (λa w=>RW P ro y (Qp N X R) a w) X R) a w):∀a,Fr n ds L a->RW P ro (Code.seq x y) (Qp N X R) a w:=λa b=>
 wpIn_seq (wpIn_mono (h a b) λe a w q=>by cases e<;>exact q)
theorem Gx(h:∀a,Fr n ds L a->N a w):∀a,Fr n ds L a->RW P ro Code.skip (Qp N X R) a w:=λa b=>wpIn_skip (h a b)
theorem LM(h:∀a,Fr n ds L a->X m a w):∀a,Fr n ds L a->RW P ro (Code.exit m) (Qp N X R) a w:=λa b=>wpIn_exit (h a b)
theorem Eb{c:Code}(h:∀a,Fr n ds L a->RW P ro c (Qp N (upd X m N) R) a w):∀a,Fr n ds L a->RW P ro (Code.block m c) (Qp N X R) a w:=λa b=>
 wpIn_block (wpIn_mono (h a b) λe a w q=>by cases e<;>exact q)
theorem X1{c:Operand}{x y:Code}(d:ev L c=some (.bool true))(h:∀a,Fr n ds L a->RW P ro x (Qp N X R) a w):∀a,Fr n ds L a->RW P ro (Code.cond c x y) (Qp N X R) a w:=λa b=>wpIn_cond_true (b.ev d) (h a b)
theorem Iw{c:Operand}{x y:Code}(d:ev L c=some (.bool false))(h:∀a,Fr n ds L a->RW P ro y (Qp N X R) a w):∀a,Fr n ds L a->RW P ro (Code.cond c x y) (Qp N X R) a w:=λa b=>wpIn_cond_false (b.ev d) (h a b)
theorem Jp{c:Operand}{x y:Code}(d:ev L c=some (.bool b))(e:b=true->∀a,Fr n ds L a->RW P ro x (Qp N X R) a w)(f:b=false->∀a,Fr n ds L a->RW P ro y (Qp N X R) a w):∀a,Fr n ds L a->RW P ro (Code.cond c x y) (Qp N X R) a w:=by
 cases b with
 | true=>exact X1 d (e Z)
 | false=>exact Iw d (f Z)
theorem Abb{c:Operand}{x y:Code}{p:Prop}[hp:Decidable p](b:ev L c=some (.bool (decide p)))(d:p->∀a,Fr n ds L a->RW P ro x (Qp N X R) a w)(e:¬p->∀a,Fr n ds L a->RW P ro y (Qp N X R) a w):∀a,Fr n ds L a->RW P ro (Code.cond c x y) (Qp N X R) a w:=
 Jp b (λh=>d (of_decide_eq_true h)) (λh=>e (of_decide_eq_false h))
theorem LN{c:Code}{σ:Type}(i:σ->List (Nat×Value))(G:σ->World->Prop)(m:σ->Nat)(u:σ)
  (h₀:∀a,Fr n ds L a->Fr n ds (i u) a)(g₀:G u w)
  (f:∀s w,G s w->∀a,Fr n ds (i s) a->RW P ro c (Qp (λa' h=>∃p,Fr n ds (i p) a'/\G p h/\m p<m s) X R) a w):∀a,Fr n ds L a->RW P ro (Code.loop c) (Qp N X R) a w:=by
 intro a hF b k cs r q hr;have key:∀n' s a w,m s=n'->Fr n ds (i s) a->G s w->
   ∃e a' h,Qp N X R e a' h/\ArrivesIn (Machine.fenced P (FX ro)) P (lone (b.atR a (.code c:: .inLoop c::k)) cs w) b k cs e a' h:=by
  intro n'
  induction n' using Nat.strongRecOn with
  | _ n' ih=>
   intro s a w hn hI hG;obtain ⟨e,j,o,hq,d⟩:=f s w hG a hI b (.inLoop c::k) cs r q hr
   cases e with
   | normal=>
    obtain ⟨s₁,z,t,v⟩:=hq;obtain ⟨e₂,a₂,w₂,y,g⟩:=ih (m s₁) (hn▸v) s₁ j o Z z t;exact ⟨e₂,a₂,w₂,y,.of_steps (StepsIn.trans d (.one (fenced_calm q hr Z) stepR_inLoop)) g⟩
   | exit id=>exact ⟨.exit id,j,o,hq,.pass (x:=.inLoop c) Z (λ_ _=>.inl O) d⟩
   | ret=>exact ⟨.ret,j,o,hq,.pass (x:=.inLoop c) Z (λ_ _=>.inl O) d⟩
   | goto l=>exact hq.elim
   | panic ch=>exact hq.elim
   | outgrown=>exact hq.elim
 obtain ⟨e,a',h,hq,d⟩:=key _ u a w Z (h₀ a hF) g₀;exact ⟨e,a',h,hq,.of_steps (.one (fenced_calm q hr Z) stepR_loop) d⟩

def Dg(o:Oper):Bool:=match o.op with| .defer _=>false|_=>true
theorem Rs{o:Oper}(h:Dg o=true):∀c,o.op≠ .defer c:=λc e=>by rw[Dg,e] at h;cases h
theorem NN(o:Oper)(h:Dg o=true)(ρ:Operand->Value):Oper.semAt ro ρ o=execOp ρ o:=by
 cases ro with
 | none=>rfl
 | some l=>exact Oper.semAt_some l ρ o (Rs h)
theorem UN{f:FuncId}{args:Array Value}{E:Ending->World->Prop}(h:Calls P f args w E):CallsIn (FX ro) m P f args w E:=callsIn_wide.2 h
theorem X2{a:String}{args:Array Value}(h:Rows P a args w K):RowsIn (FX ro) m P a args w K:=λc cs _=>
 let ⟨v,w',r,s⟩:=h c cs;⟨v,w',r,stepsIn_wide.2 s⟩
theorem P7{o:Oper}(c:Dg o=true){K:Act->World->Prop}(h:o.wp P a w K (Qp N X R)):o.wpIn (FX ro) 0 P a w K (Qp N X R):=by
 refine ⟨λ_ _=>trivial,?_⟩;rw[show (FX ro).round=ro from Z,NN o c];unfold Oper.wp at h
 cases hr:(execOp a.eval o).run P w with
 | ok x w'=>
  rw[hr] at h;cases x<;>simp only[Oper.upon,Oper.uponIn] at h ⊢ <;>first
   | exact h
   | exact h.elim
   | exact ⟨λq=>(by cases q),UN (Agx h λe b q=>by cases e<;>exact q)⟩
   | exact ⟨λq=>(by cases q),X2 h⟩
 | halt x w'=>
  rw[hr] at h;cases x<;>simp only[Oper.upon,Oper.uponIn] at h ⊢ <;>first
   | exact h
   | exact h.elim
theorem SR{Q:Exit->Act->World->Prop}{N R:Act->World->Prop}{X:Nat->Act->World->Prop}(b:Q=Qp N X R):¬LetsOut Q:=by
 subst b;rintro ⟨a,w,h⟩;exact h
theorem LO{ops:Array Oper}:∀(l:List Oper) (a:Act) (w:World),l.all Dg=true->wpList P ops (Qp N X R) l a w->wpListIn (FX ro) 0 P ops (Qp N X R) l a w
 | [],_,_,_,h=>h
 | o::rest,a,w,hd,h=>by
  simp only[List.all_cons,AeE] at hd;unfold wpList at h;unfold wpListIn;split
  ·rename_i hw
   rw[if_pos hw] at h;rcases h with h|⟨_,h⟩
   ·exact Oper.wpIn_mono (λa w q=>LO rest a w hd.2 q) (P7 hd.1 h)
   exact absurd h (SR Z)
  rename_i hw;rw[if_neg hw] at h;exact ⟨λ_ _=>trivial,LO rest _ _ hd.2 h⟩
theorem Cf{id:Nat}{ops:List Oper}(h:∀a,Fr n ds L a->wpList P ops.toArray (Qp N X R) ops a w)(b:ops.all Dg=true:=by rfl):∀a,Fr n ds L a->RW P ro (Code.region id ops.toArray false) (Qp N X R) a w:=λa c=>
 wpIn_region_lit (LO ops a w b (h a c))
theorem Ac4{ops:Array Oper}(d:ops.toList.all Dg=true){K:Act->World->Prop}(h:wpOp P ops (Qp N X R) i K a w):wpOpIn (FX ro) 0 P ops (Qp N X R) i K a w:=by
 unfold wpOp at h;unfold wpOpIn;split
 ·rename_i e;rw[e] at h;exact h
 rename_i o e;rw[e] at h;simp only at h;have c:Dg o=true:=Af3.1 d o (by
  have:=Array.mem_of_getElem? e;simpa using this)
 split
 ·rename_i b
  rw[if_pos b] at h;rcases h with h|⟨_,h⟩
  ·exact P7 c h
  exact absurd h (SR Z)
 rename_i b;rw[if_neg b] at h;exact ⟨λ_ _=>trivial,h⟩
theorem NO{ops:Array Oper}(hd:ops.toList.all Dg=true):∀(fuel:Nat) (listed:Array Bool) (a:Act) (w:World),wpAny P .any ops (Qp N X R) fuel listed a w->wpAnyIn (FX ro) 0 P .any ops (Qp N X R) fuel listed a w
 | 0,_,_,_,h=>h
 | fuel+1,_,_,_,h=>⟨h.1,λi hi=>wpOpIn_mono (λa w q=>NO hd fuel _ a w q) (Ac4 hd (h.2 i hi))⟩
theorem IV{id:Nat}{ops:List Oper}(S:World->Prop)(k:Nat)(c:ops.length=k)(d:P.follows .mixedOrders=true)
  (h:∀b,Ext No w b->b.heap.size=w.heap.size->∀a,Fr n ds L a->GH P ops (Qp N X R) S k (Array.replicate k false) a b)(e:ops.all Dg=true:=by rfl):∀a,Fr n ds L a->RW P ro (Code.region id ops.toArray true) (Qp N X R) a w:=λa f=>
 wpIn_region_any d (NO (by simpa using e) _ _ _ _ (Im (S:=S) _ _ _ _ (by have:=h _ (Ext.drawn No w) Z a f (Dc.start _ _) (by simp[c]);simpa [c] using this)))
theorem SS{id:Nat}{ops:List Oper}(C:World->Prop)(e:P.follows .mixedOrders=true)(f:Region.lexB .any ops.toArray=true)(g:C w.drew)
  (h:∀a,Fr n ds L a->wpQuiet P ops.toArray C (λa'=>∀b,C b->N a' b) ops a)(i:ops.all Dg=true:=by rfl):∀a,Fr n ds L a->RW P ro (Code.region id ops.toArray true) (Qp N X R) a w:=λa j=>by
 refine wpIn_region_any e (NO (by simpa using i) _ _ _ _ ?_);have c:=f;simp only[Region.lexB,AeE] at c;refine wpAny_of_quiet (C:=C) (Q:=λa'=>∀b,C b->N a' b) (λ_ b d h=>h b d) _ _ _ _ g ?_;have:=wpAnyQ_lex (C:=C) (md:=.any) c.1 ops.toArray.toList 0 (Array.replicate ops.toArray.size false) a O (by simpa using c.2) (h a j);simpa using this

section steps
variable{ops:List Oper}{Q:Exit->Act->World->Prop}{rest:List Oper}{o:Oper}{d:Nat}{v:Value}
theorem J7(h:∀a,Fr n ds L a->wpListIn (FX ro) 0 P ops.toArray (Qp N X R) ops a w):∀a,Fr n ds L a->RW P ro (Code.region m ops.toArray false) (Qp N X R) a w:=λa b=>wpIn_region_lit (h a b)
theorem Rt(h:∀a,Fr n ds L a->N a w):∀a,Fr n ds L a->wpListIn (FX ro) 0 P ops.toArray (Qp N X R) [] a w:=h
theorem Et(g:BP ops L o.guard=true)(h:o.dst=some d)(b:Nat.blt d n=true)(f:Av P (· =w) n ds L o v)(K:∀a',Fr n ds ((d,v)::L) a'->wpListIn (FX ro) 0 P ops.toArray Q rest a' w)(c:Dg o=true:=by rfl):∀a,Fr n ds L a->wpListIn (FX ro) 0 P ops.toArray Q (o::rest) a w:=by
 intro a e;unfold wpListIn;rw[if_pos (wantL_ok e g)];refine ⟨λ_ _=>trivial,?_⟩;rw[show (FX ro).round=ro from Z,NN o c,f a e w Z,Oper.uponIn_value,h];exact K _ (e.put d v b)
theorem LP{l:Nat}{x:Operand}{args:List Operand}{vs:List Value}{tys:Array TypeId}{E:Ending->World->Prop}(z:BP ops L o.guard=true)(y:o.dst=some d)(m:Nat.blt d n=true)
  (s:o.op=.call {callee:=.value x,args:=args.toArray,argTypes:=tys})(u:ev L x=some (.func (.yield l) #[] #[]))(g:evs L args=some vs)(i:YieldAt (FX none) 0 P l vs.toArray w E)
  (hE:∀e k,E e k->∃v,e=.returned v/\∀a',Fr n ds ((d,v)::L) a'->wpListIn (FX ro) 0 P ops.toArray Q rest a' k):∀a,Fr n ds L a->wpListIn (FX ro) 0 P ops.toArray Q (o::rest) a w:=by
 intro a j;obtain ⟨r,f,b,c,i,hR⟩:=i;have p:Dg o=true:=by rw[Dg,s]
 unfold wpListIn;rw[if_pos (wantL_ok j z)];refine ⟨λ_ _=>trivial,?_⟩;have e1:=j.evs g;have e2:=j.ev u;have h:(execOp a.eval o).run P w=.ok (.round l r f b c) w:=by
  unfold execOp;simp only[s,resolve,e2,Deferred.ofValue,invoke];simp only[go_sem,AeZ,e1,AeS,AeY,i];simpa using i
 rw[show (FX ro).round=ro from Z,NN o p,h,Oper.uponIn_round];refine ⟨λq=>(by cases q),RoundIn.mono (show RoundIn (FX ro) 0 P l r f b c w E from hR) λe k q=>?_⟩;obtain ⟨v,rfl,t⟩:=hE e k q;simp only[y];exact t _ (j.put d v m)
end steps
end

def It(P:Program)(gf:FuncId)(lb:List Value)(pre:List Ai)(vs:List (List Value)):Prop:=
 ∀(z:World) (l:Nat) (J_:Nat->List Ai),(∀i v,vs[i]?=some v->∀w,Sep z (pre++J_ i) w->YieldAt (FX none) 0 P l v.toArray w (λe w'=>e=.returned (.bool true)/\Sep z (pre++J_ (i+1)) w'))->
  ∀w,Sep z (pre++J_ 0) w->CallsIn (FX none) 0 P gf (#[Value.func (.yield l) #[] #[]]++lb.toArray) w (λe w'=>(∃v,e=.returned v)/\Sep z (pre++J_ vs.length) w')
theorem J8{P:Program}{gf:FuncId}{d:Func}{c:Code}{args:List Value}{w:World}{T:World->Prop}(i:P.funcs[gf]?=some d)(j:d.body=some c)(f:d.results= #[])(n:Nat)(g:d.ntmps=n)(b:Nat.ble args.length n=true)
  (h:∀a,Fr n [] (first 0 args) a->RW P none c (Qp (λa w=>a.defers=[]/\T w) IK (λa w=>a.defers=[]/\T w)) a w):CallsIn (FX none) 0 P gf args.toArray w (λe w'=>(∃v,e=.returned v)/\T w'):=by
 refine callsIn_of_wp i j trivial (wpIn_mono (h _ (by rw[g];exact Fr.start args n (by simpa using b))) λe a w q=>?_) Z
 cases e with
 | normal=>exact ⟨q.1,.tuple #[],by simp[results,f,go_sem],⟨_,Z⟩,q.2⟩
 | ret=>exact ⟨q.1,.tuple #[],by simp[results,f,go_sem],⟨_,Z⟩,q.2⟩
 | exit id=>exact q.elim
 | goto l=>exact q.elim
 | panic ch=>exact q.elim
 | outgrown=>exact q.elim
def mark(D:Nat):Deferred:= {target:=.collected D,args:= #[]}
def B8(st:LoopState)(fn:FuncId)(tmps:Array Value)(t:Nat)(assign body:Code)(D:Nat):Obj:=.loop {state:=st,pending:=none,fn,tmps,params:= #[t],assign,body,defers:=D}
theorem Sep.setObj{w:World}(i:Nat){b:Nat}{o:Obj}(o':Obj)(H:Sep z Γ w)(c:Γ[i]?=some (YtemljpjnhjnncaaGreatDoor.bk b o)):Sep z (Γ.set i (YtemljpjnhjnncaaGreatDoor.bk b o')) (w.putObj b o'):=by
 have e:=H.bk i c;have a:b<w.heap.size:=(Ae3.1 e).1;exact H.write i c Z Z Z (World.putObj_heap_same a) (λk d=>World.putObj_heap_other d)
theorem X3{P:Program}{N R:Act->World->Prop}{X:Nat->Act->World->Prop}{w:World}{n:Nat}{ds:List Deferred}{L:List (Nat×Value)}{g:Operand}{assign body:Code}{gf:FuncId}{vs:List Value}
  (J_:Nat->List Ai)(hg:ev L g=some (.func (.func gf) #[] V.toArray))(eg:∀args w,(callFunc gf args).run P w=.ok (.enter gf args) w)(ht:Nat.blt m n=true)(a2:It P gf V Γ (vs.map λv=>[v]))(H:Sep z (J_ 0++Γ) w)
  (c:∀(ro:Option Nat) (i:Nat) (v:Value),vs[i]?=some v->∀w a,Fr n [] ((m,v)::L) a->
   RW P ro assign (Qp (λa1 w1=>w1=w/\∀(F:List Ai) (w:World),Sep z (J_ i++(Γ++F)) w->RW P ro body (Qp (λ_ s=>Sep z (J_ (i+1)++(Γ++F)) s) IK (λ_ _=>False)) a1 w) IK (λ_ _=>False)) a w)
  (K:∀D w',Sep z (YtemljpjnhjnncaaGreatDoor.bk D (.deferred (some []))::(J_ vs.length++Γ)) w'->∀a,Fr n (mark D::ds) L a->N a w'):
  ∀a,Fr n ds L a->(Code.rangeFunc g #[m] assign body).wp P (Qp N X R) a w:=by
 intro a r;refine (wpIn_wide (n:=0)).1 ?_;refine wpIn_rangeFunc ?_;intro fn _;have y:Fence.wide.round=none:=rfl;rw[y];obtain ⟨W1,f⟩:∃W1,(w.alloc (.deferred (some []))).alloc (B8 .ready fn a.tmps m assign body w.heap.size)=W1:=⟨_,Z⟩;obtain ⟨D,hD⟩:∃D,D=w.heap.size:=⟨_,Z⟩;obtain ⟨T,t⟩:∃T:List Ai,T=[YtemljpjnhjnncaaGreatDoor.bk D (.deferred (some [])),YtemljpjnhjnncaaGreatDoor.bk (D+1) (B8 .ready fn a.tmps m assign body D)]:=⟨_,Z⟩;have H1:Sep z (Γ++(T++J_ 0)) W1:=by
  have h1:=H.new (b:=w.heap.size) (o:=.deferred (some [])) (Dv w (.deferred (some []))) (Aek _) (by show (w.heap.push _)[w.heap.size]?=_;simp);have h2:=h1.new (b:=w.heap.size+1) (o:=B8 .ready fn a.tmps m assign body w.heap.size) (Dv _ (B8 .ready fn a.tmps m assign body w.heap.size)) O (by
   show ((w.heap.push _).push _)[w.heap.size+1]?=_;rw[Ahd,if_pos O])
  have h3:Sep z (YtemljpjnhjnncaaGreatDoor.bk (w.heap.size+1) (B8 .ready fn a.tmps m assign body w.heap.size)::YtemljpjnhjnncaaGreatDoor.bk w.heap.size (.deferred (some []))::(J_ 0++Γ)) W1:=f▸h2;have h4:=(h3.pick 2 [1,0] Z);have h5:Sep z (T++(J_ 0++Γ)) W1:=by rw[t,hD];exact h4
  exact (Sep.swap (As:=T++J_ 0) (Bs:=Γ) (by rw[Aej];exact h5))
 refine ⟨w.heap.size+1,[mark w.heap.size],W1,{target:=.fn (.func gf) V.toArray,args:= #[.func (.yield (w.heap.size+1)) #[] #[]]},W1,gf,#[.func (.yield (w.heap.size+1)) #[] #[]]++V.toArray,W1,?_,?_,λ_ _=>trivial,?_,λq=>(by cases q),?_⟩
 ·rw[<-f];exact run_enterLoop_outer _ _ _ _ _
 ·simp only[resolve,r.ev hg]
  simp[go_sem]
 ·simp[invoke,go_sem,eg]
 rw[<-hD] at f ⊢;have d:∀{i:Nat} {w:World},Sep z (Γ++(T++J_ i)) w->Sep z (YtemljpjnhjnncaaGreatDoor.bk D (.deferred (some []))::YtemljpjnhjnncaaGreatDoor.bk (D+1) (B8 .ready fn a.tmps m assign body D)::(J_ i++Γ)) w:=λh=>by
  have:=h.swap;rw[Aej,t] at this;exact this
 have k:∀(i:Nat) (w:World),Sep z (YtemljpjnhjnncaaGreatDoor.bk D (.deferred (some []))::YtemljpjnhjnncaaGreatDoor.bk (D+1) (B8 .ready fn a.tmps m assign body D)::(J_ i++Γ)) w->Sep z (Γ++(T++J_ i)) w:=λi w h=>by
  have h':Sep z (T++(J_ i++Γ)) w:=by rw[t];exact h
  exact (Sep.swap (As:=T++J_ i) (Bs:=Γ) (by rw[Aej];exact h'))
 have key:=a2 z (D+1) (λi=>T++J_ i) ?_ W1 H1
 ·refine CallsIn.mono (show CallsIn Fence.wide 0 P gf _ W1 _ from key) ?_
  rintro e w2 ⟨⟨v,rfl⟩,H2⟩;simp only[Aeh] at H2;have H2:=d H2;refine ⟨none,_,run_endLoop (H2.bk 1 Z) O,?_⟩;refine K D _ ?_ _ ⟨r.size,by show [mark D]++a.defers=_;rw[r.defers];rfl,r.get⟩;have H3:=H2.setObj 1 (.loop {state:=.exhausted,pending:=none,fn,tmps:=a.tmps,params:= #[m],assign,body,defers:=D}) Z;exact H3.pick 2 [0] Z
 intro i v hv w2 H2;rw[Aeq] at hv;obtain ⟨u,hu,rfl⟩:=AgA.1 hv;have H2:=d H2;have hy:=run_yield (P:=P) (args:=[u].toArray) (H2.bk 1 Z) O;refine ⟨fn,_,assign,body,hy,?_⟩;refine roundIn_of_wpIn (F:=FX none) trivial ?_;have a0:Fr n [] ((m,u)::L) {tmps:=(((#[m]:Array Tmp).zip [u].toArray).foldl (λtmps (x:Tmp×Value)=>tmps.setIfInBounds x.1 x.2) a.tmps),defers:=[]} :=by
  have h0:Fr n [] L {tmps:=a.tmps,defers:=[]} :=⟨r.size,Z,r.get⟩;have:=h0.put m u ht;simpa [Act.put] using this
 have hr:=c (some (D+1)) i u hu w2 _ a0;refine wpIn_mono (show assign.wpIn ((FX none).inRound (D+1)) 0 P _ _ w2 from hr) ?_;intro e a1 w1 q
 cases e with
 | normal=>
  obtain ⟨rfl,j⟩:=q;refine ⟨_,run_beginRound (H2.bk 1 Z) Z,?_⟩;have H3:=H2.setObj 1 (B8 .busy fn a.tmps m assign body D) Z;have H4:Sep z ([YtemljpjnhjnncaaGreatDoor.bk D (.deferred (some [])),YtemljpjnhjnncaaGreatDoor.bk (D+1) (B8 .busy fn a.tmps m assign body D)]++(J_ i++Γ)) _:=H3;have H5:=H4.swap;rw[Aej] at H5;refine wpIn_mono (show body.wpIn ((FX none).inRound (D+1)) 0 P _ _ _ from j _ _ H5) ?_;intro e a3 s p
  cases e with
  | normal=>
   have H6:Sep z (J_ (i+1)++(Γ++[YtemljpjnhjnncaaGreatDoor.bk D (.deferred (some [])),YtemljpjnhjnncaaGreatDoor.bk (D+1) (B8 .busy fn a.tmps m assign body D)])) s:=p;rw[<-Aej] at H6;have H7:Sep z (YtemljpjnhjnncaaGreatDoor.bk D (.deferred (some []))::YtemljpjnhjnncaaGreatDoor.bk (D+1) (B8 .busy fn a.tmps m assign body D)::(J_ (i+1)++Γ)) s:=H6.swap;refine ⟨_,_,run_endRound none (H7.bk 1 Z),Z,k _ _ ?_⟩;exact H7.setObj 1 (B8 .ready fn a.tmps m assign body D) Z
  | exit id=>exact p.elim
  | ret=>exact p.elim
  | goto l=>exact p.elim
  | panic ch=>exact p.elim
  | outgrown=>exact p.elim
 | exit id=>exact q.elim
 | ret=>exact q.elim
 | goto l=>exact q.elim
 | panic ch=>exact q.elim
 | outgrown=>exact q.elim

def KK(P:Program)(fn:Func)(R:Value->World->Prop)(a:Act)(w:World):Prop:=
 (a.defers=[]/\∃v,(results fn a.tmps).run P w=.ok v w/\R v w)\/∃D w',a.defers=[mark D]/\(Instr.takeDeferred D).run P w=.ok [] w'/\∃v,(results fn a.tmps).run P w'=.ok v w'/\R v w'
theorem NP{P:Program}{f:FuncId}{b:Func}{c:Code}{w:World}{R:Value->World->Prop}(m:P.funcs[f]?=some b)(p:b.body=some c)(n:Nat)(k:b.ntmps=n)(d:Nat.ble V.length n=true)
  (h:∀a,Fr n [] (first 0 V) a->c.wp P (Qp (KK P b R) IK (KK P b R)) a w):Calls P f V.toArray w (Ret R):=by
 refine (callsIn_wide (n:=0)).1 (callsIn_of_wp_marks m p trivial (wpIn_mono ((wpIn_wide (n:=0)).2 (h _ (by rw[k];exact Fr.start V n (by simpa using d)))) λe a w q=>?_) Z);have fin:KK P b R a w->LeavesInM Fence.wide 0 P b a.tmps (Ret R) a.defers .returning w:=λq=>by
  rcases q with ⟨g,v,j,i⟩|⟨D,o,g,r,v,j,i⟩
  ·rw[g];exact ⟨v,j,i⟩
  rw[g];exact ⟨by simp,.inl ⟨D,o,Z,r,v,j,i⟩⟩
 cases e with
 | normal=>exact fin q
 | ret=>exact fin q
 | exit id=>exact q.elim
 | goto l=>exact q.elim
 | panic ch=>exact q.elim
 | outgrown=>exact q.elim
theorem NQ{P:Program}{b:Func}{R:Value->World->Prop}{n:Nat}{L:List (Nat×Value)}{w:World}{rs:List ResultVar}(f:b.results=rs.toArray)(vs:List Value)(d:EP P L w rs vs){v:Value}(c:G7 vs=v)(h:R v w):∀a,Fr n [] L a->KK P b R a w:=λa e=>.inl (Ft f vs d c h a e)
theorem NR{P:Program}{b:Func}{R:Value->World->Prop}{n:Nat}{L:List (Nat×Value)}{w:World}(H:Sep z (YtemljpjnhjnncaaGreatDoor.bk m (.deferred (some []))::Γ) w){rs:List ResultVar}(f:b.results=rs.toArray)(vs:List Value)(e:∀w,EP P L w rs vs){v:Value}(d:G7 vs=v)(h:∀w,Sep z Γ w->R v w):∀a,Fr n [mark m] L a->KK P b R a w:=λa c=>
 .inr ⟨m,w.putObj m (.deferred none),c.defers,run_takeDeferred (H.bk 0 Z),v,by rw[<-d];exact Hr c f (e _),h _ ((H.setObj 0 (.deferred none) Z).pick 1 [] Z)⟩
end
section
def GM(r m clk:Nat)(seen:List Nat):Ai:=bk r (.mapIter (some m) clk seen.toArray clk)
def Cm(l:List IE)(seen:List Nat):List IE:=l.filter λp=> !seen.contains p.2.2
theorem C7{l:List IE}{p:IE}(h:p∈Cm l R):p∈l/\p.2.2∉R:=by
 simpa [Cm] using h
theorem ST(l:List IE)(seen:List Nat):(l.map Cw).toArray.filter (λe=> !seen.toArray.contains e.born)=((Cm l seen).map Cw).toArray:=by
 simp[Cm,Agl,Function.comp_def];rfl
theorem ED{l:List IE}{p:IE}(h:p∈Cm l R):(Cm l (R++[p.2.2])).length<(Cm l R).length:=by
 obtain ⟨b,c⟩:=C7 h;unfold Cm;refine filter_lt _ _ (λx a=>?_) p ?_ ?_ l b
 ·simp only[List.contains_eq_mem,Aer,Bool.not_eq_true',decide_eq_false_iff_not,not_or] at a ⊢;exact a.1
 ·simpa using c
 simp
def SU:Option IE->Value
 | none=>.tuple #[.bool false]
 | some p=>.tuple #[.bool true,.int .i64 p.1,p.2.1]
def JV(seen:List Nat):Option IE->List Nat
 | none=>seen
 | some p=>seen++[p.2.2]
def nxP(l:List IE)(seen:List Nat):Option IE->Prop
 | none=>Cm l seen=[]
 | some p=>p∈Cm l seen
section
variable{P:Program}{C:World->Prop}{o:Oper}{w z:World}{Γ:List Ai}{n:Nat}{ds:List Deferred}{L:List (Nat×Value)}{x y:Operand}
theorem Px{l:List IE}(o:w.heap[r]?=some (.mapIter (some m) i R.toArray i))(hm:w.heap[m]?=some (.map (l.map Cw).toArray i))(d:∀p∈l,p.2.2<i)(ty:TypeId):
  ∃q:Option IE,nxP l R q/\∃a:World,(a=w\/a=w.drew)/\(Instr.next (Y r) false ty).run P w=.ok (SU q) {a with heap:=a.heap.setIfInBounds r (.mapIter (some m) i (JV R q).toArray i)} :=by
 have a0:r<w.heap.size:=(Ae3.1 o).1;have hE:∀x∈(l.map Cw).toArray.toList,x.born<i:=λx c=>by
  simp only[Aem] at c;obtain ⟨p,hp,rfl⟩:=c;exact d p hp
 simp only[Instr.next,getObj,Aex,Sem.run,o,hm,Result.andThen,next_test_false R.toArray _ i i hE (Aek _),Afu,if_false];rw[ST];have b:∀p∈Cm l R,p.2.2<i:=λp hp=>d p (C7 hp).1;generalize hG:Cm l R=G at b;have e1:((G.map Cw).toArray).filter (λx=>decide (x.born<i))=(G.map Cw).toArray:=Array.filter_eq_self.2 (λx c=>by
  simp only[List.mem_toArray,Aem] at c;obtain ⟨p,hp,rfl⟩:=c;exact decide_eq_true (b p hp))
 have e2:((G.map Cw).toArray).filter (λx=>decide (x.born>=i))= #[]:=by
  rw[Array.filter_eq_empty_iff];intro x c;simp only[List.mem_toArray,Aem] at c;obtain ⟨p,hp,rfl⟩:=c;have:=b p hp;simp[Cw];omega
 simp only[e1,e2,Array.append_empty];have f:∀u:World,u.heap=w.heap->({u with heap:=u.heap.setIfInBounds r (.mapIter (some m) i R.toArray i)} :World)=u:=λu hu=>by
  have:u.heap.setIfInBounds r (.mapIter (some m) i R.toArray i)=u.heap:=by
   rw[hu];apply Array.ext_getElem?;intro k;rw[Array.getElem?_setIfInBounds];split
   ·rename_i e;subst e;exact o.symm
   rfl
  rw[this]
 cases G with
 | nil=>
  refine ⟨none,hG,w,.inl Z,?_⟩;show _=Result.ok _ ({w with heap:=w.heap.setIfInBounds r (.mapIter (some m) i R.toArray i)} :World);rw[f w Z];simp[choose,Sem.run,Question.forced,SU]
 | cons p0 G=>
  have s:((((p0::G).map Cw).toArray).isEmpty)=false:=by simp[Array.isEmpty]
  simp only[s,Afu,if_false,Array.empty_append,Array.size_map];generalize hK:(p0::G)=K at hG;have t:0<K.length:=by rw[<-hK];simp
  have z:∃(j:Nat) (a:World),j<K.length/\(a=w\/a=w.drew)/\(choose (Question.mapNext ((K.map Cw).toArray).size)).run P w=.ok j a:=by
   by_cases hf:((K.map Cw).toArray).size<=1
   ·exact ⟨0,w,by omega,.inl Z,by simp only[choose,Sem.run,Question.forced,hf,decide_true,if_true]⟩
   rw[List.size_toArray,Aeh] at hf ⊢;exact ⟨(Question.mapNext K.length).cut (w.tape w.drawn (Question.mapNext K.length)),w.drew,Nat.mod_lt _ t,.inr Z,by
    simp only[choose,Sem.run,Question.forced,decide_eq_true_eq,hf,if_false,Afu];rfl⟩
  obtain ⟨j,a,hj,g,h⟩:=z;have y:a.heap=w.heap:=by rcases g with rfl|rfl<;>rfl
  refine ⟨some K[j],by show K[j]∈Cm l R;rw[hG];exact AfQ hj,a,g,?_⟩;have n:∀o':Obj,(setObj r o').run P a=.ok () {a with heap:=a.heap.setIfInBounds r o'} :=λo'=>by
   simp[setObj,Sem.run,y,o]
  have v:((K.map Cw).toArray)[j]?=some (Cw K[j]):=by simp[hj]
  simp only[h,Array.getElem?_map,v,AeU,Aex,n,Result.andThen];simp[SU,JV,Cw,Sem.run]
theorem HK(j:Nat){e:TypeId}{l:List IE}(H:Sep z Γ w)(d:Γ[j]?=some (AI m l i))(k:o.op=.range T x)(f:EQ P T=some e)(g:ev L x=some (.map (some m))):
  CA P n ds L o w (λv w'=>∃r,v=Y r/\Sep z (GM r m i []::Γ) w'):=λa h=>by
 obtain ⟨b,q,c,p⟩:=D6 f;refine ⟨_,_,?_,w.heap.size,Z,H.new (Dv w (.mapIter (some m) i #[] i)) (Aek _) (by show (w.heap.push _)[w.heap.size]?=_;simp)⟩;simp only[execOp,k,h.ev g,Aex,run_range_map w T b e m _ i c (H.bk j d),Aet,AeC];rfl
theorem IW(i j:Nat){l:List IE}(H:Sep z Γ w)(hi:Γ[i]?=some (GM r m e R))(t:Γ[j]?=some (AI m l e))(y:o.op=.next x false)(u:ev L x=some (Y r))(c:∀p∈l,p.2.2<e):
  CA P n ds L o w (λv w'=>∃q:Option IE,v=SU q/\nxP l R q/\Sep z (Γ.set i (GM r m e (JV R q))) w'):=λa hF=>by
 have s:=H.bk i hi;obtain ⟨q,hq,b,h,f⟩:=Px (P:=P) s (H.bk j t) c o.type;have g:r<w.heap.size:=(Ae3.1 s).1;have d:b.heap=w.heap/\b.os=w.os/\b.tape=w.tape/\b.output=w.output:=by rcases h with rfl|rfl<;>exact ⟨Z,Z,Z,Z⟩
 refine ⟨_,{b with heap:=b.heap.setIfInBounds r (.mapIter (some m) e (JV R q).toArray e)},?_,q,Z,hq,H.write i hi d.2.1 d.2.2.1 d.2.2.2 (o':=.mapIter (some m) e (JV R q).toArray e) (by show (b.heap.setIfInBounds r _)[r]?=_;rw[d.1];simp[g]) (λk hk=>by show (b.heap.setIfInBounds r _)[k]?=_;rw[d.1];rw[AfR (AfU hk)])⟩;simp only[execOp,y,hF.ev u,Aex,f,Aet,AeC]
theorem KL{q:Option IE}(b:o.op=.extract x 0)(a:ev L x=some (SU q)):Av P C n ds L o (.bool q.isSome):=by
 cases q with
 | none=>exact Fg b a Z
 | some p=>exact Fg b a Z
theorem HL{l:List IE}{p:IE}(k:o.op=.entry x)(g:ev L x=some (Y r))(f:∀w,C w->w.heap[r]?=some (.mapIter (some m) i (R++[p.2.2]).toArray i)/\w.heap[m]?=some (.map (l.map Cw).toArray i))(hp:p∈l)(c:(l.map (·.2.2)).Nodup):
  Av P C n ds L o (.tuple #[I p.1,p.2.1]):=λa h w b=>by
 obtain ⟨d,e⟩:=f w b;have j:((l.map Cw).toArray).find? (λx=>x.born==p.2.2)=some (Cw p):=by
  rw[<-Array.find?_toList];exact find_born (Cw p) _ (by simpa [Function.comp_def,Cw] using c) (AeB hp)
 simp only[execOp,k,h.ev g,Instr.entry,getObj,Aex,Sem.run,d,e,Result.andThen,<-List.push_toArray,Array.back?_push,bne_self_eq_false,Afu,if_false,j];rfl
theorem Jq(i:Nat){t e:TypeId}{m clk:Nat}{l:List IE}(H:Sep z Γ w)(hi:Γ[i]?=some (AI m l clk))(k:o.op=.call {callee:=.builtin .clear,args:= #[x],argTypes:= #[t]})(j:EQ P t=some e)(g:ev L x=some (.map (some m))):
  CA P n ds L o w (λv w'=>v=.tuple #[]/\Sep z (Γ.set i (AI m [] clk)) w'):=λa h=>by
 obtain ⟨p,s,f,r⟩:=D6 j;have c:w.heap[m]?=some (.map (l.map Cw).toArray clk):=H.bk i hi;have d:m<w.heap.size:=(Ae3.1 c).1;have b:(Builtin.clear_ #[t] o.type #[.map (some m)]).run P w=.ok (.tuple #[]) {w with heap:=w.heap.setIfInBounds m (.map #[] clk)} :=by
  simp[Builtin.clear_,run_underlying f,getObj,setObj,Sem.run,c]
 refine ⟨_,{w with heap:=w.heap.setIfInBounds m (.map #[] clk)},?_,Z,H.write i hi Z Z Z (by show (w.heap.setIfInBounds m (.map #[] clk))[m]?=_;simp[d]) (λq hq=>by show (w.heap.setIfInBounds m _)[q]?=_;rw[AfR (AfU hq)])⟩;simp only[execOp,k,resolve,invoke,builtin,Aex,AeC,Aet,AeZ,AeL,AfB,h.ev g,b]
end
def Xp(P:Program)(gf:FuncId)(lb:List Value)(pre:List Ai){σ:Type}(stp:σ->Value->σ->Prop)(s0:σ)(fin:σ->Prop):Prop:=
 ∀(z:World) (l:Nat) (J_:σ->List Ai),(∀s v s' F,stp s v s'->∀w,Sep z (pre++(F++J_ s)) w->YieldAt (FX none) 0 P l #[v] w (λe w'=>e=.returned (.bool true)/\Sep z (pre++(F++J_ s')) w'))->
  ∀w,Sep z (pre++J_ s0) w->CallsIn (FX none) 0 P gf (#[Value.func (.yield l) #[] #[]]++lb.toArray) w (λe w'=>(∃v,e=.returned v)/\∃s,fin s/\Sep z (pre++J_ s) w')
theorem NS{P:Program}{R:Act->World->Prop}{X:Nat->Act->World->Prop}{z w:World}{n:Nat}{ds:List Deferred}{L:List (Nat×Value)}{g:Operand}{assign body:Code}{gf:FuncId}{pre:List Ai}{σ:Type}{stp:σ->Value->σ->Prop}{r:σ}{fin:σ->Prop}
  (J_:σ->List Ai)(hg:ev L g=some (.func (.func gf) #[] V.toArray))(eg:∀args w,(callFunc gf args).run P w=.ok (.enter gf args) w)(ht:Nat.blt m n=true)(a4:Xp P gf V pre stp r fin)(H:Sep z (J_ r++pre) w)
  (c:∀(ro:Option Nat) (i:σ) (v:Value) (j:σ),stp i v j->∀w a,Fr n [] ((m,v)::L) a->
   RW P ro assign (Qp (λa1 w1=>w1=w/\∀(F:List Ai) (w:World),Sep z (J_ i++(pre++F)) w->RW P ro body (Qp (λ_ w3=>Sep z (J_ j++(pre++F)) w3) IK (λ_ _=>False)) a1 w) IK (λ_ _=>False)) a w)
  (K:∀D w' s,fin s->Sep z (YtemljpjnhjnncaaGreatDoor.bk D (.deferred (some []))::(J_ s++pre)) w'->∀a,Fr n (mark D::ds) L a->N a w'):
  ∀a,Fr n ds L a->(Code.rangeFunc g #[m] assign body).wp P (Qp N X R) a w:=by
 intro a y;refine (wpIn_wide (n:=0)).1 ?_;refine wpIn_rangeFunc ?_;intro fn _;have a0:Fence.wide.round=none:=rfl;rw[a0];obtain ⟨W1,f⟩:∃W1,(w.alloc (.deferred (some []))).alloc (B8 .ready fn a.tmps m assign body w.heap.size)=W1:=⟨_,Z⟩;obtain ⟨D,hD⟩:∃D,D=w.heap.size:=⟨_,Z⟩;obtain ⟨T,hT⟩:∃T:List Ai,T=[YtemljpjnhjnncaaGreatDoor.bk D (.deferred (some [])),YtemljpjnhjnncaaGreatDoor.bk (D+1) (B8 .ready fn a.tmps m assign body D)]:=⟨_,Z⟩;have H1:Sep z (pre++(T++J_ r)) W1:=by
  have h1:=H.new (b:=w.heap.size) (o:=.deferred (some [])) (Dv w (.deferred (some []))) (Aek _) (by show (w.heap.push _)[w.heap.size]?=_;simp);have h2:=h1.new (b:=w.heap.size+1) (o:=B8 .ready fn a.tmps m assign body w.heap.size) (Dv _ (B8 .ready fn a.tmps m assign body w.heap.size)) O (by
   show ((w.heap.push _).push _)[w.heap.size+1]?=_;rw[Ahd,if_pos O])
  have h3:Sep z (YtemljpjnhjnncaaGreatDoor.bk (w.heap.size+1) (B8 .ready fn a.tmps m assign body w.heap.size)::YtemljpjnhjnncaaGreatDoor.bk w.heap.size (.deferred (some []))::(J_ r++pre)) W1:=f▸h2;have h4:=(h3.pick 2 [1,0] Z);have h5:Sep z (T++(J_ r++pre)) W1:=by rw[hT,hD];exact h4
  exact (Sep.swap (As:=T++J_ r) (Bs:=pre) (by rw[Aej];exact h5))
 refine ⟨w.heap.size+1,[mark w.heap.size],W1,{target:=.fn (.func gf) V.toArray,args:= #[.func (.yield (w.heap.size+1)) #[] #[]]},W1,gf,#[.func (.yield (w.heap.size+1)) #[] #[]]++V.toArray,W1,?_,?_,λ_ _=>trivial,?_,λq=>(by cases q),?_⟩
 ·rw[<-f];exact run_enterLoop_outer _ _ _ _ _
 ·simp only[resolve,y.ev hg]
  simp[go_sem]
 ·simp[invoke,go_sem,eg]
 rw[<-hD] at f ⊢;have d:∀{G:List Ai} {i:σ} {w:World},Sep z (G++(T++J_ i)) w->Sep z (YtemljpjnhjnncaaGreatDoor.bk D (.deferred (some []))::YtemljpjnhjnncaaGreatDoor.bk (D+1) (B8 .ready fn a.tmps m assign body D)::(J_ i++G)) w:=λh=>by
  have:=h.swap;rw[Aej,hT] at this;exact this
 have k:∀(G:List Ai) (i:σ) (w:World),Sep z (YtemljpjnhjnncaaGreatDoor.bk D (.deferred (some []))::YtemljpjnhjnncaaGreatDoor.bk (D+1) (B8 .ready fn a.tmps m assign body D)::(J_ i++G)) w->Sep z (G++(T++J_ i)) w:=λG i w h=>by
  have h':Sep z (T++(J_ i++G)) w:=by rw[hT];exact h
  exact (Sep.swap (As:=T++J_ i) (Bs:=G) (by rw[Aej];exact h'))
 have key:=a4 z (D+1) (λi=>T++J_ i) ?_ W1 H1
 ·refine CallsIn.mono (show CallsIn Fence.wide 0 P gf _ W1 _ from key) ?_
  rintro e w2 ⟨⟨v,rfl⟩,s,hs,H2⟩;have H2:=d H2;refine ⟨none,_,run_endLoop (H2.bk 1 Z) O,?_⟩;refine K D _ s hs ?_ _ ⟨y.size,by show [mark D]++a.defers=_;rw[y.defers];rfl,y.get⟩;have H3:=H2.setObj 1 (.loop {state:=.exhausted,pending:=none,fn,tmps:=a.tmps,params:= #[m],assign,body,defers:=D}) Z;exact H3.pick 2 [0] Z
 intro i u j F hu w2 H2;rw[<-Aej] at H2;have H2:=d H2;have hy:=run_yield (P:=P) (args:=[u].toArray) (H2.bk 1 Z) O;refine ⟨fn,_,assign,body,hy,?_⟩;refine roundIn_of_wpIn (F:=FX none) trivial ?_;have a2:Fr n [] ((m,u)::L) {tmps:=(((#[m]:Array Tmp).zip [u].toArray).foldl (λtmps (x:Tmp×Value)=>tmps.setIfInBounds x.1 x.2) a.tmps),defers:=[]} :=by
  have h0:Fr n [] L {tmps:=a.tmps,defers:=[]} :=⟨y.size,Z,y.get⟩;have:=h0.put m u ht;simpa [Act.put] using this
 have hr:=c (some (D+1)) i u j hu w2 _ a2;refine wpIn_mono (show assign.wpIn ((FX none).inRound (D+1)) 0 P _ _ w2 from hr) ?_;intro e a1 w1 q
 cases e with
 | normal=>
  obtain ⟨rfl,p⟩:=q;refine ⟨_,run_beginRound (H2.bk 1 Z) Z,?_⟩;have H3:=H2.setObj 1 (B8 .busy fn a.tmps m assign body D) Z;have H4:Sep z ([YtemljpjnhjnncaaGreatDoor.bk D (.deferred (some [])),YtemljpjnhjnncaaGreatDoor.bk (D+1) (B8 .busy fn a.tmps m assign body D)]++(J_ i++(pre++F))) _:=H3;have H5:=H4.swap;rw[Aej,Aej] at H5;refine wpIn_mono (show body.wpIn ((FX none).inRound (D+1)) 0 P _ _ _ from p _ _ H5) ?_;intro e a3 w3 t
  cases e with
  | normal=>
   have H6:Sep z (J_ j++(pre++(F++[YtemljpjnhjnncaaGreatDoor.bk D (.deferred (some [])),YtemljpjnhjnncaaGreatDoor.bk (D+1) (B8 .busy fn a.tmps m assign body D)]))) w3:=t;rw[<-Aej pre,<-Aej (J_ j)] at H6;have H7:Sep z (YtemljpjnhjnncaaGreatDoor.bk D (.deferred (some []))::YtemljpjnhjnncaaGreatDoor.bk (D+1) (B8 .busy fn a.tmps m assign body D)::(J_ j++(pre++F))) w3:=H6.swap;refine ⟨_,_,run_endRound none (H7.bk 1 Z),Z,?_⟩;rw[<-Aej];refine k _ _ _ ?_;exact H7.setObj 1 (B8 .ready fn a.tmps m assign body D) Z
  | exit id=>exact t.elim
  | ret=>exact t.elim
  | goto l=>exact t.elim
  | panic ch=>exact t.elim
  | outgrown=>exact t.elim
 | exit id=>exact q.elim
 | ret=>exact q.elim
 | goto l=>exact q.elim
 | panic ch=>exact q.elim
 | outgrown=>exact q.elim
theorem UO{P:Program}{R:Act->World->Prop}{X:Nat->Act->World->Prop}{z w:World}{n:Nat}{ds:List Deferred}{L:List (Nat×Value)}{g:Operand}{b f:Code}{gf:FuncId}{pre:List Ai}{σ:Type}{stp:σ->Value->σ->Prop}{o:σ}{fin:σ->Prop}
  (J_:σ->List Ai)(y:ev L g=some (.func (.func gf) #[] V.toArray))(t:∀args w,(callFunc gf args).run P w=.ok (.enter gf args) w)(u:Nat.blt m n=true)(k:Xp P gf V pre stp o fin)(H:Sep z (J_ o++pre) w)
  (d:∀(ro:Option Nat) (i:σ) (v:Value) (j:σ),stp i v j->∀w a,Fr n [] ((m,v)::L) a->
   RW P ro b (Qp (λa1 p=>p=w/\∀(F:List Ai) (w:World),Sep z (J_ i++F) w->RW P ro f (Qp (λ_ w3=>Sep z (J_ j++F) w3) IK (λ_ _=>False)) a1 w) IK (λ_ _=>False)) a w)
  (K:∀D r s,fin s->Sep z (YtemljpjnhjnncaaGreatDoor.bk D (.deferred (some []))::(J_ s++pre)) r->∀a,Fr n (mark D::ds) L a->N a r):
  ∀a,Fr n ds L a->(Code.rangeFunc g #[m] b f).wp P (Qp N X R) a w:=
 NS J_ y t u k H (λro i v j h w a x=>by
  refine wpIn_mono (d ro i v j h w a x) ?_;intro e a1 p q
  cases e with
  | normal=>exact ⟨q.1,λF w hs=>q.2 _ w hs⟩
  | exit id=>exact q.elim
  | ret=>exact q.elim
  | goto l=>exact q.elim
  | panic c=>exact q.elim
  | outgrown=>exact q.elim) K
end
end Go.Proofs.YtemljpjnhjnncaaGreatDoor
