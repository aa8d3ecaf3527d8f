/-
  Steps to: Law VolumesPlay: volumes are maps; room is refused only where there is none. No condition.
-/
import Derived.Test.YtnifkcmmanmbbaaGreatDoorCards
import Derived.Test.YtnifkcmmanmbbaaGreatDoorTie
import Derived.WalkKit
import Derived.WalkSpells
import Derived.Deep.Quiet
import Derived.KernelRfl
import Derived.IntWalk
import Derived.Maps.AppendAt
import Derived.Laws.AppendOwnNone
import Derived.Laws.CopyRow
import Derived.StillTail
import Derived.Deep.RegionHeld
import Derived.Laws.IdiomStrings
import Derived.Laws.BytesArg
import Derived.Laws.OwnMore
import Derived.Lib.Strings
import Derived.ArgAppend
import Derived.Test.YtnifkcmmanmbbaaGreatDoorRows
import Derived.RangeFuncLeaves
import Derived.RangeFuncRecord
import Derived.RangeFuncCalls
import Derived.RangeFuncSeq
import Derived.OrdersIn
import Derived.TacticsIn
import Derived.Laws.IdiomRangeMap
import Derived.Defers
import Derived.Laws.LoneSync
import Derived.LoopN
import Derived.Lib.TrailingZeros
import Derived.Test.YtnifkcmmanmbbaaGreatDoorProg
import Derived.Shelf.Sort.Plain
import Derived.Shelf.Slices.In.SortNone
import Derived.Shelf.Small.Bits
import Derived.DataReads
import Derived.ProofKit
import Derived.OpenShut
import Derived.Lib.SmallJoins
import Derived.Deep.DeepHandedRow
import Derived.Lib.LaidTab
set_option maxRecDepth 100000
set_option linter.unusedSimpArgs false
set_option linter.unusedVariables false
open Go.Proofs.Tryz
namespace Go.Proofs.YtnifkcmmanmbbaaGreatDoor
open Go.RowKit
section
theorem Z{α : Sort _}{a : α}: a=a := rfl
theorem U {p : Prop} (h : p := by omega) : p := h
theorem J {p : Prop} (h : p := by kernel_rfl) : p := h
theorem O {p : Prop} (h : p := by simp) : p := h
abbrev Ad6:=@List.getElem?_eq_some_iff
abbrev Ad7:=@List.getElem?_eq_getElem
abbrev Ad8:=@List.mem_of_getElem?
abbrev Ad9:=@List.length_append
abbrev Aea:=@List.length_map
abbrev Aeb:=@List.length_cons
abbrev Aec:=@List.append_assoc
abbrev Aed:=@Nat.le_refl
abbrev Aee:=@List.take_of_length_le
abbrev Aef:=@Option.some.injEq
abbrev Aeg:=@List.getElem?_append_left
abbrev Aeh:=@List.mem_map
abbrev Aei:=@List.mem_cons
abbrev Aej:=@List.getElem?_map
abbrev Aek:=@List.mem_append
abbrev Ael:=@Nat.lt_or_ge
abbrev Aem:=@Result.andThen_ok
abbrev Aen:=@List.getElem?_append_right
abbrev Aeo:=@List.take_append_of_le_length
abbrev Aep:=@List.drop_zero
abbrev Aeq:=@Sem.run_bind
abbrev Aer:=@Bool.eq_iff_iff
abbrev Aes:=@List.length_take
abbrev Aet:=@List.getElem?_cons_succ
abbrev Aeu:=@List.mem_map_of_mem
abbrev Aev:=@Sem.run_pure
abbrev Aew:=@List.length_nil
abbrev Aex:=@Bool.and_eq_true
abbrev Aey:=@List.take_take
abbrev Aez:=@Nat.min_eq_left
abbrev AeA:=@List.take_left'
abbrev AeB:=@List.flatMap_cons
abbrev AeC:=@List.getElem?_eq_none
abbrev AeD:=@List.map_append
abbrev AeE:=@List.map_cons
abbrev AeF:=@List.drop_of_length_le
abbrev AeG:=@List.length_drop
abbrev AeH:=@List.take_add_one
abbrev AeI:=@List.take_append_drop
abbrev AeJ:=@Nat.zero_le
abbrev AeK:=@Nat.mul_one
abbrev AeL:=@List.nil_append
abbrev AeM:=@List.getElem?_cons_zero
abbrev AeN:=@Option.map_some
abbrev AeO:=@List.drop_append_of_le_length
abbrev AeP:=@List.length_set
abbrev AeQ:=@List.append_nil
abbrev AeR:=@List.map_toArray
abbrev AeS:=@List.getElem?_take
abbrev AeT:=@Array.getElem?_eq_none
abbrev AeU:=@Array.getElem?_eq_some_iff
abbrev AeV:=@List.getElem?_of_mem
abbrev AeW:=@List.mem_iff_getElem?
abbrev AeX:=@List.drop_eq_getElem_cons
abbrev AeY:=@List.drop_succ_cons
abbrev AeZ:=@Int.toNat_natCast
abbrev Ae0:=@List.take_succ_cons
abbrev Ae1:=@List.drop_append
abbrev Ae2:=@List.take_length
abbrev Ae3:=@Option.isSome_iff_exists
abbrev Ae4:=@List.nodup_append
abbrev Ae5:=@List.set_eq_take_append_cons_drop
abbrev Ae6:=@List.mem_filter
abbrev Ae7:=@List.count_cons
abbrev Ae8:=@Classical.byContradiction
abbrev Ae9:=@List.getElem?_toArray
abbrev Afa:=@List.mem_of_mem_take
abbrev Afb:=@List.perm_middle
abbrev Afc:=@List.nodup_cons
abbrev Afd:=@List.length_replicate
abbrev Afe:=@List.Perm.cons
abbrev Aff:=@List.getElem?_drop
abbrev Afg:=@Int.le_refl
abbrev Afh:=@List.map_map
abbrev Afi:=@List.getElem?_set
abbrev Afj:=@List.map_take
abbrev Afk:=@List.ext_getElem?
abbrev Afl:=@List.count_append
abbrev Afm:=@Bool.false_eq_true
abbrev Afn:=@List.mem_singleton
abbrev Afo:=@List.mem_of_mem_drop
abbrev Afp:=@List.pairwise_iff_getElem
abbrev Afq:=@List.getElem?_set_self
abbrev Afr:=@List.Perm.append_right
abbrev Afs:=@Option.map_none
abbrev Aft:=@List.map_nil
abbrev Afu:=@Nat.mod_eq_of_lt
abbrev Afv:=@List.cons_append
abbrev Afw:=@List.map_congr_left
abbrev Afx:=@List.perm_iff_count
abbrev Afy:=@Prod.mk.injEq
abbrev Afz:=@List.take_zero
abbrev AfA:=@List.exists_cons_of_ne_nil
abbrev AfB:=@Nat.mul_le_mul_right
abbrev AfC:=@List.length_zip
abbrev AfD:=@Nat.lt_trichotomy
abbrev AfE:=@List.pairwise_map
abbrev AfF:=@Nat.eq_of_beq_eq_true
abbrev AfG:=@IntWalk.i64_in
abbrev AfH:=@Nat.zero_add
abbrev AfI:=@List.filter_append
abbrev AfJ:=@List.getElem_mem
abbrev AfK:=@Array.getElem?_setIfInBounds_ne
abbrev AfL:=@List.mem_range
abbrev AfM:=@List.drop_left'
abbrev AfN:=@Ne.symm
abbrev AfO:=@List.length_filter_le
abbrev AfP:=@List.map_drop
abbrev AfQ:=@List.drop_take
abbrev AfR:=@List.Perm.swap
abbrev AfS:=@Int.eq_ofNat_of_zero_le
abbrev AfT:=@List.set_append
abbrev AfU:=@List.toList_toArray
abbrev AfV:=@List.flatMap_append
abbrev AfW:=@List.all_eq_true
abbrev AfX:=@List.mem_replicate
abbrev AfY:=@Int.emod_lt_of_pos
abbrev AfZ:=@List.perm_append_comm
abbrev Af0:=@Nat.shiftRight_eq_div_pow
abbrev Af1:=@List.replicate_append_replicate
abbrev Af2:=@BitVec.toNat_ushiftRight
abbrev Af3:=@List.mem_iff_getElem
abbrev Af4:=@Option.some.inj
abbrev Af5:=@Nat.add_assoc
abbrev Af6:=@Nat.add_sub_cancel_left
abbrev Af7:=@List.length_eq_zero_iff
abbrev Af8:=@BitVec.toNat_and
abbrev Af9:=@List.mem_flatMap
abbrev Aga:=@List.getElem?_eraseIdx
abbrev Agb:=@Nat.le_of_eq
abbrev Agc:=@List.filter_map
abbrev Agd:=@Int.emod_nonneg
abbrev Age:=@List.set_getElem_self
abbrev Agf:=@Int.emod_eq_of_lt
abbrev Agg:=@List.getElem?_set_ne
abbrev Agh:=@List.mem_cons_of_mem
abbrev Agi:=@Nat.mul_add
abbrev Agj:=@DataW.trod_int
abbrev Agk:=@Array.setIfInBounds_comm
abbrev Agl:=@Nat.le_trans
abbrev Agm:=@Nat.mul_le_mul_left
abbrev Agn:=@List.filter_eq_self
abbrev Ago:=@Calls.mono
abbrev Agp:=@List.count_pos_iff
abbrev Agq:=@Nat.ne_of_beq_eq_false
abbrev Agr:=@Option.map_eq_some_iff
abbrev Ags:=@List.eq_nil_of_length_eq_zero
abbrev Agt:=@List.flatten_cons
abbrev Agu:=@List.foldl_append
abbrev Agv:=@Array.getElem?_modify
abbrev Agw:=@Nat.sub_self
abbrev Agx:=@Region.noSelect_spec
abbrev Agy:=@Nat.add_mul_div_left
abbrev Agz:=@Nat.div_eq_of_lt
abbrev AgA:=@BitVec.toNat_add
abbrev AgB:=@Decidable.of_not_not
abbrev AgC:=@List.drop_replicate
abbrev AgD:=@Function.comp_apply
abbrev AgE:=@Oper.upon_value
abbrev AgF:=@Oper.upon_enter
abbrev AgG:=@Array.getElem?_eq_getElem
abbrev AgH:=@Nat.add_mul_mod_self_left
abbrev AgI:=@Nat.two_pow_pos
abbrev AgJ:=@Bool.false_ne_true
abbrev AgK:=@Nat.add_comm
abbrev AgL:=@Nat.eq_zero_or_pos
abbrev AgM:=@Int.le_of_lt
abbrev AgN:=@List.set_set
abbrev AgO:=@Option.bind_some
abbrev AgP:=@Region.free_spec
abbrev AgQ:=@List.ext_getElem
abbrev AgR:=@List.take_append
abbrev AgS:=@List.getElem_set
abbrev AgT:=@BitVec.getLsbD_twoPow
abbrev AgU:=@BitVec.eq_of_toNat_eq
abbrev AgV:=@List.mem_append_right
abbrev AgW:=@List.cons.injEq
abbrev AgX:=@Nat.sub_zero
abbrev AgY:=@Nat.add_zero
abbrev AgZ:=@UInt8.toNat_inj
abbrev Ag0:=@BitVec.ofInt_natCast
abbrev Ag1:=@Nat.and_two_pow_sub_one_eq_mod
abbrev Ag2:=@List.range_succ
abbrev Ag3:=@List.mem_append_left
abbrev Ag4:=@List.mem_eraseIdx_iff_getElem?
abbrev Ag5:=@Nat.pow_le_pow_right
abbrev Ag6:=@Array.getElem?_push
abbrev Ag7:=@List.length_pos_iff
abbrev Ag8:=@List.Perm.refl
abbrev Ag9:=@List.perm_append_comm_assoc
abbrev Aha:=@List.map_replicate
abbrev Ahb:=@List.find?_eq_none
abbrev Ahc:=@Int.tmod_lt_of_pos
abbrev Ahd:=@List.take_length_add_append
abbrev Ahe:=@List.drop_length_add_append
abbrev Ahf:=@Array.getElem?_append_left
abbrev Ahg:=@Addr.mk.injEq
abbrev Ahh:=@Array.any_eq_true
abbrev Ahi:=@Array.getElem_mem
abbrev Ahj:=@Decidable.not_not
abbrev Ahk:=@Int.emod_add_emod
abbrev Ahl:=@List.filter_congr
abbrev Ahm:=@Int.shiftRight_eq_div_pow
abbrev Ahn:=@List.mem_take_iff_getElem
abbrev Aho:=@List.mem_or_eq_of_mem_set
abbrev Ahp:=@Iff.rfl
abbrev Ahq:=@List.any_eq_true
abbrev Ahr:=@UInt32.toNat_inj
abbrev Ahs:=@List.getElem_map
abbrev Aht:=@List.map_set
abbrev Ahu:=@Nat.pow_succ
abbrev Ahv:=@Nat.mul_comm
abbrev Ahw:=@List.flatMap_nil
abbrev Ahx:=@List.filter_cons
abbrev Ahy:=@BitVec.eq_of_getLsbD_eq
abbrev Ahz:=@List.getElem?_replicate
abbrev AhA:=@Go.WideShapes.add_plain
abbrev AhB:=@Nat.mul_eq_zero
abbrev AhC:=@Int.tmod_nonneg
abbrev AhD:=@Nat.add_mul
abbrev AhE:=@Lib.run_eql_slice_nil
abbrev AhF:=@Array.mem_of_getElem?
abbrev AhG:=@List.singleton_append
abbrev AhH:=@List.drop_drop
abbrev AhI:=@List.length_mergeSort
abbrev AhJ:=@List.eq_nil_or_concat
abbrev AhK:=@List.concat_eq_append
abbrev AhL:=@List.Pairwise.sublist
abbrev AhM:=@Nat.mul_assoc
abbrev AhN:=@Nat.mul_zero
abbrev AhO:=@Int.lt_or_le
abbrev AhP:=@Int.add_zero
abbrev I(x:Int):Value:=.int .i64 x
abbrev Y (b:Nat):Value:=.pointer (some ⟨b,0,none⟩)
def CB:List (Nat×Value)->Nat->Option Value
 | [],_=>none
 | (t,v)::l,k=>bif Nat.beq t k then some v else CB l k
theorem Aav{d t:Nat}(h:d≠t):Nat.beq d t=false:=by
 cases hb:Nat.beq d t with
 | false=>rfl
 | true=>exact absurd (AfF hb) h
structure Fr(n:Nat)(ds:List Deferred)(L:List (Nat×Value))(a:Act):Prop where
 size:a.tmps.size=n
 defers:a.defers=ds
 get:∀t v,CB L t=some v->a.tmps[t]?=some v
theorem Fr.put{n:Nat}{ds:List Deferred}{L:List (Nat×Value)}{a:Act}(h:Fr n ds L a)(d:Nat)(v:Value)(f:Nat.blt d n=true):Fr n ds ((d,v)::L) (a.put (some d) v):=by
 have c:d<n:=by simpa using f
 refine ⟨by simp[Act.put,h.size],by simp[Act.put,h.defers],λt u b=>?_⟩;simp only[CB] at b;by_cases e:d=t
 ·subst e
  have:Nat.beq d d=true:=by simp
  rw[this] at b;simp only[cond_true,Aef] at b;subst b;simp[Act.put,h.size,c]
 rw[Aav e] at b;simp only[cond_false] at b;simp[Act.put,AfK e,h.get t u b]
theorem Fr.nil{n:Nat}{ds:List Deferred}{L:List (Nat×Value)}{a:Act}(h:Fr n ds L a):Fr n ds [] a:=⟨h.size,h.defers,λt v b=>by simp[CB] at b⟩
theorem Fr.cons{n:Nat}{ds:List Deferred}{L L':List (Nat×Value)}{a:Act}(h:Fr n ds L a)(h':Fr n ds L' a)(t:Nat)(v u:Value)(b:CB L t=some u)(e:u=v):Fr n ds ((t,v)::L') a:=by
 refine ⟨h.size,h.defers,λs x hs=>?_⟩;simp only[CB] at hs
 cases hb:Nat.beq t s with
 | true=>rw[hb] at hs;simp at hb;subst hb;simp at hs;subst hs;subst e;exact h.get t u b
 | false=>rw[hb] at hs;exact h'.get s x (by simpa using hs)
theorem Fr.co{n:Nat}{ds:List Deferred}{L L':List (Nat×Value)}{a:Act}{t:Nat}{v u:Value}(h:Fr n ds L a)(b:CB L t=some u)(e:u=v)(h':Fr n ds L' a):Fr n ds ((t,v)::L') a:=h.cons h' t v u b e
theorem Fr.all{n:Nat}{ds:List Deferred}{L:List (Nat×Value)}{a:Act}(h:Fr n ds L a):∀{L':List (Nat×Value)},L'.map (λe=>CB L e.1)=L'.map (λe=>some e.2)->Fr n ds L' a
 | [],_=>h.nil
 | e::L',q=>by
  simp only[AeE,AgW] at q;exact h.cons (h.all q.2) e.1 e.2 e.2 q.1 Z
theorem Fr.cz{n:Nat}{ds:List Deferred}{L L':List (Nat×Value)}{a:Act}{t:Nat}{v u:Value}(h:Fr n ds L a)(b:CB L t=some u:=by exact Z)(e:u=v:=by go_num)(q:L'.map (λe=>CB L e.1)=L'.map (λe=>some e.2):=by exact Z):Fr n ds ((t,v)::L') a:=h.co b e (h.all q)
theorem fr_z {n:Nat} {ds:List Deferred} {L L':List (Nat×Value)} {t:Nat} {v u:Value} (b:CB L t=some u:=by exact Z) (e:u=v:=by go_num) (q:L'.map (λe=>CB L e.1)=L'.map (λe=>some e.2):=by exact Z):∀a,Fr n ds L a->Fr n ds ((t,v)::L') a:=λ_ h=>h.co b e (h.all q)
theorem Fr.upd{n:Nat}{ds:List Deferred}{L:List (Nat×Value)}{a:Act}(h:Fr n ds L a)(t:Nat){v u:Value}(b:CB L t=some u)(e:u=v):Fr n ds ((t,v)::L) a:=h.cons h t v u b e
def ev(L:List (Nat×Value)):Operand->Option Value
 | .tmp t=>CB L t
 | .const v=>some v
 | .global g=>some (.pointer (some ⟨g,0,none⟩))
 | .func f=>some (.func (.func f) #[] #[])
theorem Fr.ev{n:Nat}{ds:List Deferred}{L:List (Nat×Value)}{a:Act}(h:Fr n ds L a){x:Operand}{v:Value}(b:ev L x=some v):a.eval x=v:=by
 cases x with
 | tmp t=>simp only[YtnifkcmmanmbbaaGreatDoor.ev] at b;simp[Act.eval,h.get t v b]
 | const u=>simp only[YtnifkcmmanmbbaaGreatDoor.ev,Aef] at b;simp[Act.eval,b]
 | global g=>simp only[YtnifkcmmanmbbaaGreatDoor.ev,Aef] at b;simp[Act.eval,b]
 | func f=>simp only[YtnifkcmmanmbbaaGreatDoor.ev,Aef] at b;simp[Act.eval,b]
def evs(L:List (Nat×Value)):List Operand->Option (List Value)
 | []=>some []
 | x::xs=>match YtnifkcmmanmbbaaGreatDoor.ev L x,evs L xs with
  | some v,some vs=>some (v::vs)
  | _,_=>none
theorem Fr.evs{n:Nat}{ds:List Deferred}{L:List (Nat×Value)}{a:Act}(h:Fr n ds L a):∀{xs:List Operand} {vs:List Value},evs L xs=some vs->xs.map a.eval=vs
 | [],vs,e=>by simp only[YtnifkcmmanmbbaaGreatDoor.evs,Aef] at e;subst e;rfl
 | x::xs,vs,e=>by
  simp only[YtnifkcmmanmbbaaGreatDoor.evs] at e
  cases h1:YtnifkcmmanmbbaaGreatDoor.ev L x with
  | none=>rw[h1] at e;cases e
  | some v=>
   cases h2:YtnifkcmmanmbbaaGreatDoor.evs L xs with
   | none=>rw[h1,h2] at e;cases e
   | some us=>
    rw[h1,h2] at e;simp only[Aef] at e;subst e;simp[h.ev h1,h.evs h2]
def first:Nat->List Value->List (Nat×Value)
 | _,[]=>[]
 | k,v::vs=>(k,v)::first (k+1) vs
theorem Kk:∀(vs:List Value) (k t:Nat) (v:Value),CB (first k vs) t=some v->k<=t/\vs[t-k]?=some v
 | [],_,_,_,h=>by simp[first,CB] at h
 | u::us,k,t,v,h=>by
  simp only[first,CB] at h
  cases hb:Nat.beq k t with
  | true=>rw[hb] at h;simp at hb h;subst hb;subst h;simp
  | false=>
   rw[hb] at h;have:=Kk us (k+1) t v (by simpa using h);refine ⟨by omega,?_⟩;rw[show t-k=(t-(k+1))+1 from by omega];simpa using this.2
theorem Fr.start(args:List Value)(n:Nat)(h:args.length<=n):Fr n [] (first 0 args) {tmps:=args.toArray++Array.replicate (n-args.toArray.size) undef,defers:=[]} :=by
 refine ⟨by simp;omega,Z,λt v b=>?_⟩;have:=(Kk args 0 t v b).2;simp only[AgX] at this;have a:t<args.length:=by
  rcases Ael t args.length with h|h
  ·exact h
  rw[AeC h] at this;cases this
 rw[Ahf (by simpa using a)];simpa using this

def Qp(N:Act->World->Prop)(X:Nat->Act->World->Prop)(R:Act->World->Prop):Exit->Act->World->Prop
 | .normal,a,w=>N a w
 | .exit id,a,w=>X id a w
 | .ret,a,w=>R a w
 | _,_,_=>False
def IC:Nat->Act->World->Prop:=λ_ _ _=>False
def upd(X:Nat->Act->World->Prop)(id:Nat)(N:Act->World->Prop):Nat->Act->World->Prop:=λj a w=>if j=id then N a w else X j a w
section
variable{P:Program}{N R:Act->World->Prop}{X:Nat->Act->World->Prop}{a:Act}{w:World}
theorem Aaw{c:Code}{d R':Act->World->Prop}{b:Nat->Act->World->Prop}(h:c.wp P (Qp N X R) a w)(hN:∀a w,N a w->d a w)(f:∀i a w,X i a w->b i a w)(g:∀a w,R a w->R' a w):c.wp P (Qp d b R') a w:=
 wp_mono h λe a w q=>by cases e<;>first|exact hN _ _ q|exact f _ _ _ q|exact g _ _ q|exact q
theorem WT{x y:Code}(h:x.wp P (Qp (λa w=>y.wp P (Qp N X R) a w) X R) a w):(Code.seq x y).wp P (Qp N X R) a w:=
 wp_seq (wp_mono h λe a w q=>by cases e<;>exact q)
theorem AcF{x y:Code}(M:Act->World->Prop)(h:x.wp P (Qp M X R) a w)(h':∀a w,M a w->y.wp P (Qp N X R) a w):(Code.seq x y).wp P (Qp N X R) a w:=
 WT (Aaw h h' (λ_ _ _ q=>q) (λ_ _ q=>q))
theorem Aax(h:N a w):Code.skip.wp P (Qp N X R) a w:=wp_skip h
theorem Aay{id:Nat}(h:X id a w):(Code.exit id).wp P (Qp N X R) a w:=wp_exit h
theorem AcG(h:R a w):Code.ret.wp P (Qp N X R) a w:=wp_ret h
theorem Xz{id:Nat}{c:Code}(h:c.wp P (Qp N (upd X id N) R) a w):(Code.block id c).wp P (Qp N X R) a w:=
 wp_block (wp_mono h λe a w q=>by
  cases e<;>exact q)
theorem Aaz{id:Nat}(h:N a w):upd X id N id a w:=by simp only[upd,if_true];exact h
theorem AcH{id j:Nat}{M:Act->World->Prop}(b:Nat.beq j id=false)(h:X j a w):upd X id M j a w:=by
 have:j≠id:=Agq b;simp only[upd,if_neg this];exact h
theorem R5{n:Nat}{ds:List Deferred}{L:List (Nat×Value)}(d:Fr n ds L a){c:Operand}{x y:Code}(b:ev L c=some (.bool true))(h:x.wp P (Qp N X R) a w):(Code.cond c x y).wp P (Qp N X R) a w:=wp_cond_true (d.ev b) h
theorem PE{n:Nat}{ds:List Deferred}{L:List (Nat×Value)}(d:Fr n ds L a){c:Operand}{x y:Code}(b:ev L c=some (.bool false))(h:y.wp P (Qp N X R) a w):(Code.cond c x y).wp P (Qp N X R) a w:=wp_cond_false (d.ev b) h
theorem R6{n:Nat}{ds:List Deferred}{L:List (Nat×Value)}(e:Fr n ds L a){c:Operand}{x y:Code}{b:Bool}(d:ev L c=some (.bool b))(f:b=true->x.wp P (Qp N X R) a w)(g:b=false->y.wp P (Qp N X R) a w):(Code.cond c x y).wp P (Qp N X R) a w:=by
 cases b with
 | true=>exact R5 e d (f Z)
 | false=>exact PE e d (g Z)
theorem AcI{n:Nat}{ds:List Deferred}{L:List (Nat×Value)}(f:Fr n ds L a){c:Operand}{x y:Code}{p:Prop}[hp:Decidable p](d:ev L c=some (.bool (decide p)))(b:p->x.wp P (Qp N X R) a w)(e:¬p->y.wp P (Qp N X R) a w):(Code.cond c x y).wp P (Qp N X R) a w:=
 R6 f d (λh=>b (of_decide_eq_true h)) (λh=>e (of_decide_eq_false h))

section framed
variable{n:Nat}{ds:List Deferred}{L:List (Nat×Value)}
theorem AX{x y:Code}(h:∀a,Fr n ds L a->x.wp P (Qp (λa w=>y.wp P (Qp N X R) a w) X R) a w):∀a,Fr n ds L a->(Code.seq x y).wp P (Qp N X R) a w:=λa b=>WT (h a b)
theorem AcJ{x y:Code}(M:Act->World->Prop)(h:∀a,Fr n ds L a->x.wp P (Qp M X R) a w)(h':∀a w,M a w->y.wp P (Qp N X R) a w):∀a,Fr n ds L a->(Code.seq x y).wp P (Qp N X R) a w:=λa b=>AcF M (h a b) h'
theorem DF(h:∀a,Fr n ds L a->N a w):∀a,Fr n ds L a->Code.skip.wp P (Qp N X R) a w:=λa b=>Aax (h a b)
theorem R7{id:Nat}(h:∀a,Fr n ds L a->X id a w):∀a,Fr n ds L a->(Code.exit id).wp P (Qp N X R) a w:=λa b=>Aay (h a b)
theorem D7(h:∀a,Fr n ds L a->R a w):∀a,Fr n ds L a->Code.ret.wp P (Qp N X R) a w:=λa b=>AcG (h a b)
theorem FJ{id:Nat}{c:Code}(h:∀a,Fr n ds L a->c.wp P (Qp N (upd X id N) R) a w):∀a,Fr n ds L a->(Code.block id c).wp P (Qp N X R) a w:=λa b=>Xz (h a b)
theorem IF{id:Nat}(h:∀a,Fr n ds L a->N a w):∀a,Fr n ds L a->upd X id N id a w:=λa b=>Aaz (h a b)
theorem AcK{id j:Nat}{M:Act->World->Prop}(b:Nat.beq j id=false)(h:∀a,Fr n ds L a->X j a w):∀a,Fr n ds L a->upd X id M j a w:=λa c=>AcH b (h a c)
theorem R8{c:Operand}{x y:Code}(d:ev L c=some (.bool true))(h:∀a,Fr n ds L a->x.wp P (Qp N X R) a w):∀a,Fr n ds L a->(Code.cond c x y).wp P (Qp N X R) a w:=λa b=>R5 b d (h a b)
theorem EA{c:Operand}{x y:Code}(d:ev L c=some (.bool false))(h:∀a,Fr n ds L a->y.wp P (Qp N X R) a w):∀a,Fr n ds L a->(Code.cond c x y).wp P (Qp N X R) a w:=λa b=>PE b d (h a b)
theorem R9{c:Operand}{x y:Code}{b:Bool}(f:ev L c=some (.bool b))(e:b=true->∀a,Fr n ds L a->x.wp P (Qp N X R) a w)(g:b=false->∀a,Fr n ds L a->y.wp P (Qp N X R) a w):∀a,Fr n ds L a->(Code.cond c x y).wp P (Qp N X R) a w:=
 λa d=>R6 d f (λh=>e h a d) (λh=>g h a d)
theorem Gp{c:Operand}{x y:Code}{p:Prop}[hp:Decidable p](e:ev L c=some (.bool (decide p)))(d:p->∀a,Fr n ds L a->x.wp P (Qp N X R) a w)(f:¬p->∀a,Fr n ds L a->y.wp P (Qp N X R) a w):∀a,Fr n ds L a->(Code.cond c x y).wp P (Qp N X R) a w:=
 λa b=>AcI b e (λh=>d h a b) (λh=>f h a b)
end framed
theorem Sa{n:Nat}{ds:List Deferred}{L:List (Nat×Value)}{c:Code}{σ:Type}(i:σ->List (Nat×Value))(G:σ->World->Prop)(m:σ->Nat)(u:σ)
  (h₀:∀a,Fr n ds L a->Fr n ds (i u) a)(g₀:G u w)
  (f:∀s w,G s w->∀a,Fr n ds (i s) a->c.wp P (Qp (λa' h=>∃q,Fr n ds (i q) a'/\G q h/\m q<m s) X R) a w):∀a,Fr n ds L a->(Code.loop c).wp P (Qp N X R) a w:=by
 intro a hF b k cs;have key:∀n' s a w,m s=n'->Fr n ds (i s) a->G s w->
   ∃e a' h,Qp N X R e a' h/\Arrives P (lone (b.at a (.code c:: .inLoop c::k)) cs w) b k cs e a' h:=by
  intro n'
  induction n' using Nat.strongRecOn with
  | _ n' ih=>
   intro s a w hn hI hG;obtain ⟨e,t,r,hq,d⟩:=f s w hG a hI b (.inLoop c::k) cs
   cases e with
   | normal=>
    obtain ⟨y,j,o,v⟩:=hq;obtain ⟨z,a₂,w₂,p,g⟩:=ih (m y) (hn▸v) y t r Z j o;exact ⟨z,a₂,w₂,p,.of_steps (Steps.trans d (.one step_inLoop)) g⟩
   | exit id=>exact ⟨.exit id,t,r,hq,.pass (x:=.inLoop c) Z (λ_ _=>.inl O) d⟩
   | ret=>exact ⟨.ret,t,r,hq,.pass (x:=.inLoop c) Z (λ_ _=>.inl O) d⟩
   | goto l=>exact hq.elim
   | panic ch=>exact hq.elim
   | outgrown=>exact hq.elim
 obtain ⟨e,a',h,hq,d⟩:=key _ u a w Z (h₀ a hF) g₀;exact ⟨e,a',h,hq,.of_steps (.one step_loop) d⟩
end
def Ret(R:Value->World->Prop):Ending->World->Prop
 | .returned v,w=>R v w
 | _,_=>False
theorem Ret.mono{P:Program}{f:FuncId}{args:Array Value}{w:World}{R R':Value->World->Prop}(h:Calls P f args w (Ret R))(b:∀v a,R v a->R' v a):Calls P f args w (Ret R'):=
 Ago h λe a q=>by cases e<;>first|exact b _ _ q|exact q
def Gb(P:Program)(fn:Func)(R:Value->World->Prop)(a:Act)(w:World):Prop:=
 a.defers=[]/\∃v,(results fn a.tmps).run P w=.ok v w/\R v w
theorem enter{P:Program}{f:FuncId}{d:Func}{c:Code}{args:List Value}{w:World}{R:Value->World->Prop}(m:P.funcs[f]?=some d)(k:d.body=some c)(n:Nat)(o:d.ntmps=n)(b:Nat.ble args.length n=true)
  (h:∀a,Fr n [] (first 0 args) a->c.wp P (Qp (Gb P d R) IC (Gb P d R)) a w):Calls P f args.toArray w (Ret R):=by
 refine calls_of_wp m k (wp_mono (h _ (by rw[o];exact Fr.start args n (by simpa using b))) λe a w q=>?_)
 cases e with
 | normal=>obtain ⟨j,v,i,g⟩:=q;exact ⟨j,v,i,g⟩
 | ret=>obtain ⟨j,v,i,g⟩:=q;exact ⟨j,v,i,g⟩
 | exit id=>exact q.elim
 | goto l=>exact q.elim
 | panic ch=>exact q.elim
 | outgrown=>exact q.elim
def AaA(P:Program)(L:List (Nat×Value))(w:World):ResultVar->Value->Prop
 | .tmp t,v=>CB L t=some v
 | .cell t ty,v=>∃b p,CB L t=some (.pointer (some ⟨b,p,none⟩))/\(loadVar ty ⟨b,p,none⟩).run P w=.ok v w
def EN(P:Program)(L:List (Nat×Value))(w:World):List ResultVar->List Value->Prop
 | [],[]=>True
 | r::rs,v::vs=>AaA P L w r v/\EN P L w rs vs
 | _,_=>False
theorem Kl{P:Program}{n:Nat}{ds:List Deferred}{L:List (Nat×Value)}{a:Act}{w:World}(d:Fr n ds L a):∀(rs:List ResultVar) (vs:List Value),EN P L w rs vs->
  (rs.mapM (λx=>match x with
   | ResultVar.tmp t=>(Pure.pure (a.tmps.getD t undef):Sem Value)
   | ResultVar.cell p t=>do loadVar t (<-asAddr (a.tmps.getD p undef)))).run P w=.ok vs w
 | [],[],_=>by simp[go_sem]
 | [],_::_,h=>h.elim
 | _::_,[],h=>h.elim
 | r::rs,v::vs,h=>by
  have ih:=Kl d rs vs h.2;have c:=h.1
  cases r with
  | tmp t=>
   simp only[AaA] at c;simp only[List.mapM_cons,Aeq,Aev,Aem,ih];simp[Array.getD,d.get t v c];have:=d.get t v c;rw[AeU] at this;obtain ⟨f,k⟩:=this;simp[f,k]
  | cell t ty=>
   obtain ⟨b,p,i,j⟩:=c;have l:=d.get t _ i;have e:a.tmps.getD t undef=.pointer (some ⟨b,p,none⟩):=by simp[l]
   have g:(asAddr (a.tmps.getD t undef)).run P w=.ok ⟨b,p,none⟩ w:=by rw[e];rfl
   simp only[List.mapM_cons,Aeq,Aev,Aem,g,j,ih]
def GY:List Value->Value
 | [v]=>v
 | vs=>.tuple vs.toArray
theorem Hi{P:Program}{b:Func}{n:Nat}{ds:List Deferred}{L:List (Nat×Value)}{a:Act}{w:World}(g:Fr n ds L a){rs:List ResultVar}(c:b.results=rs.toArray){vs:List Value}(d:EN P L w rs vs):(results b a.tmps).run P w=.ok (GY vs) w:=by
 have e:=Kl g rs vs d;have f:(List.toArray<$> (rs.mapM (λx=>match x with
   | ResultVar.tmp t=>(Pure.pure (a.tmps.getD t undef):Sem Value)
   | ResultVar.cell p t=>do loadVar t (<-asAddr (a.tmps.getD p undef))))).run P w=.ok vs.toArray w:=by
  show (Sem.bind _ _).run P w=_;have:=Aeq (P:=P) (w:=w) (rs.mapM (λx=>match x with
   | ResultVar.tmp t=>(Pure.pure (a.tmps.getD t undef):Sem Value)
   | ResultVar.cell p t=>do loadVar t (<-asAddr (a.tmps.getD p undef)))) (λx=>(Pure.pure x.toArray:Sem (Array Value)))
  refine this.trans ?_;rw[e];rfl
 unfold results;rw[c,List.mapM_toArray,Aeq]
 erw [f]
 simp only[Aem,Aev]
 cases vs with
 | nil=>rfl
 | cons x xs=>cases xs with
  | nil=>rfl
  | cons y ys=>simp[GY]
theorem Fq{P:Program}{b:Func}{R:Value->World->Prop}{n:Nat}{L:List (Nat×Value)}{w:World}{rs:List ResultVar}(d:b.results=rs.toArray)(vs:List Value)(f:EN P L w rs vs){v:Value}(e:GY vs=v)(h:R v w):∀a,Fr n [] L a->Gb P b R a w:=λa c=>
 ⟨c.defers,v,by rw[<-e];exact Hi c d f,h⟩
theorem AcL{P:Program}{b:Func}{R:Value->World->Prop}{n:Nat}{L:List (Nat×Value)}{a:Act}{w:World}(d:Fr n [] L a)(c:b.results= #[])(h:R (.tuple #[]) w):Gb P b R a w:=
 ⟨d.defers,_,by simp[results,c,go_sem],h⟩
theorem dn0{P:Program}{b:Func}{R:Value->World->Prop}{n:Nat}{L:List (Nat×Value)}{w:World}(c:b.results= #[])(h:R (.tuple #[]) w):∀a,Fr n [] L a->Gb P b R a w:=λ_ d=>AcL d c h
end
section
structure Ext(F:Nat->Prop)(w w':World):Prop where
 os:w'.os=w.os
 tape:w'.tape=w.tape
 output:w'.output=w.output
 size:w.heap.size<=w'.heap.size
 block:∀k,k<w.heap.size->¬F k->w'.heap[k]?=w.heap[k]?
def No:Nat->Prop:=λ_=>False
theorem Ext.refl(F:Nat->Prop)(w:World):Ext F w w:=⟨Z,Z,Z,Aed _,λ_ _ _=>rfl⟩
theorem Ext.mono{F b:Nat->Prop}{w c:World}(h:Ext F w c)(e:∀k,k<w.heap.size->F k->b k):Ext b w c:=
 ⟨h.os,h.tape,h.output,h.size,λk a d=>h.block k a (λq=>d (e k a q))⟩
theorem Ext.below{w a:World}(h:Ext No w a):Below w.heap.size w a:=⟨h.os,h.tape,h.output,h.size,λk b=>h.block k b (λq=>q)⟩
theorem Ext.of_grown{w b:World}{a:Option Nat}(h:w.grownBy b a):Ext (λk=>some k=a) w b:=⟨h.os,h.tape,h.output,h.size,λk c d=>h.block k c d⟩
theorem Ext.drawn(F:Nat->Prop)(w:World):Ext F w {w with drawn:=w.drawn+1} :=⟨Z,Z,Z,Aed _,λ_ _ _=>rfl⟩
def Blk(b:Nat)(cs:List Value)(ty:TypeId)(w:World):Prop:=w.heap[b]?=some (.cells cs.toArray ty (0,0))
def FD(b o:Nat)(v:Value)(w:World):Prop:=w.cell? ⟨b,o,none⟩=some v
theorem Sb{w:World}{b:Nat}{o:Obj}(h:w.heap[b]?=some o):b<w.heap.size:=by
 rcases Ael b w.heap.size with h'|h'
 ·exact h'
 rw[AeT h'] at h;cases h
theorem Blk.lt{b:Nat}{cs:List Value}{ty:TypeId}{w:World}(h:Blk b cs ty w):b<w.heap.size:=Sb h
theorem Blk.cel{b:Nat}{cs:List Value}{ty:TypeId}{w:World}(h:Blk b cs ty w)(o:Nat){v:Value}(a:cs[o]?=some v):FD b o v w:=by
 unfold FD World.cell?;have h':w.heap[b]?=some (.cells cs.toArray ty (0,0)):=h;simp[h',a]
theorem Blk.free{b:Nat}{cs:List Value}{ty:TypeId}{w:World}(h:Blk b cs ty w)(o:Nat):w.frozen? ⟨b,o,none⟩=false:=by
 unfold World.frozen?;have h':w.heap[b]?=some (.cells cs.toArray ty (0,0)):=h;simp[h']
def Adu(P:Program)(C:World->Prop)(o:Oper)(a:Act)(v:Value):Prop:=∀w,C w->(execOp a.eval o).run P w=.ok (.value v) w
def Ar(P:Program)(C:World->Prop)(n:Nat)(ds:List Deferred)(L:List (Nat×Value))(o:Oper)(v:Value):Prop:=∀a,Fr n ds L a->Adu P C o a v
def Adv(P:Program)(o:Oper)(a:Act)(w:World)(R:Value->World->Prop):Prop:=∃v w',(execOp a.eval o).run P w=.ok (.value v) w'/\R v w'
def Adw(P:Program)(o:Oper)(a:Act)(w:World)(R:World->Prop):Prop:=∃w',(execOp a.eval o).run P w=.ok .skip w'/\R w'
def Cy(P:Program)(n:Nat)(ds:List Deferred)(L:List (Nat×Value))(o:Oper)(w:World)(R:Value->World->Prop):Prop:=∀a,Fr n ds L a->Adv P o a w R
def DG(P:Program)(n:Nat)(ds:List Deferred)(L:List (Nat×Value))(o:Oper)(w:World)(R:World->Prop):Prop:=∀a,Fr n ds L a->Adw P o a w R
def BL(ops:List Oper)(L:List (Nat×Value)):Option (Nat×Bool)->Bool
 | none=>true
 | some (j,b)=>match (ops[j]?).bind (·.dst) with
  | some t=>match CB L t with
   | some (.bool c)=>(match c,b with|true,true=>true|false,false=>true|_,_=>false)
   | _=>false
  | none=>false
def EW(ops:List Oper)(L:List (Nat×Value)):Option (Nat×Bool)->Bool
 | none=>false
 | some (j,b)=>match (ops[j]?).bind (·.dst) with
  | some t=>match CB L t with
   | some (.bool c)=>(match c,b with|true,false=>true|false,true=>true|_,_=>false)
   | some (.tuple _)=>true
   | _=>false
  | none=>false
theorem wantL_ok{ops:List Oper}{L:List (Nat×Value)}{n:Nat}{ds:List Deferred}{a:Act}{o:Oper}(e:Fr n ds L a)(h:BL ops L o.guard=true):Region.wanted o (yielded ops.toArray a.tmps)=true:=by
 unfold Region.wanted
 cases hg:o.guard with
 | none=>rfl
 | some g=>
  obtain ⟨j,b⟩:=g;rw[hg] at h;simp only[BL] at h;simp only[yielded,Ae9]
  cases ht:(ops[j]?).bind (·.dst) with
  | none=>rw[ht] at h;cases h
  | some t=>
   rw[ht] at h;simp only at h
   cases hl:CB L t with
   | none=>rw[hl] at h;cases h
   | some v=>
    rw[hl] at h;have d:=e.get t v hl;cases v<;>simp at h;rename_i c;simp only[AgO,d];cases c<;>cases b<;>simp at h ⊢
theorem skipL_ok{ops:List Oper}{L:List (Nat×Value)}{n:Nat}{ds:List Deferred}{a:Act}{o:Oper}(e:Fr n ds L a)(h:EW ops L o.guard=true):Region.wanted o (yielded ops.toArray a.tmps)=false:=by
 unfold Region.wanted
 cases hg:o.guard with
 | none=>rw[hg] at h;cases h
 | some g=>
  obtain ⟨j,b⟩:=g;rw[hg] at h;simp only[EW] at h;simp only[yielded,Ae9]
  cases ht:(ops[j]?).bind (·.dst) with
  | none=>rw[ht] at h;cases h
  | some t=>
   rw[ht] at h;simp only at h
   cases hl:CB L t with
   | none=>rw[hl] at h;cases h
   | some v=>
    rw[hl] at h;have d:=e.get t v hl;simp only[AgO,d];cases v<;>simp at h ⊢;rename_i c;cases c<;>cases b<;>simp at h ⊢
section steps
variable{P:Program}{ops:List Oper}{Q:Exit->Act->World->Prop}{a:Act}{w:World}{rest:List Oper}{o:Oper}{n d:Nat}{ds:List Deferred}{L:List (Nat×Value)}{v:Value}
theorem Ay{p:World->Prop}{w:World}(h:p w):∀a,a=w->p a:=λa e=>by subst e;exact h
theorem s_do(f:BL ops L o.guard=true)(g:o.dst=some d)(c:Nat.blt d n=true)(b:Ar P (· =w) n ds L o v)(K:∀a',Fr n ds ((d,v)::L) a'->wpList P ops.toArray Q rest a' w):∀a,Fr n ds L a->wpList P ops.toArray Q (o::rest) a w:=by
 intro a e;unfold wpList;rw[if_pos (wantL_ok e f)];left;unfold Oper.wp;rw[b a e w Z,AgE,g];exact K _ (e.put d v c)
theorem Sc(e:EW ops L o.guard=true)(f:o.dst=some d)(b:Nat.blt d n=true)(K:∀a',Fr n ds ((d,undef)::L) a'->wpList P ops.toArray Q rest a' w):∀a,Fr n ds L a->wpList P ops.toArray Q (o::rest) a w:=by
 intro a c;unfold wpList;rw[if_neg (by rw[skipL_ok c e];exact AgJ),f];exact K _ (c.put d undef b)
theorem XA(c:EW ops L o.guard=true)(d:o.dst=none)(K:∀a,Fr n ds L a->wpList P ops.toArray Q rest a w):∀a,Fr n ds L a->wpList P ops.toArray Q (o::rest) a w:=by
 intro a b;unfold wpList;rw[if_neg (by rw[skipL_ok b c];exact AgJ),d];exact K a b
theorem E3{R:Value->World->Prop}(g:BL ops L o.guard=true)(i:o.dst=some d)(c:Nat.blt d n=true)(h:Cy P n ds L o w R)(K:∀v b,R v b->∀a',Fr n ds ((d,v)::L) a'->wpList P ops.toArray Q rest a' b):∀a,Fr n ds L a->wpList P ops.toArray Q (o::rest) a w:=by
 intro a e;obtain ⟨v,b,f,j⟩:=h a e;unfold wpList;rw[if_pos (wantL_ok e g)];left;unfold Oper.wp;rw[f,AgE,i];exact K v b j _ (e.put d v c)
theorem FY{R:World->Prop}(e:BL ops L o.guard=true)(f:o.dst=none)(h:DG P n ds L o w R)(K:∀b,R b->∀a,Fr n ds L a->wpList P ops.toArray Q rest a b):∀a,Fr n ds L a->wpList P ops.toArray Q (o::rest) a w:=by
 intro a c;obtain ⟨b,d,g⟩:=h a c;unfold wpList;rw[if_pos (wantL_ok c e)];left;unfold Oper.wp;rw[d,Oper.upon_skip,f];exact K b g a c
theorem Sd{p:Prop}[Decidable p](t:Nat)(b:CB L t=some (.bool (decide p)))(d:p->∀a,Fr n ds ((t,.bool true)::L) a->wpList P ops.toArray Q (o::rest) a w)(e:¬p->∀a,Fr n ds ((t,.bool false)::L) a->wpList P ops.toArray Q (o::rest) a w):∀a,Fr n ds L a->wpList P ops.toArray Q (o::rest) a w:=by
 intro a c;by_cases h:p
 ·exact d h a (c.upd t b (by simp[h]))
 exact e h a (c.upd t b (by simp[h]))
theorem Ug{b:Bool}(t:Nat)(c:CB L t=some (.bool b))(e:b=true->∀a,Fr n ds ((t,.bool true)::L) a->wpList P ops.toArray Q (o::rest) a w)(f:b=false->∀a,Fr n ds ((t,.bool false)::L) a->wpList P ops.toArray Q (o::rest) a w):∀a,Fr n ds L a->wpList P ops.toArray Q (o::rest) a w:=by
 intro a d
 cases b with
 | true=>exact e Z a (d.upd t c Z)
 | false=>exact f Z a (d.upd t c Z)
theorem AP{N R:Act->World->Prop}{X:Nat->Act->World->Prop}(h:∀a,Fr n ds L a->N a w):∀a,Fr n ds L a->wpList P ops.toArray (Qp N X R) [] a w:=h
theorem AI{id:Nat}{N R:Act->World->Prop}{X:Nat->Act->World->Prop}(h:∀a,Fr n ds L a->wpList P ops.toArray (Qp N X R) ops a w):∀a,Fr n ds L a->(Code.region id ops.toArray false).wp P (Qp N X R) a w:=λa b=>wp_region_lit (h a b)
theorem Se{R:Value->World->Prop}{f:FuncId}{args:List Operand}{vs:List Value}{tys:Array TypeId}(p:BL ops L o.guard=true)(m:o.dst=some d)(k:Nat.blt d n=true)
  (r:o.op=.call {callee:=.value (.func f),args:=args.toArray,argTypes:=tys})(b:evs L args=some vs)(l:∀w,(callFunc f vs.toArray).run P w=.ok (.enter f vs.toArray) w)(h:Calls P f vs.toArray w (Ret R))
  (K:∀v i,R v i->∀a',Fr n ds ((d,v)::L) a'->wpList P ops.toArray Q rest a' i):∀a,Fr n ds L a->wpList P ops.toArray Q (o::rest) a w:=by
 intro a j;unfold wpList;rw[if_pos (wantL_ok j p)];left;have g:(execOp a.eval o).run P w=.ok (.enter f vs.toArray) w:=by
  unfold execOp;have e:=j.evs b;simp only[r,resolve,Act.eval,Deferred.ofValue,invoke];simp only[go_sem,AeR,e,AeL,AeQ,l];simpa using l w
 unfold Oper.wp;rw[g,AgF];exact Ago h λe i q=>by
  cases e with
  | returned v=>simp only[m];exact K v i q _ (j.put d v k)
  | panicked c=>exact q.elim
  | outgrown=>exact q.elim
end steps

section quiet
variable{P:Program}{ops:List Oper}{C:World->Prop}{Q:Act->Prop}{a:Act}{rest:List Oper}{o:Oper}{n d:Nat}{ds:List Deferred}{L:List (Nat×Value)}{v:Value}
theorem AL(g:BL ops L o.guard=true)(h:o.dst=some d)(c:Nat.blt d n=true)(b:Ar P C n ds L o v)(K:∀a',Fr n ds ((d,v)::L) a'->wpQuiet P ops.toArray C Q rest a'):∀a,Fr n ds L a->wpQuiet P ops.toArray C Q (o::rest) a:=λa e=>
 wpQuiet_step λK' i=>by
  rw[if_pos (wantL_ok e g)];refine ⟨v,λw f=>?_,i _ ?_⟩
  ·unfold Oper.quietAt;rw[b a e w f];exact ⟨Z,Z⟩
  rw[h];exact K _ (e.put d v c)
theorem Sf(e:EW ops L o.guard=true)(f:o.dst=some d)(b:Nat.blt d n=true)(K:∀a',Fr n ds ((d,undef)::L) a'->wpQuiet P ops.toArray C Q rest a'):∀a,Fr n ds L a->wpQuiet P ops.toArray C Q (o::rest) a:=λa c=>
 wpQuiet_step λK' g=>by
  rw[if_neg (by rw[skipL_ok c e];exact AgJ)];exact g _ (by rw[f];exact K _ (c.put d undef b))
theorem Cd{p:Prop}[Decidable p](t:Nat)(b:CB L t=some (.bool (decide p)))(d:p->∀a,Fr n ds ((t,.bool true)::L) a->wpQuiet P ops.toArray C Q (o::rest) a)(e:¬p->∀a,Fr n ds ((t,.bool false)::L) a->wpQuiet P ops.toArray C Q (o::rest) a):∀a,Fr n ds L a->wpQuiet P ops.toArray C Q (o::rest) a:=by
 intro a c;by_cases h:p
 ·exact d h a (c.upd t b (by simp[h]))
 exact e h a (c.upd t b (by simp[h]))
theorem Dl{f:FuncId}{args:List Operand}{vs:List Value}{tys:Array TypeId}(m:BL ops L o.guard=true)(t:o.dst=some d)(j:Nat.blt d n=true)
  (s:o.op=.call {callee:=.value (.func f),args:=args.toArray,argTypes:=tys})(b:evs L args=some vs)(k:∀w,(callFunc f vs.toArray).run P w=.ok (.enter f vs.toArray) w)(h:∀w,C w->Calls P f vs.toArray w (Ret λu l=>u=v/\C l))
  (K:∀a',Fr n ds ((d,v)::L) a'->wpQuiet P ops.toArray C Q rest a'):∀a,Fr n ds L a->wpQuiet P ops.toArray C Q (o::rest) a:=λa i=>
 wpQuiet_step λK' p=>by
  rw[if_pos (wantL_ok i m)];refine ⟨v,λw r=>?_,p _ ?_⟩
  ·have g:(execOp a.eval o).run P w=.ok (.enter f vs.toArray) w:=by
    unfold execOp;have e:=i.evs b;simp only[s,resolve,Act.eval,Deferred.ofValue,invoke];simp only[go_sem,AeR,e,AeL,AeQ,k];simpa using k w
   unfold Oper.quietAt;rw[g];refine ⟨Z,Ago (h w r) λe l q=>?_⟩
   cases e with
   | returned u=>exact ⟨by rw[q.1],q.2⟩
   | panicked c=>exact q.elim
   | outgrown=>exact q.elim
  rw[t];exact K _ (i.put d v j)
theorem BH{N:Act->World->Prop}(h:∀b,C b->∀a,Fr n ds L a->N a b):∀a,Fr n ds L a->wpQuiet P ops.toArray C (λa'=>∀b,C b->N a' b) [] a:=λa c b d=>h b d a c
theorem Bu{id:Nat}{N R:Act->World->Prop}{X:Nat->Act->World->Prop}{w:World}(C:World->Prop)(c:P.follows .mixedOrders=true)(f:Region.lexB .any ops.toArray=true)(d:C w.drew)
  (h:∀a,Fr n ds L a->wpQuiet P ops.toArray C (λa'=>∀b,C b->N a' b) ops a):∀a,Fr n ds L a->(Code.region id ops.toArray true).wp P (Qp N X R) a w:=λa e=>
 wp_region_quiet (C:=C) c f d (h a e)
end quiet
end
section
section
variable{P:Program}{C:World->Prop}{o:Oper}{a:Act}{n:Nat}{ds:List Deferred}{L:List (Nat×Value)}{v:Value}
theorem Ci{x:Operand}(b:o.op=.move x)(c:ev L x=some v):Ar P C n ds L o v:=λa d w _=>by
 simp only[execOp,b,d.ev c];rfl
theorem Bi{x:Operand}(b:o.op=.assign x)(c:ev L x=some v):Ar P C n ds L o v:=λa d w _=>by
 simp only[execOp,b,d.ev c];rfl
theorem Nh{c x y:Operand}(f:o.op=.pick c x y)(e:ev L c=some (.bool true))(d:ev L x=some v):Ar P C n ds L o v:=λa b w _=>by
 simp only[execOp,f,b.ev e,b.ev d];simp[go_sem]
theorem Ni{c x y:Operand}(f:o.op=.pick c x y)(e:ev L c=some (.bool false))(d:ev L y=some v):Ar P C n ds L o v:=λa b w _=>by
 simp only[execOp,f,b.ev e,b.ev d];simp[go_sem]

def D8(P:Program)(s t:TypeId):Option IntKind:=match P.underlying s,P.underlying t with
 | some _,some (.int k)=>some k
 | _,_=>none
theorem FK{s t:TypeId}{k:IntKind}(h:D8 P s t=some k):∃d,P.underlying s=some d/\P.underlying t=some (.int k):=by
 unfold D8 at h;split at h
 ·rename_i d c a b;simp only[Aef] at h;subst h;exact ⟨d,a,b⟩
 cases h
def Dm(P:Program)(t:TypeId):Option Nat:=match P.underlying t with
 | some (.slice e)=>(P.info? e).map (·.size)
 | _=>none
theorem Fd{t:TypeId}{z:Nat}(h:Dm P t=some z):∃e i,P.underlying t=some (.slice e)/\P.info? e=some i/\i.size=z:=by
 unfold Dm at h;split at h
 ·rename_i e a
  cases hi:P.info? e with
  | none=>rw[hi] at h;cases h
  | some i=>rw[hi] at h;exact ⟨e,i,a,hi,by simpa using h⟩
 cases h
def Ib(P:Program)(t:TypeId):Option (Nat×Nat):=match P.underlying t with
 | some (.array l e)=>(P.info? e).map λi=>(l,i.size)
 | _=>none
theorem Ic{t:TypeId}{l z:Nat}(h:Ib P t=some (l,z)):∃e i,P.underlying t=some (.array l e)/\P.info? e=some i/\i.size=z:=by
 unfold Ib at h;split at h
 ·rename_i l' e a
  cases hi:P.info? e with
  | none=>rw[hi] at h;cases h
  | some i=>
   rw[hi] at h;simp only[AeN,Aef,Afy] at h;obtain ⟨rfl,b⟩:=h;exact ⟨e,i,a,hi,b⟩
 cases h
def Ek(P:Program)(s:TypeId)(f:Nat):Option Nat:=match P.underlying s with
 | some (.struct fs)=>match fs[f]? with
  | some fd=>match P.info? fd.type with
   | some i=>bif Nat.beq i.size 0 then none else some fd.offset
   | none=>none
  | none=>none
 | _=>none
theorem Pm{s:TypeId}{f k:Nat}(h:Ek P s f=some k):∃b a i,P.underlying s=some (.struct b)/\b[f]?=some a/\P.info? a.type=some i/\i.size≠0/\a.offset=k:=by
 unfold Ek at h;split at h
 ·rename_i b c
  split at h
  ·rename_i a e
   split at h
   ·rename_i i d
    cases hb:Nat.beq i.size 0 with
    | true=>rw[hb] at h;cases h
    | false=>
     rw[hb] at h;exact ⟨b,a,i,c,e,d,Agq hb,by simpa using h⟩
   cases h
  cases h
 cases h
def Id(P:Program)(t:TypeId):Option Nat:=match P.underlying t with
 | some (.struct _)=>(P.info? t).map (·.size)
 | some (.array _ _)=>(P.info? t).map (·.size)
 | _=>none
theorem Nj{t:TypeId}{z:Nat}(h:Id P t=some z)(w:World):(isAgg t).run P w=.ok true w/\(sizeOf t).run P w=.ok z w:=by
 have key:∀d,P.underlying t=some d->((d matches .struct _)=true\/(d matches .array _ _)=true)->(P.info? t).map (·.size)=some z->(isAgg t).run P w=.ok true w/\(sizeOf t).run P w=.ok z w:=by
  intro d c a hs
  cases hi:P.info? t with
  | none=>rw[hi] at hs;cases hs
  | some i=>
   rw[hi] at hs;simp only[AeN,Aef] at hs;refine ⟨?_,by simp[sizeOf,typeInfo,hi,go_sem,hs]⟩;unfold isAgg;simp only[run_underlying c,go_sem,Aeq,Aem];rcases a with a|a<;>(cases d<;>simp at a ⊢)
 unfold Id at h;split at h
 ·rename_i b;exact key _ b (.inl Z) h
 ·rename_i b;exact key _ b (.inr Z) h
 cases h

section ints
variable{x y:Operand}{xt yt:TypeId}{k:IntKind}{p q:Int}
theorem WU(c:o.op=.binOp .add xt x y yt)(d:ev L x=some (.int k p))(e:ev L y=some (.int k q)):Ar P C n ds L o (.int k (k.wrap (p+q))):=λa b w _=>by
 simp only[execOp,c,b.ev d,b.ev e];simp[go_sem]
theorem AcM(c:o.op=.binOp .sub xt x y yt)(d:ev L x=some (.int k p))(e:ev L y=some (.int k q)):Ar P C n ds L o (.int k (k.wrap (p-q))):=λa b w _=>by
 simp only[execOp,c,b.ev d,b.ev e];simp[go_sem]
theorem AcN(c:o.op=.binOp .mul xt x y yt)(d:ev L x=some (.int k p))(e:ev L y=some (.int k q)):Ar P C n ds L o (.int k (k.wrap (p*q))):=λa b w _=>by
 simp only[execOp,c,b.ev d,b.ev e];simp[go_sem]
theorem AcO(f:o.op=.binOp .quo xt x y yt)(c:ev L x=some (.int k p))(e:ev L y=some (.int k q))(d:q≠0):Ar P C n ds L o (.int k (k.wrap (p.tdiv q))):=λa b w _=>by
 simp only[execOp,f,b.ev c,b.ev e];simp[go_sem,d]
theorem Q4(f:o.op=.binOp .rem xt x y yt)(c:ev L x=some (.int k p))(e:ev L y=some (.int k q))(d:q≠0):Ar P C n ds L o (.int k (p.tmod q)):=λa b w _=>by
 simp only[execOp,f,b.ev c,b.ev e];simp[go_sem,d]
theorem Q5(c:o.op=.binOp .lss xt x y yt)(d:ev L x=some (.int k p))(e:ev L y=some (.int k q)):Ar P C n ds L o (.bool (decide (p<q))):=λa b w _=>by
 simp only[execOp,c,b.ev d,b.ev e];simp[go_sem]
theorem WV(c:o.op=.binOp .leq xt x y yt)(d:ev L x=some (.int k p))(e:ev L y=some (.int k q)):Ar P C n ds L o (.bool (decide (p<=q))):=λa b w _=>by
 simp only[execOp,c,b.ev d,b.ev e];simp[go_sem]
theorem WW(c:o.op=.binOp .gtr xt x y yt)(d:ev L x=some (.int k p))(e:ev L y=some (.int k q)):Ar P C n ds L o (.bool (decide (q<p))):=λa b w _=>by
 simp only[execOp,c,b.ev d,b.ev e];simp[go_sem]
theorem WX(c:o.op=.binOp .geq xt x y yt)(d:ev L x=some (.int k p))(e:ev L y=some (.int k q)):Ar P C n ds L o (.bool (decide (q<=p))):=λa b w _=>by
 simp only[execOp,c,b.ev d,b.ev e];simp[go_sem]
theorem WY(c:o.op=.binOp .eql xt x y yt)(d:ev L x=some (.int k p))(e:ev L y=some (.int k q)):Ar P C n ds L o (.bool (decide (p=q))):=λa b w _=>by
 simp only[execOp,c,b.ev d,b.ev e];simp[go_sem];rw[Aer];simp
theorem WZ(c:o.op=.binOp .neq xt x y yt)(d:ev L x=some (.int k p))(e:ev L y=some (.int k q)):Ar P C n ds L o (.bool (decide (p≠q))):=λa b w _=>by
 simp only[execOp,c,b.ev d,b.ev e];simp[go_sem];rw[Aer];simp
theorem CZ(e:o.op=.binOp .add xt x y yt)(c:ev L x=some (I p))(d:ev L y=some (I q)){r:Int}(b:p+q=r)(a: -9223372036854775808<=r/\r<=9223372036854775807):Ar P C n ds L o (I r):=by
 have:=WU (P:=P) (C:=C) (n:=n) (ds:=ds) (L:=L) e c d;rwa[b,AfG _ a] at this
theorem Hr(e:o.op=.binOp .sub xt x y yt)(c:ev L x=some (I p))(d:ev L y=some (I q)){r:Int}(b:p-q=r)(a: -9223372036854775808<=r/\r<=9223372036854775807):Ar P C n ds L o (I r):=by
 have:=AcM (P:=P) (C:=C) (n:=n) (ds:=ds) (L:=L) e c d;rwa[b,AfG _ a] at this
theorem Hs(e:o.op=.binOp .mul xt x y yt)(c:ev L x=some (I p))(d:ev L y=some (I q)){r:Int}(b:p*q=r)(a: -9223372036854775808<=r/\r<=9223372036854775807):Ar P C n ds L o (I r):=by
 have:=AcN (P:=P) (C:=C) (n:=n) (ds:=ds) (L:=L) e c d;rwa[b,AfG _ a] at this
theorem Li(e:o.op=.binOp .quo xt x y yt)(c:ev L x=some (I p))(d:ev L y=some (I q)){r:Int}(a:0<=p)(f:0<q)(b:p/q=r)(i:p<=9223372036854775807):Ar P C n ds L o (I r):=by
 have:=AcO (P:=P) (C:=C) (n:=n) (ds:=ds) (L:=L) e c d U;rw[Int.tdiv_eq_ediv_of_nonneg a] at this;have h:0<=p/q:=Int.ediv_nonneg a U;have g:p/q<=p:=Int.ediv_le_self q a;rwa[b,AfG _ U] at this
theorem Lj(e:o.op=.binOp .rem xt x y yt)(b:ev L x=some (.int k p))(c:ev L y=some (.int k q)){r:Int}(d:0<=p)(f:q≠0)(a:p%q=r):Ar P C n ds L o (.int k r):=by
 have:=Q4 (P:=P) (C:=C) (n:=n) (ds:=ds) (L:=L) e b c f;rwa[Int.tmod_eq_emod_of_nonneg d,a] at this
theorem W0(b:o.op=.unOp .neg xt x)(c:ev L x=some (.int k p)):Ar P C n ds L o (.int k (k.wrap (0-p))):=λa d w _=>by
 simp only[execOp,b,d.ev c];simp[go_sem]
theorem PF(c:o.op=.unOp .neg xt x)(b:ev L x=some (I p)){r:Int}(d: -p=r)(a: -9223372036854775808<=r/\r<=9223372036854775807):Ar P C n ds L o (I r):=by
 have:=W0 (P:=P) (C:=C) (n:=n) (ds:=ds) (L:=L) c b;rwa[show (0:Int)-p=r from by omega,AfG _ a] at this
theorem Ht{d:TypeId}{c:IntKind}(h:o.op=.convert xt d x)(b:D8 P xt d=some c)(e:ev L x=some (.int k p)):Ar P C n ds L o (.int c (c.wrap p)):=λa g w _=>by
 obtain ⟨i,f,b⟩:=FK b;simp only[execOp,h,g.ev e];simp[convert,run_underlying f,run_underlying b,go_sem]
theorem Uh{b:TypeId}{a:IntKind}(e:o.op=.convert xt b x)(f:D8 P xt b=some a)(d:ev L x=some (.int k p)){r:Int}(c:a.wrap p=r):Ar P C n ds L o (.int a r):=by
 have:=Ht (P:=P) (C:=C) (n:=n) (ds:=ds) (L:=L) e f d;rwa[c] at this
end ints

def Nk(P:Program)(t:TypeId):Bool:=match P.underlying t with|some .bool=>true|_=>false
theorem Sg{t:TypeId}(h:Nk P t=true):P.underlying t=some .bool:=by
 unfold Nk at h;split at h
 ·assumption
 cases h
theorem Km{xt:TypeId}{x:Operand}(e:o.op=.unOp .not xt x){b:Bool}(c:ev L x=some (.bool b)):Ar P C n ds L o (.bool !b):=λa d w _=>by
 simp only[execOp,e,d.ev c];simp[go_sem]
theorem AE{xt:TypeId}{x:Operand}(d:o.op=.unOp .not xt x){p:Prop}[Decidable p](b:ev L x=some (.bool (decide p))):Ar P C n ds L o (.bool (decide (¬p))):=λa c w _=>by
 simp only[execOp,d,c.ev b];simp[go_sem]
theorem Nl{xt yt:TypeId}{x y:Operand}(h:o.op=.binOp .neq xt x y yt){b c:Bool}(d:Nk P xt=true)(f:ev L x=some (.bool b))(g:ev L y=some (.bool c)):Ar P C n ds L o (.bool (decide (b≠c))):=λa e w _=>by
 have d:=Sg d;simp only[execOp,h,e.ev f,e.ev g];simp[d,go_sem];cases b<;>cases c<;>rfl

def Gc(P:Program)(t:TypeId):Bool:=match P.underlying t with
 | some (.struct _)=>false
 | some (.array _ _)=>false
 | some _=>true
 | none=>false
theorem FL{t:TypeId}(h:Gc P t=true)(w:World):(isAgg t).run P w=.ok false w:=by
 unfold Gc at h;unfold isAgg
 cases hu:P.underlying t with
 | none=>rw[hu] at h;cases h
 | some d=>rw[hu] at h;simp[run_underlying hu,go_sem];cases d<;>simp at h ⊢
theorem Bf{t:TypeId}{x:Operand}{b p:Nat}(h:o.op=.load t x)(d:ev L x=some (.pointer (some ⟨b,p,none⟩)))(c:Gc P t=true)(e:∀w,C w->FD b p v w):Ar P C n ds L o v:=λa f w g=>by
 have:=e w g;unfold FD at this;simp only[execOp,h,f.ev d];simp[Instr.loadAt,Instr.sureAddr,loadVar,FL c,go_sem,this]
theorem BX{t:TypeId}{x:Operand}{b p:Nat}{vs:List Value}(r:o.op=.load t x)(m:ev L x=some (.pointer (some ⟨b,p,none⟩)))
  (f:Id P t=some vs.length)(q:∀w,C w->∀j u,vs[j]?=some u->FD b (p+j) u w):Ar P C n ds L o (.agg vs.toArray):=λa i w k=>by
 have l:=run_loadCells_list (P:=P) w ⟨b,p,none⟩ vs (λj u g=>by
  have:=q w k j u g;have e:(Addr.add ⟨b,p,none⟩ j)=⟨b,p+j,none⟩:=by
   unfold Addr.add;split
   ·rename_i h;simp[h]
   rfl
  rw[e];exact this)
 obtain ⟨c,d⟩:=Nj f w;simp only[execOp,r,i.ev m,Instr.loadAt,Instr.sureAddr,loadVar,Aeq,Aev,Aem,c,if_true,d,l]
theorem Blk.part{b:Nat}{cs:List Value}{ty:TypeId}{w:World}(h:Blk b cs ty w)(p k:Nat)(vs:List Value)(c:vs=(cs.drop p).take k):∀j u,vs[j]?=some u->FD b (p+j) u w:=λj u a=>by
 subst c;refine h.cel _ ?_;rw[AeS] at a;split at a
 ·rw[Aff] at a;exact a
 cases a
def GZ(P:Program)(t:TypeId):Bool:=match P.underlying t with|some .string=>true|_=>false
theorem GA{t:TypeId}(h:GZ P t=true):P.underlying t=some .string:=by
 unfold GZ at h;split at h
 ·assumption
 cases h

theorem FZ{x:Operand}{t z:TypeId}{d:Option Addr}{l c:Nat}(h:o.op=.call {callee:=.builtin .len,args:= #[x],argTypes:= #[t]})(b:Dm P t=some z)(g:ev L x=some (.slice d l c)):Ar P C n ds L o (I l):=λa f w _=>by
 obtain ⟨e,i,b,_,_⟩:=Fd b;simp only[execOp,h,f.ev g,resolve,AeR,AeE,Aft];simp[invoke,builtin,Builtin.len_,run_underlying b,goInt,go_sem]
theorem AaC{x:Operand}{t:TypeId}{s:ByteArray}(e:o.op=.call {callee:=.builtin .len,args:= #[x],argTypes:= #[t]})(b:GZ P t=true)(c:ev L x=some (.string s)):Ar P C n ds L o (I s.size):=λa d w _=>by
 have b:=GA b;simp only[execOp,e,d.ev c,resolve,AeR,AeE,Aft];simp[invoke,builtin,Builtin.len_,run_underlying b,goInt,go_sem]
theorem M8{x y:Operand}{t u:TypeId}{k d:IntKind}{p q:Int}(f:o.op=.call {callee:=.builtin .max,args:= #[x,y],argTypes:= #[t,u]})(c:ev L x=some (.int k p))(e:ev L y=some (.int d q)):Ar P C n ds L o (.int k (max p q)):=λa b w _=>by
 simp only[execOp,f,b.ev c,b.ev e,resolve,AeR,AeE,Aft];simp[invoke,builtin,Builtin.max_,Builtin.max2,go_sem];omega
theorem Kn{x y:Operand}{t u:TypeId}{k d:IntKind}{p q:Int}(f:o.op=.call {callee:=.builtin .min,args:= #[x,y],argTypes:= #[t,u]})(c:ev L x=some (.int k p))(e:ev L y=some (.int d q)):Ar P C n ds L o (.int k (min p q)):=λa b w _=>by
 simp only[execOp,f,b.ev c,b.ev e,resolve,AeR,AeE,Aft];simp[invoke,builtin,Builtin.min_,Builtin.min2,go_sem];omega
theorem DS{s:TypeId}{x:Operand}{f:Nat}{b p k r:Nat}(j:o.op=.fieldAddr s x f)(hs:Ek P s f=some k)(g:ev L x=some (.pointer (some ⟨b,p,none⟩)))(u:p+k=r):Ar P C n ds L o (.pointer (some ⟨b,r,none⟩)):=λa d w _=>by
 obtain ⟨m,h,t,hs,i,hi,c,l⟩:=Pm hs;have e:(Addr.add ⟨b,p,none⟩ h.offset)=⟨b,r,none⟩:=by
  unfold Addr.add;split
  ·rename_i q;simp only[Ahg,true_and,and_true];omega
  simp only[Ahg,true_and,and_true];omega
 simp only[execOp,j,d.ev g];simp[Instr.fieldAt,run_underlying hs,i,Instr.sureAddr,fieldPlace,sizeOf,typeInfo,hi,c,e,go_sem]
theorem CH{t:TypeId}{x y:Operand}{b p l c j z:Nat}{i:Int}{k:IntKind}(ho:o.op=.indexAddr t x y)(d:Dm P t=some z)
  (s:ev L x=some (.slice (some ⟨b,p,none⟩) l c))(m:ev L y=some (.int k i))(f:i=j)(q:j<l){r:Nat}(u:p+j*z=r):Ar P C n ds L o (.pointer (some ⟨b,r,none⟩)):=λa g w _=>by
 obtain ⟨e,i0,d,hi,v⟩:=Fd d;subst f;have h:(0:Int)<=(j:Int)/\(j:Int)<(l:Int):=by omega
 simp only[execOp,ho,g.ev s,g.ev m];simp[Instr.indexAt,run_underlying d,sizeOf,typeInfo,hi,v,h,q,u,go_sem,asIntOf]
def At(ao:Option Addr)(k:Nat)(v:Value)(w:World):Prop:=∃b p,ao=some ⟨b,p,none⟩/\FD b (p+k) v w
def Ie(ao:Option Addr)(k:Nat):Value:=.pointer (ao.map λa=>⟨a.block,a.off+k,none⟩)
theorem Aj{t:TypeId}{x y:Operand}{f:Option Addr}{l c j z:Nat}{i:Int}{k:IntKind}{u:Value}{v:World}{q:Nat}(ho:o.op=.indexAddr t x y)(d:Dm P t=some z)
  (hx:ev L x=some (.slice f l c))(s:ev L y=some (.int k i))(g:i=j)(hl:j<l)(h:At f q u v){r:Nat}(hr:j*z=r):Ar P C n ds L o (Ie f r):=λa m w _=>by
 obtain ⟨e,i0,d,hi,hz⟩:=Fd d;obtain ⟨b,p,rfl,_⟩:=h;subst g;have h1:(0:Int)<=(j:Int)/\(j:Int)<(l:Int):=by omega
 simp only[execOp,ho,m.ev hx,m.ev s];simp[Instr.indexAt,run_underlying d,sizeOf,typeInfo,hi,hz,h1,hl,hr,Ie,go_sem,asIntOf]
theorem Bj{s:TypeId}{x:Operand}{f:Nat}{c:Option Addr}{p k r q:Nat}{u:Value}{h:World}(j:o.op=.fieldAddr s x f)(hs:Ek P s f=some k)(i:ev L x=some (Ie c p))(d:At c q u h)(l:p+k=r):Ar P C n ds L o (Ie c r):=λa e w g=>by
 obtain ⟨b,p',rfl,_⟩:=d;have:=DS (P:=P) (C:=C) (r:=p'+r) j hs (show ev L x=some (.pointer (some ⟨b,p'+p,none⟩)) from i) U a e w g;simpa [Ie] using this
theorem Ax{t:TypeId}{x:Operand}{c:Option Addr}{k:Nat}(j:o.op=.load t x)(e:ev L x=some (Ie c k))(d:Gc P t=true)(f:∀w,C w->At c k v w):Ar P C n ds L o v:=λa g w i=>by
 obtain ⟨b,p,rfl,h⟩:=f w i;exact Bf (P:=P) (C:=(· =w)) j e d (Ay h) a g w Z
theorem Bq{t:TypeId}{x:Operand}{d:Option Addr}{k:Nat}{vs:List Value}(r:o.op=.load t x)(q:ev L x=some (Ie d k))
  (i:Id P t=some vs.length)(c:vs≠[])(g:∀w,C w->∀j u,vs[j]?=some u->At d (k+j) u w):Ar P C n ds L o (.agg vs.toArray):=λa m w f=>by
 cases vs with
 | nil=>exact absurd Z c
 | cons u us=>
  obtain ⟨b,p,rfl,_⟩:=g w f 0 u Z;refine BX (P:=P) (C:=(· =w)) r q i (Ay λj x l=>?_) a m w Z;obtain ⟨b',p',e,h⟩:=g w f j x l;simp only[Aef,Ahg,and_true] at e;obtain ⟨rfl,rfl⟩:=e;rw[Af5];exact h
theorem JM{t:TypeId}{x y:Operand}{b p l j z:Nat}{i:Int}{k:IntKind}(v:o.op=.indexAddr t x y)(c:Ib P t=some (l,z))
  (q:ev L x=some (.pointer (some ⟨b,p,none⟩)))(h:ev L y=some (.int k i))(d:i=j)(m:j<l){r:Nat}(s:p+j*z=r):Ar P C n ds L o (.pointer (some ⟨b,r,none⟩)):=λa f w _=>by
 obtain ⟨e,i0,c,hi,u⟩:=Ic c;subst d;have g:(0:Int)<=(j:Int)/\(j:Int)<(l:Int):=by omega
 simp only[execOp,v,f.ev q,f.ev h];simp[Instr.indexAt,run_underlying c,Instr.sureAddr,sizeOf,typeInfo,hi,u,g,m,s,go_sem,asIntOf]
theorem Fe{x:Operand}{i:Nat}{vs:List Value}(d:o.op=.extract x i)(b:ev L x=some (.tuple vs.toArray))(hi:vs[i]?=some v):Ar P C n ds L o v:=λa c w _=>by
 simp only[execOp,d,c.ev b];simp[Instr.extract,hi,go_sem]
theorem Ko{x:Operand}{b:Addr}(e:o.op=.nilCheck x)(c:ev L x=some (.pointer (some b))):Ar P C n ds L o (.pointer (some b)):=λa d w _=>by
 simp only[execOp,e,d.ev c];simp[go_sem]
theorem Jb{t:TypeId}{x:Operand}{lo hi:Option Operand}{v:Option Addr}{l c p q z:Nat}(s:o.op=.slice t x lo hi none)(h:Dm P t=some z)
  (m:ev L x=some (.slice v l c))(a0:(lo=none/\p=0)\/∃y k i,lo=some y/\ev L y=some (.int k i)/\i=(p:Int))(u:(hi=none/\q=l)\/∃y k i,hi=some y/\ev L y=some (.int k i)/\i=(q:Int))(f:p<=q)(b:q<=c):
  Ar P C n ds L o (.slice (if c=p then v else v.map (·.add (p*z))) (q-p) (c-p)):=λa g w _=>by
 obtain ⟨e,i0,h,d,r⟩:=Fd h;have h1:(0:Int)<=(p:Int)/\(p:Int)<=(q:Int):=by omega
 have h2:(0:Int)<=(q:Int)/\(q:Int)<=(c:Int):=by omega
 rcases a0 with ⟨rfl,rfl⟩|⟨y,k,i,rfl,hy,rfl⟩<;>rcases u with ⟨rfl,rfl⟩|⟨y',k',i',rfl,j,rfl⟩
 ·simp only[execOp,s,AeN,Afs,g.ev m];simp[Instr.sliceAt,Instr.slice,run_underlying h,Instr.sliceBounds,sizeOf,typeInfo,d,r,f,b,go_sem]<;>(try (intro;omega))
 ·simp only[execOp,s,AeN,Afs,g.ev m,g.ev j];simp[Instr.sliceAt,Instr.slice,run_underlying h,Instr.sliceBounds,Instr.sliceBound,asIntOf,h2,sizeOf,typeInfo,d,r,f,b,go_sem]<;>(try (intro;omega))
 ·simp only[execOp,s,AeN,Afs,g.ev m,g.ev hy];simp[Instr.sliceAt,Instr.slice,run_underlying h,Instr.sliceBounds,Instr.sliceBound,asIntOf,h1,sizeOf,typeInfo,d,r,f,b,go_sem]<;>(try (intro;omega))
 simp only[execOp,s,AeN,Afs,g.ev m,g.ev hy,g.ev j];simp[Instr.sliceAt,Instr.slice,run_underlying h,Instr.sliceBounds,Instr.sliceBound,asIntOf,h1,h2,sizeOf,typeInfo,d,r,f,b,go_sem]<;>(try (intro;omega))
end
end
section
def Elt(P:Program)(e:TypeId)(z:Value)(sz by_:Nat):Prop:=∃i,P.info? e=some i/\i.zero=some z/\i.size=sz/\i.bytes=by_/\z.cells.size=sz/\0<sz/\0<by_
theorem Elt.mk{P:Program}{e:TypeId}{z:Value}{sz by_:Nat}(h:(P.info? e).map (λi=>(i.zero,i.size,i.bytes))=some (some z,sz,by_))(a:z.cells.size=sz)(c:0<sz)(b:0<by_):Elt P e z sz by_:=by
 cases hi:P.info? e with
 | none=>rw[hi] at h;cases h
 | some i=>
  rw[hi] at h;simp only[AeN,Aef,Afy] at h;exact ⟨i,hi,h.1,h.2.1,h.2.2,a,c,b⟩
def Rd(sz:Nat)(v:Value)(n:Nat)(xs:List Value)(w:World):Prop:=
 ∃ao c,v=.slice ao n c/\n<=c/\c<=9223372036854775807/\xs.length=n*sz/\∀j u,xs[j]?=some u->At ao j u w
def W4(B:Nat)(e:TypeId)(sz:Nat)(v:Value)(n:Nat)(xs:List Value)(w:World):Prop:=w.ownsRow B e sz v n xs
theorem Rd.nil(sz:Nat)(w:World):Rd sz (.slice none 0 0) 0 [] w:=⟨none,0,Z,AeJ _,by omega,by simp,λj u h=>by simp at h⟩
section
variable{P:Program}{o:Oper}{a:Act}{w:World}{n:Nat}{ds:List Deferred}{L:List (Nat×Value)}
def Nm(cs:List Value)(ty:TypeId)(w:World)(v:Value)(w':World):Prop:=∃b,v=.pointer (some ⟨b,0,none⟩)/\w.heap.size=b/\w'.heap.size=b+1/\Blk b cs ty w'/\Ext No w w'
def Sh(cs:List Value)(ty:TypeId)(len:Nat)(w:World)(v:Value)(w':World):Prop:=∃b,v=.slice (some ⟨b,0,none⟩) len len/\w.heap.size=b/\w'.heap.size=b+1/\Blk b cs ty w'/\Ext No w w'
theorem Ds(w:World)(o:Obj):Ext No w {w with heap:=w.heap.push o} :=⟨Z,Z,Z,by simp,λk a _=>by
 show (w.heap.push o)[k]?=_;rw[Ag6,if_neg U]⟩
theorem PH(w:World)(cs:List Value)(ty:TypeId):Nm cs ty w (.pointer (some ⟨w.heap.size,0,none⟩)) {w with heap:=w.heap.push (.cells cs.toArray ty)} :=
 ⟨_,Z,Z,by simp,by show (w.heap.push _)[w.heap.size]?=_;simp,Ds w _⟩
theorem XB(w:World)(cs:List Value)(ty:TypeId)(a:Nat):Sh cs ty a w (.slice (some ⟨w.heap.size,0,none⟩) a a) {w with heap:=w.heap.push (.cells cs.toArray ty)} :=
 ⟨_,Z,Z,by simp,by show (w.heap.push _)[w.heap.size]?=_;simp,Ds w _⟩
def zeroCells(P:Program)(e:TypeId):Option (Array Value):=((P.info? e).bind (·.zero)).map Value.cells
theorem XC{e:TypeId}{zs:List Value}(c:o.op=.alloc e)(b:zeroCells P e=some zs.toArray):Cy P n ds L o w (Nm zs e w):=by
 intro a d;refine ⟨_,_,?_,PH w zs e⟩;unfold zeroCells at b
 cases hi:P.info? e with
 | none=>rw[hi] at b;cases b
 | some i0=>
  rw[hi] at b;simp only[AgO] at b
  cases hq:i0.zero with
  | none=>rw[hq] at b;cases b
  | some z=>
   rw[hq] at b;simp only[AeN,Aef] at b;simp only[execOp,c];simp[Instr.alloc,zeroValue,typeInfo,hi,hq,newVar,newRow,newObj,go_sem,Sem.run];rw[<-b];rfl
theorem Pn{ty:TypeId}{b p:Nat}{cs vs:List Value}{t:TypeId}(d:Id P ty=some vs.length)(i:Blk b cs t w)(h:vs=(cs.drop p).take vs.length):(loadVar ty ⟨b,p,none⟩).run P w=.ok (.agg vs.toArray) w:=by
 have k:=run_loadCells_list (P:=P) w ⟨b,p,none⟩ vs (λj u f=>by
  have:=i.part p vs.length vs h j u f;have e:(Addr.add ⟨b,p,none⟩ j)=⟨b,p+j,none⟩:=by
   unfold Addr.add;split
   ·rename_i g;simp[g]
   rfl
  rw[e];exact this)
 obtain ⟨a,c⟩:=Nj d w;simp only[loadVar,Aeq,Aev,Aem,a,if_true,c,k]
theorem AcP{e:TypeId}{x:Operand}{v:Value}{cs:List Value}(f:o.op=.box e x)(b:ev L x=some v)(c:v.cells=cs.toArray):Cy P n ds L o w (Nm cs e w):=by
 intro a d;refine ⟨_,_,?_,PH w cs e⟩;simp only[execOp,f,d.ev b];simp[Instr.box,newVar,newRow,newObj,go_sem,Sem.run];rw[<-c];rfl
theorem Bc{C:World->Prop}{t:TypeId}{parts:List (Nat×Operand)}{vs:List (Nat×Value)}{out:List Value}(d:o.op=.build t parts.toArray)
  (b:(evs L (parts.map (·.2))).map (List.zip (parts.map (·.1)))=some vs)(c:P.built t vs=some out.toArray):Ar P C n ds L o (.agg out.toArray):=λa g w _=>by
 cases he:evs L (parts.map (·.2)) with
 | none=>rw[he] at b;cases b
 | some us=>
  rw[he] at b;simp only[AeN,Aef] at b;have e:=g.evs he;have:(parts.map λx=>(x.1,a.eval x.2))=vs:=by
   rw[<-b,<-e,Afh];clear b he e c d
   induction parts with
   | nil=>rfl
   | cons x xs ih=>simp[ih]
  have f:=run_build (P:=P) w t vs.toArray out.toArray (by simpa using c);simp only[execOp,d,AeR];rw[show (List.map (λx=>match x with|(i,x)=>(i,a.eval x)) parts)=vs from this];simp only[Aeq,f,Aem,Aev]
theorem Uj{x y:Operand}{t e:TypeId}{z:Value}{sz by_ B k m:Nat}{v u:Value}{xs news:List Value}(ho:o.op=.call {callee:=.builtin .append,args:= #[x,y],argTypes:= #[t,t]})
  (ht:P.underlying t=some (.slice e))(hE:Elt P e z sz by_)(hx:ev L x=some v)(hy:ev L y=some u)(d:W4 B e sz v k xs w)(a1:Rd sz u m news w)(h1:∀c∈news,c.oneCell'=true)(hB:B<=w.heap.size)(a9:(k+m)*by_<=140737488355328):
  Cy P n ds L o w λf w'=>W4 B e sz f (k+m) (xs++news) w'/\Ext (λi=>v.ownBlock=some i) w w'/\(f.ownBlock=v.ownBlock\/f.ownBlock=some w.heap.size):=by
 intro a hF;obtain ⟨i,hi,hz,hs,hb,a5,a4,a8⟩:=hE;obtain ⟨ao,c,rfl,b0,_,hl,a2⟩:=a1;have l:∀r w',(Builtin.append_ #[t,t] o.type #[v,.slice ao m c]).run P w=.ok r w'->(execOp a.eval o).run P w=.ok (.value r) w':=λr w' h=>by
  simp only[execOp,ho,resolve,invoke,builtin,Aeq,Aev,Aem,AeR,AeE,Aft,hF.ev hx,hF.ev hy,h]
 have a6:k+m<=maxLen:=by
  have:(k+m)*1<=(k+m)*by_:=Agm _ a8;unfold maxLen;omega
 have s:news=[]->∀f,f=v->W4 B e sz f (k+m) (xs++news) w/\Ext (λi=>v.ownBlock=some i) w w/\(f.ownBlock=v.ownBlock\/f.ownBlock=some w.heap.size):=by
  intro hn f a7;subst a7;have hm:m=0:=by
   rw[hn] at hl;simp only[Aew] at hl;rcases AhB.1 hl.symm with h|h<;>omega
  subst hm;rw[hn,AeQ];exact ⟨d,Ext.refl _ _,.inl Z⟩
 cases ao with
 | none=>
  have hn:news=[]:=by
   cases news with
   | nil=>rfl
   | cons q qs=>obtain ⟨b,p,hh,_⟩:=a2 0 q Z;cases hh
  have hm:m=0:=by
   rw[hn] at hl;simp only[Aew] at hl;rcases AhB.1 hl.symm with h|h<;>omega
  subst hm;refine ⟨v,w,l _ _ ?_,s hn v Z⟩;rcases d.2 with ⟨rfl,rfl⟩|⟨g,b2,b1,rfl,_,_,a3,_⟩
  ·simp[Builtin.append_,run_underlying ht,sizeOf,typeInfo,hi,Builtin.lenOf,Builtin.firstCells]
  simp[Builtin.append_,run_underlying ht,sizeOf,typeInfo,hi,Builtin.lenOf,Builtin.firstCells,a3,storeCells]
 | some ad=>
  have a0:∀j q,news[j]?=some q->w.cell? (ad.add j)=some q:=λj q hj=>by
   obtain ⟨b,p,hh,hc⟩:=a2 j q hj;simp only[Aef] at hh;subst hh;have e:(Addr.add ⟨b,p,none⟩ j)=⟨b,p+j,none⟩:=by
    unfold Addr.add;split
    ·rename_i h0;simp[h0]
    rfl
   rw[e];exact hc
  obtain ⟨f,w',hr,h2,h3,_,h5⟩:=run_append_own_at (P:=P) w B t o.type e i z sz by_ ht hi hz hs hb a5 a4 v k xs d ad m c news hl a0 h1 a6 a9 hB;exact ⟨f,w',l _ _ hr,h2,(Ext.of_grown h3).mono (λ_ _ q=>q.symm),h5⟩
theorem PI{x y:Operand}{t ty:TypeId}{b p:Nat}{cs vs:List Value}{v:Value}(q:o.op=.store t x y)(m:ev L x=some (.pointer (some ⟨b,p,none⟩)))(j:ev L y=some v)(l:v.cells=vs.toArray)(h:∀u∈vs,u.oneCell'=true)
  (hs:(P.info? t).map (·.size)=some vs.length)(f:Blk b cs ty w)(hp:p+vs.length<=cs.length){out:List Value}(d:cs.take p++vs++cs.drop (p+vs.length)=out):
  DG P n ds L o w λw'=>Blk b out ty w'/\Ext (· =b) w w'/\w'.heap.size=w.heap.size:=by
 intro a e;have c:=run_storeCells_at P b p ty vs 0 cs.toArray w f (by simpa using hp) h;simp only[AgY,AfU] at c;rw[d] at c;refine ⟨_,?_,setRow_heap w b _ _ ty (0,0) f,⟨Z,Z,Z,by simp,λk _ g=>setRow_other w b k _ g⟩,by simp⟩
 cases hq:P.info? t with
 | none=>rw[hq] at hs;cases hs
 | some i=>
  rw[hq] at hs;simp only[AeN,Aef] at hs;simp only[execOp,q,e.ev m,e.ev j,Instr.storeAt,Instr.sureAddr,storeVar,sizeOf,typeInfo,Aeq,Aev,Aem,l];simp[hq,hs,go_sem,c]
end
end
section
abbrev Hp:=Nat->Option Obj
abbrev Af:=Hp->Prop
def Hp.part(h:Hp)(own:Nat->Nat)(i:Nat):Hp:=λk=>if own k=i then h k else none
def seps(Γ:List Af):Af:=λh=>∃own:Nat->Nat,∀(i:Nat) (A:Af),Γ[i]?=some A->A (h.part own i)
def hp(w:World):Hp:=λk=>w.heap[k]?
structure Sep(z:World)(Γ:List Af)(w:World):Prop where
 os:w.os=z.os
 tape:w.tape=z.tape
 output:w.output=z.output
 own:seps Γ (hp w)
def bk(b:Nat)(o:Obj):Af:=λh=>h b=some o
def blk(b:Nat)(cs:List Value)(ty:TypeId):Af:=bk b (.cells cs.toArray ty (0,0))
def base(z:World):Af:=λh=>∀k,k<z.heap.size->h k=z.heap[k]?
def emp:Af:=λ_=>True
theorem Db{h h':Hp}{own own':Nat->Nat}{i j:Nat}(e:∀k,own k=i↔own' k=j)(a:∀k,own k=i->h k=h' k):h.part own i=h'.part own' j:=by
 funext k;unfold Hp.part;by_cases q:own k=i
 ·rw[if_pos q,if_pos ((e k).1 q),a k q]
 rw[if_neg q,if_neg (λb=>q ((e k).2 b))]
theorem El{h:Hp}{own:Nat->Nat}{i k:Nat}{o:Obj}(e:h.part own i k=some o):own k=i/\h k=some o:=by
 unfold Hp.part at e;split at e
 ·exact ⟨by assumption,e⟩
 cases e

def pos:List Nat->Nat->Option Nat
 | [],_=>none
 | x::xs,y=>if y=x then some 0 else (pos xs y).map (· +1)
theorem JN:∀(is:List Nat) (y j:Nat),pos is y=some j->is[j]?=some y
 | [],_,_,h=>by simp[pos] at h
 | x::xs,y,j,h=>by
  unfold pos at h;split at h
  ·rename_i e;simp at h;subst h;simp[e]
  cases hp:pos xs y with
  | none=>rw[hp] at h;cases h
  | some q=>rw[hp] at h;simp at h;subst h;simpa using JN xs y q hp
theorem AaD(a:List Nat)(y j:Nat)(h:pos a y=some j):j<a.length:=(Ad6.1 (JN a y j h)).1
def Ge(n:Nat)(is:List Nat):Bool:=(List.range is.length).all λj=>match is[j]? with
 | some y=>Nat.blt y n&&(match pos is y with|some q=>Nat.beq q j|none=>false)
 | none=>false
theorem Si{n:Nat}{b:List Nat}(h:Ge n b=true)(j y:Nat)(e:b[j]?=some y):y<n/\pos b y=some j:=by
 unfold Ge at h;rw[AfW] at h;have:=h j (by have:=(Ad6.1 e).1;simpa using this);rw[e] at this;simp only[Aex] at this;obtain ⟨c,a⟩:=this;refine ⟨by simpa using c,?_⟩
 cases hq:pos b y with
 | none=>rw[hq] at a;cases a
 | some q=>rw[hq] at a;simp at a;rw[a]
def DH(Γ:List Af):List Nat->List Af
 | []=>[]
 | i::is=>(match Γ[i]? with|some A=>A|none=>emp)::DH Γ is
theorem Mi(Γ:List Af):∀(a:List Nat) (j:Nat) (A:Af),(DH Γ a)[j]?=some A->∃i,a[j]?=some i/\(Γ[i]?=some A\/A=emp)
 | [],_,_,h=>by simp[DH] at h
 | i::a,0,A,h=>by
  simp only[DH,AeM,Aef] at h;refine ⟨i,Z,?_⟩
  cases hi:Γ[i]? with
  | none=>rw[hi] at h;exact .inr h.symm
  | some B=>rw[hi] at h;exact .inl (congrArg some h)
 | i::a,j+1,A,h=>by
  simp only[DH,Aet] at h;obtain ⟨q,hq,hA⟩:=Mi Γ a j A h;exact ⟨q,by simpa using hq,hA⟩
theorem picks_len(Γ:List Af):∀is:List Nat,(DH Γ is).length=is.length
 | []=>rfl
 | _::is=>by simp[DH,picks_len Γ is]
theorem Mj{Γ:List Af}{h:Hp}(hs:seps Γ h)(n:Nat)(a:List Nat)(d:Ge n a=true):seps (DH Γ a++Γ.drop n) h:=by
 obtain ⟨own,c⟩:=hs;refine ⟨λk=>if own k<n then (match pos a (own k) with|some j=>j|none=>a.length+Γ.length) else a.length+(own k-n),λj A b=>?_⟩;rcases Ael j a.length with f|f
 ·rw[Aeg (by rw[picks_len];exact f)] at b
  obtain ⟨i,hi,b⟩:=Mi Γ a j A b;obtain ⟨l,g⟩:=Si d j i hi;rcases b with b|rfl
  ·have:=c i A b
   rw[Db (h':=h) (own':=λk=>if own k<n then (match pos a (own k) with|some j=>j|none=>a.length+Γ.length) else a.length+(own k-n)) (j:=j) (λk=>?_) (λ_ _=>rfl)] at this
   ·exact this
   constructor
   ·intro e;subst e;simp[l,g]
   intro e;split at e
   ·cases hp:pos a (own k) with
    | none=>rw[hp] at e;simp at e;omega
    | some q=>rw[hp] at e;simp at e;subst e;have:=JN _ _ _ hp;rw[hi] at this;simpa using this.symm
   omega
  trivial
 rw[Aen (by rw[picks_len];exact f),picks_len,Aff] at b;have:=c _ A b;have m:=(Ad6.1 b).1;rw[Db (h':=h) (own':=λk=>if own k<n then (match pos a (own k) with|some j=>j|none=>a.length+Γ.length) else a.length+(own k-n)) (j:=j) (λk=>?_) (λ_ _=>rfl)] at this
 ·exact this
 constructor
 ·intro e;rw[if_neg U];omega
 intro e;split at e
 ·cases hp:pos a (own k) with
  | none=>rw[hp] at e;simp at e;omega
  | some q=>rw[hp] at e;simp at e;have:=AaD _ _ _ hp;omega
 omega
theorem IG{As Γ:List Af}{h:Hp}(hs:seps (seps As::Γ) h):seps (As++Γ) h:=by
 obtain ⟨own,b⟩:=hs;obtain ⟨a,f⟩:=b 0 _ Z;refine ⟨λk=>if own k=0 then (if a k<As.length then a k else As.length+Γ.length) else As.length+(own k-1),λj A c=>?_⟩;rcases Ael j As.length with d|d
 ·rw[Aeg d] at c
  have:=f j A c;have e:(h.part own 0).part a j=h.part (λk=>if own k=0 then (if a k<As.length then a k else As.length+Γ.length) else As.length+(own k-1)) j:=by
   funext k;unfold Hp.part;dsimp only;by_cases q:own k=0
   ·by_cases q':a k=j
    ·simp[q,q',d]
    have:¬(if a k<As.length then a k else As.length+Γ.length)=j:=by split<;>omega
    simp[q,q',this]
   have:¬As.length+(own k-1)=j:=by omega
   simp[q,this]
  rwa[e] at this
 rw[Aen d] at c;have g:=(Ad6.1 c).1;have:=b (j-As.length+1) A (by simpa using c);rw[Db (h':=h) (own':=λk=>if own k=0 then (if a k<As.length then a k else As.length+Γ.length) else As.length+(own k-1)) (j:=j) (λk=>?_) (λ_ _=>rfl)] at this
 ·exact this
 constructor
 ·intro e;rw[if_neg U];omega
 intro e;split at e
 ·split at e<;>omega
 omega
theorem Mk{As Γ:List Af}{h:Hp}(hs:seps (As++Γ) h):seps (seps As::Γ) h:=by
 obtain ⟨own,a⟩:=hs;refine ⟨λk=>if own k<As.length then 0 else own k-As.length+1,λj A c=>?_⟩
 cases j with
 | zero=>
  simp only[AeM,Aef] at c;subst c;refine ⟨own,λi A hi=>?_⟩;have b:=(Ad6.1 hi).1;have:=a i A (by rw[Aeg b];exact hi);have e:h.part own i=(h.part (λk=>if own k<As.length then 0 else own k-As.length+1) 0).part own i:=by
   funext k;unfold Hp.part;dsimp only;by_cases q:own k=i
   ·simp[q,b]
   simp[q]
  rwa[e] at this
 | succ j=>
  simp only[Aet] at c;have:=a (As.length+j) A (by rw[Aen U];simpa using c);rw[Db (h':=h) (own':=λk=>if own k<As.length then 0 else own k-As.length+1) (j:=j+1) (λk=>?_) (λ_ _=>rfl)] at this
  ·exact this
  constructor
  ·intro e;rw[if_neg U];omega
  intro e;split at e<;>omega
theorem DY{As Bs:List Af}{h:Hp}(hs:seps (As++Bs) h):seps (Bs++As) h:=by
 obtain ⟨own,a⟩:=hs;refine ⟨λk=>if own k<As.length then own k+Bs.length else if own k<As.length+Bs.length then own k-As.length else own k,λj A b=>?_⟩;rcases Ael j Bs.length with d|d
 ·rw[Aeg d] at b
  have:=a (As.length+j) A (by rw[Aen U];simpa using b);rw[Db (h':=h) (own':=λk=>if own k<As.length then own k+Bs.length else if own k<As.length+Bs.length then own k-As.length else own k) (j:=j) (λk=>?_) (λ_ _=>rfl)] at this
  ·exact this
  constructor
  ·intro e;rw[if_neg U,if_pos U];omega
  intro e;split at e
  ·omega
  split at e<;>omega
 rw[Aen d] at b;have c:=(Ad6.1 b).1;have:=a (j-Bs.length) A (by rw[Aeg c];exact b);rw[Db (h':=h) (own':=λk=>if own k<As.length then own k+Bs.length else if own k<As.length+Bs.length then own k-As.length else own k) (j:=j) (λk=>?_) (λ_ _=>rfl)] at this
 ·exact this
 constructor
 ·intro e;rw[if_pos U];omega
 intro e;split at e
 ·omega
 split at e<;>omega
theorem XD{Γ:List Af}{h:Hp}(hs:seps Γ h)(i:Nat){A:Af}(f:Γ[i]?=some A){σ:Type}{B:σ->Af}(c:∀h',(∀k o,h' k=some o->h k=some o)->A h'->∃x,B x h'):∃x,seps (Γ.set i (B x)) h:=by
 obtain ⟨own,a⟩:=hs;obtain ⟨x,d⟩:=c _ (λk o e=>(El e).2) (a i A f);refine ⟨x,own,λj C b=>?_⟩;rw[Afi] at b;split at b
 ·rename_i e;subst e
  split at b
  ·cases b;exact d
  cases b
 exact a j C b

section
variable{z w:World}{Γ:List Af}
theorem Sep.same{a:World}(H:Sep z Γ w)(e:a.os=w.os)(c:a.tape=w.tape)(b:a.output=w.output)(d:∀k:Nat,a.heap[k]?=w.heap[k]?):Sep z Γ a:=
 ⟨e.trans H.os,c.trans H.tape,b.trans H.output,(show hp a=hp w from funext d)▸H.own⟩
theorem Sep.drew(H:Sep z Γ w):Sep z Γ w.drew:=H.same Z Z Z λ_=>rfl
theorem Sep.pick(n:Nat)(b:List Nat)(H:Sep z Γ w)(a:Ge n b=true):Sep z (DH Γ b++Γ.drop n) w:=⟨H.os,H.tape,H.output,Mj H.own n b a⟩
theorem Sep.perm(n:Nat)(b:List Nat){Γ':List Af}(H:Sep z Γ w)(a:Ge n b=true)(e:DH Γ b++Γ.drop n=Γ'):Sep z Γ' w:=e▸H.pick n b a
theorem Sep.opened{As:List Af}(H:Sep z (seps As::Γ) w):Sep z (As++Γ) w:=⟨H.os,H.tape,H.output,IG H.own⟩
theorem Sep.shut{As:List Af}(H:Sep z (As++Γ) w):Sep z (seps As::Γ) w:=⟨H.os,H.tape,H.output,Mk H.own⟩
theorem Sep.swap{As Bs:List Af}(H:Sep z (As++Bs) w):Sep z (Bs++As) w:=⟨H.os,H.tape,H.output,DY H.own⟩
theorem Sep.front{As Bs:List Af}(H:Sep z (As++Bs) w):Sep z As w:=by
 have b:=H.swap;have:seps As (hp w):=by
  obtain ⟨own,d⟩:=b.own;refine ⟨λk=>if own k<Bs.length then As.length else own k-Bs.length,λj A a=>?_⟩;have c:=(Ad6.1 a).1;have:=d (Bs.length+j) A (by rw[Aen U];simpa using a);rwa[Db (h':=hp w) (own':=λk=>if own k<Bs.length then As.length else own k-Bs.length) (j:=j) (λk=>⟨λe=>by rw[if_neg U];omega,λe=>by split at e<;>omega⟩) (λ_ _=>rfl)] at this
 exact ⟨H.os,H.tape,H.output,this⟩
theorem Sep.ex(i:Nat){A:Af}{σ:Type}{B:σ->Af}(H:Sep z Γ w)(c:Γ[i]?=some A)(b:∀h,A h->∃x,B x h):∃x,Sep z (Γ.set i (B x)) w:=by
 obtain ⟨x,a⟩:=XD H.own i c (λh _ q=>b h q);exact ⟨x,H.os,H.tape,H.output,a⟩
theorem Sep.mono(i:Nat){A B:Af}(H:Sep z Γ w)(c:Γ[i]?=some A)(b:∀h,A h->B h):Sep z (Γ.set i B) w:=by
 obtain ⟨_,a⟩:=H.ex i (σ:=Unit) (B:=λ_=>B) c (λh q=>⟨(),b h q⟩);exact a
theorem Sep.exAt(i:Nat){A:Af}{σ:Type}{p:σ->Prop}{B:σ->Af}(H:Sep z Γ w)(d:Γ[i]?=some A)(b:∀h,A h->∃x,p x/\B x h):∃x,p x/\Sep z (Γ.set i (B x)) w:=by
 obtain ⟨⟨x,hp⟩,a⟩:=H.ex i (σ:= {x:σ // p x}) (B:=λx=>B x.1) d (λh q=>by obtain ⟨x,c,e⟩:=b h q;exact ⟨⟨x,c⟩,e⟩);exact ⟨x,hp,a⟩
theorem Sep.into{σ:Type}{A:Af}{p:σ->Prop}{As:σ->List Af}(H:Sep z (A::Γ) w)(c:∀h,A h->∃x,p x/\seps (As x) h):∃x,p x/\Sep z (As x++Γ) w:=by
 obtain ⟨⟨x,hp⟩,a⟩:=H.ex 0 (σ:= {x:σ // p x}) (B:=λx=>seps (As x.1)) Z (λh q=>by obtain ⟨x,b,d⟩:=c h q;exact ⟨⟨x,b⟩,d⟩);exact ⟨x,hp,a.opened⟩
theorem Sep.made(n:Nat){A:Af}(H:Sep z Γ w)(a:∀h,seps (Γ.take n) h->A h):Sep z (A::Γ.drop n) w:=by
 have:Sep z (Γ.take n++Γ.drop n) w:=by rw[AeI];exact H
 exact this.shut.mono 0 Z a
theorem Sep.get(i:Nat){A:Af}(H:Sep z Γ w)(b:Γ[i]?=some A):∃h,A h/\∀k o,h k=some o->w.heap[k]?=some o:=by
 obtain ⟨own,a⟩:=H.own;exact ⟨_,a i A b,λk o e=>(El e).2⟩
theorem Sep.bk(i:Nat){b:Nat}{o:Obj}(H:Sep z Γ w)(c:Γ[i]?=some (bk b o)):w.heap[b]?=some o:=by
 obtain ⟨h,a,d⟩:=H.get i c;exact d _ _ a
theorem Sep.blk(i:Nat){b:Nat}{cs:List Value}{ty:TypeId}(H:Sep z Γ w)(a:Γ[i]?=some (blk b cs ty)):Blk b cs ty w:=H.bk i a
theorem Sep.cel(i:Nat){b:Nat}{cs:List Value}{ty:TypeId}(H:Sep z Γ w)(a:Γ[i]?=some (YtnifkcmmanmbbaaGreatDoor.blk b cs ty))(o:Nat){v:Value}(c:cs[o]?=some v):FD b o v w:=(H.blk i a).cel o c
theorem Sep.write(i:Nat){b:Nat}{o o':Obj}{c:World}(H:Sep z Γ w)(r:Γ[i]?=some (YtnifkcmmanmbbaaGreatDoor.bk b o))(l:c.os=w.os)(s:c.tape=w.tape)(m:c.output=w.output)
  (n:c.heap[b]?=some o')(h:∀k,k≠b->c.heap[k]?=w.heap[k]?):Sep z (Γ.set i (YtnifkcmmanmbbaaGreatDoor.bk b o')) c:=by
 refine ⟨l.trans H.os,s.trans H.tape,m.trans H.output,?_⟩;obtain ⟨own,a⟩:=H.own;have f:=(El (a i _ r)).1;refine ⟨own,λj C d=>?_⟩;rw[Afi] at d;split at d
 ·rename_i e;subst e
  split at d
  ·cases d
   unfold YtnifkcmmanmbbaaGreatDoor.bk Hp.part hp;rw[if_pos f,n]
  cases d
 rename_i e;have:=a j C d;have p:(hp w).part own j=(hp c).part own j:=Db (λ_=>Ahp) (λk g=>(h k (λq=>e (by rw[<-g,q,f]))).symm);rwa[p] at this
theorem Sep.grow{A:Af}{a:World}(H:Sep z Γ w)(x:Ext No w a)(d:A (λk=>if k<w.heap.size then none else a.heap[k]?)):Sep z (A::Γ) a:=by
 refine ⟨x.os.trans H.os,x.tape.trans H.tape,x.output.trans H.output,?_⟩;obtain ⟨own,b⟩:=H.own;refine ⟨λk=>if k<w.heap.size then own k+1 else 0,λj C c=>?_⟩
 cases j with
 | zero=>
  simp only[AeM,Aef] at c;subst c;have e:(hp a).part (λk=>if k<w.heap.size then own k+1 else 0) 0=λk=>if k<w.heap.size then none else a.heap[k]? :=by
   funext k;unfold Hp.part hp;dsimp only;by_cases q:k<w.heap.size
   ·simp[q]
   simp[q]
  rw[e];exact d
 | succ j=>
  simp only[Aet] at c;have:=b j C c;have e:(hp a).part (λk=>if k<w.heap.size then own k+1 else 0) (j+1)=(hp w).part own j:=by
   funext k;unfold Hp.part hp;dsimp only;by_cases q:k<w.heap.size
   ·simp only[q,if_true,Nat.add_right_cancel_iff]
    by_cases q':own k=j
    ·simp only[q',if_true];exact x.block k q (λr=>r)
    simp[q']
   have:w.heap[k]?=none:=AeT U;simp[q,this]
  rwa[e]
theorem Sep.ext0{a:World}(H:Sep z Γ w)(x:Ext No w a):Sep z Γ a:=by
 have:=H.grow (A:=emp) x trivial;have:=this.perm 1 [] (Γ':=Γ) Z Z;exact this
theorem A5{K:World->Prop}(H:Sep z Γ w)(h:∀w,Sep z Γ w->K w):∀a,Ext No w a->a.heap.size=w.heap.size->K a:=λa x _=>h a (H.ext0 x)
theorem Sep.new{b:Nat}{o:Obj}{a:World}(H:Sep z Γ w)(x:Ext No w a)(d:w.heap.size<=b)(c:a.heap[b]?=some o):Sep z (YtnifkcmmanmbbaaGreatDoor.bk b o::Γ) a:=
 H.grow x (show (if b<w.heap.size then none else a.heap[b]?)=some o by rw[if_neg U];exact c)
theorem Sep.done(i:Nat)(H:Sep z Γ w)(c:Γ[i]?=some (base z)):Ext No z w:=by
 obtain ⟨h,b,d⟩:=H.get i c;have key:∀k,k<z.heap.size->w.heap[k]?=z.heap[k]? :=λk a=>by
  have e:z.heap[k]?=some z.heap[k]:=AgG a;rw[e];exact d k _ ((b k a).trans e)
 refine ⟨H.os,H.tape,H.output,?_,λk a _=>key k a⟩;rcases Ael w.heap.size z.heap.size with q|q
 ·have:=key w.heap.size q
  rw[AeT (Aed _),AgG q] at this;cases this
 exact q
end

section
variable{z w:World}{Γ:List Af}{a0 a1 a2 a3 a4 a5 a6 a7 a8 a9 a10 a11 a12 a13 a14 a15 a16 a17 a18 a19 a20 a21 a22 a23 a24 a25 a26:Af}
theorem Sep.l1(H:Sep z (a0::Γ) w):Sep z (a0::Γ) w:=H
theorem Sep.l2(H:Sep z (a0::a1::Γ) w):Sep z (a0::a1::Γ) w:=H
theorem Sep.l3(H:Sep z (a0::a1::a2::Γ) w):Sep z (a0::a1::a2::Γ) w:=H
theorem Sep.l4(H:Sep z (a0::a1::a2::a3::Γ) w):Sep z (a0::a1::a2::a3::Γ) w:=H
theorem Sep.l5(H:Sep z (a0::a1::a2::a3::a4::Γ) w):Sep z (a0::a1::a2::a3::a4::Γ) w:=H
theorem Sep.l6(H:Sep z (a0::a1::a2::a3::a4::a5::Γ) w):Sep z (a0::a1::a2::a3::a4::a5::Γ) w:=H
theorem Sep.l7(H:Sep z (a0::a1::a2::a3::a4::a5::a6::Γ) w):Sep z (a0::a1::a2::a3::a4::a5::a6::Γ) w:=H
theorem Sep.l8(H:Sep z (a0::a1::a2::a3::a4::a5::a6::a7::Γ) w):Sep z (a0::a1::a2::a3::a4::a5::a6::a7::Γ) w:=H
theorem Sep.l9(H:Sep z (a0::a1::a2::a3::a4::a5::a6::a7::a8::Γ) w):Sep z (a0::a1::a2::a3::a4::a5::a6::a7::a8::Γ) w:=H
theorem Sep.l10(H:Sep z (a0::a1::a2::a3::a4::a5::a6::a7::a8::a9::Γ) w):Sep z (a0::a1::a2::a3::a4::a5::a6::a7::a8::a9::Γ) w:=H
theorem Sep.l11(H:Sep z (a0::a1::a2::a3::a4::a5::a6::a7::a8::a9::a10::Γ) w):Sep z (a0::a1::a2::a3::a4::a5::a6::a7::a8::a9::a10::Γ) w:=H
theorem Sep.l12(H:Sep z (a0::a1::a2::a3::a4::a5::a6::a7::a8::a9::a10::a11::Γ) w):Sep z (a0::a1::a2::a3::a4::a5::a6::a7::a8::a9::a10::a11::Γ) w:=H
theorem Sep.l13(H:Sep z (a0::a1::a2::a3::a4::a5::a6::a7::a8::a9::a10::a11::a12::Γ) w):Sep z (a0::a1::a2::a3::a4::a5::a6::a7::a8::a9::a10::a11::a12::Γ) w:=H
theorem Sep.l14(H:Sep z (a0::a1::a2::a3::a4::a5::a6::a7::a8::a9::a10::a11::a12::a13::Γ) w):Sep z (a0::a1::a2::a3::a4::a5::a6::a7::a8::a9::a10::a11::a12::a13::Γ) w:=H
theorem Sep.l15(H:Sep z (a0::a1::a2::a3::a4::a5::a6::a7::a8::a9::a10::a11::a12::a13::a14::Γ) w):Sep z (a0::a1::a2::a3::a4::a5::a6::a7::a8::a9::a10::a11::a12::a13::a14::Γ) w:=H
theorem Sep.l16(H:Sep z (a0::a1::a2::a3::a4::a5::a6::a7::a8::a9::a10::a11::a12::a13::a14::a15::Γ) w):Sep z (a0::a1::a2::a3::a4::a5::a6::a7::a8::a9::a10::a11::a12::a13::a14::a15::Γ) w:=H
theorem Sep.l17(H:Sep z (a0::a1::a2::a3::a4::a5::a6::a7::a8::a9::a10::a11::a12::a13::a14::a15::a16::Γ) w):Sep z (a0::a1::a2::a3::a4::a5::a6::a7::a8::a9::a10::a11::a12::a13::a14::a15::a16::Γ) w:=H
theorem Sep.l19(H:Sep z (a0::a1::a2::a3::a4::a5::a6::a7::a8::a9::a10::a11::a12::a13::a14::a15::a16::a17::a18::Γ) w):Sep z (a0::a1::a2::a3::a4::a5::a6::a7::a8::a9::a10::a11::a12::a13::a14::a15::a16::a17::a18::Γ) w:=H
theorem Sep.f1(H:Sep z (a0::a1::Γ) w):Sep z (a1::a0::Γ) w:=H.pick 2 [1,0] Z
theorem Sep.f2(H:Sep z (a0::a1::a2::Γ) w):Sep z (a2::a0::a1::Γ) w:=H.pick 3 [2,0,1] Z
theorem Sep.f3(H:Sep z (a0::a1::a2::a3::Γ) w):Sep z (a3::a0::a1::a2::Γ) w:=H.pick 4 [3,0,1,2] Z
theorem Sep.f4(H:Sep z (a0::a1::a2::a3::a4::Γ) w):Sep z (a4::a0::a1::a2::a3::Γ) w:=H.pick 5 [4,0,1,2,3] Z
theorem Sep.f5(H:Sep z (a0::a1::a2::a3::a4::a5::Γ) w):Sep z (a5::a0::a1::a2::a3::a4::Γ) w:=H.pick 6 [5,0,1,2,3,4] Z
theorem Sep.f6(H:Sep z (a0::a1::a2::a3::a4::a5::a6::Γ) w):Sep z (a6::a0::a1::a2::a3::a4::a5::Γ) w:=H.pick 7 [6,0,1,2,3,4,5] Z
theorem Sep.f7(H:Sep z (a0::a1::a2::a3::a4::a5::a6::a7::Γ) w):Sep z (a7::a0::a1::a2::a3::a4::a5::a6::Γ) w:=H.pick 8 [7,0,1,2,3,4,5,6] Z
theorem Sep.f8(H:Sep z (a0::a1::a2::a3::a4::a5::a6::a7::a8::Γ) w):Sep z (a8::a0::a1::a2::a3::a4::a5::a6::a7::Γ) w:=H.pick 9 [8,0,1,2,3,4,5,6,7] Z
theorem Sep.f9(H:Sep z (a0::a1::a2::a3::a4::a5::a6::a7::a8::a9::Γ) w):Sep z (a9::a0::a1::a2::a3::a4::a5::a6::a7::a8::Γ) w:=H.pick 10 [9,0,1,2,3,4,5,6,7,8] Z
theorem Sep.f10(H:Sep z (a0::a1::a2::a3::a4::a5::a6::a7::a8::a9::a10::Γ) w):Sep z (a10::a0::a1::a2::a3::a4::a5::a6::a7::a8::a9::Γ) w:=H.pick 11 [10,0,1,2,3,4,5,6,7,8,9] Z
theorem Sep.f13(H:Sep z (a0::a1::a2::a3::a4::a5::a6::a7::a8::a9::a10::a11::a12::a13::Γ) w):Sep z (a13::a0::a1::a2::a3::a4::a5::a6::a7::a8::a9::a10::a11::a12::Γ) w:=H.pick 14 [13,0,1,2,3,4,5,6,7,8,9,10,11,12] Z
theorem Sep.f14(H:Sep z (a0::a1::a2::a3::a4::a5::a6::a7::a8::a9::a10::a11::a12::a13::a14::Γ) w):Sep z (a14::a0::a1::a2::a3::a4::a5::a6::a7::a8::a9::a10::a11::a12::a13::Γ) w:=H.pick 15 [14,0,1,2,3,4,5,6,7,8,9,10,11,12,13] Z
theorem Sep.l0(H:Sep z Γ w):Sep z Γ w:=H
theorem Sep.d(H:Sep z (a0::Γ) w):Sep z Γ w:=H.pick 1 [] Z
end

def Cn(P:Program)(f:FuncId)(args:List Value)(pre:List Af)(post:Value->List Af->Prop):Prop:=
 ∀z R w,Sep z (pre++R) w->Calls P f args.toArray w (Ret λv w'=>∃Γ',post v Γ'/\Sep z (Γ'++R) w')
theorem Cn.mono{P:Program}{f:FuncId}{args:List Value}{pre:List Af}{post a:Value->List Af->Prop}(h:Cn P f args pre post)(hp:∀v Γ,post v Γ->a v Γ):Cn P f args pre a:=
 λz R w H=>Ret.mono (h z R w H) λ_ _ ⟨Γ',q,b⟩=>⟨Γ',hp _ _ q,b⟩
theorem AC{n:Nat}{ds:List Deferred}{L:List (Nat×Value)}{K:Act->Prop}(t:Nat){v u:Value}(b:CB L t=some u)(e:u=v)(h:∀a,Fr n ds ((t,v)::L) a->K a):∀a,Fr n ds L a->K a:=λa c=>h a (c.upd t b e)
theorem Adx{n:Nat}{ds:List Deferred}{L:List (Nat×Value)}{K:Act->Prop}(t:Nat){p:Prop}{b:Decidable p}(c:CB L t=some (.bool (@decide p b)))(e: @decide p b=false)(h:∀a,Fr n ds ((t,.bool false)::L) a->K a):∀a,Fr n ds L a->K a:=AC t c (congrArg _ e) h
end
section
section more
variable{P:Program}{o:Oper}{a:Act}{w:World}{n:Nat}{ds:List Deferred}{L:List (Nat×Value)}
theorem Nn{t:TypeId}{e:TypeId}{z:Value}{b sz by_:Nat}{parts:List (Nat×Operand)}{vs:List (Nat×Value)}{out:List Value}(l:o.op=.buildSlice t b parts.toArray)(m:P.underlying t=some (.slice e))(y:Elt P e z sz by_)
  (c:(evs L (parts.map (·.2))).map (List.zip (parts.map (·.1)))=some vs)(r:b*sz<=16777216)(hl:0<b)(k:Instr.fill (λi=>some (i*sz,sz)) ((Array.range (b*sz)).map (z.cells[· % z.cells.size]!)) vs=some out.toArray):Cy P n ds L o w (Sh out e b w):=by
 intro a s;obtain ⟨i,hi,hz,hs,hb,u,p,v⟩:=y;refine ⟨_,_,?_,XB w out e b⟩
 cases he:evs L (parts.map (·.2)) with
 | none=>rw[he] at c;cases c
 | some us=>
  rw[he] at c;simp only[AeN,Aef] at c;have e2:=s.evs he;have:(parts.map λx=>(x.1,a.eval x.2))=vs:=by
   rw[<-c,<-e2,Afh];clear c he e2 k l
   induction parts with
   | nil=>rfl
   | cons x xs ih=>simp[ih]
  simp only[execOp,l,AeR];rw[show (List.map (λx=>match x with|(i,x)=>(i,a.eval x)) parts)=vs from this];have g:b*sz≠0:=by
   intro q;rcases AhB.1 q with h|h<;>omega
  have d:¬b*sz > 2^24:=by omega
  have f:∀w,(zeroValue e).run P w=.ok z w:=λw=>by simp[zeroValue,typeInfo,hi,hz,go_sem]
  have j:∀w,(sizeOf e).run P w=.ok sz w:=λw=>by simp[sizeOf,typeInfo,hi,hs,go_sem]
  simp only[Instr.buildSlice,Aeq,run_underlying m,Aem,j,if_neg d,Aev,if_neg g,f,k,newRow,newObj,Sem.run]
end more
section tail
variable{P:Program}{ops:List Oper}{Q:Act->Prop}{a:Act}{w:World}{rest:List Oper}{o:Oper}{n d:Nat}{ds:List Deferred}{L:List (Nat×Value)}{v:Value}
theorem B9(f:BL ops L o.guard=true)(g:o.dst=some d)(c:Nat.blt d n=true)(b:Ar P (· =w) n ds L o v)(K:∀a',Fr n ds ((d,v)::L) a'->wpStill P ops.toArray w Q rest a'):∀a,Fr n ds L a->wpStill P ops.toArray w Q (o::rest) a:=λa e=>
 wpStill_step λK' h=>by
  rw[if_pos (wantL_ok e f)];unfold Oper.still;rw[b a e w Z,Oper.stillUpon_value,g];exact h _ (K _ (e.put d v c))
theorem Sj(e:EW ops L o.guard=true)(f:o.dst=some d)(b:Nat.blt d n=true)(K:∀a',Fr n ds ((d,undef)::L) a'->wpStill P ops.toArray w Q rest a'):∀a,Fr n ds L a->wpStill P ops.toArray w Q (o::rest) a:=λa c=>
 wpStill_step λK' g=>by
  rw[if_neg (by rw[skipL_ok c e];exact AgJ),f];exact g _ (K _ (c.put d undef b))
theorem CD(h:∀a,Fr n ds L a->Q a):∀a,Fr n ds L a->wpStill P ops.toArray w Q [] a:=h
theorem BG{id:Nat}{N R:Act->World->Prop}{X:Nat->Act->World->Prop}(k:Nat)(c:P.follows .mixedOrders=true)(e:Region.lexTailB .any ops.toArray k=true)
  (h:∀b,Ext No w b->b.heap.size=w.heap.size->∀a,Fr n ds L a->wpStill P ops.toArray b (λa'=>wpList P ops.toArray (Qp N X R) (ops.drop k) a' b) (ops.take k) a):∀a,Fr n ds L a->(Code.region id ops.toArray true).wp P (Qp N X R) a w:=λa d=>
 wp_region_still_tail k c e (h _ (Ext.drawn No w) Z a d)
end tail
section held
variable{P:Program}{ops:List Oper}{N R:Act->World->Prop}{X:Nat->Act->World->Prop}{S:World->Prop}{a:Act}{w:World}{fuel:Nat}{listed:Array Bool}{n d i:Nat}{ds:List Deferred}{L:List (Nat×Value)}{v:Value}{o:Oper}
theorem AO{id:Nat}(S:World->Prop)(k:Nat)(c:ops.length=k)(d:P.follows .mixedOrders=true)
  (h:∀b,Ext No w b->b.heap.size=w.heap.size->∀a,Fr n ds L a->wpAnyH P .any ops.toArray (Qp N X R) S k (Array.replicate k false) a b):∀a,Fr n ds L a->(Code.region id ops.toArray true).wp P (Qp N X R) a w:=λa e=>
 wp_region_held (S:=S) d (by have:=h _ (Ext.drawn No w) Z a e;simpa [c] using this)
theorem BO(i:Nat)(hi:ops[i]?=some o)(hs:Region.noSelect ops.toArray=true)(j:Region.free .any ops.toArray listed i=true)(g:(Region.ready .any ops.toArray listed).contains i=true)
  (f:BL ops L o.guard=true)(l:o.dst=some d)(e:Nat.blt d n=true)(b:Ar P S n ds L o v)(k:S w)
  (K:∀a',Fr n ds ((d,v)::L) a'->wpAnyH P .any ops.toArray (Qp N X R) S fuel (listed.setIfInBounds i true) a' w):∀a,Fr n ds L a->wpAnyH P .any ops.toArray (Qp N X R) S (fuel+1) listed a w:=λa c=>
 wpAnyH_take (i:=i) (oi:=o) (v:=v) (by simpa using hi) hs j g (λ_ _ _ h=>h.elim) (.inl ⟨wantL_ok c f,λm h=>b a c m h⟩) k (by rw[l];exact K _ (c.put d v e))
theorem Sk(i:Nat)(hi:ops[i]?=some o)(hs:Region.noSelect ops.toArray=true)(f:Region.free .any ops.toArray listed i=true)(e:(Region.ready .any ops.toArray listed).contains i=true)
  (j:EW ops L o.guard=true)(k:o.dst=some d)(b:Nat.blt d n=true)(g:S w)
  (K:∀a',Fr n ds ((d,undef)::L) a'->wpAnyH P .any ops.toArray (Qp N X R) S fuel (listed.setIfInBounds i true) a' w):∀a,Fr n ds L a->wpAnyH P .any ops.toArray (Qp N X R) S (fuel+1) listed a w:=λa c=>
 wpAnyH_take (i:=i) (oi:=o) (v:=undef) (by simpa using hi) hs f e (λ_ _ _ h=>h.elim) (.inr ⟨skipL_ok c j,Z⟩) g (by rw[k];exact K _ (c.put d undef b))
theorem AB(rs:List Nat)(c:Region.ready .any ops.toArray listed=rs)(b:rs≠[])
  (h:∀i∈rs,∀a,Fr n ds L a->wpOp P ops.toArray (Qp N X R) i (λa' w'=>S w'/\wpAnyH P .any ops.toArray (Qp N X R) S fuel (listed.setIfInBounds i true) a' w') a w):∀a,Fr n ds L a->wpAnyH P .any ops.toArray (Qp N X R) S (fuel+1) listed a w:=λa d=>
 wpAnyH_all c b (λi hi=>h i hi a d)
theorem An{p:Nat->Prop}{i:Nat}(h:p i):∀j∈[i],p j:=λj a=>by simp at a;subst a;exact h
theorem JO{p:Nat->Prop}{i k:Nat}(h:p i)(h':p k):∀j∈[i,k],p j:=λj a=>by
 simp at a;rcases a with rfl|rfl
 ·exact h
 exact h'
theorem a_done{fuel:Nat}(b:Region.ready .any ops.toArray listed=[])(h:∀a,Fr n ds L a->N a w):∀a,Fr n ds L a->wpAnyH P .any ops.toArray (Qp N X R) S fuel listed a w:=λa c=>wpAnyH_done b (h a c) _
theorem Av{Z_:Act->World->Prop}(b:S w)(h:∀a,Fr n ds L a->Z_ a w):∀a,Fr n ds L a->S w/\Z_ a w:=λa c=>⟨b,h a c⟩
theorem Ca{K:Act->World->Prop}{Rr:Value->World->Prop}(hi:ops[i]?=some o)(j:BL ops L o.guard=true)(k:o.dst=some d)(c:Nat.blt d n=true)(h:Cy P n ds L o w Rr)(g:∀v b,Rr v b->∀a',Fr n ds ((d,v)::L) a'->K a' b):∀a,Fr n ds L a->wpOp P ops.toArray (Qp N X R) i K a w:=by
 intro a e;obtain ⟨v,b,f,l⟩:=h a e;unfold wpOp;rw[Ae9,hi];simp only;rw[if_pos (wantL_ok e j)];left;unfold Oper.wp;rw[f,AgE,k];exact g v b l _ (e.put d v c)
theorem Bg{K:Act->World->Prop}{Rr:World->Prop}(hi:ops[i]?=some o)(f:BL ops L o.guard=true)(g:o.dst=none)(h:DG P n ds L o w Rr)(e:∀b,Rr b->∀a,Fr n ds L a->K a b):∀a,Fr n ds L a->wpOp P ops.toArray (Qp N X R) i K a w:=by
 intro a c;obtain ⟨b,d,j⟩:=h a c;unfold wpOp;rw[Ae9,hi];simp only;rw[if_pos (wantL_ok c f)];left;unfold Oper.wp;rw[d,Oper.upon_skip,g];exact e b j a c
theorem Sl{K:Act->World->Prop}{Rr:Value->World->Prop}{f:FuncId}{args:List Operand}{vs:List Value}{tys:Array TypeId}(hi:ops[i]?=some o)(r:BL ops L o.guard=true)(p:o.dst=some d)(l:Nat.blt d n=true)
  (t:o.op=.call {callee:=.value (.func f),args:=args.toArray,argTypes:=tys})(b:evs L args=some vs)(m:∀w,(callFunc f vs.toArray).run P w=.ok (.enter f vs.toArray) w)(h:Calls P f vs.toArray w (Ret Rr))
  (s:∀v j,Rr v j->∀a',Fr n ds ((d,v)::L) a'->K a' j):∀a,Fr n ds L a->wpOp P ops.toArray (Qp N X R) i K a w:=by
 intro a k;have g:(execOp a.eval o).run P w=.ok (.enter f vs.toArray) w:=by
  unfold execOp;have e:=k.evs b;simp only[t,resolve,Act.eval,Deferred.ofValue,invoke];simp only[go_sem,AeR,e,AeL,AeQ,m];simpa using m w
 unfold wpOp;rw[Ae9,hi];simp only;rw[if_pos (wantL_ok k r)];left;unfold Oper.wp;rw[g,AgF];exact Ago h λe j q=>by
  cases e with
  | returned v=>simp only[p];exact s v j q _ (k.put d v l)
  | panicked c=>exact q.elim
  | outgrown=>exact q.elim
end held

section last
variable{P:Program}{ops:Array Oper}{Q:Exit->Act->World->Prop}{S:World->Prop}
def Dc(ops:Array Oper)(listed:Array Bool):Prop:=∀k o,ops[k]?=some o->listed.getD k true=true->k<listed.size->∀e∈o.after,Region.binds .any e=true->listed.getD e.on false=true
theorem Dc.start(ops:Array Oper)(k:Nat):Dc ops (Array.replicate k false):=λj o _ h a=>by
 simp at a;simp[Array.getD,a] at h
theorem Dc.next{listed:Array Bool}{i:Nat}(h:Dc ops listed)(hi:i∈Region.ready .any ops listed):Dc ops (listed.setIfInBounds i true):=λk o j d l e f g=>by
 have a:k<listed.size:=by simpa using l
 by_cases hki:k=i
 ·subst hki
  obtain ⟨_,o',c,b⟩:=mem_ready.1 hi;rw[j] at c;cases c;have:=b e f g;by_cases hei:e.on=k
  ·rw[hei];simp[a]
  rw[getD_set_ne false (AfN hei)];exact this
 rw[getD_set_ne true (AfN hki)] at d;have:=h k o j d a e f g;by_cases hei:e.on=i
 ·rw[hei]
  rcases Ael i listed.size with h'|h'
  ·simp[h']
  rw[hei] at this;simp[AeT h'] at this
 rw[getD_set_ne false (AfN hei)];exact this
def If(ops:Array Oper):Bool:=(List.range (ops.size-1)).all λk=>(List.range ops.size).any λj=>k<j&&(match ops[j]? with|some o=>o.after.any λe=>Region.binds .any e&&e.on==k|none=>false)
theorem Q6(h:If ops=true)(k:Nat)(d:k+1<ops.size):∃j o,k<j/\ops[j]?=some o/\∃e∈o.after,Region.binds .any e=true/\e.on=k:=by
 simp only[If,AfW,AfL] at h;have:=h k U;simp only[Ahq,AfL,Aex,decide_eq_true_eq] at this;obtain ⟨j,_,c,a⟩:=this
 cases ho:ops[j]? with
 | none=>rw[ho] at a;cases a
 | some o=>
  rw[ho] at a;simp only[Ahh] at a;obtain ⟨q,hq,b⟩:=a;simp only[Aex,beq_iff_eq] at b;exact ⟨j,o,c,ho,_,Ahi hq,b.1,b.2⟩
theorem Q7(h:If ops=true){listed:Array Bool}(m:Dc ops listed)(hs:listed.size=ops.size)(r:ops.size-1∈Region.ready .any ops listed):∀n k,ops.size-k<=n->k+1<ops.size->listed.getD k false=true:=by
 intro n
 induction n with
 | zero=>intro k l a;omega
 | succ n ih=>
  intro k l a;obtain ⟨j,o,q,f,e,i,g,d⟩:=Q6 h k a;have s:j<ops.size:=(AeU.1 f).1;by_cases hjl:j=ops.size-1
  ·subst hjl
   obtain ⟨_,o',c,b⟩:=mem_ready.1 r;rw[f] at c;cases c;rw[<-d];exact b e i g
  have:=ih j U U;rw[<-d];exact m j o f (by
   have p:j<listed.size:=by omega
   simp[p] at this ⊢;exact this) U e i g
def Hu(P:Program)(ops:Array Oper)(Q:Exit->Act->World->Prop)(S:World->Prop):Nat->Array Bool->Act->World->Prop
 | 0,listed,a,w=>Region.ready .any ops listed=[]/\Q .normal a w
 | fuel+1,listed,a,w=>
  (Region.ready .any ops listed=[]->Q .normal a w)/\
  ∀i∈Region.ready .any ops listed,wpOp P ops Q i (λa' w'=>(i≠ops.size-1->S w')/\Hu P ops Q S fuel (listed.setIfInBounds i true) a' w') a w
theorem Ig:∀(fuel:Nat) (listed:Array Bool) (a:Act) (w:World),Hu P ops Q S fuel listed a w->wpAny P .any ops Q fuel listed a w
 | 0,_,_,_,h=>h
 | fuel+1,_,_,_,h=>⟨h.1,λi hi=>wpOp_mono (λa' w' h'=>Ig fuel _ a' w' h'.2) (h.2 i hi)⟩
theorem Np(s:If ops=true){i:Nat}{oi:Oper}{v:Value}(hi:ops[i]?=some oi)(a6:i≠ops.size-1)(l:∀(j:Nat) (o:Oper) cs b,ops[j]?=some o->o.op≠ .select cs b)
  (hQ:∀c a w,Q (.panic c) (a.put oi.dst v) w->Q (.panic c) a w):
  ∀(fuel:Nat) (listed:Array Bool) (a:Act) (w:World),Dc ops listed->listed.size=ops.size->
   (∀j q,ops[j]?=some q->j≠i->listed.getD j true=false->(∀e∈q.after,Region.binds .any e=true->e.on≠i)->oi.apart ops q=true)->
   i∈Region.ready .any ops listed->YieldsIf P ops S oi v a->S w->
   Hu P ops Q S fuel (listed.setIfInBounds i true) (a.put oi.dst v) w->Hu P ops Q S (fuel+1) listed a w:=by
 have a5:i<ops.size:=(AeU.1 hi).1;intro fuel
 induction fuel with
 | zero=>
  intro listed a w hd n _ m hy hS H;refine ⟨λh=>(by rw[h] at m;cases m),λj t=>?_⟩;by_cases hji:j=i
  ·subst hji;exact hy.wpOp hi hS ⟨λ_=>hS,H⟩
  have:=ready_mono t hji;rw[H.1] at this;cases this
 | succ fuel ih=>
  intro listed a w hd n d m hy hS H;refine ⟨λh=>(by rw[h] at m;cases m),λj t=>?_⟩;by_cases hji:j=i
  ·subst hji;exact hy.wpOp hi hS ⟨λ_=>hS,H⟩
  have r:=H.2 j (ready_mono t hji);have a1:j≠ops.size-1:=λe=>by
   subst e;have:=Q7 s hd n t (ops.size-i) i (Aed _) U;have u:=(mem_ready.1 m).1;have hh:i<listed.size:=by omega
   simp[hh] at this u;rw[this] at u;cases u
  obtain ⟨g,q,p,a0⟩:=mem_ready.1 t;have x:∀e∈q.after,Region.binds .any e=true->e.on≠i:=λe he hb a3=>by
   have r:=a0 e he hb;have u:=(mem_ready.1 m).1;rw[a3] at r;rcases Ael i listed.size with h'|h'
   ·simp[h'] at u r;rw[u] at r;cases r
   simp[AeT h'] at r
  have h2:=wpOp_putIf p (d j q p hji g x) (λcs b=>l i oi cs b hi) (λcs b=>l j q cs b p) hQ hy r;have f:∀k y,ops[k]?=some y->k≠i->(listed.setIfInBounds j true).getD k true=false->
    (∀e∈y.after,Region.binds .any e=true->e.on≠i)->oi.apart ops y=true:=λk y hk a4 z a2=>by
   refine d k y hk a4 ?_ a2;by_cases hjk:j=k
   ·subst hjk;exact g
   rw[getD_set_ne true hjk] at z;exact z
  refine wpOp_mono (λa' w' h3=>⟨λ_=>h3.2.1 a1,ih (listed.setIfInBounds j true) a' w' (hd.next t) (by simpa using n) f (ready_mono m (AfN hji)) h3.1 (h3.2.1 a1) ?_⟩) h2;rw[Agk _ _ hji];exact h3.2.2
theorem Po{listed:Array Bool}{a:Act}{w:World}(hr:Region.ready .any ops listed=[])(h:Q .normal a w):∀fuel,Hu P ops Q S fuel listed a w
 | 0=>⟨hr,h⟩
 | _+1=>⟨λ_=>h,by rw[hr];simp⟩
end last
section last2
variable{P:Program}{ops:List Oper}{N R:Act->World->Prop}{X:Nat->Act->World->Prop}{S:World->Prop}{a:Act}{w:World}{fuel:Nat}{listed:Array Bool}{n d i:Nat}{ds:List Deferred}{L:List (Nat×Value)}{v:Value}{o:Oper}
def GB(P:Program)(ops:List Oper)(Q:Exit->Act->World->Prop)(S:World->Prop)(fuel:Nat)(listed:Array Bool)(a:Act)(w:World):Prop:=Dc ops.toArray listed->listed.size=ops.length->Hu P ops.toArray Q S fuel listed a w
theorem Bl{id:Nat}(S:World->Prop)(k:Nat)(c:ops.length=k)(d:P.follows .mixedOrders=true)
  (h:∀b,Ext No w b->b.heap.size=w.heap.size->∀a,Fr n ds L a->GB P ops (Qp N X R) S k (Array.replicate k false) a b):∀a,Fr n ds L a->(Code.region id ops.toArray true).wp P (Qp N X R) a w:=λa e=>
 wp_region_any d (Ig (S:=S) _ _ _ _ (by have:=h _ (Ext.drawn No w) Z a e (Dc.start _ _) (by simp[c]);simpa [c] using this))
theorem BS(i:Nat)(b:If ops.toArray=true)(hi:ops[i]?=some o)(m:Nat.beq i (ops.length-1)=false)(hs:Region.noSelect ops.toArray=true)(r:Region.free .any ops.toArray listed i=true)(q:(Region.ready .any ops.toArray listed).contains i=true)
  (p:BL ops L o.guard=true)(t:o.dst=some d)(l:Nat.blt d n=true)(j:Ar P S n ds L o v)(s:S w)
  (K:∀a',Fr n ds ((d,v)::L) a'->GB P ops (Qp N X R) S fuel (listed.setIfInBounds i true) a' w):∀a,Fr n ds L a->GB P ops (Qp N X R) S (fuel+1) listed a w:=λa k c e=>
 have f:ops.toArray[i]?=some o:=by simpa using hi
 have g:i∈Region.ready .any ops.toArray listed:=by simpa using q
 Np b (i:=i) (oi:=o) (v:=v) f (by simpa using Agq m) (Agx hs) (λ_ _ _ h=>h.elim) fuel listed a w c (by simpa using e) (AgP f r) g (.inl ⟨wantL_ok k p,λu h=>j a k u h⟩) s
  (by rw[t];exact K _ (k.put d v l) (c.next g) (by simpa using e))
theorem AF(rs:List Nat)(g:Region.ready .any ops.toArray listed=rs)(d:rs≠[])
  (h:∀i∈rs,∀a,Fr n ds L a->wpOp P ops.toArray (Qp N X R) i (λa' f=>(i≠ops.length-1->S f)/\GB P ops (Qp N X R) S fuel (listed.setIfInBounds i true) a' f) a w):∀a,Fr n ds L a->GB P ops (Qp N X R) S (fuel+1) listed a w:=λa j b c=>
 ⟨λe=>absurd (g▸e) d,λi hi=>wpOp_mono (λa' f q=>⟨by simpa using q.1,q.2 (b.next hi) (by simpa using c)⟩) (h i (g▸hi) a j)⟩
theorem Bn{fuel:Nat}(b:Region.ready .any ops.toArray listed=[])(h:∀a,Fr n ds L a->N a w):∀a,Fr n ds L a->GB P ops (Qp N X R) S fuel listed a w:=λa c _ _=>Po b (h a c) _
theorem Au{q:Prop}{Z_:Act->World->Prop}(b:q->S w)(h:∀a,Fr n ds L a->Z_ a w):∀a,Fr n ds L a->(q->S w)/\Z_ a w:=λa c=>⟨b,h a c⟩
end last2
end
section
def u8(b:UInt8):Value:=.int .u8 b.toNat
def u32(b:UInt32):Value:=.int .u32 b.toNat
def GC(x:Int):UInt8:=UInt8.ofNat (x%256).toNat
def Fs(x:Int):UInt32:=UInt32.ofNat (x%4294967296).toNat
theorem AcQ(x:Int):IntKind.u8.wrap x=(GC x).toNat:=by
 simp[GC,IntKind.wrap,IntKind.bits,IntKind.signed];omega
theorem XE(x:Int):IntKind.u32.wrap x=(Fs x).toNat:=by
 simp[Fs,IntKind.wrap,IntKind.bits,IntKind.signed];omega
theorem AaE(b:UInt32):Fs b.toNat=b:=by
 apply Ahr.1;have:=b.toNat_lt;simp[Fs];omega
theorem XF(x:Int):Value.int .u8 (IntKind.u8.wrap x)=u8 (GC x):=congrArg _ (AcQ x)
theorem Uk(x:Int):Value.int .u32 (IntKind.u32.wrap x)=u32 (Fs x):=congrArg _ (XE x)
theorem AdR{a b:UInt8}(h:u8 a=u8 b):a=b:=by
 simp only[u8,Value.int.injEq,true_and] at h;exact AgZ.1 U
section
variable{P:Program}{C:World->Prop}{o:Oper}{a:Act}{w z:World}{Γ:List Af}{n:Nat}{ds:List Deferred}{L:List (Nat×Value)}{v:Value}{x y:Operand}{xt yt:TypeId}
theorem AaF{p q:UInt8}(e:o.op=.binOp .xor xt x y yt)(c:ev L x=some (u8 p))(d:ev L y=some (u8 q)):Ar P C n ds L o (u8 (p ^^^ q)):=λa b w _=>by
 simp only[execOp,e,b.ev c,b.ev d,u8];simp[go_sem,Op.intBits,IntKind.wrap,IntKind.bits,IntKind.signed];have:=(p ^^^ q).toNat_lt;rw[<-UInt8.toNat_xor];show (((p ^^^ q).toNat:Int))%256=((p ^^^ q).toNat:Int);omega
theorem Sm{p q:UInt8}(i:o.op=.binOp .eql xt x y yt){k:IntKind}(c:D8 P xt xt=some k)(e:ev L x=some (u8 p))(g:ev L y=some (u8 q)):Ar P C n ds L o (.bool (decide (p=q))):=λa b w _=>by
 obtain ⟨d,j,f⟩:=FK c;simp only[execOp,i,b.ev e,b.ev g,u8];simp[f,go_sem];rw[Aer];simp;exact ⟨λh=>AgZ.1 U,λh=>by rw[h]⟩
theorem AdP{p q:UInt32}(i:o.op=.binOp .eql xt x y yt){k:IntKind}(c:D8 P xt xt=some k)(e:ev L x=some (u32 p))(g:ev L y=some (u32 q)):Ar P C n ds L o (.bool (decide (p=q))):=λa b w _=>by
 obtain ⟨d,j,f⟩:=FK c;simp only[execOp,i,b.ev e,b.ev g,u32];simp[f,go_sem];rw[Aer];simp;exact ⟨λh=>Ahr.1 U,λh=>by rw[h]⟩
theorem XG{p q:UInt32}(j:o.op=.binOp .neq xt x y yt){k:IntKind}(c:D8 P xt xt=some k)(f:ev L x=some (u32 p))(i:ev L y=some (u32 q)):Ar P C n ds L o (.bool (decide (p≠q))):=λa b w _=>by
 obtain ⟨d,l,g⟩:=FK c;simp only[execOp,j,b.ev f,b.ev i,u32];simp[g,go_sem];rw[Aer];simp;exact ⟨λh e=>h (by rw[e]),λh e=>h (Ahr.1 U)⟩
theorem PJ{p q:UInt32}(e:o.op=.binOp .xor xt x y yt)(c:ev L x=some (u32 p))(d:ev L y=some (u32 q)):Ar P C n ds L o (u32 (p ^^^ q)):=λa b w _=>by
 simp only[execOp,e,b.ev c,b.ev d,u32];simp[go_sem,Op.intBits,IntKind.wrap,IntKind.bits,IntKind.signed];have:=(p ^^^ q).toNat_lt;rw[<-UInt32.toNat_xor];show (((p ^^^ q).toNat:Int))%4294967296=((p ^^^ q).toNat:Int);omega
theorem XH{p q:UInt32}(e:o.op=.binOp .and xt x y yt)(c:ev L x=some (u32 p))(d:ev L y=some (u32 q)):Ar P C n ds L o (u32 (p&&&q)):=λa b w _=>by
 simp only[execOp,e,b.ev c,b.ev d,u32];simp[go_sem,Op.intBits,IntKind.wrap,IntKind.bits,IntKind.signed];have:=(p&&&q).toNat_lt;rw[<-UInt32.toNat_and];show (((p&&&q).toNat:Int))%4294967296=((p&&&q).toNat:Int);omega
theorem XI{p q:UInt32}(e:o.op=.binOp .mul xt x y yt)(c:ev L x=some (u32 p))(d:ev L y=some (u32 q)):Ar P C n ds L o (u32 (p*q)):=λa b w _=>by
 simp only[execOp,e,b.ev c,b.ev d,u32];simp[go_sem,IntKind.wrap,IntKind.bits,IntKind.signed,UInt32.toNat_mul]
theorem Hv{p:UInt32}{k:IntKind}{m:Int}{n':UInt32}(i:o.op=.binOp .shr xt x y yt)(d:ev L x=some (u32 p))(h:ev L y=some (.int k m))(f:0<=m/\m<32/\n'=UInt32.ofNat m.toNat):Ar P C n ds L o (u32 (p>>>n')):=λa c w _=>by
 obtain ⟨g,l,rfl⟩:=f;obtain ⟨j,rfl⟩:=AfS g;simp only[execOp,i,c.ev d,c.ev h,u32];have e:¬((j:Int)<0):=by omega
 have b:min j 32=j:=by omega
 simp[go_sem,Op.shift,IntKind.bits,e,b,UInt32.toNat_shiftRight];rw[Ahm];simp;rw[Afu U]
theorem PK{p:UInt32}(b:o.op=.unOp .xor xt x)(c:ev L x=some (u32 p)):Ar P C n ds L o (u32 (4294967295 ^^^ p)):=λa d w _=>by
 simp only[execOp,b,d.ev c,u32];simp[go_sem,Op.intBits,IntKind.max,IntKind.wrap,IntKind.bits,IntKind.signed];have:=(4294967295 ^^^ p).toNat_lt;have e:(4294967295 ^^^ p).toNat=4294967295 ^^^ p.toNat:=UInt32.toNat_xor _ _;rw[<-e];show (((4294967295 ^^^ p).toNat:Int))%4294967296=((4294967295 ^^^ p).toNat:Int);omega

theorem Q8{a:TypeId}{k:IntKind}{p:Int}(c:o.op=.convert xt a x)(d:D8 P xt a=some .u8)(b:ev L x=some (.int k p)):Ar P C n ds L o (u8 (GC p)):=by
 have:=Ht (P:=P) (C:=C) (n:=n) (ds:=ds) (L:=L) c d b;rwa[XF] at this
theorem Sn{a:TypeId}{k:IntKind}{p:Int}(c:o.op=.convert xt a x)(d:D8 P xt a=some .u32)(b:ev L x=some (.int k p)):Ar P C n ds L o (u32 (Fs p)):=by
 have:=Ht (P:=P) (C:=C) (n:=n) (ds:=ds) (L:=L) c d b;rwa[Uk] at this
theorem Q9{a:TypeId}{p:UInt8}(c:o.op=.convert xt a x)(d:D8 P xt a=some .i64)(b:ev L x=some (u8 p)):Ar P C n ds L o (I p.toNat):=by
 have:=Ht (P:=P) (C:=C) (n:=n) (ds:=ds) (L:=L) c d b;have hp:=p.toNat_lt;rwa[AfG _ U] at this
theorem AaG{a:TypeId}{p:UInt32}(c:o.op=.convert xt a x)(d:D8 P xt a=some .i64)(b:ev L x=some (u32 p)):Ar P C n ds L o (I p.toNat):=by
 have:=Ht (P:=P) (C:=C) (n:=n) (ds:=ds) (L:=L) c d b;have hp:=p.toNat_lt;rwa[AfG _ U] at this
theorem Hw{a:TypeId}{p:UInt32}(c:o.op=.convert xt a x)(d:D8 P xt a=some .u8)(b:ev L x=some (u32 p)):Ar P C n ds L o (u8 p.toUInt8):=by
 have:=Q8 (P:=P) (C:=C) (n:=n) (ds:=ds) (L:=L) c d b;have e:GC p.toNat=p.toUInt8:=by
  apply AgZ.1;simp[GC];omega
 rwa[e] at this
def F0(P:Program)(t:TypeId):Bool:=match P.underlying t with|some (.pointer _)=>true|_=>false
theorem Ih{t:TypeId}(h:F0 P t=true):∃e,P.underlying t=some (.pointer e):=by
 unfold F0 at h;split at h
 ·exact ⟨_,by assumption⟩
 cases h
def Ra(P:Program)(t:TypeId):Bool:=match P.underlying t with|some (.slice _)=>true|_=>false
theorem PL{t:TypeId}(h:Ra P t=true):∃e,P.underlying t=some (.slice e):=by
 unfold Ra at h;split at h
 ·exact ⟨_,by assumption⟩
 cases h
theorem Nq{f:Addr}(h:o.op=.binOp .eql xt x y yt)(b:F0 P xt=true)(d:ev L x=some (.pointer (some f)))(g:ev L y=some (.pointer none)):Ar P C n ds L o (.bool false):=λa c w _=>by
 obtain ⟨e,b⟩:=Ih b;simp only[execOp,h,c.ev d,c.ev g];simp[b,go_sem]
theorem Ul{f:Addr}(h:o.op=.binOp .neq xt x y yt)(b:F0 P xt=true)(d:ev L x=some (.pointer (some f)))(g:ev L y=some (.pointer none)):Ar P C n ds L o (.bool true):=λa c w _=>by
 obtain ⟨e,b⟩:=Ih b;simp only[execOp,h,c.ev d,c.ev g];simp[b,go_sem]
theorem Um(g:o.op=.binOp .eql xt x y yt)(b:F0 P xt=true)(d:ev L x=some (.pointer none))(f:ev L y=some (.pointer none)):Ar P C n ds L o (.bool true):=λa c w _=>by
 obtain ⟨e,b⟩:=Ih b;simp only[execOp,g,c.ev d,c.ev f];simp[b,go_sem]
theorem Un(g:o.op=.binOp .neq xt x y yt)(b:F0 P xt=true)(d:ev L x=some (.pointer none))(f:ev L y=some (.pointer none)):Ar P C n ds L o (.bool false):=λa c w _=>by
 obtain ⟨e,b⟩:=Ih b;simp only[execOp,g,c.ev d,c.ev f];simp[b,go_sem]
theorem Ii{g:Addr}{l c:Nat}(i:o.op=.binOp .eql xt x y yt)(b:Ra P xt=true)(f:ev L x=some (.slice (some g) l c))(h:ev L y=some (.slice none 0 0)):Ar P C n ds L o (.bool false):=λa d w _=>by
 obtain ⟨e,b⟩:=PL b;simp only[execOp,i,d.ev f,d.ev h];simp[AhE _ _ e _ _ _ _ _ b,go_sem]
theorem Uo(g:o.op=.binOp .eql xt x y yt)(b:Ra P xt=true)(d:ev L x=some (.slice none 0 0))(f:ev L y=some (.slice none 0 0)):Ar P C n ds L o (.bool true):=λa c w _=>by
 obtain ⟨e,b⟩:=PL b;simp only[execOp,g,c.ev d,c.ev f];simp[AhE _ _ e _ _ _ _ _ b,go_sem]
theorem C4{f:Fn}{bs cs:List Operand}{us vs:List Value}(d:o.op=.makeFunc f bs.toArray cs.toArray)(e:evs L bs=some us)(c:evs L cs=some vs):Ar P C n ds L o (.func f us.toArray vs.toArray):=λa b w _=>by
 have e1:=b.evs e;have e2:=b.evs c;simp only[execOp,d,AeR,e1,e2];rfl

def Nr(P:Program)(t:TypeId):Option (Nat×Nat):=match P.underlying t with
 | some (.pointer a)=>Ib P a
 | _=>none
theorem So{t:TypeId}{l z:Nat}(h:Nr P t=some (l,z)):∃a e i,P.underlying t=some (.pointer a)/\P.underlying a=some (.array l e)/\P.info? e=some i/\i.size=z:=by
 unfold Nr at h;split at h
 ·rename_i a b
  obtain ⟨e,i,d,c,f⟩:=Ic h;exact ⟨a,e,i,b,d,c,f⟩
 cases h
theorem BK{t:TypeId}{lo hi:Option Operand}{b a l c p q z o' l' c':Nat}(ho:o.op=.slice t x lo hi none)(r:Dm P t=some z)
  (w:ev L x=some (.slice (some ⟨b,a,none⟩) l c))(j:(lo=none/\p=0)\/∃y k i,lo=some y/\ev L y=some (.int k i)/\i=(p:Int))(g:(hi=none/\q=l)\/∃y k i,hi=some y/\ev L y=some (.int k i)/\i=(q:Int))(m:p<=q)(f:q<=c)
  (u:a+p*z=o')(h2:q-p=l')(v:c-p=c')(d:p<c\/p*z=0):Ar P C n ds L o (.slice (some ⟨b,o',none⟩) l' c'):=by
 have:=Jb (P:=P) (C:=C) (n:=n) (ds:=ds) (L:=L) ho r w j g m f;rw[h2,v] at this;have e:(if c=p then (some ⟨b,a,none⟩:Option Addr) else (some ⟨b,a,none⟩:Option Addr).map (·.add (p*z)))=some ⟨b,o',none⟩:=by
  subst u;split
  ·rename_i h;rcases d with d|d
   ·omega
   simp[d]
  simp only[AeN,Aef];unfold Addr.add;split
  ·rename_i s;simp[s]
  rfl
 rwa[e] at this
theorem Ady{t:TypeId}{lo hi:Option Operand}{b d n' p q z o' l' c':Nat}(ho:o.op=.slice t x lo hi none)(ht:Nr P t=some (n',z))
  (u:ev L x=some (.pointer (some ⟨b,d,none⟩)))(a1:(lo=none/\p=0)\/∃y k i,lo=some y/\ev L y=some (.int k i)/\i=(p:Int))(a0:(hi=none/\q=n')\/∃y k i,hi=some y/\ev L y=some (.int k i)/\i=(q:Int))(j:p<=q)(c:q<=n')
  (h1:d+p*z=o')(s:q-p=l')(h3:n'-p=c')(h4:p<n'\/p*z=0):Ar P C n ds L o (.slice (some ⟨b,o',none⟩) l' c'):=λa m w _=>by
 obtain ⟨ar,e,i0,l,g,f,v⟩:=So ht;have g1:(0:Int)<=(p:Int)/\(p:Int)<=(q:Int):=by omega
 have g2:(0:Int)<=(q:Int)/\(q:Int)<=(n':Int):=by omega
 have key:((if n'=p then (⟨b,d,none⟩:Addr) else (⟨b,d,none⟩:Addr).add (p*z)))=⟨b,o',none⟩:=by
  subst h1;split
  ·rename_i h;rcases h4 with h4|h4
   ·omega
   simp[h4]
  unfold Addr.add;split
  ·rename_i h0;simp[h0]
  rfl
 rcases a1 with ⟨rfl,rfl⟩|⟨y,k,i,rfl,hy,rfl⟩<;>rcases a0 with ⟨rfl,rfl⟩|⟨y',k',i',rfl,r,rfl⟩
 ·simp only[execOp,ho,AeN,Afs,m.ev u];simp[Instr.sliceAt,Instr.slice,run_underlying l,run_underlying g,Instr.sureAddr,Instr.sliceBounds,sizeOf,typeInfo,f,v,j,c,go_sem,key,s,h3]<;>(try simp_all)<;>(try omega)
 ·simp only[execOp,ho,AeN,Afs,m.ev u,m.ev r];simp[Instr.sliceAt,Instr.slice,run_underlying l,run_underlying g,Instr.sureAddr,Instr.sliceBounds,Instr.sliceBound,asIntOf,g2,sizeOf,typeInfo,f,v,j,c,go_sem,key,s,h3]<;>(try simp_all)<;>(try omega)
 ·simp only[execOp,ho,AeN,Afs,m.ev u,m.ev hy];simp[Instr.sliceAt,Instr.slice,run_underlying l,run_underlying g,Instr.sureAddr,Instr.sliceBounds,Instr.sliceBound,asIntOf,g1,sizeOf,typeInfo,f,v,j,c,go_sem,key,s,h3]<;>(try simp_all)<;>(try omega)
 simp only[execOp,ho,AeN,Afs,m.ev u,m.ev hy,m.ev r];simp[Instr.sliceAt,Instr.slice,run_underlying l,run_underlying g,Instr.sureAddr,Instr.sliceBounds,Instr.sliceBound,asIntOf,g1,g2,sizeOf,typeInfo,f,v,j,c,go_sem,key,s,h3]<;>(try simp_all)<;>(try omega)
theorem GD{t:TypeId}{lo hi:Option Operand}{b d n' p q z o' l' c':Nat}(u:o.op=.slice t x lo hi none)(ht:Ib P t=some (n',z))
  (r:ev L x=some (.pointer (some ⟨b,d,none⟩)))(a1:(lo=none/\p=0)\/∃y k i,lo=some y/\ev L y=some (.int k i)/\i=(p:Int))(a0:(hi=none/\q=n')\/∃y k i,hi=some y/\ev L y=some (.int k i)/\i=(q:Int))(j:p<=q)(c:q<=n')
  (h1:d+p*z=o')(h2:q-p=l')(v:n'-p=c')(h4:p<n'\/p*z=0):Ar P C n ds L o (.slice (some ⟨b,o',none⟩) l' c'):=λa l w _=>by
 obtain ⟨e,i0,g,f,s⟩:=Ic ht;have g1:(0:Int)<=(p:Int)/\(p:Int)<=(q:Int):=by omega
 have g2:(0:Int)<=(q:Int)/\(q:Int)<=(n':Int):=by omega
 have key:((if n'=p then (⟨b,d,none⟩:Addr) else (⟨b,d,none⟩:Addr).add (p*z)))=⟨b,o',none⟩:=by
  subst h1;split
  ·rename_i h;rcases h4 with h4|h4
   ·omega
   simp[h4]
  unfold Addr.add;split
  ·rename_i h0;simp[h0]
  rfl
 rcases a1 with ⟨rfl,rfl⟩|⟨y,k,i,rfl,hy,rfl⟩<;>rcases a0 with ⟨rfl,rfl⟩|⟨y',k',i',rfl,m,rfl⟩
 ·simp only[execOp,u,AeN,Afs,l.ev r];simp[Instr.sliceAt,Instr.slice,run_underlying g,Instr.sureAddr,Instr.sliceBounds,sizeOf,typeInfo,f,s,j,c,go_sem,key,h2,v]<;>(try simp_all)<;>(try omega)
 ·simp only[execOp,u,AeN,Afs,l.ev r,l.ev m];simp[Instr.sliceAt,Instr.slice,run_underlying g,Instr.sureAddr,Instr.sliceBounds,Instr.sliceBound,asIntOf,g2,sizeOf,typeInfo,f,s,j,c,go_sem,key,h2,v]<;>(try simp_all)<;>(try omega)
 ·simp only[execOp,u,AeN,Afs,l.ev r,l.ev hy];simp[Instr.sliceAt,Instr.slice,run_underlying g,Instr.sureAddr,Instr.sliceBounds,Instr.sliceBound,asIntOf,g1,sizeOf,typeInfo,f,s,j,c,go_sem,key,h2,v]<;>(try simp_all)<;>(try omega)
 simp only[execOp,u,AeN,Afs,l.ev r,l.ev hy,l.ev m];simp[Instr.sliceAt,Instr.slice,run_underlying g,Instr.sureAddr,Instr.sliceBounds,Instr.sliceBound,asIntOf,g1,g2,sizeOf,typeInfo,f,s,j,c,go_sem,key,h2,v]<;>(try simp_all)<;>(try omega)

theorem Cb(H:Sep z Γ w){e:TypeId}{zs:List Value}(i:o.op=.alloc e)(h:zeroCells P e=some zs.toArray):Cy P n ds L o w (λv c=>∃b,v=Y b/\Sep z (blk b zs e::Γ) c):=λa g=>by
 obtain ⟨v,c,d,b,rfl,hs,_,j,f⟩:=XC (w:=w) i h a g;exact ⟨_,c,d,b,Z,H.new f U j⟩
theorem G0(H:Sep z Γ w){e:TypeId}{cs:List Value}(i:o.op=.box e x)(c:ev L x=some v)(g:v.cells=cs.toArray):Cy P n ds L o w (λv d=>∃b,v=Y b/\Sep z (blk b cs e::Γ) d):=λa h=>by
 obtain ⟨v,d,f,b,rfl,hs,_,j,c⟩:=AcP (P:=P) (w:=w) i c g a h;exact ⟨_,d,f,b,Z,H.new c U j⟩
theorem Ak(i:Nat)(H:Sep z Γ w){t ty:TypeId}{b p:Nat}{cs vs:List Value}(hi:Γ[i]?=some (blk b cs ty))(s:o.op=.store t x y)(c:ev L x=some (.pointer (some ⟨b,p,none⟩)))(h:ev L y=some v)(l:v.cells=vs.toArray)(g:∀u∈vs,u.oneCell'=true)
  (hs:(P.info? t).map (·.size)=some vs.length)(hp:p+vs.length<=cs.length){out:List Value}(d:cs.take p++vs++cs.drop (p+vs.length)=out):
  DG P n ds L o w (λe=>Sep z (Γ.set i (blk b out ty)) e):=λa j=>by
 obtain ⟨e,r,m,c,_⟩:=PI s c h l g hs (H.blk i hi) hp d a j;refine ⟨e,r,H.write i hi c.os c.tape c.output m (λk f=>?_)⟩;rcases Ael k w.heap.size with q|q
 ·exact c.block k q f
 rw[AeT q,AeT U]
theorem Lk(i:Nat)(H:Sep z Γ w){t ty:TypeId}{b:Nat}{e:Value}{xs:List Value}(hi:Γ[i]?=some (blk b (e::xs) ty))(g:o.op=.store t x y)(a:ev L x=some (Y b))(f:ev L y=some v)(c:v.cells= #[v])(d:v.oneCell'=true)(hs:(P.info? t).map (·.size)=some 1):DG P n ds L o w (λw'=>Sep z (Γ.set i (blk b (v::xs) ty)) w'):=
 Ak i H hi g a f (vs:=[v]) c (by simp[d]) hs O Z
theorem Ll(i:Nat)(H:Sep z Γ w){t ty:TypeId}{b:Nat}{a f:Value}{xs:List Value}(hi:Γ[i]?=some (blk b (a::f::xs) ty))(h:o.op=.store t x y)(c:ev L x=some (.pointer (some ⟨b,1,none⟩)))(g:ev L y=some v)(d:v.cells= #[v])(e:v.oneCell'=true)(hs:(P.info? t).map (·.size)=some 1):DG P n ds L o w (λw'=>Sep z (Γ.set i (blk b (a::v::xs) ty)) w'):=
 Ak i H hi h c g (vs:=[v]) d (by simp[e]) hs O Z
theorem JP(i:Nat)(H:Sep z Γ w){t ty:TypeId}{b:Nat}{c a x2:Value}{xs:List Value}(hi:Γ[i]?=some (blk b (c::a::x2::xs) ty))(h:o.op=.store t x y)(g:ev L x=some (.pointer (some ⟨b,2,none⟩)))(e:ev L y=some v)(f:v.cells= #[v])(d:v.oneCell'=true)(hs:(P.info? t).map (·.size)=some 1):DG P n ds L o w (λw'=>Sep z (Γ.set i (blk b (c::a::v::xs) ty)) w'):=
 Ak i H hi h g e (vs:=[v]) f (by simp[d]) hs O Z
theorem Ns(i:Nat)(H:Sep z Γ w){t ty:TypeId}{b:Nat}{c a x2 e:Value}{xs:List Value}(hi:Γ[i]?=some (blk b (c::a::x2::e::xs) ty))(j:o.op=.store t x y)(h:ev L x=some (.pointer (some ⟨b,3,none⟩)))(f:ev L y=some v)(g:v.cells= #[v])(d:v.oneCell'=true)(hs:(P.info? t).map (·.size)=some 1):DG P n ds L o w (λw'=>Sep z (Γ.set i (blk b (c::a::x2::v::xs) ty)) w'):=
 Ak i H hi j h f (vs:=[v]) g (by simp[d]) hs O Z
theorem Adz(i:Nat)(H:Sep z Γ w){t ty:TypeId}{b:Nat}{d c x2 a j:Value}{xs:List Value}(hi:Γ[i]?=some (blk b (d::c::x2::a::j::xs) ty))(k:o.op=.store t x y)(h:ev L x=some (.pointer (some ⟨b,4,none⟩)))(f:ev L y=some v)(g:v.cells= #[v])(e:v.oneCell'=true)(hs:(P.info? t).map (·.size)=some 1):DG P n ds L o w (λw'=>Sep z (Γ.set i (blk b (d::c::x2::a::v::xs) ty)) w'):=
 Ak i H hi k h f (vs:=[v]) g (by simp[e]) hs O Z
theorem AdA(i:Nat)(H:Sep z Γ w){t ty:TypeId}{b:Nat}{g d x2 c f a e j:Value}{xs:List Value}(hi:Γ[i]?=some (blk b (g::d::x2::c::f::a::e::j::xs) ty))(p:o.op=.store t x y)(m:ev L x=some (.pointer (some ⟨b,7,none⟩)))(k:ev L y=some v)(l:v.cells= #[v])(h:v.oneCell'=true)(hs:(P.info? t).map (·.size)=some 1):DG P n ds L o w (λw'=>Sep z (Γ.set i (blk b (g::d::x2::c::f::a::e::v::xs) ty)) w'):=
 Ak i H hi p m k (vs:=[v]) l (by simp[h]) hs O Z
theorem AdB(i:Nat)(H:Sep z Γ w){t ty:TypeId}{b:Nat}{j f x2 e h c g d a k:Value}{xs:List Value}(hi:Γ[i]?=some (blk b (j::f::x2::e::h::c::g::d::a::k::xs) ty))(r:o.op=.store t x y)(q:ev L x=some (.pointer (some ⟨b,9,none⟩)))(m:ev L y=some v)(p:v.cells= #[v])(l:v.oneCell'=true)(hs:(P.info? t).map (·.size)=some 1):DG P n ds L o w (λw'=>Sep z (Γ.set i (blk b (j::f::x2::e::h::c::g::d::a::v::xs) ty)) w'):=
 Ak i H hi r q m (vs:=[v]) p (by simp[l]) hs O Z
theorem AcR(i:Nat)(H:Sep z Γ w){t ty:TypeId}{b:Nat}{g j x2 h l e k m d f a c:Value}{xs:List Value}(hi:Γ[i]?=some (blk b (g::j::x2::h::l::e::k::m::d::f::a::c::xs) ty))(u:o.op=.store t x y)(s:ev L x=some (.pointer (some ⟨b,11,none⟩)))(q:ev L y=some v)(r:v.cells= #[v])(p:v.oneCell'=true)(hs:(P.info? t).map (·.size)=some 1):DG P n ds L o w (λw'=>Sep z (Γ.set i (blk b (g::j::x2::h::l::e::k::m::d::f::a::v::xs) ty)) w'):=
 Ak i H hi u s q (vs:=[v]) r (by simp[p]) hs O Z
theorem AcS(i:Nat)(H:Sep z Γ w){t ty:TypeId}{b:Nat}{h k x2 j m f l p e g c a d:Value}{xs:List Value}(hi:Γ[i]?=some (blk b (h::k::x2::j::m::f::l::p::e::g::c::a::d::xs) ty))(ho:o.op=.store t x y)(u:ev L x=some (.pointer (some ⟨b,12,none⟩)))(r:ev L y=some v)(s:v.cells= #[v])(q:v.oneCell'=true)(hs:(P.info? t).map (·.size)=some 1):DG P n ds L o w (λw'=>Sep z (Γ.set i (blk b (h::k::x2::j::m::f::l::p::e::g::c::a::v::xs) ty)) w'):=
 Ak i H hi ho u r (vs:=[v]) s (by simp[q]) hs O Z
end

section calls
variable{P:Program}{ops:List Oper}{Q:Exit->Act->World->Prop}{a:Act}{w z:World}{rest:List Oper}{o:Oper}{n d:Nat}{ds:List Deferred}{L:List (Nat×Value)}{v:Value}{Γ pre R':List Af}{post:Value->List Af->Prop}{f:FuncId}{args:List Operand}{vs:List Value}{tys:Array TypeId}
theorem Cn.or{A B:Af}(a:Cn P f vs (A::pre) post)(c:Cn P f vs (B::pre) post):Cn P f vs ((λh=>A h\/B h)::pre) post:=λz R w H=>by
 obtain ⟨b,H⟩:=H.ex 0 (σ:=Bool) (B:=λb=>bif b then A else B) Z (λh q=>by rcases q with q|q;exact ⟨true,q⟩;exact ⟨false,q⟩)
 cases b with
 | true=>exact a z R w H
 | false=>exact c z R w H
theorem Cn.at(c:Cn P f vs pre post)(H:Sep z Γ w)(k:Nat)(b:List Nat)(a:Ge k b=true)(e:DH Γ b++Γ.drop k=pre++R'):Calls P f vs.toArray w (Ret λv w'=>∃Γ',post v Γ'/\Sep z (Γ'++R') w'):=
 c z R' w (H.perm k b a e)
theorem AdQ(j:BL ops L o.guard=true)(s:o.dst=some d)(i:Nat.blt d n=true)(r:o.op=.call {callee:=.value (.func f),args:=args.toArray,argTypes:=tys})(b:evs L args=some vs)(m:∀w,(callFunc f vs.toArray).run P w=.ok (.enter f vs.toArray) w)
  (p:Cn P f vs pre post)(H:Sep z Γ w)(k:Nat)(h:List Nat)(g:Ge k h=true)(e:DH Γ h++Γ.drop k=pre++R')
  (K:∀v c Γ',post v Γ'->Sep z (Γ'++R') c->∀a',Fr n ds ((d,v)::L) a'->wpList P ops.toArray Q rest a' c):∀a,Fr n ds L a->wpList P ops.toArray Q (o::rest) a w:=
 Se j s i r b m (p.at H k h g e) λv c ⟨Γ',q,l⟩=>K v c Γ' q l
theorem Cn.use(a:Cn P f vs pre post)(H:Sep z (pre++R') w):Calls P f vs.toArray w (Ret λv w'=>∃Γ',post v Γ'/\Sep z (Γ'++R') w'):=a z R' w H
theorem Ft(i:BL ops L o.guard=true)(h:o.dst=some d)(g:Nat.blt d n=true)(m:o.op=.call {callee:=.value (.func f),args:=args.toArray,argTypes:=tys})(b:evs L args=some vs)(k:∀w,(callFunc f vs.toArray).run P w=.ok (.enter f vs.toArray) w)
  (l:Cn P f vs pre post)(H:Sep z Γ w)(e:Γ=pre++R')
  (K:∀v c Γ',post v Γ'->Sep z (Γ'++R') c->∀a',Fr n ds ((d,v)::L) a'->wpList P ops.toArray Q rest a' c):∀a,Fr n ds L a->wpList P ops.toArray Q (o::rest) a w:=
 Se i h g m b k (l.use (e▸H)) λv c ⟨Γ',q,j⟩=>K v c Γ' q j
theorem cq(j:Cn P f vs pre post)(hq:∀u Γ',post u Γ'->u=v/\Γ'=pre)(k:Nat)(d a:List Nat)(c:Ge k d=true)(e:DH Γ d++Γ.drop k=pre++R')(b:Ge k a=true)(i:DH (pre++R') a++(pre++R').drop k=Γ):
  ∀w,Sep z Γ w->Calls P f vs.toArray w (Ret λu g=>u=v/\Sep z Γ g):=λw H=>
 Ret.mono (j.at H k d c e) λu g ⟨Γ',q,h⟩=>by
  obtain ⟨rfl,rfl⟩:=hq u Γ' q;exact ⟨Z,h.perm k a b i⟩
theorem W5{Rr:Value->World->Prop}(e:BL ops L o.guard=true)(f:o.dst=none)(h:Cy P n ds L o w Rr)(K:∀v b,Rr v b->∀a,Fr n ds L a->wpList P ops.toArray Q rest a b):∀a,Fr n ds L a->wpList P ops.toArray Q (o::rest) a w:=by
 intro a c;obtain ⟨v,b,d,g⟩:=h a c;unfold wpList;rw[if_pos (wantL_ok c e)];left;unfold Oper.wp;rw[d,AgE,f];exact K v b g a c
end calls
section callsH
variable{P:Program}{ops:List Oper}{N R:Act->World->Prop}{X:Nat->Act->World->Prop}{a:Act}{w z:World}{n d i:Nat}{ds:List Deferred}{L:List (Nat×Value)}{v:Value}{o:Oper}{Γ pre R':List Af}{post:Value->List Af->Prop}{f:FuncId}{args:List Operand}{vs:List Value}{tys:Array TypeId}{K:Act->World->Prop}
theorem PM(hi:ops[i]?=some o)(l:BL ops L o.guard=true)(u:o.dst=some d)(j:Nat.blt d n=true)(t:o.op=.call {callee:=.value (.func f),args:=args.toArray,argTypes:=tys})(b:evs L args=some vs)(r:∀w,(callFunc f vs.toArray).run P w=.ok (.enter f vs.toArray) w)
  (s:Cn P f vs pre post)(H:Sep z Γ w)(k:Nat)(h:List Nat)(g:Ge k h=true)(e:DH Γ h++Γ.drop k=pre++R')
  (m:∀v c Γ',post v Γ'->Sep z (Γ'++R') c->∀a',Fr n ds ((d,v)::L) a'->K a' c):∀a,Fr n ds L a->wpOp P ops.toArray (Qp N X R) i K a w:=
 Sl hi l u j t b r (s.at H k h g e) λv c ⟨Γ',q,p⟩=>m v c Γ' q p
theorem Bo(hi:ops[i]?=some o)(h:BL ops L o.guard=true)(r:o.dst=some d)(g:Nat.blt d n=true)(p:o.op=.call {callee:=.value (.func f),args:=args.toArray,argTypes:=tys})(b:evs L args=some vs)(l:∀w,(callFunc f vs.toArray).run P w=.ok (.enter f vs.toArray) w)
  (m:Cn P f vs pre post)(H:Sep z Γ w)(e:Γ=pre++R')
  (j:∀v c Γ',post v Γ'->Sep z (Γ'++R') c->∀a',Fr n ds ((d,v)::L) a'->K a' c):∀a,Fr n ds L a->wpOp P ops.toArray (Qp N X R) i K a w:=
 Sl hi h r g p b l (m.use (e▸H)) λv c ⟨Γ',q,k⟩=>j v c Γ' q k
theorem CI(hi:ops[i]?=some o)(h:BL ops L o.guard=true)(e:o.dst=some d)(c:Nat.blt d n=true)(b:Ar P (· =w) n ds L o v)(f:∀a',Fr n ds ((d,v)::L) a'->K a' w):∀a,Fr n ds L a->wpOp P ops.toArray (Qp N X R) i K a w:=
 Ca hi h e c (Rr:=λu j=>u=v/\j=w) (λa g=>⟨v,w,b a g w Z,Z,Z⟩) λ_ _ ⟨e1,e2⟩=>by subst e1;subst e2;exact f
theorem AcT{Rr:Value->World->Prop}(hi:ops[i]?=some o)(f:BL ops L o.guard=true)(g:o.dst=none)(h:Cy P n ds L o w Rr)(e:∀v b,Rr v b->∀a,Fr n ds L a->K a b):∀a,Fr n ds L a->wpOp P ops.toArray (Qp N X R) i K a w:=by
 intro a c;obtain ⟨v,b,d,j⟩:=h a c;unfold wpOp;rw[Ae9,hi];simp only;rw[if_pos (wantL_ok c f)];left;unfold Oper.wp;rw[d,AgE,g];exact e v b j a c
end callsH
end
section
def Ml:IntKind->IntKind->Bool
 | .i64,.i64=>true
 | .u8,.u8=>true
 | .u32,.u32=>true
 | .u64,.u64=>true
 | .i32,.i32=>true
 | .u16,.u16=>true
 | _,_=>false
theorem Hx{k a:IntKind}(h:Ml k a=true):k=a:=by unfold Ml at h;split at h<;>first|rfl|cases h
def icmp(b:BinOp)(p q:Int):Option Value:=match b with
 | .lss=>some (.bool (decide (p<q)))
 | .leq=>some (.bool (decide (p<=q)))
 | .gtr=>some (.bool (decide (q<p)))
 | .geq=>some (.bool (decide (q<=p)))
 | .eql=>some (.bool (decide (p=q)))
 | .neq=>some (.bool (decide (p≠q)))
 | _=>none
def noq(n:Option Nat)(p r:Nat):Bool:=match n with
 | some k=>Nat.beq (p+k) r
 | none=>false
abbrev Mm:=List (Nat×List Value×TypeId)
def MemL(w:World):Mm->Prop
 | []=>True
 | e::M=>Blk e.1 e.2.1 e.2.2 w/\MemL w M
theorem AN{w:World}:MemL w []:=trivial
theorem AS{w:World}{b:Nat}{cs:List Value}{t:TypeId}{M:Mm}(h:Blk b cs t w)(g:MemL w M):MemL w ((b,cs,t)::M):=⟨h,g⟩
theorem MemL.get{w:World}:∀{M:Mm} {j:Nat} {e:Nat×List Value×TypeId},MemL w M->M[j]?=some e->Blk e.1 e.2.1 e.2.2 w
 | [],_,_,_,h=>by simp at h
 | _::_,0,_,g,h=>by simp at h;subst h;exact g.1
 | _::_,j+1,_,g,h=>MemL.get (j:=j) g.2 (by simpa using h)
structure Qv where
 v:Value
 hs:List Nat
 ok:Bool
 a:List (Nat×Nat)
def Rb(P:Program)(M:Mm)(L:List (Nat×Value))(hs:List Nat):Op->Option Qv
 | .move x=>match ev L x with|some v=>some ⟨v,hs,true,[]⟩|none=>none
 | .assign x=>match ev L x with|some v=>some ⟨v,hs,true,[]⟩|none=>none
 | .pick c x y=>match ev L c with
  | some (.bool true)=>(match ev L x with|some v=>some ⟨v,hs,true,[]⟩|none=>none)
  | some (.bool false)=>(match ev L y with|some v=>some ⟨v,hs,true,[]⟩|none=>none)
  | _=>none
 | .extract x i=>match ev L x with
  | some (.tuple vs)=>(match vs.toList[i]? with|some v=>some ⟨v,hs,true,[]⟩|none=>none)
  | _=>none
 | .nilCheck x=>match ev L x with
  | some (.pointer (some ad))=>some ⟨.pointer (some ad),hs,true,[]⟩
  | _=>none
 | .unOp b _ x=>match b with
  | .not=>(match ev L x with|some (.bool c)=>some ⟨.bool !c,hs,true,[]⟩|_=>none)
  | _=>none
 | .binOp b _ x y _=>match ev L x with
  | some (.int k p)=>(match ev L y with
   | some (.int k' q)=>(match icmp b p q with|some v=>some ⟨v,hs,Ml k k',[]⟩|none=>none)
   | _=>none)
  | _=>none
 | .fieldAddr s x f=>match hs with
  | r::hs=>(match ev L x with
   | some (.pointer (some ⟨b,p,none⟩))=>some ⟨.pointer (some ⟨b,r,none⟩),hs,noq (Ek P s f) p r,[]⟩
   | _=>none)
  | []=>none
 | .load t x=>match hs with
  | j::hs=>(match ev L x with
   | some (.pointer (some ⟨b,p,none⟩))=>(match M[j]? with
    | some e=>(match e.2.1[p]? with
     | some v=>some ⟨v,hs,Gc P t,[(b,e.1)]⟩
     | none=>none)
    | none=>none)
   | _=>none)
  | []=>none
 | _=>none
def B3:List (Nat×Nat)->Prop
 | []=>True
 | e::l=>e.1=e.2/\B3 l
theorem Cm:∀{l m:List (Nat×Nat)},B3 (l++m)->B3 l/\B3 m
 | [],_,h=>⟨trivial,h⟩
 | _::_,_,h=>⟨⟨h.1,(Cm h.2).1⟩,(Cm h.2).2⟩
section
variable{P:Program}{M:Mm}{L:List (Nat×Value)}{n:Nat}{ds:List Deferred}{w:World}
theorem Hy{C:World->Prop}{o:Oper}{hs:List Nat}{q:Qv}(hM:∀w,C w->MemL w M)(h:Rb P M L hs o.op=some q)(i:q.ok=true)(m:B3 q.a):Ar P C n ds L o q.v:=by
 unfold Rb at h;split at h
 ·rename_i d
  split at h
  ·rename_i c;cases h;exact Ci d c
  cases h
 ·rename_i d
  split at h
  ·rename_i c;cases h;exact Bi d c
  cases h
 ·rename_i d
  split at h
  ·rename_i l
   split at h
   ·rename_i c;cases h;exact Nh d l c
   cases h
  ·rename_i l
   split at h
   ·rename_i c;cases h;exact Ni d l c
   cases h
  cases h
 ·rename_i d
  split at h
  ·rename_i vs c
   split at h
   ·rename_i g;cases h
    exact Fe (vs:=vs.toList) d (by simpa using c) g
   cases h
  cases h
 ·rename_i d
  split at h
  ·rename_i c;cases h;exact Ko d c
  cases h
 ·rename_i d
  split at h
  ·split at h
   ·rename_i c;cases h;exact Km d c
   cases h
  cases h
 ·rename_i b _ x y _ d
  split at h
  ·rename_i k p c
   split at h
   ·rename_i k' r j
    split at h
    ·rename_i v g
     cases h
     obtain rfl:=Hx i;unfold icmp at g;split at g<;>first|(cases g;first|exact Q5 d c j|exact WV d c j|exact WW d c j|exact WX d c j|exact WY d c j|exact WZ d c j)|cases g
    cases h
   cases h
  cases h
 ·rename_i s x f d
  split at h
  ·split at h
   ·rename_i b p c
    cases h
    dsimp only at i
    cases hf:Ek P s f with
    | none=>rw[hf] at i;cases i
    | some k=>
     rw[hf] at i;exact DS d hf c (AfF i)
   cases h
  cases h
 ·rename_i t x d
  split at h
  ·split at h
   ·rename_i b p c
    split at h
    ·rename_i e z
     split at h
     ·rename_i v g
      cases h
      have e1:b=e.1:=m.1;exact Bf d c i (λw u=>by rw[e1];exact ((hM w u).get z).cel p g)
     cases h
    cases h
   cases h
  cases h
 cases h
structure Qs where
 L:List (Nat×Value)
 os:List Oper
 ok:Bool
 a:List (Nat×Nat)
def quiet(P:Program)(M:Mm)(ops:List Oper)(n:Nat):Nat->List Nat->Bool->List (Nat×Nat)->List (Nat×Value)->List Oper->Option Qs
 | 0,_,ok,a,L,os=>some ⟨L,os,ok,a⟩
 | _+1,_,_,_,_,[]=>none
 | k+1,hs,ok,a,L,o::os=>match o.dst with
  | none=>none
  | some d=>match Nat.blt d n with
   | false=>none
   | true=>match BL ops L o.guard with
    | true=>(match Rb P M L hs o.op with
     | some q=>quiet P M ops n k q.hs (q.ok&&ok) (q.a++a) ((d,q.v)::L) os
     | none=>none)
    | false=>(match EW ops L o.guard with
     | true=>quiet P M ops n k hs ok a ((d,undef)::L) os
     | false=>none)
theorem Ij{ops:List Oper}:∀{k:Nat} {hs:List Nat} {e:Bool} {a:List (Nat×Nat)} {L:List (Nat×Value)} {b:List Oper} {q:Qs},quiet P M ops n k hs e a L b=some q->q.ok=true->B3 q.a->e=true/\B3 a:=by
 intro k
 induction k with
 | zero=>intro hs e a L b q h d c;simp only[quiet,Aef] at h;subst h;exact ⟨d,c⟩
 | succ k ih=>
  intro hs e a L b q h d c
  cases b with
  | nil=>simp[quiet] at h
  | cons o b=>
   simp only[quiet] at h;split at h
   ·cases h
   split at h
   ·cases h
   split at h
   ·split at h
    ·obtain ⟨f,g⟩:=ih h d c
     exact ⟨by simp at f;exact f.2,(Cm g).2⟩
    cases h
   split at h
   ·exact ih h d c
   cases h
theorem s_P{ops:List Oper}{Q:Exit->Act->World->Prop}(s:MemL w M):∀(k:Nat) (hs:List Nat) {g:Bool} {a:List (Nat×Nat)} {L L':List (Nat×Value)} {c b:List Oper} {ok':Bool} {a':List (Nat×Nat)},quiet P M ops n k hs g a L c=some ⟨L',b,ok',a'⟩->ok'=true->B3 a'->
  (∀x,Fr n ds L' x->wpList P ops.toArray Q b x w)->∀x,Fr n ds L x->wpList P ops.toArray Q c x w:=by
 intro k
 induction k with
 | zero=>
  intro hs g a L L' c b ok' a' h _ _ K;simp only[quiet,Aef,Qs.mk.injEq] at h;obtain ⟨rfl,rfl,_,_⟩:=h;exact K
 | succ k ih=>
  intro hs g a L L' c b ok' a' h j i K
  cases c with
  | nil=>simp[quiet] at h
  | cons o c=>
   simp only[quiet] at h;split at h
   ·cases h
   rename_i d m;split at h
   ·cases h
   rename_i f;split at h
   ·rename_i r
    split at h
    ·rename_i q hq
     obtain ⟨l,t⟩:=Ij h j i;simp at l;exact s_do r m f (Hy (λ_ e=>e▸s) hq l.1 (Cm t).1) (ih _ h j i K)
    cases h
   split at h
   ·rename_i p
    exact Sc p m f (ih _ h j i K)
   cases h
theorem Du:∀{l:List (Nat×Nat)},l.map Prod.fst=l.map Prod.snd->B3 l
 | [],_=>trivial
 | _::_,h=>by
  simp only[AeE,AgW] at h;exact ⟨h.1,Du h.2⟩
theorem Gi{ops:List Oper}{Q:Exit->Act->World->Prop}(k:Nat)(hs:List Nat)(e:MemL w M){L L':List (Nat×Value)}{b a:List Oper}{ok':Bool}{a':List (Nat×Nat)}(h:quiet P M ops n k hs true [] L b=some ⟨L',a,ok',a'⟩)(c:ok'=true)(d:a'.map Prod.fst=a'.map Prod.snd)(K:∀x,Fr n ds L' x->wpList P ops.toArray Q a x w):∀x,Fr n ds L x->wpList P ops.toArray Q b x w:=s_P e k hs h c (Du d) K
theorem Mn{ops:List Oper}{Q:Exit->Act->World->Prop}(k:Nat)(hs:List Nat){L L':List (Nat×Value)}{b a:List Oper}{ok':Bool}(h:quiet P [] ops n k hs true [] L b=some ⟨L',a,ok',[]⟩)(c:ok'=true)(K:∀x,Fr n ds L' x->wpList P ops.toArray Q a x w):∀x,Fr n ds L x->wpList P ops.toArray Q b x w:=s_P AN k hs h c trivial K
theorem BY{ops:List Oper}{Q:Exit->Act->World->Prop}(k:Nat){L L':List (Nat×Value)}{b a:List Oper}{ok':Bool}(h:quiet P [] ops n k [] true [] L b=some ⟨L',a,ok',[]⟩)(c:ok'=true)(K:∀x,Fr n ds L' x->wpList P ops.toArray Q a x w):∀x,Fr n ds L x->wpList P ops.toArray Q b x w:=s_P AN k [] h c trivial K

theorem q_P{ops:List Oper}{C:World->Prop}{Q:Act->Prop}(r:∀w,C w->MemL w M):∀(k:Nat) (hs:List Nat) {f:Bool} {a:List (Nat×Nat)} {L L':List (Nat×Value)} {c b:List Oper} {ok':Bool} {a':List (Nat×Nat)},quiet P M ops n k hs f a L c=some ⟨L',b,ok',a'⟩->ok'=true->B3 a'->
  (∀x,Fr n ds L' x->wpQuiet P ops.toArray C Q b x)->∀x,Fr n ds L x->wpQuiet P ops.toArray C Q c x:=by
 intro k
 induction k with
 | zero=>
  intro hs f a L L' c b ok' a' h _ _ K;simp only[quiet,Aef,Qs.mk.injEq] at h;obtain ⟨rfl,rfl,_,_⟩:=h;exact K
 | succ k ih=>
  intro hs f a L L' c b ok' a' h i g K
  cases c with
  | nil=>simp[quiet] at h
  | cons o c=>
   simp only[quiet] at h;split at h
   ·cases h
   rename_i d l;split at h
   ·cases h
   rename_i e;split at h
   ·rename_i p
    split at h
    ·rename_i q hq
     obtain ⟨j,s⟩:=Ij h i g;simp at j;exact AL p l e (Hy r hq j.1 (Cm s).1) (ih _ h i g K)
    cases h
   split at h
   ·rename_i m
    exact Sf m l e (ih _ h i g K)
   cases h
theorem DZ{ops:List Oper}{C:World->Prop}{Q:Act->Prop}(k:Nat)(hs:List Nat)(e:∀w,C w->MemL w M){L L':List (Nat×Value)}{b a:List Oper}{ok':Bool}{a':List (Nat×Nat)}(h:quiet P M ops n k hs true [] L b=some ⟨L',a,ok',a'⟩)(d:ok'=true)(c:a'.map Prod.fst=a'.map Prod.snd)(K:∀x,Fr n ds L' x->wpQuiet P ops.toArray C Q a x):∀x,Fr n ds L x->wpQuiet P ops.toArray C Q b x:=q_P e k hs h d (Du c) K
theorem BZ{ops:List Oper}{C:World->Prop}{Q:Act->Prop}(k:Nat)(hs:List Nat){L L':List (Nat×Value)}{b a:List Oper}{ok':Bool}(h:quiet P [] ops n k hs true [] L b=some ⟨L',a,ok',[]⟩)(c:ok'=true)(K:∀x,Fr n ds L' x->wpQuiet P ops.toArray C Q a x):∀x,Fr n ds L x->wpQuiet P ops.toArray C Q b x:=q_P (λ_ _=>AN) k hs h c trivial K
theorem t_P{ops:List Oper}{Q:Act->Prop}(s:MemL w M):∀(k:Nat) (hs:List Nat) {g:Bool} {a:List (Nat×Nat)} {L L':List (Nat×Value)} {c b:List Oper} {ok':Bool} {a':List (Nat×Nat)},quiet P M ops n k hs g a L c=some ⟨L',b,ok',a'⟩->ok'=true->B3 a'->
  (∀x,Fr n ds L' x->wpStill P ops.toArray w Q b x)->∀x,Fr n ds L x->wpStill P ops.toArray w Q c x:=by
 intro k
 induction k with
 | zero=>
  intro hs g a L L' c b ok' a' h _ _ K;simp only[quiet,Aef,Qs.mk.injEq] at h;obtain ⟨rfl,rfl,_,_⟩:=h;exact K
 | succ k ih=>
  intro hs g a L L' c b ok' a' h j i K
  cases c with
  | nil=>simp[quiet] at h
  | cons o c=>
   simp only[quiet] at h;split at h
   ·cases h
   rename_i d m;split at h
   ·cases h
   rename_i f;split at h
   ·rename_i r
    split at h
    ·rename_i q hq
     obtain ⟨l,t⟩:=Ij h j i;simp at l;exact B9 r m f (Hy (λ_ e=>e▸s) hq l.1 (Cm t).1) (ih _ h j i K)
    cases h
   split at h
   ·rename_i p
    exact Sj p m f (ih _ h j i K)
   cases h
theorem PN{ops:List Oper}{Q:Act->Prop}(k:Nat)(hs:List Nat)(e:MemL w M){L L':List (Nat×Value)}{b a:List Oper}{ok':Bool}{a':List (Nat×Nat)}(h:quiet P M ops n k hs true [] L b=some ⟨L',a,ok',a'⟩)(c:ok'=true)(d:a'.map Prod.fst=a'.map Prod.snd)(K:∀x,Fr n ds L' x->wpStill P ops.toArray w Q a x):∀x,Fr n ds L x->wpStill P ops.toArray w Q b x:=t_P e k hs h c (Du d) K
theorem PO{ops:List Oper}{Q:Act->Prop}(k:Nat)(hs:List Nat){L L':List (Nat×Value)}{b a:List Oper}{ok':Bool}(h:quiet P [] ops n k hs true [] L b=some ⟨L',a,ok',[]⟩)(c:ok'=true)(K:∀x,Fr n ds L' x->wpStill P ops.toArray w Q a x):∀x,Fr n ds L x->wpStill P ops.toArray w Q b x:=t_P AN k hs h c trivial K
structure Qa where
 L:List (Nat×Value)
 listed:Array Bool
 ok:Bool
 a:List (Nat×Nat)
def quietA(P:Program)(M:Mm)(ops:List Oper)(n:Nat)(g:Nat->Bool):List Nat->List Nat->Bool->List (Nat×Nat)->List (Nat×Value)->Array Bool->Option Qa
 | [],_,ok,a,L,li=>some ⟨L,li,ok,a⟩
 | i::is,hs,ok,a,L,li=>match ops[i]? with
  | none=>none
  | some o=>match o.dst with
   | none=>none
   | some d=>match Nat.blt d n with
    | false=>none
    | true=>match BL ops L o.guard with
     | true=>(match Rb P M L hs o.op with
      | some q=>quietA P M ops n g is q.hs (((q.ok&&g i)&&(Region.noSelect ops.toArray&&(Region.free .any ops.toArray li i&&(Region.ready .any ops.toArray li).contains i)))&&ok) (q.a++a) ((d,q.v)::L) (li.setIfInBounds i true)
      | none=>none)
     | false=>(match EW ops L o.guard with
      | true=>quietA P M ops n g is hs ((g i&&(Region.noSelect ops.toArray&&(Region.free .any ops.toArray li i&&(Region.ready .any ops.toArray li).contains i)))&&ok) a ((d,undef)::L) (li.setIfInBounds i true)
      | false=>none)
theorem F1{ops:List Oper}{g:Nat->Bool}:∀{e hs:List Nat} {d:Bool} {a:List (Nat×Nat)} {L:List (Nat×Value)} {j:Array Bool} {q:Qa},quietA P M ops n g e hs d a L j=some q->q.ok=true->B3 q.a->d=true/\B3 a:=by
 intro e
 induction e with
 | nil=>intro hs d a L j q h c b;simp only[quietA,Aef] at h;subst h;exact ⟨c,b⟩
 | cons i e ih=>
  intro hs d a L j q h c b;simp only[quietA] at h;split at h
  ·cases h
  split at h
  ·cases h
  split at h
  ·cases h
  split at h
  ·split at h
   ·obtain ⟨f,k⟩:=ih h c b
    exact ⟨(Aex _ _▸f).2,(Cm k).2⟩
   cases h
  split at h
  ·obtain ⟨f,k⟩:=ih h c b
   exact ⟨(Aex _ _▸f).2,k⟩
  cases h
section
variable{ops:List Oper}{N R:Act->World->Prop}{X:Nat->Act->World->Prop}{S:World->Prop}
theorem a_P(v:∀w,S w->MemL w M)(p:S w):∀(e hs:List Nat) {l:Bool} {a:List (Nat×Nat)} {L L':List (Nat×Value)} {k c:Array Bool} {ok':Bool} {a':List (Nat×Nat)} {fuel:Nat},quietA P M ops n (λ_=>true) e hs l a L k=some ⟨L',c,ok',a'⟩->ok'=true->B3 a'->
  (∀x,Fr n ds L' x->wpAnyH P .any ops.toArray (Qp N X R) S fuel c x w)->∀x,Fr n ds L x->wpAnyH P .any ops.toArray (Qp N X R) S (fuel+e.length) k x w:=by
 intro e
 induction e with
 | nil=>
  intro hs l a L L' k c ok' a' fuel h _ _ K;simp only[quietA,Aef,Qa.mk.injEq] at h;obtain ⟨rfl,rfl,_,_⟩:=h;exact K
 | cons i e ih=>
  intro hs l a L L' k c ok' a' fuel h j g K;simp only[quietA] at h;split at h
  ·cases h
  rename_i o m;split at h
  ·cases h
  rename_i d s;split at h
  ·cases h
  rename_i f;split at h
  ·rename_i u
   split at h
   ·rename_i q hq
    obtain ⟨b,r⟩:=F1 h j g;simp only[Aex] at b;exact BO (fuel:=fuel+e.length) i m b.1.2.1 b.1.2.2.1 b.1.2.2.2 u s f (Hy v hq b.1.1.1 (Cm r).1) p (ih _ h j g K)
   cases h
  split at h
  ·rename_i t
   obtain ⟨b,r⟩:=F1 h j g;simp only[Aex] at b;exact Sk (fuel:=fuel+e.length) i m b.1.2.1 b.1.2.2.1 b.1.2.2.2 t s f p (ih _ h j g K)
  cases h
theorem a_L(b hs:List Nat)(i:∀w,S w->MemL w M)(j:S w){L L':List (Nat×Value)}{d a:Array Bool}{ok':Bool}{a':List (Nat×Nat)}{fuel c:Nat}(h:quietA P M ops n (λ_=>true) b hs true [] L d=some ⟨L',a,ok',a'⟩)(f:ok'=true)(e:a'.map Prod.fst=a'.map Prod.snd)(g:fuel+b.length=c)(K:∀x,Fr n ds L' x->wpAnyH P .any ops.toArray (Qp N X R) S fuel a x w):∀x,Fr n ds L x->wpAnyH P .any ops.toArray (Qp N X R) S c d x w:=g▸a_P i j b hs h f (Du e) K
def M9(ops:List Oper)(i:Nat):Bool:= !(Nat.beq i (ops.length-1))&&(match ops[i]? with|some o=>o.guard.isNone|none=>false)
theorem l_P(f:If ops.toArray=true)(v:∀w,S w->MemL w M)(y:S w):∀(j hs:List Nat) {m:Bool} {a:List (Nat×Nat)} {L L':List (Nat×Value)} {l b:Array Bool} {ok':Bool} {a':List (Nat×Nat)} {fuel:Nat},quietA P M ops n (M9 ops) j hs m a L l=some ⟨L',b,ok',a'⟩->ok'=true->B3 a'->
  (∀x,Fr n ds L' x->GB P ops (Qp N X R) S fuel b x w)->∀x,Fr n ds L x->GB P ops (Qp N X R) S (fuel+j.length) l x w:=by
 intro j
 induction j with
 | nil=>
  intro hs m a L L' l b ok' a' fuel h _ _ K;simp only[quietA,Aef,Qa.mk.injEq] at h;obtain ⟨rfl,rfl,_,_⟩:=h;exact K
 | cons i j ih=>
  intro hs m a L L' l b ok' a' fuel h r p K;simp only[quietA] at h;split at h
  ·cases h
  rename_i o t;split at h
  ·cases h
  rename_i d z;split at h
  ·cases h
  rename_i s;split at h
  ·rename_i k
   split at h
   ·rename_i q hq
    obtain ⟨c,u⟩:=F1 h r p;simp only[Aex] at c;exact BS (fuel:=fuel+j.length) i f t (by have:=c.1.1.2;unfold M9 at this;simp only[Aex] at this;simpa using this.1) c.1.2.1 c.1.2.2.1 c.1.2.2.2 k z s (Hy v hq c.1.1.1 (Cm u).1) y (ih _ h r p K)
   cases h
  rename_i k;split at h
  ·obtain ⟨c,u⟩:=F1 h r p
   simp only[Aex] at c;exfalso;have e:=c.1.1;unfold M9 at e;rw[t] at e;simp only[Aex] at e
   cases hgd:o.guard with
   | none=>rw[hgd] at k;simp[BL] at k
   | some g=>have:=e.2;rw[hgd] at this;cases this
  cases h
theorem Bw(c hs:List Nat)(a:If ops.toArray=true)(j:∀w,S w->MemL w M)(k:S w){L L':List (Nat×Value)}{e b:Array Bool}{ok':Bool}{a':List (Nat×Nat)}{fuel d:Nat}(h:quietA P M ops n (M9 ops) c hs true [] L e=some ⟨L',b,ok',a'⟩)(g:ok'=true)(f:a'.map Prod.fst=a'.map Prod.snd)(i:fuel+c.length=d)(K:∀x,Fr n ds L' x->GB P ops (Qp N X R) S fuel b x w):∀x,Fr n ds L x->GB P ops (Qp N X R) S d e x w:=i▸l_P a j k c hs h g (Du f) K
end
end
end
section
def celH(h:Hp)(b o:Nat)(v:Value):Prop:=∃cs ty fr,h b=some (.cells cs ty fr)/\cs[o]?=some v
def CJ(h h':Hp):Prop:=∀k o,h k=some o->h' k=some o
theorem celH.le{h h':Hp}{b o:Nat}{v:Value}(c:celH h b o v)(s:CJ h h'):celH h' b o v:=by
 obtain ⟨cs,ty,e,a,d⟩:=c;exact ⟨cs,ty,e,s _ _ a,d⟩
theorem celH.cel{h:Hp}{b o:Nat}{v:Value}{w:World}(c:celH h b o v)(s:CJ h (hp w)):FD b o v w:=by
 obtain ⟨cs,ty,f,d,e⟩:=c.le s;have a:w.heap[b]?=some (.cells cs ty f):=d;unfold FD World.cell?;simp[a,e]
def rdH(sz:Nat)(v:Value)(n:Nat)(xs:List Value)(h:Hp):Prop:=
 ∃ao c,v=.slice ao n c/\n<=c/\c<=9223372036854775807/\xs.length=n*sz/\∀(j:Nat) (u:Value),xs[j]?=some u->∃b p,ao=some ⟨b,p,none⟩/\celH h b (p+j) u
theorem rdH.le{sz:Nat}{v:Value}{n:Nat}{xs:List Value}{h h':Hp}(r:rdH sz v n xs h)(s:CJ h h'):rdH sz v n xs h':=by
 obtain ⟨d,c,e,f,k,g,l⟩:=r;exact ⟨d,c,e,f,k,g,λj u a=>by obtain ⟨b,p,e,i⟩:=l j u a;exact ⟨b,p,e,i.le s⟩⟩
theorem rdH.rd{sz:Nat}{v:Value}{n:Nat}{xs:List Value}{h:Hp}{w:World}(r:rdH sz v n xs h)(s:CJ h (hp w)):Rd sz v n xs w:=by
 obtain ⟨d,c,e,f,k,g,l⟩:=r;exact ⟨d,c,e,f,k,g,λj u a=>by obtain ⟨b,p,e,i⟩:=l j u a;exact ⟨b,p,e,i.cel s⟩⟩
theorem rdH.small{sz:Nat}{v:Value}{n:Nat}{xs:List Value}{h:Hp}(r:rdH sz v n xs h):n<=9223372036854775807:=by
 obtain ⟨a,c,e,b,d,_⟩:=r;omega
theorem rdH.nil(sz:Nat)(h:Hp):rdH sz (.slice none 0 0) 0 [] h:=⟨none,0,Z,Aed _,by omega,by simp,λj u a=>by simp at a⟩
theorem blk.celH{b:Nat}{cs:List Value}{ty:TypeId}{h:Hp}(c:blk b cs ty h)(o:Nat){v:Value}(a:cs[o]?=some v):celH h b o v:=⟨_,_,_,c,by simpa using a⟩
theorem blk.rd{b a l c sz:Nat}{cs xs:List Value}{ty:TypeId}{h:Hp}(f:blk b cs ty h)(e:l<=c)(i:c<=9223372036854775807)(k:a+l*sz<=cs.length)(g:(cs.drop a).take (l*sz)=xs):rdH sz (.slice (some ⟨b,a,none⟩) l c) l xs h:=by
 subst g;refine ⟨_,_,Z,e,i,by simp;omega,λj u d=>⟨b,a,Z,f.celH _ ?_⟩⟩;rw[AeS] at d;split at d
 ·rw[Aff] at d;exact d
 cases d
section
variable{P:Program}{C:World->Prop}{o:Oper}{a:Act}{w z:World}{Γ:List Af}{n:Nat}{ds:List Deferred}{L:List (Nat×Value)}{v:Value}{x y:Operand}{xt yt:TypeId}{A:Af}
theorem Sep.get'(i:Nat)(H:Sep z Γ w)(a:Γ[i]?=some A):∃h,A h/\CJ h (hp w):=H.get i a
def Lm:List Af->Nat->Af
 | [],_=>λ_=>True
 | a::_,0=>a
 | _::l,i+1=>Lm l i
theorem W6:∀(Γ:List Af) (i:Nat),Γ[i]?=none/\(∀h,Lm Γ i h)\/Γ[i]?=some (Lm Γ i)
 | [],_=>.inl ⟨Z,λ_=>trivial⟩
 | _::_,0=>.inr Z
 | _::l,i+1=>W6 l i
theorem W7{Γ:List Af}{z w:World}(i:Nat)(H:Sep z Γ w):∃h,Lm Γ i h/\CJ h (hp w):=(W6 Γ i).elim (λq=>⟨_,q.2 _,λ_ _ e=>e⟩) (λq=>H.get' i q)
theorem Sep.rd(i:Nat)(H:Sep z Γ w)(c:Γ[i]?=some A){sz m:Nat}{u:Value}{xs:List Value}(a:∀h,A h->rdH sz u m xs h):Rd sz u m xs w:=by
 obtain ⟨h,b,d⟩:=H.get' i c;exact (a h b).rd d
theorem Sep.rv{Γ:List Af}{z w:World}(i:Nat)(H:Sep z Γ w){sz m:Nat}{u:Value}{xs:List Value}(r:∀{h},Lm Γ i h->rdH sz u m xs h):Rd sz u m xs w:=by
 obtain ⟨_,q,e⟩:=W7 i H;exact (r q).rd e
theorem Sep.cell(i:Nat)(H:Sep z Γ w)(d:Γ[i]?=some A){b p:Nat}{u:Value}(a:∀h,A h->celH h b p u):FD b p u w:=by
 obtain ⟨h,c,e⟩:=H.get' i d;exact (a h c).cel e
theorem Sep.says(i:Nat)(H:Sep z Γ w)(c:Γ[i]?=some A){p:Prop}(a:∀h,A h->p):p:=by
 obtain ⟨h,b,_⟩:=H.get' i c;exact a h b

theorem Sep.sy{Γ:List Af}{z w:World}(i:Nat)(H:Sep z Γ w){p:Prop}(r:∀{h},Lm Γ i h->p):p:=by
 obtain ⟨_,q,_⟩:=W7 i H;exact r q
def grow(e:TypeId)(sz:Nat)(v:Value)(n:Nat)(xs:List Value):Af:=λh=>xs.length=n*sz/\
 ((v=.slice none 0 0/\n=0)\/∃g cap cur,v=.slice (some ⟨g,0,none⟩) n cap/\h g=some (.cells cur e (0,0))/\n<=cap/\cap<=maxLen/\cur.size=cap*sz/\cur.toList.take (n*sz)=xs)
theorem grow.form{e:TypeId}{sz m:Nat}{u:Value}{xs:List Value}{h:Hp}(g:grow e sz u m xs h):(u=.slice none 0 0/\m=0)\/∃b c,u=.slice (some ⟨b,0,none⟩) m c/\m<=c:=by
 rcases g.2 with g|⟨b,c,a,f,_,d,_⟩
 ·exact .inl g
 exact .inr ⟨b,c,f,d⟩
theorem grow.len{e:TypeId}{sz m:Nat}{u:Value}{xs:List Value}{h:Hp}(g:grow e sz u m xs h):xs.length=m*sz:=g.1
theorem grow.nil(e:TypeId)(sz:Nat)(h:Hp):grow e sz (.slice none 0 0) 0 [] h:=⟨by simp,.inl ⟨Z,Z⟩⟩
theorem grow.rd{e:TypeId}{sz m:Nat}{u:Value}{xs:List Value}{h:Hp}(g:grow e sz u m xs h):rdH sz u m xs h:=by
 have d:=g.1;rcases g.2 with ⟨rfl,rfl⟩|⟨b,c,i,rfl,n,l,k,hs,f⟩
 ·have:xs=[]:=by simpa using d
  subst this;exact rdH.nil sz h
 refine ⟨_,c,Z,l,(by unfold maxLen at k;omega),d,λj u a=>⟨b,0,Z,_,_,_,n,?_⟩⟩;rw[<-f] at a;rw[AeS] at a;split at a
 ·simpa using a
 cases a
theorem grow.own{e:TypeId}{sz m:Nat}{u:Value}{xs:List Value}{h:Hp}(g:grow e sz u m xs h)(s:CJ h (hp w)):W4 0 e sz u m xs w:=by
 refine ⟨g.1,?_⟩;rcases g.2 with g|⟨b,c,a,f,d,r⟩
 ·exact .inl g
 exact .inr ⟨b,c,a,f,AeJ _,s _ _ d,r⟩
theorem Sep.void{B:Af}(H:Sep z Γ w)(a:∀h,B h):Sep z (B::Γ) w:=H.grow (Ext.refl No w) (a _)
theorem Sep.nilg(H:Sep z Γ w)(e:TypeId)(sz:Nat):Sep z (YtnifkcmmanmbbaaGreatDoor.grow e sz (.slice none 0 0) 0 []::Γ) w:=H.void λh=>grow.nil e sz h
theorem blk.grow{b k c sz:Nat}{cs xs:List Value}{ty:TypeId}{h:Hp}(f:blk b cs ty h)(a:k<=c)(g:c<=9223372036854775807)(e:cs.length=c*sz)(d:cs.take (k*sz)=xs):grow ty sz (.slice (some ⟨b,0,none⟩) k c) k xs h:=by
 refine ⟨?_,.inr ⟨b,c,cs.toArray,Z,f,a,(by unfold maxLen;omega),by simpa using e,by simpa using d⟩⟩;rw[<-d,Aes,e];exact Aez (AfB _ a)
theorem AY(i:Nat){t e:TypeId}{zv:Value}{sz by_ k m:Nat}{u:Value}{xs news:List Value}(H:Sep z Γ w)(hi:Γ[i]?=some (grow e sz v k xs))(ho:o.op=.call {callee:=.builtin .append,args:= #[x,y],argTypes:= #[t,t]})
  (ht:P.underlying t=some (.slice e))(hE:Elt P e zv sz by_)(hx:ev L x=some v)(hy:ev L y=some u)(p:Rd sz u m news w)(h1:∀c∈news,c.oneCell'=true)(a9:(k+m)*by_<=140737488355328):
  Cy P n ds L o w (λv' w'=>Sep z (Γ.set i (grow e sz v' (k+m) (xs++news))) w'):=λa hF=>by
 obtain ⟨own,f⟩:=H.own;have hg:=f i _ hi;have a0:CJ ((hp w).part own i) (hp w):=λq o' e=>(El e).2;have hO:=hg.own a0;obtain ⟨v',w',hr,a2,d,a7⟩:=Uj (B:=0) ho ht hE hx hy hO p h1 (AeJ _) a9 a hF;refine ⟨v',w',hr,d.os.trans H.os,d.tape.trans H.tape,d.output.trans H.output,λq=>if q<w.heap.size then own q else i,λj B l=>?_⟩;have s:∀q,v.ownBlock=some q->own q=i:=λq hq=>by
  rcases hg.2 with ⟨rfl,_⟩|⟨b,a4,a3,rfl,a8,_⟩
  ·simp[Value.ownBlock] at hq
  simp[Value.ownBlock] at hq;subst hq;exact (El a8).1
 rw[Afi] at l;split at l
 ·rename_i e;subst e
  split at l
  ·cases l
   refine ⟨a2.1,?_⟩;rcases a2.2 with q|⟨g,a4,a3,h,_,a6,r⟩
   ·exact .inl q
   refine .inr ⟨g,a4,a3,h,?_,r⟩;unfold Hp.part hp;have a5:(if g<w.heap.size then own g else i)=i:=by
    split
    ·rename_i b1
     rcases a7 with q|q
     ·exact s g (by rw[<-q,h];rfl)
     rw[h] at q;simp[Value.ownBlock] at q;omega
    rfl
   rw[if_pos a5];exact a6
  cases l
 rename_i a1;have:=f j B l;have e:(hp w').part (λq=>if q<w.heap.size then own q else i) j=(hp w).part own j:=by
  funext q;unfold Hp.part hp;dsimp only;by_cases hq:q<w.heap.size
  ·simp only[hq,if_true]
   by_cases hqj:own q=j
   ·simp only[hqj,if_true]
    exact d.block q hq (λb0=>a1 ((s q b0).symm.trans hqj))
   simp[hqj]
  have:w.heap[q]?=none:=AeT U;simp[hq,this,a1]
 rwa[e]
theorem AM(H:Sep z Γ w){t e:TypeId}{zv:Value}{c sz by_:Nat}{parts:List (Nat×Operand)}{vs:List (Nat×Value)}{out:List Value}(s:o.op=.buildSlice t c parts.toArray)(g:P.underlying t=some (.slice e))(q:Elt P e zv sz by_)
  (j:(evs L (parts.map (·.2))).map (List.zip (parts.map (·.1)))=some vs)(d:c*sz<=16777216)(l:0<c)(r:Instr.fill (λi=>some (i*sz,sz)) ((Array.range (c*sz)).map (zv.cells[· % zv.cells.size]!)) vs=some out.toArray):
  Cy P n ds L o w (λv f=>∃b,v=.slice (some ⟨b,0,none⟩) c c/\Sep z (blk b out e::Γ) f):=λa h=>by
 obtain ⟨v,f,m,b,rfl,hs,_,k,p⟩:=Nn (w:=w) s g q j d l r a h;exact ⟨_,f,m,b,Z,H.new p U k⟩
theorem EX(H:Sep z Γ w){t e:TypeId}{zv:Value}{sz by_:Nat}(k:o.op=.buildSlice t 0 #[])(d:P.underlying t=some (.slice e))(j:Elt P e zv sz by_):
  Cy P n ds L o w (λv w'=>∃b,v=.slice (some ⟨b,0,none⟩) 0 0/\Sep z (blk b [] e::Γ) w'):=λa l=>by
 obtain ⟨i,hi,p,hs,m,g,f,h⟩:=j;refine ⟨_,_,?_,w.heap.size,Z,H.new (Ds w (.cells #[] e)) (Aed _) (by show (w.heap.push _)[w.heap.size]?=_;simp)⟩;simp only[execOp,k,AeR];have c:∀w,(sizeOf e).run P w=.ok sz w:=λw=>by simp[sizeOf,typeInfo,hi,hs,go_sem]
 simp[Instr.buildSlice,run_underlying d,c,newRow,newObj,go_sem,Sem.run,Instr.fill]
end
end
section
def Cj(l:List UInt8):Value:=.string ⟨l.toArray⟩
def Re(P:Program)(t:TypeId):Bool:=match P.underlying t with
 | some (.slice e)=>(match P.underlying e with|some (.int .u8)=>(match P.info? e with|some i=>Nat.beq i.size 1|none=>false)|_=>false)
 | _=>false
theorem PP{P:Program}{t:TypeId}(h:Re P t=true):∃e i,P.underlying t=some (.slice e)/\P.underlying e=some (.int .u8)/\P.info? e=some i/\i.size=1:=by
 unfold Re at h;split at h
 ·rename_i e a
  split at h
  ·rename_i c
   split at h
   ·rename_i i b;exact ⟨e,i,a,c,b,by simpa using h⟩
   cases h
  cases h
 cases h
section
variable{P:Program}{C:World->Prop}{o:Oper}{a:Act}{w z:World}{Γ:List Af}{n:Nat}{ds:List Deferred}{L:List (Nat×Value)}{v:Value}{x y:Operand}{xt yt:TypeId}{A:Af}

theorem Co{f:TypeId}{l:List UInt8}{u:Value}(ho:o.op=.convert xt f x)(v:Re P xt=true)(h2:GZ P f=true)(hx:ev L x=some u)(hr:∀w,C w->Rd 1 u l.length (l.map u8) w):Ar P C n ds L o (Cj l):=λa y w z=>by
 obtain ⟨e,i,g,k,_,_⟩:=PP v;have r:=GA h2;obtain ⟨h,c,rfl,a0,_,_,m⟩:=hr w z;have key:(convert xt f (.slice h l.length c)).run P w=.ok (Cj l) w:=by
  cases h with
  | none=>
   have:l=[]:=by
    cases l with
    | nil=>rfl
    | cons p q=>obtain ⟨b,p',e,_⟩:=m 0 (u8 p) O;cases e
   subst this;exact run_convert_bytes_nil _ xt e g k _ _ f r
  | some ad=>
   refine run_convert_bytes_back w xt f e ad c l g k r λj s=>?_;obtain ⟨b,p,e2,d⟩:=m j (u8 l[j]) (by simp[s]);simp only[Aef] at e2;subst e2;have e3:(Addr.add ⟨b,p,none⟩ j)=⟨b,p+j,none⟩:=by
    unfold Addr.add;split
    ·rename_i t;simp[t]
    rfl
   rw[e3];exact d
 simp only[execOp,ho,y.ev hx,Aeq,key,Aem,Aev]
theorem IH{l m:List UInt8}(f:o.op=.binOp .eql xt x y yt)(b:GZ P xt=true)(d:ev L x=some (Cj l))(e:ev L y=some (Cj m)):Ar P C n ds L o (.bool (decide (l=m))):=λa c w _=>by
 have b:=GA b;simp only[execOp,f,c.ev d,c.ev e,Cj];simp[b,go_sem]
 first |(rw[Aer];simp;done)|skip
theorem Kq{l m:List UInt8}(f:o.op=.binOp .neq xt x y yt)(b:GZ P xt=true)(d:ev L x=some (Cj l))(e:ev L y=some (Cj m)):Ar P C n ds L o (.bool (decide (l≠m))):=λa c w _=>by
 have b:=GA b;simp only[execOp,f,c.ev d,c.ev e,Cj];simp[b,go_sem]
 first |(rw[Aer];simp;done)|skip
theorem Uq{t:TypeId}{l:List UInt8}(c:o.op=.call {callee:=.builtin .len,args:= #[x],argTypes:= #[t]})(a:GZ P t=true)(b:ev L x=some (Cj l)):Ar P C n ds L o (I l.length):=AaC c a b

theorem JH{dT sT ty:TypeId}{b f a dc m:Nat}{v:TypeId}{cs news:List Value}{u:Value}(hd:∃e i,P.underlying dT=some (.slice e)/\P.info? e=some i/\i.size=1)(d:(Rd 1 u m news w)\/(∃l,u=Cj l/\news=l.map u8/\m=l.length))(h1:∀c∈news,c.oneCell'=true)(hb:Blk b cs v w)(hl:f+min m a<=cs.length):
  ∃y,(Builtin.copy_ #[dT,sT] ty #[.slice (some ⟨b,f,none⟩) a dc,u]).run P w=.ok (I (min m a:Nat)) y/\Blk b (cs.take f++news.take (min m a)++cs.drop (f+min m a)) v y/\Ext (· =b) w y/\y.heap.size=w.heap.size:=by
 obtain ⟨e,i,ht,hi,hs⟩:=hd;have a0:∀w,(sizeOf e).run P w=.ok 1 w:=λw=>by simp[sizeOf,typeInfo,hi,hs,go_sem]
 have h:(news.take (min m a)).length=min m a:=by
  have:news.length=m:=by
   rcases d with ⟨_,_,_,_,_,hl,_⟩|⟨l,_,rfl,rfl⟩
   ·simpa using hl
   simp
  rw[Aes,this];omega
 have g:=run_storeCells_at P b f v (news.take (min m a)) 0 cs.toArray w hb (by rw[h];simpa using hl) (λc hc=>h1 c (Afa hc));rw[h] at g;simp only[AgY,AfU] at g;refine ⟨_,?_,setRow_heap w b _ _ v (0,0) hb,⟨Z,Z,Z,by simp,λk _ hk=>setRow_other w b k _ hk⟩,by simp⟩;have r:(Builtin.lenOf u).run P w=.ok m w:=by
  rcases d with ⟨ao,c,rfl,_⟩|⟨l,rfl,rfl,rfl⟩
  ·rfl
  rfl
 have s:m.min a=min m a:=rfl;have a1:(Builtin.firstCells 1 (min m a) u).run P w=.ok (news.take (min m a)).toArray w:=by
  rcases d with ⟨ao,c,rfl,a3,_,a2,n⟩|⟨l,rfl,rfl,rfl⟩
  ·cases ao with
   | none=>
    have hn:news=[]:=by
     cases news with
     | nil=>rfl
     | cons q qs=>obtain ⟨b',p',x,_⟩:=n 0 q Z;cases x
    subst hn;simp[Builtin.firstCells,Aev]
   | some ad=>
    have:=run_loadCells_list (P:=P) w ad (news.take (min m a)) (λj q t=>by
     have z:news[j]?=some q:=by
      rw[AeS] at t;split at t
      ·exact t
      cases t
     obtain ⟨b',p,x,o⟩:=n j q z;simp only[Aef] at x;subst x;have e3:(Addr.add ⟨b',p,none⟩ j)=⟨b',p+j,none⟩:=by
      unfold Addr.add;split
      ·rename_i h0;simp[h0]
      rfl
     rw[e3];exact o)
    rw[h] at this;simp only[Builtin.firstCells,AeK];exact this
  have e:((({data:=l.toArray} :ByteArray).extract 0 (min l.length a)).data.map λb=>Value.int .u8 b.toNat)=((l.map u8).take (min l.length a)).toArray:=by
   apply Array.ext';rw[Array.toList_map,Lib.extract_data];simp[u8,Afj];rfl
  simp only[Cj,Builtin.firstCells,Aev,e]
 simp only[Builtin.copy_,Ae9,AeM,Aet,Aeq,run_underlying ht,Aem,r,a0,s,a1,g,Aev,goInt]
theorem F4(i:Nat){t st:TypeId}{b d p dc m:Nat}{ct:TypeId}{cs news:List Value}{u:Value}(H:Sep z Γ w)(hi:Γ[i]?=some (blk b cs ct))(ho:o.op=.call {callee:=.builtin .copy,args:= #[x,y],argTypes:= #[t,st]})(hd:Re P t=true)(hx:ev L x=some (.slice (some ⟨b,d,none⟩) p dc))(hy:ev L y=some u)
  (h:(Rd 1 u m news w)\/(∃l,u=Cj l/\news=l.map u8/\m=l.length))(h1:∀c∈news,c.oneCell'=true)(hl:d+min m p<=cs.length){k:Nat}(s:min m p=k){out:List Value}(j:cs.take d++news.take k++cs.drop (d+k)=out):
  Cy P n ds L o w (λv r=>v=I k/\Sep z (Γ.set i (blk b out ct)) r):=λa hF=>by
 obtain ⟨r,hr,hB,f,_⟩:=JH (P:=P) (sT:=st) (ty:=o.type) (dc:=dc) (by obtain ⟨e,i,ht,_,hi,hs⟩:=PP hd;exact ⟨e,i,ht,hi,hs⟩) h h1 (H.blk i hi) hl;rw[s,j] at hB;rw[s] at hr;refine ⟨_,r,?_,Z,H.write i hi f.os f.tape f.output hB (λq hq=>?_)⟩
 ·simp only[execOp,ho,resolve,invoke,builtin,Aeq,Aev,Aem,AeR,AeE,Aft,hF.ev hx,hF.ev hy,hr]
 rcases Ael q w.heap.size with g|g
 ·exact f.block q g hq
 rw[AeT g,AeT U]
theorem XJ(i:Nat){t st:TypeId}{b d p dc m:Nat}{ct:TypeId}{cs news:List Value}{u:Value}(H:Sep z Γ w)(hi:Γ[i]?=some (blk b cs ct))(ho:o.op=.call {callee:=.builtin .copy,args:= #[x,y],argTypes:= #[t,st]})(hd:Dm P t=some 1)(hx:ev L x=some (.slice (some ⟨b,d,none⟩) p dc))(hy:ev L y=some u)
  (h:(Rd 1 u m news w)\/(∃l,u=Cj l/\news=l.map u8/\m=l.length))(r:∀c∈news,c.oneCell'=true)(hl:d+min m p<=cs.length){k:Nat}(hk:min m p=k){out:List Value}(j:cs.take d++news.take k++cs.drop (d+k)=out):
  Cy P n ds L o w (λv s=>v=I k/\Sep z (Γ.set i (blk b out ct)) s):=λa hF=>by
 obtain ⟨s,hr,hB,f,_⟩:=JH (P:=P) (sT:=st) (ty:=o.type) (dc:=dc) (by obtain ⟨e,i0,r,h2,h3⟩:=Fd hd;exact ⟨e,i0,r,h2,h3⟩) h r (H.blk i hi) hl;rw[hk,j] at hB;rw[hk] at hr;refine ⟨_,s,?_,Z,H.write i hi f.os f.tape f.output hB (λq hq=>?_)⟩
 ·simp only[execOp,ho,resolve,invoke,builtin,Aeq,Aev,Aem,AeR,AeE,Aft,hF.ev hx,hF.ev hy,hr]
 rcases Ael q w.heap.size with g|g
 ·exact f.block q g hq
 rw[AeT g,AeT U]
theorem Em{t e:TypeId}{k:Nat}(H:Sep z Γ w)(ho:o.op=.makeSlice t x y)(h:P.underlying t=some (.slice e)){zv:Value}{by_:Nat}(u:Elt P e zv 1 by_)(m:zv.cells= #[zv])(s:ev L x=some (I k))(q:ev L y=some (I k))(hk:by_*k<=140737488355328):
  Cy P n ds L o w (λv w'=>∃b,v=.slice (some ⟨b,0,none⟩) k k/\Sep z (blk b (List.replicate k zv) e::Γ) w'):=λa f=>by
 obtain ⟨i,hi,hz,hs,r,p,l,d⟩:=u;have c:(i.bytes:Int)*(k:Int)<=281474976710656:=by
  rw[r,<-Int.natCast_mul];omega
 have g:=run_make (P:=P) (w:=w) t e i zv h hi hz .i64 .i64 (k:Int) (k:Int) U (Afg _) c (by
  have:1*k<=by_*k:=AfB _ d;omega)
 have e1:madeCells zv.cells (((k:Int)).toNat*i.size)=(List.replicate k zv).toArray:=by
  apply Array.ext';simp only[madeCells,hs,m,AeZ,AeK];rw[AfU];apply AgQ
  ·simp
  intro j h1 h2;simp[Nat.mod_one]
 rw[e1] at g;refine ⟨_,_,?_,w.heap.size,Z,H.new (Ds w (.cells (List.replicate k zv).toArray e)) (Aed _) (by show (w.heap.push _)[w.heap.size]?=_;simp)⟩;simp only[execOp,ho,f.ev s,f.ev q,Aeq,g,Aem,Aev,AeZ];rfl

abbrev IE:=Int×Value×Nat
def Cu(p:IE):MapEntry:=⟨.int .i64 p.1,p.2.1,p.2.2⟩
def AH(m:Nat)(l:List IE)(clk:Nat):Af:=bk m (.map (l.map Cu).toArray clk)
def fnd:List IE->Int->Nat->Option (Nat×Value)
 | [],_,_=>none
 | p::l,k,i=>if k=p.1 then some (i,p.2.1) else fnd l k (i+1)
def CO:List IE->Int->Option Value
 | [],_=>none
 | p::l,k=>if k=p.1 then some p.2.1 else CO l k
def CP(l:List IE)(k:Int):Bool:=(CO l k).isSome
def updM:List IE->Int->Value->List IE
 | [],_,_=>[]
 | p::l,k,v=>if k=p.1 then (k,v,p.2.2)::l else p::updM l k v
def delM:List IE->Int->List IE
 | [],_=>[]
 | p::l,k=>if k=p.1 then l else p::delM l k
def E4(l:List IE)(k:Int)(v:Value)(clk:Nat):List IE:=if CP l k then updM l k v else l++[(k,v,clk)]
def putC(l:List IE)(k:Int)(clk:Nat):Nat:=if CP l k then clk else clk+1
theorem Jc(l:List IE)(k:Int):∀i,(fnd l k i).map (·.2)=CO l k:=by
 induction l with
 | nil=>intro i;rfl
 | cons p l ih=>intro i;simp only[fnd,CO];split<;>simp[ih]
theorem Sp(l:List IE)(k:Int):∀i j u,fnd l k i=some (j,u)->i<=j:=by
 induction l with
 | nil=>intro i j u h;simp[fnd] at h
 | cons p l ih=>
  intro i j u h;simp only[fnd] at h;split at h
  ·simp at h;omega
  have:=ih _ _ _ h;omega
theorem XK(l:List IE)(k:Int)(v:Value):∀i j u,fnd l k i=some (j,u)->(l.map Cu).modify (j-i) (λe=> {e with key:=I k,val:=v})=(updM l k v).map Cu/\((l.map Cu)[j-i]?).map (·.key)=some (I k):=by
 induction l with
 | nil=>intro i j u h;simp[fnd] at h
 | cons p l ih=>
  intro i j u h;simp only[fnd] at h;simp only[updM];split at h
  ·rename_i e
   simp at h;obtain ⟨rfl,_⟩:=h;simp[e,Cu]
  rename_i e;have c:=Sp _ _ _ _ _ h;obtain ⟨b,a⟩:=ih _ _ _ h;obtain ⟨q,rfl⟩:∃q,j=i+1+q:=⟨j-(i+1),by omega⟩;rw[show i+1+q-(i+1)=q from by omega] at b a;rw[show i+1+q-i=q+1 from by omega];refine ⟨by simp[e,b],?_⟩;rw[AeE,Aet];exact a
theorem XL(l:List IE)(k:Int):∀i j u,fnd l k i=some (j,u)->(l.map Cu).eraseIdx (j-i)=(delM l k).map Cu/\j-i<l.length:=by
 induction l with
 | nil=>intro i j u h;simp[fnd] at h
 | cons p l ih=>
  intro i j u h;simp only[fnd] at h;simp only[delM];split at h
  ·rename_i e
   simp at h;obtain ⟨rfl,_⟩:=h;simp[e]
  rename_i e;have c:=Sp _ _ _ _ _ h;obtain ⟨a,b⟩:=ih _ _ _ h;obtain ⟨q,rfl⟩:∃q,j=i+1+q:=⟨j-(i+1),by omega⟩;rw[show i+1+q-(i+1)=q from by omega] at a b;rw[show i+1+q-i=q+1 from by omega];simp[e,a];omega
theorem Nt(l:List IE)(k:Int)(h:CO l k=none):delM l k=l:=by
 induction l with
 | nil=>rfl
 | cons p l ih=>
  simp only[CO] at h;simp only[delM];split at h
  ·cases h
  rename_i e;rw[if_neg e,ih h]
def EO(P:Program)(t:TypeId):Option TypeId:=match P.underlying t with
 | some (.map k e)=>(match P.underlying k with|some (.int _)=>some e|_=>none)
 | _=>none
theorem D4{t e:TypeId}(h:EO P t=some e):∃k a,P.underlying t=some (.map k e)/\P.underlying k=some (.int a):=by
 unfold EO at h;split at h
 ·rename_i k d b
  split at h
  ·rename_i a c;simp only[Aef] at h;subst h;exact ⟨k,a,b,c⟩
  cases h
 cases h
theorem EP{a:TypeId}{b:IntKind}(c:P.underlying a=some (.int b))(l:List IE)(k:Int)(w:World):(Instr.findKey a (I k) (l.map Cu)).run P w=.ok (fnd l k 0) w:=by
 have key:∀(l:List IE) (i:Nat),Instr.findNow (.int b) (I k) (l.map Cu) i=some (fnd l k i):=by
  intro l
  induction l with
  | nil=>intro i;rfl
  | cons p l ih=>
   intro i;simp only[AeE,Instr.findNow,Cu,Instr.sameNow,if_true,fnd];by_cases e:k=p.1
   ·simp[e]
   have:(k==p.1)=false:=by simpa using e
   rw[this,if_neg e];exact ih _
 simp only[Instr.findKey,Aeq,run_underlying c,Aem,key,Aev]
theorem En{a:TypeId}{d:IntKind}(c:P.underlying a=some (.int d))(b:Bool)(k:Int)(w:World):(Instr.checkKey b 10000 a (I k)).run P w=.ok () w:=by
 unfold Instr.checkKey;simp only[Aeq,run_underlying c,Aem,Aev]
theorem FM{t e:TypeId}{m clk:Nat}{l:List IE}{k:Int}{zv:Value}(z:o.op=.lookup t x y false)(h:EO P t=some e)(c:(P.info? e).bind (·.zero)=some zv)(s:ev L x=some (.map (some m)))(p:ev L y=some (I k))
  (u:∀w,C w->w.heap[m]?=some (.map (l.map Cu).toArray clk)):Ar P C n ds L o ((CO l k).getD zv):=λa f w r=>by
 obtain ⟨kt,ik,j,g⟩:=D4 h;have d:(zeroValue e).run P w=.ok zv w:=by
  cases hi:P.info? e with
  | none=>rw[hi] at c;cases c
  | some i=>rw[hi] at c;simp[zeroValue,typeInfo,hi,show i.zero=some zv from c,go_sem]
 have v:(getObj m).run P w=.ok (.map (l.map Cu).toArray clk) w:=by simp[getObj,Sem.run,u w r]
 have b:=Jc l k 0;simp only[execOp,z,f.ev s,f.ev p,Instr.lookup,Aeq,run_underlying j,Aem,v,Aev,En g,AfU,EP g]
 cases hf:fnd l k 0 with
 | none=>rw[hf] at b;rw[<-b];simp[d,Aeq,Aev]
 | some q=>rw[hf] at b;rw[<-b];simp[Aev]
theorem DN(i:Nat){t e:TypeId}{m clk:Nat}{l:List IE}{k:Int}{x y vo:Operand}(H:Sep z Γ w)(hi:Γ[i]?=some (AH m l clk))(ho:o.op=.mapUpdate t x y vo)(ht:EO P t=some e)(hx:ev L x=some (.map (some m)))(hk:ev L y=some (I k))(hv:ev L vo=some v):
  DG P n ds L o w (λw'=>Sep z (Γ.set i (AH m (E4 l k v clk) (putC l k clk))) w'):=λa r=>by
 obtain ⟨kt,ik,h1,h2⟩:=D4 ht;have d:w.heap[m]?=some (.map (l.map Cu).toArray clk):=H.bk i hi;have hg:(getObj m).run P w=.ok (.map (l.map Cu).toArray clk) w:=by simp[getObj,Sem.run,d]
 have c:∀ob,(setObj m ob).run P w=.ok () {w with heap:=w.heap.setIfInBounds m ob} :=λob=>by simp[setObj,Sem.run,d]
 have s:m<w.heap.size:=(AeU.1 d).1;have fin:∀ob,Sep z (Γ.set i (bk m ob)) {w with heap:=w.heap.setIfInBounds m ob} :=λob=>
  H.write i hi Z Z Z (by show (w.heap.setIfInBounds m ob)[m]?=_;simp[s]) (λq hq=>by show (w.heap.setIfInBounds m ob)[q]?=_;rw[AfK (AfN hq)])
 have b:=Jc l k 0;have f:(Instr.mapUpdate t (.map (some m)) (I k) v).run P w=.ok () {w with heap:=w.heap.setIfInBounds m (.map ((E4 l k v clk).map Cu).toArray (putC l k clk))} :=by
  simp only[Instr.mapUpdate,Aeq,run_underlying h1,Aem,hg,Aev,En h2,AfU,EP h2]
  cases hf:fnd l k 0 with
  | none=>
   rw[hf] at b;have h:CP l k=false:=by simp[CP,<-b]
   simp only[E4,putC,h,if_false,Afm,c];simp[Cu]
  | some q=>
   obtain ⟨j,u⟩:=q;rw[hf] at b;have h:CP l k=true:=by simp[CP,<-b]
   obtain ⟨f1,f2⟩:=XK l k v 0 j u hf;simp only[AgX] at f1 f2;have g:((((l.map Cu).toArray)[j]?).map (·.key)).getD (I k)=I k:=by
    rw[Ae9,f2];rfl
   simp only[E4,putC,h,if_true,g];have p:(Instr.keyThatStays (I k) (I k)).run P w=.ok (I k) w:=by
    simp[Instr.keyThatStays,Instr.sameBits,Aev]
   simp only[p,Aeq,Aem];rw[<-f1];have:((l.map Cu).toArray.modify j λe=> {e with key:=I k,val:=v})=((l.map Cu).modify j λe=> {e with key:=I k,val:=v}).toArray:=by simp
   rw[this];exact c _
 refine ⟨_,?_,fin _⟩;simp only[execOp,ho,r.ev hx,r.ev hk,r.ev hv,Aeq,f,Aem,Aev]
theorem Nu(i:Nat){t e g:TypeId}{m clk:Nat}{l:List IE}{k:Int}(H:Sep z Γ w)(hi:Γ[i]?=some (AH m l clk))(ho:o.op=.call {callee:=.builtin .delete,args:= #[x,y],argTypes:= #[t,g]})(ht:EO P t=some e)(hx:ev L x=some (.map (some m)))(hk:ev L y=some (I k)):
  Cy P n ds L o w (λv w'=>v=.tuple #[]/\Sep z (Γ.set i (AH m (delM l k) clk)) w'):=λa p=>by
 obtain ⟨kt,ik,h1,s⟩:=D4 ht;have c:w.heap[m]?=some (.map (l.map Cu).toArray clk):=H.bk i hi;have hg:(getObj m).run P w=.ok (.map (l.map Cu).toArray clk) w:=by simp[getObj,Sem.run,c]
 have b:∀ob,(setObj m ob).run P w=.ok () {w with heap:=w.heap.setIfInBounds m ob} :=λob=>by simp[setObj,Sem.run,c]
 have h:m<w.heap.size:=(AeU.1 c).1;have fin:∀ob,Sep z (Γ.set i (bk m ob)) {w with heap:=w.heap.setIfInBounds m ob} :=λob=>
  H.write i hi Z Z Z (by show (w.heap.setIfInBounds m ob)[m]?=_;simp[h]) (λq hq=>by show (w.heap.setIfInBounds m ob)[q]?=_;rw[AfK (AfN hq)])
 have f:=Jc l k 0;have d:(Builtin.delete_ #[t,g] o.type #[.map (some m),I k]).run P w=.ok (.tuple #[]) {w with heap:=w.heap.setIfInBounds m (.map ((delM l k).map Cu).toArray clk)} :=by
  simp only[Builtin.delete_,Ae9,AeM,Aet,Aeq,run_underlying h1,Aem,hg,Aev,En s,EP s]
  cases hf:fnd l k 0 with
  | none=>
   rw[hf] at f;simp only[Aeq,b,Aem,Nt l k f.symm,Aev]
  | some q=>
   obtain ⟨j,u⟩:=q;obtain ⟨r,f2⟩:=XL l k 0 j u hf;simp only[AgX] at r f2;have:((l.map Cu).toArray.eraseIdxIfInBounds j)=((delM l k).map Cu).toArray:=by
    rw[<-r];simp
   simp only[this,Aeq,b,Aem,Aev]
 refine ⟨_,_,?_,Z,fin _⟩;simp only[execOp,ho,resolve,invoke,builtin,Aeq,Aev,Aem,AeR,AeE,Aft,p.ev hx,p.ev hk,d]
theorem F5{t:TypeId}(H:Sep z Γ w)(b:o.op=.makeMap t none):Cy P n ds L o w (λv w'=>∃m,v=.map (some m)/\Sep z (AH m [] 0::Γ) w'):=λa c=>by
 refine ⟨_,_,?_,w.heap.size,Z,H.new (Ds w (.map #[] 0)) (Aed _) (by show (w.heap.push _)[w.heap.size]?=_;simp)⟩;simp[execOp,b,Instr.makeMap,newObj,go_sem,Sem.run]
def Jd(P:Program)(t:TypeId):Option Nat:=match P.underlying t with
 | some (.array l e)=>(match P.info? e with|some i=>if Nat.beq i.size 1&&Gc P e then some l else none|none=>none)
 | _=>none
theorem Kr{t:TypeId}{l:Nat}(h:Jd P t=some l):∃e i,P.underlying t=some (.array l e)/\P.info? e=some i/\i.size=1/\Gc P e=true:=by
 unfold Jd at h;split at h
 ·rename_i l' e b
  split at h
  ·rename_i i c
   split at h
   ·rename_i a
    simp only[Aex] at a;simp only[Aef] at h;subst h;exact ⟨e,i,b,c,by simpa using a.1,a.2⟩
   cases h
  cases h
 cases h
theorem Nv{t:TypeId}{vs:List Value}{l:List Int}{i:Int}{k:IntKind}{j m:Nat}{u:Int}(ho:o.op=.index t x y)(c:Jd P t=some m)(v:ev L x=some (.agg vs.toArray))(s:vs=l.map I)(hm:l.length=m)(q:ev L y=some (.int k i))(f:i=j)(h:l[j]?=some u):Ar P C n ds L o (I u):=λa g w _=>by
 obtain ⟨e,i0,c,hi,hz,z⟩:=Kr c;subst f;have hj:j<l.length:=(Ad6.1 h).1;have p:(0:Int)<=(j:Int)/\(j:Int)<(m:Int):=by omega
 have r:vs[j]?=some (I u):=by rw[s,Aej,h];rfl
 have b:(part e vs.toArray (j*1)).run P w=.ok (I u) w:=by
  simp only[part,Aeq,FL z,Aem,if_false,Afm,AeK,Ae9,r,Aev]
 have d:(sizeOf e).run P w=.ok 1 w:=by simp[sizeOf,typeInfo,hi,hz,go_sem]
 simp only[execOp,ho,g.ev v,g.ev q,Instr.index,asIntOf,Aeq,Aev,Aem,run_underlying c,if_pos p,AeZ,d,b]

def Slc(v:Value)(l:Nat):Prop:=∃ao c,v=.slice ao l c
theorem grow.slc{e:TypeId}{sz m:Nat}{u:Value}{xs:List Value}{h:Hp}(g:grow e sz u m xs h):Slc u m:=by
 rcases g.form with ⟨rfl,rfl⟩|⟨b,c,rfl,_⟩
 ·exact ⟨_,_,Z⟩
 exact ⟨_,_,Z⟩
theorem rdH.slc{sz m:Nat}{u:Value}{xs:List Value}{h:Hp}(g:rdH sz u m xs h):Slc u m:=by
 obtain ⟨a,c,rfl,_⟩:=g;exact ⟨_,_,Z⟩
theorem Ed{t:TypeId}{sz l:Nat}{u:Value}(e:o.op=.call {callee:=.builtin .len,args:= #[x],argTypes:= #[t]})(a:Dm P t=some sz)(b:ev L x=some u)(d:Slc u l):Ar P C n ds L o (I l):=by
 obtain ⟨f,c,rfl⟩:=d;exact FZ e a b
theorem Sep.ungrow(i:Nat){e:TypeId}{sz m:Nat}{u:Value}{xs:List Value}(H:Sep z Γ w)(hi:Γ[i]?=some (YtnifkcmmanmbbaaGreatDoor.grow e sz u m xs))(o:0<m):
  ∃g a rest,u=.slice (some ⟨g,0,none⟩) m a/\m<=a/\a<=9223372036854775807/\rest.length=(a-m)*sz/\Sep z (Γ.set i (YtnifkcmmanmbbaaGreatDoor.blk g (xs++rest) e)) w:=by
 obtain ⟨⟨g,a,rest⟩,⟨a1,a2,a3,a4⟩,k⟩:=H.exAt i (σ:=Nat×Nat×List Value) (p:=λq=>u=.slice (some ⟨q.1,0,none⟩) m q.2.1/\m<=q.2.1/\q.2.1<=9223372036854775807/\q.2.2.length=(q.2.1-m)*sz) (B:=λq=>YtnifkcmmanmbbaaGreatDoor.blk q.1 (xs++q.2.2) e) hi (λh g=>by
  rcases g.2 with ⟨_,rfl⟩|⟨b,a,c,j,n,l,d,hs,f⟩
  ·omega
  refine ⟨⟨b,a,c.toList.drop (m*sz)⟩,⟨j,l,by unfold maxLen at d;omega,?_⟩,?_⟩
  ·simp[hs,Nat.sub_mul]
  rw[<-f,AeI];simpa [YtnifkcmmanmbbaaGreatDoor.blk,YtnifkcmmanmbbaaGreatDoor.bk] using n)
 exact ⟨g,a,rest,a1,a2,a3,a4,k⟩
theorem Ur{t:TypeId}{lo hi v:Operand}{b d l c p q sz o' l':Nat}{k1 k2 k3:IntKind}{u z y:Int}(ho:o.op=.slice t x (some lo) (some hi) (some v))(g:Dm P t=some sz)(hx:ev L x=some (.slice (some ⟨b,d,none⟩) l c))
  (r:ev L lo=some (.int k1 u))(i:ev L hi=some (.int k2 z))(j:ev L v=some (.int k3 y))(e1:u=(p:Int))(e2:z=(q:Int))(e3:y=(q:Int))(a0:p<q)(h:q<=c)(h1:d+p*sz=o')(h2:q-p=l'):Ar P C n ds L o (.slice (some ⟨b,o',none⟩) l' l'):=λa f w _=>by
 obtain ⟨e,i0,g,k,hz⟩:=Fd g;subst e1;subst e2;subst e3;have g1:(0:Int)<=(p:Int)/\(p:Int)<=(q:Int):=by omega
 have g2:(0:Int)<=(q:Int)/\(q:Int)<=(c:Int):=by omega
 have g3:(0:Int)<=(q:Int)/\(q:Int)<=(q:Int):=by omega
 have key:((⟨b,d,none⟩:Addr).add (p*sz))=⟨b,o',none⟩:=by
  subst h1;unfold Addr.add;split
  ·rename_i h0;simp[h0]
  rfl
 have s:¬q=p:=by omega
 have m:p<=q:=by omega
 simp only[execOp,ho,AeN,f.ev hx,f.ev r,f.ev i,f.ev j];simp[Instr.sliceAt,Instr.slice,run_underlying g,Instr.sliceBounds,Instr.sliceBound,asIntOf,g1,g2,g3,sizeOf,typeInfo,k,hz,m,h,s,go_sem,key,h2]
end
end
section
section
variable{P:Program}{C:World->Prop}{o:Oper}{a:Act}{w z:World}{Γ:List Af}{n:Nat}{ds:List Deferred}{L:List (Nat×Value)}{v:Value}{x y:Operand}{xt yt:TypeId}
theorem AaI{p:Int}{k:IntKind}{q:Int}{m:Nat}(g:o.op=.binOp .shr xt x y yt)(d:ev L x=some (I p))(f:ev L y=some (.int k q))(hq:q=m)(h:m<64):Ar P C n ds L o (I (p/2^m)):=λa c w _=>by
 subst hq;simp only[execOp,g,c.ev d,c.ev f];have e:¬((m:Int)<0):=by omega
 have b:min m 64=m:=by omega
 simp[go_sem,Op.shift,IntKind.bits,e,b]
theorem Sr{p:Int}{k:IntKind}{q:Int}{m:Nat}(g:o.op=.binOp .shl xt x y yt)(d:ev L x=some (I p))(f:ev L y=some (.int k q))(hq:q=m)(h:m<64):Ar P C n ds L o (I (IntKind.i64.wrap (p*2^m))):=λa c w _=>by
 subst hq;simp only[execOp,g,c.ev d,c.ev f];have e:¬((m:Int)<0):=by omega
 have b:min m 64=m:=by omega
 simp[go_sem,Op.shift,IntKind.bits,e,b]
theorem Ss{p q:Int}(c:o.op=.binOp .add xt x y yt)(a:ev L x=some (I p))(b:ev L y=some (I q)):Ar P C n ds L o (I (IntKind.i64.wrap (p+q))):=WU (P:=P) (C:=C) (n:=n) (ds:=ds) (L:=L) c a b
theorem AaJ{p:Int}{q:Nat}(hp:p%256=0)(hq:q<256):((BitVec.ofInt 64 p|||BitVec.ofInt 64 (q:Int)).toNat:Int)%18446744073709551616=(p+q)%18446744073709551616:=by
 have e1:(BitVec.ofInt 64 p).toNat=(p%18446744073709551616).toNat:=by simp[BitVec.toNat_ofInt]
 have e2:(BitVec.ofInt 64 (q:Int)).toNat=q:=by simp[BitVec.toNat_ofInt];omega
 have b:∃r,(p%18446744073709551616).toNat=r <<< 8:=⟨(p%18446744073709551616).toNat/256,by rw[Nat.shiftLeft_eq];omega⟩;obtain ⟨r,a⟩:=b;rw[BitVec.toNat_or,e1,e2,a,<-Nat.shiftLeft_add_eq_or_of_lt (by omega:q<2^8),<-a];omega
theorem W8{p q:Int}(f:o.op=.binOp .or xt x y yt)(d:ev L x=some (I p))(e:ev L y=some (I q))(hp:p%256=0)(hq:0<=q/\q<256):Ar P C n ds L o (I (IntKind.i64.wrap (p+q))):=λa c w _=>by
 obtain ⟨q,rfl⟩:=AfS hq.1;have h:=AaJ (p:=p) (q:=q) hp U;have key:IntKind.i64.wrap ((BitVec.ofInt IntKind.i64.bits p|||BitVec.ofInt IntKind.i64.bits (q:Int)).toNat:Int)=IntKind.i64.wrap (p+q):=by
  show (if (true&&decide (((BitVec.ofInt 64 p|||BitVec.ofInt 64 (q:Int)).toNat:Int)%(2^64:Int)>=(2^(64-1):Int)))=true then ((BitVec.ofInt 64 p|||BitVec.ofInt 64 (q:Int)).toNat:Int)%(2^64:Int)-(2^64:Int) else ((BitVec.ofInt 64 p|||BitVec.ofInt 64 (q:Int)).toNat:Int)%(2^64:Int))=(if (true&&decide ((p+q)%(2^64:Int)>=(2^(64-1):Int)))=true then (p+q)%(2^64:Int)-(2^64:Int) else (p+q)%(2^64:Int));simp only[show (2:Int)^64=18446744073709551616 from Z,h]
 have b:IntKind.i64.wrap ((BitVec.ofInt 64 p|||BitVec.ofInt 64 (q:Int)).toNat:Int)=IntKind.i64.wrap (p+q):=key;rw[Ag0] at b;simp only[execOp,f,c.ev d,c.ev e];simp only[binOp,Op.intBits,go_sem,key]
 first |(simp[go_sem,b];done)|(simp only[go_sem];exact congrArg (λv=>Result.ok (I v) _) b)|(simp[go_sem];exact b)
theorem JQ{t:TypeId}{l:List UInt8}{i:Int}{k:IntKind}{j:Nat}{b:UInt8}(q:o.op=.index t x y)(c:GZ P t=true)(m:ev L x=some (Cj l))(h:ev L y=some (.int k i))(d:i=j)(f:l[j]?=some b):Ar P C n ds L o (u8 b):=λa e w _=>by
 have c:=GA c;subst d;have g:j<l.length:=(Ad6.1 f).1;have p:(⟨l.toArray⟩:ByteArray)[j]?=some b:=by
  have hs:(⟨l.toArray⟩:ByteArray).size=l.length:=by show l.toArray.size=_;simp
  rw[getElem?_pos (⟨l.toArray⟩:ByteArray) j (by rw[hs];exact g)];show some (l.toArray[j]'_)=_;simp[(Ad6.1 f).2]
 simp only[execOp,q,e.ev m,e.ev h,Cj,Instr.index,asIntOf,Aeq,Aev,Aem,run_underlying c,if_pos (Int.natCast_nonneg j),AeZ,p];rfl
theorem Su{t e:TypeId}{zv:Value}{sz by_ k d m b h:Nat}{u:Value}{xs news:List Value}(H:Sep z Γ w)(ho:o.op=.call {callee:=.builtin .append,args:= #[x,y],argTypes:= #[t,t]})
  (ht:P.underlying t=some (.slice e))(hE:Elt P e zv sz by_)(hx:ev L x=some (.slice (some ⟨b,h,none⟩) k d))(hy:ev L y=some u)(a0:Rd sz (.slice (some ⟨b,h,none⟩) k d) k xs w)(l:Rd sz u m news w)(hg:d<k+m)(h1:∀c∈news,c.oneCell'=true)(b1:(k+m)*by_<=140737488355328):
  Cy P n ds L o w (λv' s=>Sep z (grow e sz v' (k+m) (xs++news)::Γ) s):=λa hF=>by
 obtain ⟨i,hi,hz,hs,hb,a3,a2,b0⟩:=hE;obtain ⟨b3,c1,e1,b4,_,a6,a1⟩:=a0;cases e1;obtain ⟨ao,c,rfl,b6,_,hl,v⟩:=l;have a8:k+m<=maxLen:=by
  have:(k+m)*1<=(k+m)*by_:=Agm _ b0;unfold maxLen;omega
 have a7:0<news.length:=by
  have:1*1<=m*sz:=Nat.mul_le_mul U U;omega
 obtain ⟨b',p',e2,_⟩:=v 0 news[0] (Ad7 a7);subst e2;have f:∀(b p j:Nat),(Addr.add ⟨b,p,none⟩ j)=⟨b,p+j,none⟩:=λb p j=>by
  unfold Addr.add;split
  ·rename_i h0;simp[h0]
  rfl
 obtain ⟨v',s,hr,h2,h3⟩:=run_append_arg_grows (P:=P) w t o.type e i zv sz by_ ht hi hz hs hb a3 a2 ⟨b,h,none⟩ k d xs a6 (λj q hj=>by
  obtain ⟨b2,p2,e3,hc⟩:=a1 j q hj;cases e3;rw[f];exact hc) ⟨b',p',none⟩ m c news hl (λj q hj=>by
  obtain ⟨b2,p2,e3,hc⟩:=v j q hj;cases e3;rw[f];exact hc) hg a8 b1
 have a5:Ext No w s:=(Ext.of_grown h3).mono (λ_ _ q=>by cases q);refine ⟨v',s,?_,H.grow a5 ?_⟩
 ·simp only[execOp,ho,resolve,invoke,builtin,Aeq,Aev,Aem,AeR,AeE,Aft,hF.ev hx,hF.ev hy,hr]
 refine ⟨h2.1,?_⟩;rcases h2.2 with q|⟨g,d,a9,hv,b5,a4,r⟩
 ·exact .inl q
 refine .inr ⟨g,d,a9,hv,?_,r⟩;show (if g<w.heap.size then none else s.heap[g]?)=_;rw[if_neg U];exact a4
theorem Mp{t:TypeId}{b d l c m:Nat}(p:o.op=.sliceToArrayPointer t x)(f:(match P.underlying t with|some (.array k _)=>Nat.beq k m|_=>false)=true)(i:ev L x=some (.slice (some ⟨b,d,none⟩) l c))(q:m<=l):Ar P C n ds L o (.pointer (some ⟨b,d,none⟩)):=λa j w _=>by
 split at f
 ·rename_i k e h
  have g:k=m:=by simpa using f
  subst g;simp only[execOp,p,j.ev i];simp[Instr.arrayAt,run_underlying h,go_sem,q]
 cases f
theorem PQ{l g k c f c1 c2 b:UInt8}(ho:o.op=.binOp .neq xt x y yt)(s:(match P.underlying xt with|some (.array 4 e)=>(match P.underlying e,P.info? e with|some (.int .u8),some i=>Nat.beq i.size 1|_,_=>false)|_=>false)=true)(hg:P.eqGuardType P.depth xt=false)(hx:ev L x=some (.agg #[u8 l,u8 g,u8 k,u8 c]))(hy:ev L y=some (.agg #[u8 f,u8 c1,u8 c2,u8 b])):Ar P C n ds L o (.bool (decide ([l,g,k,c]≠[f,c1,c2,b]))):=λa hF w _=>by
 split at s
 ·rename_i e h
  split at s
  ·rename_i i h1 h2
   have hz:i.size=1:=by simpa using s
   have z:∀w,(sizeOf e).run P w=.ok 1 w:=λw=>by simp[sizeOf,typeInfo,h2,hz,go_sem]
   have a0:∀w,(isAgg e).run P w=.ok false w:=FL (by simp[Gc,h1]);have hp:∀(cs:Array Value) (j:Nat) (u:Value) w,cs[j]?=some u->(part e cs j).run P w=.ok u w:=λcs j u w hc=>by
    simp only[part,Aeq,a0,Aem,if_false,Afm,hc,Aev]
   have t:∀(d:Nat) (p q:UInt8) w,(Op.equalIn (d+1) e (u8 p) (u8 q)).run P w=.ok (decide (p=q)) w:=λd p q w=>by
    simp only[Op.equalIn,Aeq,run_underlying h1,Aem,u8];simp[go_sem];rw[Aer];simp;exact ⟨λh=>AgZ.1 U,λh=>by rw[h]⟩
   have v:∀d,(Op.equalIn (d+1+1) xt (.agg #[u8 l,u8 g,u8 k,u8 c]) (.agg #[u8 f,u8 c1,u8 c2,u8 b])).run P w=.ok (decide ([l,g,k,c]=[f,c1,c2,b])) w:=λd=>by
    have q0:=hp #[u8 l,u8 g,u8 k,u8 c] 0 (u8 l) w Z;have q1:=hp #[u8 l,u8 g,u8 k,u8 c] 1 (u8 g) w Z;have q2:=hp #[u8 l,u8 g,u8 k,u8 c] 2 (u8 k) w Z;have q3:=hp #[u8 l,u8 g,u8 k,u8 c] 3 (u8 c) w Z;have r0:=hp #[u8 f,u8 c1,u8 c2,u8 b] 0 (u8 f) w Z;have r1:=hp #[u8 f,u8 c1,u8 c2,u8 b] 1 (u8 c1) w Z;have r2:=hp #[u8 f,u8 c1,u8 c2,u8 b] 2 (u8 c2) w Z;have r3:=hp #[u8 f,u8 c1,u8 c2,u8 b] 3 (u8 b) w Z;rw[Op.equalIn];simp only[Aeq,run_underlying h,Aem,z,Std.Legacy.Range.forIn_eq_forIn_range',Std.Legacy.Range.size];simp[List.range',Aeq,q0,q1,q2,q3,r0,r1,r2,r3,t];by_cases g0:l=f<;>by_cases g1:g=c1<;>by_cases g2:k=c2<;>by_cases g3:c=b<;>simp[g0,g1,g2,g3,q0,q1,q2,q3,r0,r1,r2,r3,t,Aeq]
   have r:(Op.equal xt (.agg #[u8 l,u8 g,u8 k,u8 c]) (.agg #[u8 f,u8 c1,u8 c2,u8 b])).run P w=.ok (decide ([l,g,k,c]=[f,c1,c2,b])) w:=v 9998;have m:(eqGuard .neq xt x y (.agg #[u8 l,u8 g,u8 k,u8 c]) (.agg #[u8 f,u8 c1,u8 c2,u8 b])).run P w=.ok () w:=by
    simp[eqGuard,Aeq,program,Sem.run,hg]
   simp only[execOp,ho,hF.ev hx,hF.ev hy];simp only[binOp,Aeq,m,r,Aem,Aev];simp
  cases s
 cases s
end
theorem Slc.cells{v:Value}{n:Nat}(h:Slc v n):v.cells= #[v]:=by obtain ⟨_,_,rfl⟩:=h;rfl
theorem Slc.one{v:Value}{n:Nat}(h:Slc v n):v.oneCell'=true:=by obtain ⟨_,_,rfl⟩:=h;rfl
theorem Aw:∀u∈([]:List Value),u.oneCell'=true:=λ_ h=>by cases h
theorem Ad{u:Value}{us:List Value}(h:u.oneCell'=true)(hs:∀u∈us,u.oneCell'=true):∀x∈u::us,x.oneCell'=true:=λx a=>by
 rcases Aei.1 a with rfl|q
 ·exact h
 exact hs x q
theorem rdH.cut{b d n c lo m c':Nat}{xs:List UInt8}{h:Hp}(r:rdH 1 (.slice (some ⟨b,d,none⟩) n c) n (xs.map u8) h)(q:lo+m<=n)(k:m<=c')(s:c'<=c):rdH 1 (.slice (some ⟨b,d+lo,none⟩) m c') m (((xs.drop lo).take m).map u8) h:=by
 obtain ⟨p,o,e,t,v,g,l⟩:=r;cases e;refine ⟨_,_,Z,k,by omega,by simp at g ⊢;omega,λj u a=>?_⟩;have f:(xs.map u8)[lo+j]?=some u:=by
  rw[Aej,AeS] at a;split at a
  ·rw[Aff] at a;rw[Aej];exact a
  cases a
 obtain ⟨b',p',e,i⟩:=l _ _ f;cases e;exact ⟨_,_,Z,by rw[Af5];exact i⟩
theorem rdH.pre{b a n c m c':Nat}{xs:List UInt8}{h:Hp}(r:rdH 1 (.slice (some ⟨b,a,none⟩) n c) n (xs.map u8) h)(e:m<=n)(d:m<=c'/\c'<=c):rdH 1 (.slice (some ⟨b,a,none⟩) m c') m ((xs.take m).map u8) h:=by
 have:=r.cut (lo:=0) (m:=m) (c':=c') U d.1 d.2;simpa using this
theorem rdH.at{b a n c j:Nat}{xs:List UInt8}{x:UInt8}{h:Hp}(r:rdH 1 (.slice (some ⟨b,a,none⟩) n c) n (xs.map u8) h)(f:xs[j]?=some x):celH h b (a+j) (u8 x):=by
 obtain ⟨l,k,e,m,p,o,i⟩:=r;obtain ⟨b',p',d,g⟩:=i j (u8 x) (by rw[Aej,f];rfl);cases e;cases d;exact g
theorem Sep.cell4{z w:World}{Γ:List Af}(i:Nat){A:Af}(H:Sep z Γ w)(hi:Γ[i]?=some A){b a c:Nat}{xs:List UInt8}(g:∀h,A h->rdH 1 (.slice (some ⟨b,a,none⟩) 256 c) 256 (xs.map u8) h){ys:List UInt8}(k:xs.drop 252=ys):∀j u,(ys.map u8)[j]?=some u->FD b (a+252+j) u w:=λj u d=>by
 rw[Aej,Agr] at d;obtain ⟨y,e,rfl⟩:=d;have f:xs[252+j]?=some y:=by rw[<-Aff,k];exact e
 have:=H.cell i hi (λh q=>(g h q).at f);rwa[<-Af5] at this
theorem rdH.cap{b a n c:Nat}{xs:List UInt8}{h:Hp}(r:rdH 1 (.slice (some ⟨b,a,none⟩) n c) n (xs.map u8) h):n<=c/\c<=9223372036854775807:=by
 obtain ⟨_,_,e,d,f,_⟩:=r;cases e;exact ⟨d,f⟩
theorem rdH.len{v:Value}{n:Nat}{xs:List UInt8}{h:Hp}(r:rdH 1 v n (xs.map u8) h):xs.length=n:=by
 obtain ⟨_,_,_,_,_,q,_⟩:=r;simpa using q
end
set_option linter.unusedSimpArgs false
def bw(F:Nat->Bool)(k:Nat):BitVec 64:=(BitVec.ofBoolListLE ((List.range 64).map λj=>F (64*k+j))).cast O
theorem DT(F:Nat->Bool)(k j:Nat)(h:j<64):(bw F k).getLsbD j=F (64*k+j):=by
 unfold bw;rw[BitVec.getLsbD_cast,BitVec.getLsbD_ofBoolListLE];simp[List.getD,h]
theorem Ks{F:Nat->Bool}{k:Nat}{x:BitVec 64}(h:∀j,j<64->x.getLsbD j=F (64*k+j)):x=bw F k:=
 Ahy λj a=>by rw[h j a,DT _ _ _ a]
theorem AcU(F G:Nat->Bool)(k:Nat):bw F k|||bw G k=bw (λp=>F p||G p) k:=Ks λj a=>by
 rw[BitVec.getLsbD_or,DT _ _ _ a,DT _ _ _ a]
def Eh(m:Nat):BitVec 64:=BitVec.twoPow 64 m
theorem AaK(F:Nat->Bool)(p k:Nat):(if p/64=k then bw F k|||Eh (p%64) else bw F k)=bw (λq=>F q||decide (q=p)) k:=by
 refine Ks λj a=>?_;split
 ·rename_i e
  rw[BitVec.getLsbD_or,DT _ _ _ a,Eh,AgT];congr 1;rw[Aer];simp;omega
 rename_i e;rw[DT _ _ _ a];have:¬(64*k+j=p):=by omega
 simp[this]
theorem AaL(F:Nat->Bool)(p k:Nat):(if p/64=k then bw F k&&& ~~~(Eh (p%64)) else bw F k)=bw (λq=>F q && !decide (q=p)) k:=by
 refine Ks λj a=>?_;split
 ·rename_i e
  rw[BitVec.getLsbD_and,DT _ _ _ a,BitVec.getLsbD_not,Eh,AgT];congr 1;rw[Aer];simp;omega
 rename_i e;rw[DT _ _ _ a];have:¬(64*k+j=p):=by omega
 simp[this]
theorem AaM(F:Nat->Bool)(p:Nat):(bw F (p/64))>>>(p%64)&&&1#64=if F p then 1#64 else 0#64:=by
 refine Ahy λj a=>?_;rw[BitVec.getLsbD_and,BitVec.getLsbD_ushiftRight];have e1:∀j,(1#64).getLsbD j=decide (j=0):=λj=>by
  rw[show (1#64)=BitVec.twoPow 64 0 from Z,AgT,Aer];simp;omega
 by_cases h:j=0
 ·subst h
  rw[DT _ _ _ U,e1,show 64*(p/64)+(p%64+0)=p by omega];cases F p<;>simp
 rw[e1];have:(if F p then 1#64 else 0#64).getLsbD j=false:=by
  split
  ·rw[e1];simp[h]
  simp
 rw[this];simp[h]
theorem bw_zero{F:Nat->Bool}{k:Nat}:bw F k=0#64↔∀j,j<64->F (64*k+j)=false:=by
 constructor
 ·intro h j a;rw[<-DT F k j a,h];simp
 intro h;exact (Ks λj a=>by rw[h j a];simp).symm

def cnt(F:Nat->Bool)(a:Nat):Nat->Nat
 | 0=>0
 | n+1=>cnt F a n+(F (a+n)).toNat
theorem Hz(F:Nat->Bool)(a m n:Nat):cnt F a (m+n)=cnt F a m+cnt F (a+m) n:=by
 induction n with
 | zero=>rfl
 | succ n ih=>rw[<-Af5];simp only[cnt];rw[ih,show a+(m+n)=a+m+n by omega];omega
def Cv(w:Nat):List Nat->Nat
 | []=>0
 | d::l=>d+2^w*Cv w l
def evN:List Nat->List Nat
 | a::_::l=>a::evN l
 | _=>[]
def GE:List Nat->List Nat
 | _::b::l=>b::GE l
 | _=>[]
theorem Sv(k x y a b:Nat)(c:a<2^k)(d:b<2^k):(a+2^k*x)&&&(b+2^k*y)=(a&&&b)+2^k*(x&&&y):=by
 have e1:((a+2^k*x)&&&(b+2^k*y))%2^k=a&&&b:=by
  rw[Nat.and_mod_two_pow,AgH,AgH,Afu c,Afu d]
 have hp:0<2^k:=AgI k;have e2:((a+2^k*x)&&&(b+2^k*y))/2^k=x&&&y:=by
  rw[Nat.and_div_two_pow,Agy _ _ hp,Agy _ _ hp,Agz c,Agz d,AfH,AfH]
 have:=Nat.mod_add_div ((a+2^k*x)&&&(b+2^k*y)) (2^k);rw[e1,e2] at this;exact this.symm
theorem Kt(w:Nat):∀l:List Nat,l.length%2=0->(∀d∈l,d<2^w)->Cv w l&&&Cv (2*w) (List.replicate (l.length/2) (2^w-1))=Cv (2*w) (evN l)
 | [],_,_=>by simp[Cv,evN]
 | [_],h,_=>by simp at h
 | a::b::l,h,hd=>by
  have ih:=Kt w l (by simp at h;omega) (λd f=>hd d (by simp[f]));have g:=hd a O;have j:=hd b O;have e2:(2:Nat)^(2*w)=2^w*2^w:=by rw[<-Nat.pow_add];congr 1;omega
  have hp:0<2^w:=AgI w;simp only[Cv,evN];rw[show (a::b::l).length/2=l.length/2+1 by simp;omega,List.replicate_succ];simp only[Cv];have c:a+2^w*b<2^(2*w):=by
   rw[e2];have:2^w*(b+1)<=2^w*2^w:=Agm _ j;rw[Agi] at this;omega
  have i:(2^w-1)<2^(2*w):=by
   rw[e2];have:2^w*1<=2^w*2^w:=Agm _ hp;omega
  have e:a+2^w*(b+2^w*Cv w l)=(a+2^w*b)+2^(2*w)*Cv w l:=by
   rw[e2,Agi,AhM];omega
  rw[e,Sv _ _ _ _ _ c i,ih,Ag1,AgH,Afu g]
theorem Nw(w:Nat):∀(l:List Nat) (d:Nat),Cv w (l++[d])=Cv w l+2^(w*l.length)*d
 | [],d=>by simp[Cv]
 | a::l,d=>by
  simp only[Afv,Cv,Nw w l d,Aeb];rw[Agi,<-AhM,<-Nat.pow_add,show w+w*l.length=w*(l.length+1) by rw[Agi];omega];omega
theorem PR(w a:Nat)(l:List Nat)(h:a<2^w):Cv w (a::l)/2^w=Cv w l:=by
 simp only[Cv];rw[Agy _ _ (AgI w),Agz h,AfH]
theorem Nx(w:Nat)(l:List Nat):Cv w (l++[0])=Cv w l:=by rw[Nw];simp
theorem Ln(w:Nat):∀(l m:List Nat),l.length=m.length->Cv w l+Cv w m=Cv w (List.zipWith (·+·) l m)
 | [],[],_=>rfl
 | a::l,b::m,h=>by
  simp only[List.zipWith,Cv];rw[<-Ln w l m (by simpa using h),Agi];omega
 | [],_::_,h=>by simp at h
 | _::_,[],h=>by simp at h
theorem Lo:∀l:List Nat,(evN l).length=l.length/2
 | []=>rfl
 | [_]=>by simp[evN]
 | a::b::l=>by simp only[evN,Aeb,Lo l];omega
theorem Lp:∀l:List Nat,(GE l).length=l.length/2
 | []=>rfl
 | [_]=>by simp[GE]
 | a::b::l=>by simp only[GE,Aeb,Lp l];omega
theorem JR:∀(a:Nat) (l:List Nat),(a::l).length%2=0->evN (l++[0])=GE (a::l)
 | a,[],h=>by simp at h
 | a,[b],_=>by simp[evN,GE]
 | a,b::c::l,h=>by
  simp only[Afv,evN,GE];rw[JR c l (by simp at h ⊢;omega)]
theorem evN_mem:∀(l:List Nat),∀d∈evN l,d∈l
 | [],d,h=>by simp[evN] at h
 | [_],d,h=>by simp[evN] at h
 | a::b::l,d,h=>by
  simp only[evN,Aei] at h;rcases h with rfl|h
  ·simp
  simp[evN_mem l d h]
theorem odN_mem:∀(l:List Nat),∀d∈GE l,d∈l
 | [],d,h=>by simp[GE] at h
 | [_],d,h=>by simp[GE] at h
 | a::b::l,d,h=>by
  simp only[GE,Aei] at h;rcases h with rfl|h
  ·simp
  simp[odN_mem l d h]
def psm(l:List Nat):List Nat:=List.zipWith (·+·) (evN l) (GE l)
theorem Lq(l:List Nat):(psm l).length=l.length/2:=by simp[psm,Lo,Lp]
theorem Je:∀l:List Nat,l.length%2=0->(psm l).sum=l.sum
 | [],_=>rfl
 | [_],h=>by simp at h
 | a::b::l,h=>by
  have:=Je l (by simp at h;omega);simp only[psm,evN,GE,List.zipWith,List.sum_cons] at this ⊢;omega
theorem Ny{c d:Nat}:∀(l m:List Nat),(∀x∈l,x<=c)->(∀x∈m,x<=d)->∀x∈List.zipWith (·+·) l m,x<=c+d
 | [],_,_,_,x,h=>by simp at h
 | _::_,[],_,_,x,h=>by simp at h
 | a::l,b::m,h1,h2,x,h=>by
  simp only[List.zipWith,Aei] at h;rcases h with rfl|h
  ·have:=h1 a O;have:=h2 b O;omega
  exact Ny l m (λx e=>h1 x (by simp[e])) (λx e=>h2 x (by simp[e])) x h
theorem Nz(l:List Nat)(c:Nat)(h:∀d∈l,d<=c):∀d∈psm l,d<=c+c:=
 Ny _ _ (λx a=>h x (evN_mem l x a)) (λx a=>h x (odN_mem l x a))
def PS(w n:Nat):Nat:=Cv (2*w) (List.replicate n (2^w-1))
theorem AaN(w:Nat)(l:List Nat)(h:l.length%2=0)(c:∀d∈l,d<2^w):Cv w l/2^w&&&PS w (l.length/2)=Cv (2*w) (GE l):=by
 cases l with
 | nil=>simp[Cv,GE]
 | cons a l=>
  rw[PR _ _ _ (c a O),<-Nx,<-JR a l h];have:=Kt w (l++[0]) (by simp at h ⊢;omega) (λd b=>by
   simp only[Aek,Afn] at b;rcases b with b|rfl
   ·exact c d (by simp[b])
   exact AgI w)
  have e:(l++[0]).length=(a::l).length:=by simp
  rw[e] at this;exact this
theorem NA(w:Nat)(l:List Nat)(h:l.length%2=0)(a:∀d∈l,d<2^w):(Cv w l/2^w&&&PS w (l.length/2))+(Cv w l&&&PS w (l.length/2))=Cv (2*w) (psm l):=by
 rw[AaN w l h a,show Cv w l&&&PS w (l.length/2)=Cv (2*w) (evN l) from Kt w l h a,AgK,Ln _ _ _ (by rw[Lo,Lp])];rfl
theorem Ku(w:Nat):∀(l:List Nat),(∀d∈l,d<2^w)->Cv w l<2^(w*l.length)
 | [],_=>by simp[Cv]
 | a::l,h=>by
  have:=Ku w l (λd b=>h d (by simp[b]));have c:=h a O;simp only[Cv,Aeb];rw[show w*(l.length+1)=w+w*l.length by rw[Agi];omega,Nat.pow_add];have:2^w*(Cv w l+1)<=2^w*2^(w*l.length):=Agm _ this;rw[Agi] at this;omega
def Lr(x:BitVec 64):BitVec 64:=
 let a:=(x>>>1&&&6148914691236517205#64)+(x&&&6148914691236517205#64);let b:=(a>>>2&&&3689348814741910323#64)+(a&&&3689348814741910323#64);let c:=(b>>>4+b)&&&1085102592571150095#64;let d:=c+c>>>8;let e:=d+d>>>16
 e+e>>>32
theorem AaO(b:BitVec 64)(m:List Nat)(j:m.length=16)(k:∀d∈m,d<=4)(o:b.toNat=Cv 4 m):((b>>>4+b)&&&1085102592571150095#64).toNat=Cv 8 (psm m):=by
 rw[Af8,AgA,Af2,o,Af0]
 cases m with
 | nil=>simp at j
 | cons a m=>
  have q:=k a O;rw[PR _ _ _ U,<-Nx,Ln _ _ _ O];have e:∀d∈List.zipWith (·+·) (m++[0]) (a::m),d<2^4:=λd h=>by
   have:=Ny (c:=4) (d:=4) _ _ (λx i=>by
    simp only[Aek,Afn] at i;rcases i with i|rfl
    ·exact k x (by simp[i])
    omega) k d h
   omega
  have f:(List.zipWith (·+·) (m++[0]) (a::m)).length=16:=by simp at j ⊢;omega
  have g:=Ku 4 _ e;rw[f] at g;rw[Afu g];have n:=Kt 4 _ (by rw[f]) e;rw[f,show Cv (2*4) (List.replicate (16/2) (2^4-1))=1085102592571150095 by decide+kernel] at n;rw[show (1085102592571150095#64).toNat=1085102592571150095 from Z,n];have p:∀(l l':List Nat),evN (List.zipWith (·+·) l l')=List.zipWith (·+·) (evN l) (evN l'):=λl=>by
   induction l using evN.induct with
   | case1 a b l ih=>
    intro l'
    match l' with
    | []=>simp[evN]
    | [_]=>simp[evN]
    | x::y::l'=>simp only[List.zipWith,evN,ih l']
   | case2 l h=>
    intro l'
    match l,l' with
    | [],_=>simp[evN]
    | [_],[]=>simp[evN]
    | [_],_::_=>simp[evN]
    | a::b::l,_=>exact absurd Z (h a b l)
  rw[p,JR a m (by rw[j]),psm];congr 1;exact List.zipWith_comm_of_comm (λx y=>AgK x y)
theorem Ls(c:BitVec 64)(k p x lo hi b:Nat)(hp:2^k=p)(f:c.toNat=x)(d:x=lo+p*hi)(a:lo<p)(i:x<=b)(e:hi<=b)(g:b<9223372036854775808):(c+c>>>k).toNat=x+hi:=by
 subst hp;have h:x/2^k=hi:=by rw[d,Agy _ _ (AgI k),Agz a,AfH]
 rw[AgA,Af2,Af0,f,h];exact Afu U
theorem AaP(x y t K:Nat)(e:x=y)(h:y=t+256*K)(a:t<=64)(b:K<=20000000000000000):x<9223372036854775808/\x%128=t:=by omega
theorem AaQ(j h g f e d b a:Nat)(r:j<=8)(o:h<=8)(q:g<=8)(p:f<=8)(s:e<=8)(m:d<=8)(n:b<=8)(l:a<=8)(c:BitVec 64)(i:c.toNat=j+256*h+65536*g+16777216*f+4294967296*e+1099511627776*d+281474976710656*b+72057594037927936*a):
  ((c+c>>>8)+(c+c>>>8)>>>16+((c+c>>>8)+(c+c>>>8)>>>16)>>>32).toNat<9223372036854775808/\((c+c>>>8)+(c+c>>>8)>>>16+((c+c>>>8)+(c+c>>>8)>>>16)>>>32).toNat%128=j+h+g+f+e+d+b+a:=by
 have e1:=Ls c 8 256 _ j (h+256*g+65536*f+16777216*e+4294967296*d+1099511627776*b+281474976710656*a) 1000000000000000000 Z i U U U U (by decide);have e2:=Ls (c+c>>>8) 16 65536 _ (j+h+256*(h+g)) (g+f+256*(f+e)+65536*(e+d)+16777216*(d+b)+4294967296*(b+a)+1099511627776*a) 2000000000000000000 (by decide) e1 U U U U (by decide);have k:=Ls (c+c>>>8+(c+c>>>8)>>>16) 32 4294967296 _ (j+h+g+f+256*(h+g+f+e)+65536*(g+f+e+d)+16777216*(f+e+d+b)) (e+d+b+a+256*(d+b+a)+65536*(b+a)+16777216*a) 4000000000000000000 O e2 (by clear e1 e2 i;omega) (by clear e1 e2 i;omega) (by clear e1 e2 i;omega) (by clear e1 e2 i;omega) (by decide);refine AaP _ _ (j+h+g+f+e+d+b+a) ((h+g+f+e+d+b+a)+256*((g+f+e+d+b+a)+256*((f+e+d+b+a)+256*((e+d+b+a)+256*((d+b+a)+256*((b+a)+256*a)))))) k ?_ ?_ ?_
 ·clear e1 e2 k i;omega
 ·clear e1 e2 k i;omega
 clear e1 e2 k i;omega
theorem AaR(c:BitVec 64)(m:List Nat)(e:m.length=8)(a:∀d∈m,d<=8)(b:c.toNat=Cv 8 m):((c+c>>>8)+(c+c>>>8)>>>16+((c+c>>>8)+(c+c>>>8)>>>16)>>>32).toNat<9223372036854775808/\((c+c>>>8)+(c+c>>>8)>>>16+((c+c>>>8)+(c+c>>>8)>>>16)>>>32).toNat%128=m.sum:=by
 match m,e with
 | [m0,m1,m2,m3,m4,m5,m6,m7],_=>
  have:=AaQ m0 m1 m2 m3 m4 m5 m6 m7 (a m0 O) (a m1 O) (a m2 O) (a m3 O) (a m4 O) (a m5 O) (a m6 O) (a m7 O) c (by rw[b];simp only[Cv];omega);refine ⟨this.1,this.2.trans ?_⟩;simp only[List.sum_cons,List.sum_nil];omega
theorem XM(l:List Nat)(g:l.length=64)(i:∀d∈l,d<=1)(x:BitVec 64)(q:x.toNat=Cv 1 l):(Lr x).toNat<9223372036854775808/\(Lr x).toNat%128=l.sum:=by
 have d1:∀d∈l,d<2^1:=λd h=>by have:=i d h;omega
 have b:(psm l).length=32:=by rw[Lq,g]
 have e:(psm (psm l)).length=16:=by rw[Lq,b]
 have m:(psm (psm (psm l))).length=8:=by rw[Lq,e]
 have f:=Nz l 1 i;have c:=Nz _ _ f;have o:=Nz _ _ c;have r:=Je l U;have s:=Je (psm l) U;have n:=Je (psm (psm l)) U;have e1:=NA 1 l U d1;have e2:=NA 2 (psm l) U (λd h=>by have:=f d h;omega);rw[g,show PS 1 (64/2)=6148914691236517205 by decide+kernel] at e1;rw[b,show PS 2 (32/2)=3689348814741910323 by decide+kernel] at e2;have t1:=Ku 2 (psm l) (λd h=>by have:=f d h;omega);have t2:=Ku 4 (psm (psm l)) (λd h=>by have:=c d h;omega);rw[b] at t1;rw[e] at t2;have p:((x>>>1&&&6148914691236517205#64)+(x&&&6148914691236517205#64)).toNat=Cv 2 (psm l):=by
  rw[AgA,Af8,Af8,Af2,q,Af0];rw[show (6148914691236517205#64).toNat=6148914691236517205 from Z,e1];exact Afu t1
 have t:∀a:BitVec 64,a.toNat=Cv 2 (psm l)->((a>>>2&&&3689348814741910323#64)+(a&&&3689348814741910323#64)).toNat=Cv 4 (psm (psm l)):=λa k=>by
  rw[AgA,Af8,Af8,Af2,k,Af0];rw[show (3689348814741910323#64).toNat=3689348814741910323 from Z,e2];exact Afu t2
 have j:=AaO _ _ e c (t _ p);have:=AaR _ _ m o j;rw[<-r,<-s,<-n];exact this
theorem JI:∀l:List Bool,(BitVec.ofBoolListLE l).toNat=Cv 1 (l.map Bool.toNat)
 | []=>rfl
 | b::l=>by
  have ih:=JI l;simp only[BitVec.ofBoolListLE,AeE,Cv];rw[BitVec.toNat_concat,ih];omega
theorem PT(F:Nat->Bool)(a:Nat):∀n,((List.range n).map λj=>(F (a+j)).toNat).sum=cnt F a n
 | 0=>rfl
 | n+1=>by rw[Ag2,AeD,List.sum_append,PT F a n];simp[cnt]
theorem Lt(F:Nat->Bool)(k:Nat):(Lr (bw F k)).toNat<9223372036854775808/\(Lr (bw F k)).toNat%128=cnt F (64*k) 64:=by
 have:=XM ((List.range 64).map λj=>(F (64*k+j)).toNat) O (λd h=>by
  simp only[Aeh] at h;obtain ⟨j,_,rfl⟩:=h;cases F (64*k+j)<;>simp) (bw F k) (by
   unfold bw;rw[BitVec.toNat_cast,JI,Afh];rfl)
 rw[PT] at this;exact this
section
def u64(b:BitVec 64):Value:=.int .u64 b.toNat
theorem Sw(n:Nat)(h:n<18446744073709551616):IntKind.u64.wrap (n:Int)=n:=by
 simp[IntKind.wrap,IntKind.bits,IntKind.signed];omega
theorem Rg(b:BitVec 64):IntKind.u64.wrap (b.toNat:Int)=b.toNat:=Sw _ b.isLt
theorem Gq(p:BitVec 64):BitVec.ofInt 64 (p.toNat:Int)=p:=by rw[Ag0];simp
section
variable{P:Program}{C:World->Prop}{o:Oper}{a:Act}{w z:World}{Γ:List Af}{n:Nat}{ds:List Deferred}{L:List (Nat×Value)}{v:Value}{x y:Operand}{xt yt:TypeId}
theorem AdC(p q:BitVec 64):Op.intBits .or .u64 (p.toNat:Int) (q.toNat:Int)=pure (u64 (p|||q)):=by
 have e:Op.intBits .or .u64 (p.toNat:Int) (q.toNat:Int)=pure (.int .u64 (IntKind.u64.wrap ((BitVec.ofInt 64 (p.toNat:Int)|||BitVec.ofInt 64 (q.toNat:Int)).toNat:Int))):=rfl;rw[Gq,Gq,Rg] at e;exact e
theorem AcV(p q:BitVec 64):Op.intBits .and .u64 (p.toNat:Int) (q.toNat:Int)=pure (u64 (p&&&q)):=by
 have e:Op.intBits .and .u64 (p.toNat:Int) (q.toNat:Int)=pure (.int .u64 (IntKind.u64.wrap ((BitVec.ofInt 64 (p.toNat:Int)&&&BitVec.ofInt 64 (q.toNat:Int)).toNat:Int))):=rfl;rw[Gq,Gq,Rg] at e;exact e
theorem AaS(p q:BitVec 64):Op.intBits .andNot .u64 (p.toNat:Int) (q.toNat:Int)=pure (u64 (p&&& ~~~q)):=by
 have e:Op.intBits .andNot .u64 (p.toNat:Int) (q.toNat:Int)=pure (.int .u64 (IntKind.u64.wrap ((BitVec.ofInt 64 (p.toNat:Int)&&& ~~~(BitVec.ofInt 64 (q.toNat:Int))).toNat:Int))):=rfl;rw[Gq,Gq,Rg] at e;exact e
theorem NB{p q:BitVec 64}(f:o.op=.binOp .or xt x y yt)(c:ev L x=some (u64 p))(d:ev L y=some (u64 q)):Ar P C n ds L o (u64 (p|||q)):=λa b w _=>by
 have e:=AdC p q;simp only[execOp,f,b.ev c,b.ev d,u64];simp only[binOp,go_sem,e];rfl
theorem Ff{p q:BitVec 64}(f:o.op=.binOp .and xt x y yt)(c:ev L x=some (u64 p))(d:ev L y=some (u64 q)):Ar P C n ds L o (u64 (p&&&q)):=λa b w _=>by
 have e:=AcV p q;simp only[execOp,f,b.ev c,b.ev d,u64];simp only[binOp,go_sem,e];rfl
theorem Us{p q:BitVec 64}(f:o.op=.binOp .andNot xt x y yt)(c:ev L x=some (u64 p))(d:ev L y=some (u64 q)):Ar P C n ds L o (u64 (p&&& ~~~q)):=λa b w _=>by
 have e:=AaS p q;simp only[execOp,f,b.ev c,b.ev d,u64];simp only[binOp,go_sem,e];rfl
theorem HA{p q:BitVec 64}(f:o.op=.binOp .add xt x y yt)(c:ev L x=some (u64 p))(d:ev L y=some (u64 q)):Ar P C n ds L o (u64 (p+q)):=λa b w _=>by
 simp only[execOp,f,b.ev c,b.ev d,u64];have e:IntKind.u64.wrap ((p.toNat:Int)+(q.toNat:Int))=((p+q).toNat:Int):=by
  rw[AgA];simp[IntKind.wrap,IntKind.bits,IntKind.signed]
 simp[go_sem,e]
theorem AaT{p q:BitVec 64}(f:o.op=.binOp .mul xt x y yt)(c:ev L x=some (u64 p))(d:ev L y=some (u64 q)):Ar P C n ds L o (u64 (p*q)):=λa b w _=>by
 simp only[execOp,f,b.ev c,b.ev d,u64];have e:IntKind.u64.wrap ((p.toNat:Int)*(q.toNat:Int))=((p*q).toNat:Int):=by
  rw[BitVec.toNat_mul];simp[IntKind.wrap,IntKind.bits,IntKind.signed]
 simp[go_sem,e]
theorem AaU{p:BitVec 64}(b:o.op=.unOp .neg xt x)(a:ev L x=some (u64 p)):Ar P C n ds L o (u64 (-p)):=by
 have:=W0 (P:=P) (C:=C) (n:=n) (ds:=ds) (L:=L) b a;have e:IntKind.u64.wrap (0-(p.toNat:Int))=((-p).toNat:Int):=by
  have:=p.isLt;rw[BitVec.toNat_neg];simp[IntKind.wrap,IntKind.bits,IntKind.signed];omega
 rw[e] at this;exact this
theorem Fu{p:BitVec 64}{k:IntKind}{q:Int}{m:Nat}(g:o.op=.binOp .shr xt x y yt)(d:ev L x=some (u64 p))(f:ev L y=some (.int k q))(hq:q=m)(h:m<64):Ar P C n ds L o (u64 (p>>>m)):=λa c w _=>by
 subst hq;simp only[execOp,g,c.ev d,c.ev f,u64];have e:¬((m:Int)<0):=by omega
 have b:min m 64=m:=by omega
 simp[go_sem,Op.shift,IntKind.bits,e,b,Ahm]
theorem NC{k:IntKind}{q:Int}{m:Nat}(j:o.op=.binOp .shl xt x y yt)(f:ev L x=some (.int .u64 1))(i:ev L y=some (.int k q))(hq:q=m)(c:m<64):Ar P C n ds L o (u64 (Eh m)):=λa d w _=>by
 subst hq;have g:¬((m:Int)<0):=by omega
 have b:min m 64=m:=by omega
 have e:Op.shift .shl .u64 1 k (m:Int)=pure (u64 (Eh m)):=by
  have h:(Eh m).toNat=2^m:=by unfold Eh;rw[BitVec.toNat_twoPow];exact Afu (Nat.pow_lt_pow_right U c)
  unfold Op.shift u64;rw[if_neg g,h];simp only[IntKind.bits,AeZ,b];rw[Int.one_mul,<-Sw (2^m) (Nat.pow_lt_pow_right (m:=m) (n:=64) (a:=2) U c)];simp
 simp only[execOp,j,d.ev f,d.ev i];simp only[binOp,go_sem,e];rfl
theorem ND{p q:BitVec 64}(i:o.op=.binOp .eql xt x y yt){k:IntKind}(c:D8 P xt xt=some k)(e:ev L x=some (u64 p))(g:ev L y=some (u64 q)):Ar P C n ds L o (.bool (decide (p=q))):=λa b w _=>by
 obtain ⟨d,j,f⟩:=FK c;simp only[execOp,i,b.ev e,b.ev g,u64];simp[f,go_sem];rw[Aer];simp;exact ⟨λh=>AgU U,λh=>by rw[h]⟩
theorem Sx{p q:BitVec 64}(j:o.op=.binOp .neq xt x y yt){k:IntKind}(c:D8 P xt xt=some k)(f:ev L x=some (u64 p))(i:ev L y=some (u64 q)):Ar P C n ds L o (.bool (decide (p≠q))):=λa b w _=>by
 obtain ⟨d,l,g⟩:=FK c;simp only[execOp,j,b.ev f,b.ev i,u64];simp[g,go_sem];rw[Aer];simp;exact ⟨λh e=>h (by rw[e]),λh e=>h (AgU U)⟩
theorem AcW{a:TypeId}{p:BitVec 64}(c:o.op=.convert xt a x)(d:D8 P xt a=some .i64)(b:ev L x=some (u64 p))(hp:p.toNat<9223372036854775808):Ar P C n ds L o (I p.toNat):=by
 have:=Ht (P:=P) (C:=C) (n:=n) (ds:=ds) (L:=L) c d b;rwa[AfG _ U] at this
theorem Sy{t:TypeId}{hi m:Operand}{b c n' q z:Nat}{k2 k3:IntKind}{r p:Int}(ho:o.op=.slice t x none (some hi) (some m))(s:Ib P t=some (n',z))
  (v:ev L x=some (.pointer (some ⟨b,c,none⟩)))(f:ev L hi=some (.int k2 r))(g:ev L m=some (.int k3 p))(e2:r=(q:Int))(e3:p=(q:Int))(hq:0<q)(d:q<=n'):Ar P C n ds L o (.slice (some ⟨b,c,none⟩) q q):=λa k w _=>by
 obtain ⟨e,i0,j,h,y⟩:=Ic s;subst e2;subst e3;have u:(0:Int)<=(q:Int)/\(q:Int)<=(n':Int):=by omega
 have g3:(0:Int)<=(q:Int)/\(q:Int)<=(q:Int):=by omega
 have l:¬q=0:=by omega
 have i:0<=q:=by omega
 simp only[execOp,ho,AeN,Afs,k.ev v,k.ev f,k.ev g];simp[Instr.sliceAt,Instr.slice,run_underlying j,Instr.sureAddr,Instr.sliceBounds,Instr.sliceBound,asIntOf,u,g3,sizeOf,typeInfo,h,y,i,d,l,go_sem]<;>(try simp_all)
theorem Ut{t:TypeId}{lo:Operand}{b a l c p z o' l' c':Nat}{k:IntKind}{i:Int}(v:o.op=.slice t x (some lo) none none)(g:Dm P t=some z)
  (s:ev L x=some (.slice (some ⟨b,a,none⟩) l c))(r:ev L lo=some (.int k i))(hi:i=(p:Int))(d:p<=l)(f:l<=c)
  (j:(if c=p then a else a+p*z)=o')(u:l-p=l')(m:c-p=c'):Ar P C n ds L o (.slice (some ⟨b,o',none⟩) l' c'):=by
 have:=Jb (P:=P) (C:=C) (n:=n) (ds:=ds) (L:=L) (p:=p) (q:=l) v g s (.inr ⟨lo,k,i,Z,r,hi⟩) (.inl ⟨Z,Z⟩) d f;rw[u,m] at this;have e:(if c=p then (some ⟨b,a,none⟩:Option Addr) else (some ⟨b,a,none⟩:Option Addr).map (·.add (p*z)))=some ⟨b,o',none⟩:=by
  subst j;split
  ·rfl
  simp only[AeN,Aef];unfold Addr.add;split
  ·rename_i h;simp[h]
  rfl
 rwa[e] at this
theorem XN{p:Int}(g:o.op=.binOp .and xt x y yt)(d:ev L x=some (I p))(f:ev L y=some (I 127))(hp:0<=p/\p<9223372036854775808):Ar P C n ds L o (I (p%128)):=λa c w _=>by
 obtain ⟨q,rfl⟩:=AfS hp.1;have e:Op.intBits .and .i64 (q:Int) 127=pure (I (IntKind.i64.wrap ((BitVec.ofInt 64 (q:Int)&&&BitVec.ofInt 64 127).toNat:Int))):=rfl;have e1:(BitVec.ofInt 64 (q:Int)&&&BitVec.ofInt 64 127).toNat=q%128:=by
  rw[Af8,show (BitVec.ofInt 64 127).toNat=2^7-1 from Z,Ag1,Ag0,BitVec.toNat_ofNat,Afu (a:=q) (b:=2^64) U]
 rw[e1,AfG _ U,show ((q%128:Nat):Int)=(q:Int)%128 from by omega] at e;simp only[execOp,g,c.ev d,c.ev f];simp only[binOp,go_sem,e];rfl
end
end
section
inductive Pt where
 | b (b:Nat) (cs:List Value) (ty:TypeId)
 | a (A:Af)
def DO:List Pt->List Af->List Af
 | [],R=>R
 | .b b cs ty::G,R=>blk b cs ty::DO G R
 | .a A::G,R=>A::DO G R
class Rf(Γ:List Af)(G:outParam (List Pt))(R:outParam (List Af)):Prop where
 e:Γ=DO G R
instance rf0 {R:List Af}:Rf R [] R:=⟨Z⟩
instance rf1 {A:Af}{Γ R:List Af}{G:List Pt}[h:Rf Γ G R]:Rf (A::Γ) (.a A::G) R:=⟨congrArg (A:: ·) h.e⟩
instance rf2 {b:Nat}{cs:List Value}{ty:TypeId}{Γ R:List Af}{G:List Pt}[h:Rf Γ G R]:Rf (blk b cs ty::Γ) (.b b cs ty::G) R:=⟨congrArg (blk b cs ty:: ·) h.e⟩
instance rf3 {Γ R:List Af}{G:List Pt}[h:Rf Γ G R]:Rf ([]++Γ) G R:=h
instance rf4 {A:Af}{Γ Γ' R:List Af}{G:List Pt}[h:Rf (Γ++Γ') G R]:Rf ((A::Γ)++Γ') (.a A::G) R:=⟨congrArg (A:: ·) h.e⟩
instance rf5 {b:Nat}{cs:List Value}{ty:TypeId}{Γ Γ' R:List Af}{G:List Pt}[h:Rf (Γ++Γ') G R]:Rf ((blk b cs ty::Γ)++Γ') (.b b cs ty::G) R:=⟨congrArg (blk b cs ty:: ·) h.e⟩
theorem Dj{R:List Af}:∀{G:List Pt} {j b:Nat} {cs:List Value} {ty:TypeId},G[j]?=some (.b b cs ty)->(DO G R)[j]?=some (blk b cs ty)
 | [],_,_,_,_,h=>by simp at h
 | .b b' cs' ty'::G,0,b,cs,ty,h=>by simp at h;obtain ⟨rfl,rfl,rfl⟩:=h;rfl
 | .a A::G,0,b,cs,ty,h=>by simp at h
 | .b b' cs' ty'::G,j+1,b,cs,ty,h=>by simpa [DO] using Dj (j:=j) (by simpa using h)
 | .a A::G,j+1,b,cs,ty,h=>by simpa [DO] using Dj (j:=j) (by simpa using h)
theorem JS{R:List Af}:∀{G:List Pt} {j b:Nat} {cs:List Value} {ty:TypeId},j<G.length->(DO G R).set j (blk b cs ty)=DO (G.set j (.b b cs ty)) R
 | [],_,_,_,_,h=>by simp at h
 | .b b' cs' ty'::G,0,b,cs,ty,h=>rfl
 | .a A::G,0,b,cs,ty,h=>rfl
 | .b b' cs' ty'::G,j+1,b,cs,ty,h=>by simp[DO,JS (j:=j) (by simpa using h)]
 | .a A::G,j+1,b,cs,ty,h=>by simp[DO,JS (j:=j) (by simpa using h)]

inductive Kd where
 | fin
 | seq (c:Code) (k:Kd)
 | blk (i:Nat) (k:Kd)
inductive Pos where
 | c (c:Code) (k:Kd)
 | o (ops os:List Oper) (k:Kd)
 | n (k:Kd)
 | x (i:Nat) (k:Kd)
 | r
section
variable(P:Program)(N:Act->World->Prop)(X:Nat->Act->World->Prop)(R:Act->World->Prop)
def kQ:Kd->(Act->World->Prop)×(Nat->Act->World->Prop)
 | .fin=>(N,X)
 | .seq c k=>(λa w=>c.wp P (Qp (kQ k).1 (kQ k).2 R) a w,(kQ k).2)
 | .blk i k=>((kQ k).1,upd (kQ k).2 i (kQ k).1)
def BR:Pos->Act->World->Prop
 | .c c k=>c.wp P (Qp (kQ P N X R k).1 (kQ P N X R k).2 R)
 | .o ops os k=>wpList P ops.toArray (Qp (kQ P N X R k).1 (kQ P N X R k).2 R) os
 | .n k=>(kQ P N X R k).1
 | .x i k=>(kQ P N X R k).2 i
 | .r=>R
end
def Xa(L:List (Nat×Value))(k:Kd):Code->Option Pos
 | .seq x y=>some (.c x (.seq y k))
 | .skip=>some (.n k)
 | .ret=>some .r
 | .exit i=>some (.x i k)
 | .block i c=>some (.c c (.blk i k))
 | .cond o x y=>match ev L o with
  | some (.bool true)=>some (.c x k)
  | some (.bool false)=>some (.c y k)
  | _=>none
 | .region _ ops false=>some (.o ops.toList ops.toList k)
 | _=>none
def Rh(L:List (Nat×Value)):Pos->Option Pos
 | .c c k=>Xa L k c
 | .n (.seq c k)=>some (.c c k)
 | .n (.blk _ k)=>some (.n k)
 | .x i (.seq _ k)=>some (.x i k)
 | .x i (.blk j k)=>bif Nat.beq i j then some (.n k) else some (.x i k)
 | .o _ [] k=>some (.n k)
 | _=>none
theorem pstep_ok{P:Program}{N R:Act->World->Prop}{X:Nat->Act->World->Prop}{n:Nat}{ds:List Deferred}{L:List (Nat×Value)}{w:World}{p p':Pos}(h:Rh L p=some p')(K:∀x,Fr n ds L x->BR P N X R p' x w):∀x,Fr n ds L x->BR P N X R p x w:=by
 unfold Rh at h;split at h
 ·rename_i c k
  unfold Xa at h;split at h
  ·cases h;exact AX K
  ·cases h;exact DF K
  ·cases h;exact D7 K
  ·cases h;exact R7 K
  ·cases h;exact FJ K
  ·split at h
   ·rename_i a;cases h;exact R8 a K
   ·rename_i a;cases h;exact EA a K
   cases h
  ·rename_i id ops;cases h
   have:=AI (id:=id) (ops:=ops.toList) (P:=P) (N:=(kQ P N X R k).1) (X:=(kQ P N X R k).2) (R:=R) K;simp only[Array.toArray_toList] at this;exact this
  cases h
 ·cases h;exact K
 ·cases h;exact K
 ·cases h;exact K
 ·rename_i i j k
  cases hb:Nat.beq i j with
  | true=>rw[hb] at h;cases h;rw[AfF hb];exact IF K
  | false=>rw[hb] at h;cases h;exact AcK hb K
 ·cases h;exact K
 cases h

def FE:Option Prop->Prop
 | none=>True
 | some p=>p
def cj:Option Prop->Option Prop->Option Prop
 | none,q=>q
 | some p,none=>some p
 | some p,some q=>some (p/\q)
theorem Ik{p q:Option Prop}(h:FE (cj p q)):FE p/\FE q:=by
 cases p<;>cases q<;>simp[cj,FE] at h ⊢ <;>exact h

def G3{α β:Type}:List α->(List α->β)->β
 | [],k=>k []
 | x::xs,k=>G3 xs λys=>k (x::ys)
theorem E5{α β:Type}:∀(l:List α) (k:List α->β),G3 l k=k l
 | [],_=>rfl
 | x::xs,k=>E5 xs λys=>k (x::ys)
def Sz{β:Type}(v:Value)(k:Value->β):β:=match v with
 | .bool b=>k (.bool b)
 | .int i n=>k (.int i n)
 | .pointer a=>k (.pointer a)
 | .slice a l c=>k (.slice a l c)
 | .map r=>k (.map r)
 | .agg cs=>k (.agg cs)
 | v=>k v
theorem SA{β:Type}(v:Value)(k:Value->β):Sz v k=k v:=by cases v<;>rfl
def Jf{β:Type}:List Value->(List Value->β)->β
 | [],k=>k []
 | x::xs,k=>Sz x λy=>Jf xs λys=>k (y::ys)
theorem Kv{β:Type}:∀(l:List Value) (k:List Value->β),Jf l k=k l
 | [],_=>rfl
 | x::xs,k=>by rw[Jf,SA,Kv xs]
structure OvR where
 v:Value
 hs:List Nat
 zs:List Int
 ok:Bool
 a:List (Nat×Nat)
 ob:Option Prop
def icp(b:BinOp)(p q:Int):Option Prop:=match b with
 | .lss=>some (p<q)
 | .leq=>some (p<=q)
 | .gtr=>some (q<p)
 | .geq=>some (q<=p)
 | .eql=>some (p=q)
 | .neq=>some (p≠q)
 | _=>none
theorem SB{b:BinOp}{p q:Int}{a:Prop}(h:icp b p q=some a):(a->icmp b p q=some (.bool true))/\(¬a->icmp b p q=some (.bool false)):=by
 unfold icp at h;split at h<;>first|cases h|skip
 all_goals (constructor<;>intro hp<;>simp only[icmp,Aef,Value.bool.injEq]<;>first|exact decide_eq_true hp|exact decide_eq_false hp)
def iar(b:BinOp)(p q r:Int):Option Prop:=match b with
 | .add=>some (p+q=r/\ -9223372036854775808<=r/\r<=9223372036854775807)
 | .sub=>some (p-q=r/\ -9223372036854775808<=r/\r<=9223372036854775807)
 | .mul=>some (p*q=r/\ -9223372036854775808<=r/\r<=9223372036854775807)
 | .quo=>some (0<=p/\0<q/\p/q=r/\p<=9223372036854775807)
 | .rem=>some (0<=p/\q≠0/\p%q=r)
 | _=>none
def i64:IntKind->Bool
 | .i64=>true
 | _=>false
theorem SC{k:IntKind}(h:i64 k=true):k=.i64:=by cases k<;>first|rfl|cases h
def Uu(P:Program)(b:BinOp)(xt:TypeId)(u v:Value)(hs:List Nat)(zs:List Int):Option OvR:=match u,v with
 | .int k p,.int k' q=>match icp b p q with
  | some pr=>match hs with
   | 0::hs=>match icmp b p q with
    | some c=>some ⟨c,hs,zs,Ml k k',[],none⟩
    | none=>none
   | 1::hs=>some ⟨.bool true,hs,zs,Ml k k',[],some pr⟩
   | 2::hs=>some ⟨.bool false,hs,zs,Ml k k',[],some (¬pr)⟩
   | 3::hs=>match icmp b p q with
    | some (.bool c)=>some ⟨.bool true,hs,zs,c&&Ml k k',[],none⟩
    | _=>none
   | 4::hs=>match icmp b p q with
    | some (.bool c)=>some ⟨.bool false,hs,zs,!c&&Ml k k',[],none⟩
    | _=>none
   | _=>none
  | none=>match zs with
   | r::zs=>match iar b p q r with
    | some pr=>some ⟨.int .i64 r,hs,zs,i64 k&&i64 k',[],some pr⟩
    | none=>none
   | []=>none
 | .pointer (some _),.pointer none=>match b with
  | .eql=>some ⟨.bool false,hs,zs,F0 P xt,[],none⟩
  | .neq=>some ⟨.bool true,hs,zs,F0 P xt,[],none⟩
  | _=>none
 | .pointer none,.pointer none=>match b with
  | .eql=>some ⟨.bool true,hs,zs,F0 P xt,[],none⟩
  | .neq=>some ⟨.bool false,hs,zs,F0 P xt,[],none⟩
  | _=>none
 | _,_=>none
def SD:Option Nat->Nat->Bool
 | some x,z=>Nat.beq x z
 | none,_=>false
theorem Kw{x:Option Nat}{z:Nat}(h:SD x z=true):x=some z:=by
 cases x with
 | none=>cases h
 | some y=>rw[AfF (n:=y) (m:=z) h]
def Uv:Option (Nat×Nat)->Nat->Nat->Bool
 | some x,l,z=>Nat.beq x.1 l&&Nat.beq x.2 z
 | none,_,_=>false
theorem XO{x:Option (Nat×Nat)}{l z:Nat}(h:Uv x l z=true):x=some (l,z):=by
 cases x with
 | none=>cases h
 | some y=>
  simp only[Uv,Aex] at h;rw[<-AfF h.1,<-AfF h.2]
def Uw(P:Program)(G:List Pt)(L:List (Nat×Value))(hs:List Nat)(zs:List Int):Op->Option OvR
 | .move x=>match ev L x with|some v=>some ⟨v,hs,zs,true,[],none⟩|none=>none
 | .assign x=>match ev L x with|some v=>some ⟨v,hs,zs,true,[],none⟩|none=>none
 | .pick c x y=>match ev L c with
  | some (.bool true)=>(match ev L x with|some v=>some ⟨v,hs,zs,true,[],none⟩|none=>none)
  | some (.bool false)=>(match ev L y with|some v=>some ⟨v,hs,zs,true,[],none⟩|none=>none)
  | _=>none
 | .extract x i=>match ev L x with
  | some (.tuple vs)=>(match vs.toList[i]? with|some v=>some ⟨v,hs,zs,true,[],none⟩|none=>none)
  | _=>none
 | .nilCheck x=>match ev L x with
  | some (.pointer (some ad))=>some ⟨.pointer (some ad),hs,zs,true,[],none⟩
  | _=>none
 | .unOp b _ x=>match b with
  | .not=>(match ev L x with|some (.bool c)=>some ⟨.bool !c,hs,zs,true,[],none⟩|_=>none)
  | _=>none
 | .binOp b xt x y _=>match ev L x with
  | some u=>(match ev L y with|some v=>Uu P b xt u v hs zs|none=>none)
  | none=>none
 | .fieldAddr s x f=>match hs with
  | r::hs=>(match ev L x with
   | some (.pointer (some ⟨b,p,none⟩))=>some ⟨.pointer (some ⟨b,r,none⟩),hs,zs,noq (Ek P s f) p r,[],none⟩
   | _=>none)
  | []=>none
 | .load t x=>match hs with
  | j::0::hs=>(match ev L x with
   | some (.pointer (some ⟨b,p,none⟩))=>(match G[j]? with
    | some (.b b' cs _)=>(match cs[p]? with
     | some v=>some ⟨v,hs,zs,Gc P t,[(b,b')],none⟩
     | none=>none)
    | _=>none)
   | _=>none)
  | j::m::hs=>(match ev L x with
   | some (.pointer (some ⟨b,p,none⟩))=>(match G[j]? with
    | some (.b b' cs _)=>G3 ((cs.drop p).take m) λvs=>some ⟨.agg vs.toArray,hs,zs,SD (Id P t) m&&Nat.beq vs.length m,[(b,b')],none⟩
    | _=>none)
   | _=>none)
  | _=>none
 | .indexAddr t x y=>match ev L x with
  | some (.slice (some ⟨b,p,none⟩) l _)=>(match ev L y with
   | some (.int _ i)=>(match hs with
    | z::j::r::hs=>some ⟨.pointer (some ⟨b,r,none⟩),hs,zs,SD (Dm P t) z,[],some (i=(j:Int)/\j<l/\p+j*z=r)⟩
    | _=>none)
   | _=>none)
  | some (.pointer (some ⟨b,p,none⟩))=>(match ev L y with
   | some (.int _ i)=>(match hs with
    | l::z::j::r::hs=>some ⟨.pointer (some ⟨b,r,none⟩),hs,zs,Uv (Ib P t) l z,[],some (i=(j:Int)/\j<l/\p+j*z=r)⟩
    | _=>none)
   | _=>none)
  | _=>none
 | .call ⟨.builtin .len,⟨[x]⟩,⟨[t]⟩⟩=>match ev L x with
  | some (.slice _ l _)=>some ⟨.int .i64 l,hs,zs,(Dm P t).isSome,[],none⟩
  | _=>none
 | .build t ⟨ps⟩=>match (evs L (ps.map (·.2))).map (List.zip (ps.map (·.1))) with
  | some us=>match P.built t us with
   | some cs=>Jf cs.toList λcs=>some ⟨.agg cs.toArray,hs,zs,true,[],none⟩
   | none=>none
  | none=>none
 | _=>none
section
variable{P:Program}{G:List Pt}{L:List (Nat×Value)}{n:Nat}{ds:List Deferred}{w:World}{C:World->Prop}{o:Oper}{hs:List Nat}{zs:List Int}{q:OvR}
theorem XP{b:BinOp}{xt yt:TypeId}{x y:Operand}{u v:Value}(f:o.op=.binOp b xt x y yt)(d:ev L x=some u)(a:ev L y=some v)(h:Uu P b xt u v hs zs=some q)(e:q.ok=true)(hq:FE q.ob):Ar P C n ds L o q.v:=by
 have i:∀{k:IntKind} {p r:Int} {c:Value},ev L x=some (.int k p)->ev L y=some (.int k r)->icmp b p r=some c->Ar P C n ds L o c:=by
  intro k p r c d a l;unfold icmp at l;split at l<;>first|(cases l;first|exact Q5 f d a|exact WV f d a|exact WW f d a|exact WX f d a|exact WY f d a|exact WZ f d a)|cases l
 unfold Uu at h;split at h
 ·rename_i k p s r
  split at h
  ·rename_i m g
   split at h
   ·split at h
    ·rename_i j;cases h;obtain rfl:=Hx e;exact i d a j
    cases h
   ·cases h;obtain rfl:=Hx e;exact i d a ((SB g).1 hq)
   ·cases h;obtain rfl:=Hx e;exact i d a ((SB g).2 hq)
   ·split at h
    ·rename_i c j;cases h;simp only[Aex] at e;obtain rfl:=Hx e.2;rw[e.1] at j;exact i d a j
    cases h
   ·split at h
    ·rename_i c j;cases h;simp only[Aex,Bool.not_eq_true'] at e;obtain rfl:=Hx e.2;rw[e.1] at j;exact i d a j
    cases h
   cases h
  split at h
  ·split at h
   ·rename_i m g
    cases h
    simp only[Aex] at e;obtain rfl:=SC e.1;obtain rfl:=SC e.2;unfold iar at g;split at g<;>first|cases g|skip
    ·exact CZ f d a hq.1 hq.2
    ·exact Hr f d a hq.1 hq.2
    ·exact Hs f d a hq.1 hq.2
    ·exact Li f d a hq.1 hq.2.1 hq.2.2.1 hq.2.2.2
    exact Lj f d a hq.1 hq.2.1 hq.2.2
   cases h
  cases h
 ·split at h
  ·cases h;exact Nq f e d a
  ·cases h;exact Ul f e d a
  cases h
 ·split at h
  ·cases h;exact Um f e d a
  ·cases h;exact Un f e d a
  cases h
 cases h
theorem oval_ok(hM:∀w,C w->∀(j b:Nat) (cs:List Value) (ty:TypeId),G[j]?=some (Pt.b b cs ty)->Blk b cs ty w)(h:Uw P G L hs zs o.op=some q)(e:q.ok=true)(ha:B3 q.a)(hq:FE q.ob):Ar P C n ds L o q.v:=by
 unfold Uw at h;split at h
 ·rename_i d
  split at h
  ·rename_i c;cases h;exact Ci d c
  cases h
 ·rename_i d
  split at h
  ·rename_i c;cases h;exact Bi d c
  cases h
 ·rename_i d
  split at h
  ·rename_i hc
   split at h
   ·rename_i c;cases h;exact Nh d hc c
   cases h
  ·rename_i hc
   split at h
   ·rename_i c;cases h;exact Ni d hc c
   cases h
  cases h
 ·rename_i d
  split at h
  ·rename_i vs c
   split at h
   ·rename_i i;cases h
    exact Fe (vs:=vs.toList) d (by simpa using c) i
   cases h
  cases h
 ·rename_i d
  split at h
  ·rename_i c;cases h;exact Ko d c
  cases h
 ·rename_i d
  split at h
  ·split at h
   ·rename_i c;cases h;exact Km d c
   cases h
  cases h
 ·rename_i b xt x y _ d
  split at h
  ·rename_i u c
   split at h
   ·rename_i v g;exact XP d c g h e hq
   cases h
  cases h
 ·rename_i s x f d
  split at h
  ·split at h
   ·rename_i b p c
    cases h
    dsimp only at e
    cases m:Ek P s f with
    | none=>rw[m] at e;cases e
    | some k=>
     rw[m] at e;exact DS d m c (AfF e)
   cases h
  cases h
 ·rename_i t x d
  split at h
  ·split at h
   ·rename_i b p c
    split at h
    ·rename_i b' cs ty he
     split at h
     ·rename_i v i
      cases h
      have e1:b=b':=ha.1;exact Bf d c e (λw r=>by rw[e1];exact (hM w r _ _ _ _ he).cel p i)
     cases h
    cases h
   cases h
  ·split at h
   ·rename_i b p c
    split at h
    ·rename_i b' cs ty he
     rw[E5] at h;cases h;have e1:b=b':=ha.1;simp only[Aex] at e;have hl:=AfF e.2;refine BX d c (by rw[Kw e.1,hl]) (λw r=>?_);rw[e1];exact (hM w r _ _ _ _ he).part p _ _ Z
    cases h
   cases h
  cases h
 ·rename_i t x y d
  split at h
  ·rename_i b p l _ c
   split at h
   ·rename_i g
    split at h
    ·cases h
     exact CH d (Kw e) c g hq.1 hq.2.1 hq.2.2
    cases h
   cases h
  ·rename_i b p c
   split at h
   ·rename_i g
    split at h
    ·cases h
     exact JM d (XO e) c g hq.1 hq.2.1 hq.2.2
    cases h
   cases h
  cases h
 ·rename_i x t d
  split at h
  ·rename_i l _ c
   cases h
   dsimp only at e
   cases hz:Dm P t with
   | none=>rw[hz] at e;cases e
   | some z=>exact FZ d hz c
  cases h
 ·rename_i t ps d
  split at h
  ·rename_i us i
   split at h
   ·rename_i cs m
    rw[Kv] at h;cases h;exact Bc (parts:=ps) d i (by simpa using m)
   cases h
  cases h
 cases h
end

def II:Value->List Value
 | .agg cs=>cs.toList
 | v=>[v]
theorem PU(v:Value):v.cells=(II v).toArray:=by cases v<;>simp[II,Value.cells]
def JT:List Value->Nat->List Value->List Value
 | cs,_,[]=>cs
 | [],_,_::_=>[]
 | _::cs,0,v::vs=>v::JT cs 0 vs
 | c::cs,p+1,v::vs=>c::JT cs p (v::vs)
theorem Lu:∀(cs:List Value) (p:Nat) (vs:List Value),p+vs.length<=cs.length->cs.take p++vs++cs.drop (p+vs.length)=JT cs p vs
 | cs,p,[],h=>by simp[JT]
 | [],p,v::vs,h=>by simp at h
 | c::cs,0,v::vs,h=>by
  have:=Lu cs 0 vs (by simp at h ⊢;omega);simp only[Afz,AeL,AfH] at this;simp[JT,this]
 | c::cs,p+1,v::vs,h=>by
  have:=Lu cs p (v::vs) (by simp at h ⊢;omega);simp only[JT,Ae0,Afv];rw[<-this];simp only[Aeb,Afv];rw[show p+1+(vs.length+1)=(p+(vs.length+1))+1 from by omega,AeY]
structure OtR where
 G:List Pt
 hs:List Nat
 ok:Bool
 a:List (Nat×Nat)
def ost(P:Program)(G:List Pt)(L:List (Nat×Value))(hs:List Nat):Op->Option OtR
 | .store t x y=>match hs with
  | j::hs=>(match ev L x with
   | some (.pointer (some ⟨b,p,none⟩))=>(match ev L y with
    | some v=>(match G[j]? with
     | some (.b b' cs ty)=>G3 (JT cs p (II v)) λcs'=>G3 (G.set j (.b b' cs' ty)) λG=>some ⟨G,hs,(SD ((P.info? t).map (·.size)) (II v).length&&Nat.ble (p+(II v).length) cs.length)&&(II v).all (·.oneCell'),[(b,b')]⟩
     | _=>none)
    | none=>none)
   | _=>none)
  | []=>none
 | _=>none
structure Mo(wr:Bool)(S:List Pt->World->Prop):Prop where
 ld:∀{G:List Pt} {w:World} {j b:Nat} {cs:List Value} {ty:TypeId},S G w->G[j]?=some (.b b cs ty)->Blk b cs ty w
 st:wr=true->∀{G:List Pt} {w w':World} {j b:Nat} {cs cs':List Value} {ty:TypeId},S G w->G[j]?=some (.b b cs ty)->w'.os=w.os->w'.tape=w.tape->w'.output=w.output->Blk b cs' ty w'->(∀k:Nat,k≠b->w'.heap[k]?=w.heap[k]?)->S (G.set j (.b b cs' ty)) w'
section
variable{P:Program}{G:List Pt}{L:List (Nat×Value)}{n:Nat}{ds:List Deferred}{o:Oper}{hs:List Nat}{zs:List Int}{S:List Pt->World->Prop}{wr:Bool}
theorem AaY(l:Mo true S){q:OtR}(h:ost P G L hs o.op=some q)(i:q.ok=true)(r:B3 q.a){w:World}(g:S G w):DG P n ds L o w (λf=>S q.G f):=by
 unfold ost at h;split at h
 ·rename_i t x y ho
  split at h
  ·split at h
   ·rename_i b p hx
    split at h
    ·rename_i v z
     split at h
     ·rename_i b' cs ty j
      rw[E5,E5] at h;cases h;have e:b=b':=r.1;subst e;simp only[Aex] at i;obtain ⟨⟨s,d⟩,u⟩:=i;have d:p+(II v).length<=cs.length:=Nat.le_of_ble_eq_true d;intro a hF;obtain ⟨f,hr,hB,c,_⟩:=PI (w:=w) ho hx z (PU v) (by simpa using u) (Kw s) (l.ld g j) d (Lu cs p _ d) a hF;refine ⟨f,hr,l.st Z g j c.os c.tape c.output hB (λk m=>?_)⟩;rcases Ael k w.heap.size with q|q
      ·exact c.block k q m
      rw[AeT q,AeT U]
     cases h
    cases h
   cases h
  cases h
 cases h

structure OsR where
 L:List (Nat×Value)
 G:List Pt
 hs:List Nat
 zs:List Int
 ok:Bool
 a:List (Nat×Nat)
 ob:Option Prop
def ostep(P:Program)(wr:Bool)(n:Nat)(ops:List Oper)(o:Oper)(hs:List Nat)(zs:List Int)(L:List (Nat×Value))(G:List Pt):Option OsR:=match o.dst with
 | some d=>(match BL ops L o.guard with
  | true=>(match Uw P G L hs zs o.op with
   | some ⟨v,hs,zs,ok,a,ob⟩=>some ⟨(d,v)::L,G,hs,zs,Nat.blt d n&&ok,a,ob⟩
   | none=>none)
  | false=>(match EW ops L o.guard with
   | true=>some ⟨(d,undef)::L,G,hs,zs,Nat.blt d n,[],none⟩
   | false=>none))
 | none=>(match BL ops L o.guard with
  | true=>(match wr with
   | true=>(match ost P G L hs o.op with
    | some ⟨G,hs,ok,a⟩=>some ⟨L,G,hs,zs,ok,a,none⟩
    | none=>none)
   | false=>none)
  | false=>(match EW ops L o.guard with
   | true=>some ⟨L,G,hs,zs,true,[],none⟩
   | false=>none))
theorem Ux(l:Mo wr S){Q:Exit->Act->World->Prop}{ops m:List Oper}{q:OsR}(h:ostep P wr n ops o hs zs L G=some q)(c:q.ok=true)(k:B3 q.a)(hq:FE q.ob)(K:∀w,S q.G w->∀x,Fr n ds q.L x->wpList P ops.toArray Q m x w):∀w,S G w->∀x,Fr n ds L x->wpList P ops.toArray Q (o::m) x w:=by
 intro w b;unfold ostep at h;split at h
 ·rename_i d f
  split at h
  ·rename_i j
   split at h
   ·rename_i i
    cases h
    simp only[Aex] at c;exact s_do j f c.1 (oval_ok (λr p _ _ _ _ e=>by subst p;exact l.ld b e) i c.2 k hq) (K w b)
   cases h
  split at h
  ·rename_i g;cases h;exact Sc g f c (K w b)
  cases h
 rename_i f;split at h
 ·rename_i j
  split at h
  ·split at h
   ·rename_i i
    cases h
    exact FY j f (AaY l i c k b) K
   cases h
  cases h
 split at h
 ·rename_i g;cases h;exact XA g f (K w b)
 cases h
def Xb:Pos->Option (List Oper×Oper×List Oper×Kd)
 | .o ops (o::os) k=>some (ops,o,os,k)
 | _=>none
theorem SE{p:Pos}{ops a:List Oper}{o:Oper}{k:Kd}(h:Xb p=some (ops,o,a,k)):p=.o ops (o::a) k:=by
 unfold Xb at h;split at h<;>cases h;rfl
structure GsR where
 L:List (Nat×Value)
 G:List Pt
 p:Pos
 ok:Bool
 a:List (Nat×Nat)
 ob:Option Prop
def go(P:Program)(wr:Bool)(n:Nat):Nat->List Nat->List Int->List (Nat×Value)->List Pt->Pos->Bool->List (Nat×Nat)->Option Prop->Option GsR
 | 0,_,_,L,G,p,ok,a,ob=>some ⟨L,G,p,ok,a,ob⟩
 | k+1,hs,zs,L,G,p,ok,a,ob=>match Xb p with
  | some (ops,o,os,kk)=>(match ostep P wr n ops o hs zs L G with
   | some ⟨L,G,hs,zs,ok',a',ob'⟩=>go P wr n k hs zs L G (.o ops os kk) (ok'&&ok) (a'++a) (cj ob' ob)
   | none=>none)
  | none=>(match Rh L p with
   | some p=>go P wr n k hs zs L G p ok a ob
   | none=>none)
theorem XQ:∀{k:Nat} {hs:List Nat} {zs:List Int} {L:List (Nat×Value)} {G:List Pt} {p:Pos} {d:Bool} {a:List (Nat×Nat)} {ob:Option Prop} {q:GsR},go P wr n k hs zs L G p d a ob=some q->q.ok=true->B3 q.a->FE q.ob->d=true/\B3 a/\FE ob:=by
 intro k
 induction k with
 | zero=>intro hs zs L G p d a ob q h c b hq;simp only[go,Aef] at h;subst h;exact ⟨c,b,hq⟩
 | succ k ih=>
  intro hs zs L G p d a ob q h c b hq;simp only[go] at h;split at h
  ·split at h
   ·obtain ⟨e,g,f⟩:=ih h c b hq
    simp only[Aex] at e;exact ⟨e.2,(Cm g).2,(Ik f).2⟩
   cases h
  split at h
  ·exact ih h c b hq
  cases h
theorem Il{N R:Act->World->Prop}{X:Nat->Act->World->Prop}(l:Mo wr S):∀(k:Nat) {hs:List Nat} {zs:List Int} {L:List (Nat×Value)} {G:List Pt} {p:Pos} {d:Bool} {a:List (Nat×Nat)} {ob:Option Prop} {q:GsR},go P wr n k hs zs L G p d a ob=some q->q.ok=true->B3 q.a->FE q.ob->(∀w,S q.G w->∀x,Fr n ds q.L x->BR P N X R q.p x w)->∀w,S G w->∀x,Fr n ds L x->BR P N X R p x w:=by
 intro k
 induction k with
 | zero=>intro hs zs L G p d a ob q h c b hq K;simp only[go,Aef] at h;subst h;exact K
 | succ k ih=>
  intro hs zs L G p d a ob q h c b hq K;simp only[go] at h;split at h
  ·rename_i f
   obtain rfl:=SE f;split at h
   ·rename_i g
    obtain ⟨e,m,j⟩:=XQ h c b hq;simp only[Aex] at e;exact Ux l g e.1 (Cm m).1 (Ik j).1 (ih h c b hq K)
   cases h
  split at h
  ·rename_i hp
   intro w i;exact pstep_ok hp (ih h c b hq K w i)
  cases h
end

section
variable{P:Program}{G:List Pt}{L:List (Nat×Value)}{n:Nat}{ds:List Deferred}{o:Oper}{hs:List Nat}{zs:List Int}
theorem Lw{C:World->Prop}{ops:List Oper}{q:OsR}(m:∀w,C w->∀(j b:Nat) (cs:List Value) (ty:TypeId),G[j]?=some (Pt.b b cs ty)->Blk b cs ty w){d:Nat}(f:o.dst=some d)(h:ostep P false n ops o hs zs L G=some q)(e:q.ok=true)(i:B3 q.a)(hq:FE q.ob):
  ∃v,q.L=(d,v)::L/\Nat.blt d n=true/\((BL ops L o.guard=true/\Ar P C n ds L o v)\/(EW ops L o.guard=true/\v=undef)):=by
 unfold ostep at h;split at h
 ·rename_i p c
  rw[f] at c;cases c;split at h
  ·rename_i l
   split at h
   ·rename_i k
    cases h
    simp only[Aex] at e;exact ⟨_,Z,e.1,.inl ⟨l,oval_ok m k e.2 i hq⟩⟩
   cases h
  split at h
  ·rename_i g;cases h;exact ⟨_,Z,e,.inr ⟨g,Z⟩⟩
  cases h
 rename_i c;rw[f] at c;cases c
structure QrR where
 L:List (Nat×Value)
 os:List Oper
 ok:Bool
 a:List (Nat×Nat)
 ob:Option Prop
def Eo(P:Program)(G:List Pt)(ops:List Oper)(n:Nat):Nat->List Nat->List Int->List (Nat×Value)->List Oper->Bool->List (Nat×Nat)->Option Prop->Option QrR
 | 0,_,_,L,os,ok,a,ob=>some ⟨L,os,ok,a,ob⟩
 | _+1,_,_,_,[],_,_,_=>none
 | k+1,hs,zs,L,o::os,ok,a,ob=>match o.dst with
  | some _=>(match ostep P false n ops o hs zs L G with
   | some ⟨L,_,hs,zs,ok',a',ob'⟩=>Eo P G ops n k hs zs L os (ok'&&ok) (a'++a) (cj ob' ob)
   | none=>none)
  | none=>none
theorem Mq{ops:List Oper}:∀{k:Nat} {hs:List Nat} {zs:List Int} {L:List (Nat×Value)} {b:List Oper} {c:Bool} {a:List (Nat×Nat)} {ob:Option Prop} {q:QrR},Eo P G ops n k hs zs L b c a ob=some q->q.ok=true->B3 q.a->FE q.ob->c=true/\B3 a/\FE ob:=by
 intro k
 induction k with
 | zero=>intro hs zs L b c a ob q h e d hq;simp only[Eo,Aef] at h;subst h;exact ⟨e,d,hq⟩
 | succ k ih=>
  intro hs zs L b c a ob q h e d hq
  cases b with
  | nil=>simp[Eo] at h
  | cons o b=>
   simp only[Eo] at h;split at h
   ·split at h
    ·obtain ⟨f,i,g⟩:=ih h e d hq
     simp only[Aex] at f;exact ⟨f.2,(Cm i).2,(Ik g).2⟩
    cases h
   cases h
theorem Xc{ops:List Oper}{C:World->Prop}{Q:Act->Prop}(hM:∀w,C w->∀(j b:Nat) (cs:List Value) (ty:TypeId),G[j]?=some (Pt.b b cs ty)->Blk b cs ty w):∀(k:Nat) {hs:List Nat} {zs:List Int} {L:List (Nat×Value)} {c:List Oper} {i:Bool} {a:List (Nat×Nat)} {ob:Option Prop} {q:QrR},Eo P G ops n k hs zs L c i a ob=some q->q.ok=true->B3 q.a->FE q.ob->(∀x,Fr n ds q.L x->wpQuiet P ops.toArray C Q q.os x)->∀x,Fr n ds L x->wpQuiet P ops.toArray C Q c x:=by
 intro k
 induction k with
 | zero=>intro hs zs L c i a ob q h m l hq K;simp only[Eo,Aef] at h;subst h;exact K
 | succ k ih=>
  intro hs zs L c i a ob q h m l hq K
  cases c with
  | nil=>simp[Eo] at h
  | cons o c=>
   simp only[Eo] at h;split at h
   ·rename_i d p
    split at h
    ·rename_i t
     obtain ⟨r,h2,z⟩:=Mq h m l hq;simp only[Aex] at r;obtain ⟨v,e,f,y⟩:=Lw (ds:=ds) hM p t r.1 (Cm h2).1 (Ik z).1;dsimp only at e;subst e;have K':=ih h m l hq K;rcases y with ⟨u,g⟩|⟨s,rfl⟩
     ·exact AL u p f g K'
     exact Sf s p f K'
    cases h
   cases h
theorem Xd{ops:List Oper}{w:World}{Q:Act->Prop}(hM:∀(j b:Nat) (cs:List Value) (ty:TypeId),G[j]?=some (Pt.b b cs ty)->Blk b cs ty w):∀(k:Nat) {hs:List Nat} {zs:List Int} {L:List (Nat×Value)} {c:List Oper} {i:Bool} {a:List (Nat×Nat)} {ob:Option Prop} {q:QrR},Eo P G ops n k hs zs L c i a ob=some q->q.ok=true->B3 q.a->FE q.ob->(∀x,Fr n ds q.L x->wpStill P ops.toArray w Q q.os x)->∀x,Fr n ds L x->wpStill P ops.toArray w Q c x:=by
 intro k
 induction k with
 | zero=>intro hs zs L c i a ob q h m l hq K;simp only[Eo,Aef] at h;subst h;exact K
 | succ k ih=>
  intro hs zs L c i a ob q h m l hq K
  cases c with
  | nil=>simp[Eo] at h
  | cons o c=>
   simp only[Eo] at h;split at h
   ·rename_i d p
    split at h
    ·rename_i t
     obtain ⟨r,h2,z⟩:=Mq h m l hq;simp only[Aex] at r;obtain ⟨v,e,f,y⟩:=Lw (C:=(· =w)) (ds:=ds) (λw' e=>by subst e;exact hM) p t r.1 (Cm h2).1 (Ik z).1;dsimp only at e;subst e;have K':=ih h m l hq K;rcases y with ⟨u,g⟩|⟨s,rfl⟩
     ·exact B9 u p f g K'
     exact Sj s p f K'
    cases h
   cases h
structure ArR where
 L:List (Nat×Value)
 li:Array Bool
 ok:Bool
 a:List (Nat×Nat)
 ob:Option Prop
def arun(P:Program)(G:List Pt)(ops:List Oper)(n:Nat)(g:Nat->Bool):List Nat->List Nat->List Int->List (Nat×Value)->Array Bool->Bool->List (Nat×Nat)->Option Prop->Option ArR
 | [],_,_,L,li,ok,a,ob=>some ⟨L,li,ok,a,ob⟩
 | i::is,hs,zs,L,li,ok,a,ob=>match ops[i]? with
  | some o=>(match o.dst with
   | some _=>(match ostep P false n ops o hs zs L G with
    | some ⟨L,_,hs,zs,ok',a',ob'⟩=>arun P G ops n g is hs zs L (li.setIfInBounds i true) ((ok'&&(g i&&(Region.noSelect ops.toArray&&(Region.free .any ops.toArray li i&&(Region.ready .any ops.toArray li).contains i))))&&ok) (a'++a) (cj ob' ob)
    | none=>none)
   | none=>none)
  | none=>none
theorem SF{ops:List Oper}{g:Nat->Bool}:∀{c hs:List Nat} {zs:List Int} {L:List (Nat×Value)} {f:Array Bool} {b:Bool} {a:List (Nat×Nat)} {ob:Option Prop} {q:ArR},arun P G ops n g c hs zs L f b a ob=some q->q.ok=true->B3 q.a->FE q.ob->b=true/\B3 a/\FE ob:=by
 intro c
 induction c with
 | nil=>intro hs zs L f b a ob q h e d hq;simp only[arun,Aef] at h;subst h;exact ⟨e,d,hq⟩
 | cons i c ih=>
  intro hs zs L f b a ob q h e d hq;simp only[arun] at h;split at h
  ·split at h
   ·split at h
    ·obtain ⟨j,l,k⟩:=ih h e d hq
     simp only[Aex] at j;exact ⟨j.2,(Cm l).2,(Ik k).2⟩
    cases h
   cases h
  cases h
theorem Xe{ops:List Oper}{N R:Act->World->Prop}{X:Nat->Act->World->Prop}{S:World->Prop}{w:World}(hM:∀w,S w->∀(j b:Nat) (cs:List Value) (ty:TypeId),G[j]?=some (Pt.b b cs ty)->Blk b cs ty w)(u:S w):∀(f:List Nat) {hs:List Nat} {zs:List Int} {L:List (Nat×Value)} {k:Array Bool} {m:Bool} {a:List (Nat×Nat)} {ob:Option Prop} {q:ArR} {fuel:Nat},arun P G ops n (λ_=>true) f hs zs L k m a ob=some q->q.ok=true->B3 q.a->FE q.ob->
  (∀x,Fr n ds q.L x->wpAnyH P .any ops.toArray (Qp N X R) S fuel q.li x w)->∀x,Fr n ds L x->wpAnyH P .any ops.toArray (Qp N X R) S (fuel+f.length) k x w:=by
 intro f
 induction f with
 | nil=>intro hs zs L k m a ob q fuel h r p hq K;simp only[arun,Aef] at h;subst h;exact K
 | cons i f ih=>
  intro hs zs L k m a ob q fuel h r p hq K;simp only[arun] at h;split at h
  ·rename_i o t
   split at h
   ·rename_i d s
    split at h
    ·rename_i z
     obtain ⟨c,h2,h3⟩:=SF h r p hq;simp only[Aex] at c;obtain ⟨v,e,g,hx⟩:=Lw (ds:=ds) hM s z c.1.1 (Cm h2).1 (Ik h3).1;dsimp only at e;subst e;have K':=ih h r p hq K;rcases hx with ⟨hw,l⟩|⟨y,rfl⟩
     ·exact BO (fuel:=fuel+f.length) i t c.1.2.2.1 c.1.2.2.2.1 c.1.2.2.2.2 hw s g l u K'
     exact Sk (fuel:=fuel+f.length) i t c.1.2.2.1 c.1.2.2.2.1 c.1.2.2.2.2 y s g u K'
    cases h
   cases h
  cases h
section
variable{ops:List Oper}{L':List (Nat×Value)}{ok':Bool}{a':List (Nat×Nat)}{ob:Prop}{z w:World}{Γ F:List Af}
theorem DD(h:(ok',a'.map Prod.fst)=(true,a'.map Prod.snd)):ok'=true/\B3 a':=⟨congrArg Prod.fst h,Du (congrArg Prod.snd h)⟩
theorem GF{Q:Act->Prop}(k:Nat)(hs:List Nat)(zs:List Int)[e:Rf Γ G F]{b a:List Oper}(h:Eo P G ops n k hs zs L b true [] none=some ⟨L',a,ok',a',none⟩)(c:(ok',a'.map Prod.fst)=(true,a'.map Prod.snd))(K:∀x,Fr n ds L' x->wpQuiet P ops.toArray (Sep z Γ) Q a x):∀x,Fr n ds L x->wpQuiet P ops.toArray (Sep z Γ) Q b x:=
 Xc (λ_ H _ _ _ _ q=>(show Sep z (DO G F) _ from e.e▸H).blk _ (Dj q)) k h (DD c).1 (DD c).2 trivial K
theorem Mr{Q:Act->Prop}(k:Nat)(hs:List Nat)(zs:List Int)(H:Sep z Γ w)[e:Rf Γ G F]{b a:List Oper}(h:Eo P G ops n k hs zs L b true [] none=some ⟨L',a,ok',a',none⟩)(c:(ok',a'.map Prod.fst)=(true,a'.map Prod.snd))(K:∀x,Fr n ds L' x->wpStill P ops.toArray w Q a x):∀x,Fr n ds L x->wpStill P ops.toArray w Q b x:=
 Xd (λ_ _ _ _ q=>(show Sep z (DO G F) _ from e.e▸H).blk _ (Dj q)) k h (DD c).1 (DD c).2 trivial K
theorem AU{N R:Act->World->Prop}{X:Nat->Act->World->Prop}(b hs:List Nat)(zs:List Int)(H:Sep z Γ w)[e:Rf Γ G F]{f a:Array Bool}{fuel d:Nat}(h:arun P G ops n (λ_=>true) b hs zs L f true [] none=some ⟨L',a,ok',a',none⟩)(c:(ok',a'.map Prod.fst)=(true,a'.map Prod.snd))(g:fuel+b.length=d)(K:∀x,Fr n ds L' x->wpAnyH P .any ops.toArray (Qp N X R) (Sep z Γ) fuel a x w):∀x,Fr n ds L x->wpAnyH P .any ops.toArray (Qp N X R) (Sep z Γ) d f x w:=
 g▸Xe (S:=Sep z Γ) (λ_ H _ _ _ _ q=>(show Sep z (DO G F) _ from e.e▸H).blk _ (Dj q)) H b h (DD c).1 (DD c).2 trivial K
theorem G4{Q:Act->Prop}(k:Nat)(hs:List Nat)(zs:List Int)[e:Rf Γ G F]{b a:List Oper}(h:Eo P G ops n k hs zs L b true [] none=some ⟨L',a,ok',a',some ob⟩)(c:(ok',a'.map Prod.fst)=(true,a'.map Prod.snd))(hq:ob)(K:∀x,Fr n ds L' x->wpQuiet P ops.toArray (Sep z Γ) Q a x):∀x,Fr n ds L x->wpQuiet P ops.toArray (Sep z Γ) Q b x:=
 Xc (λ_ H _ _ _ _ q=>(show Sep z (DO G F) _ from e.e▸H).blk _ (Dj q)) k h (DD c).1 (DD c).2 hq K
theorem EQ{Q:Act->Prop}(k:Nat)(hs:List Nat)(zs:List Int)(H:Sep z Γ w)[e:Rf Γ G F]{b a:List Oper}(h:Eo P G ops n k hs zs L b true [] none=some ⟨L',a,ok',a',some ob⟩)(c:(ok',a'.map Prod.fst)=(true,a'.map Prod.snd))(hq:ob)(K:∀x,Fr n ds L' x->wpStill P ops.toArray w Q a x):∀x,Fr n ds L x->wpStill P ops.toArray w Q b x:=
 Xd (λ_ _ _ _ q=>(show Sep z (DO G F) _ from e.e▸H).blk _ (Dj q)) k h (DD c).1 (DD c).2 hq K
theorem HC{N R:Act->World->Prop}{X:Nat->Act->World->Prop}(b hs:List Nat)(zs:List Int)(H:Sep z Γ w)[e:Rf Γ G F]{f a:Array Bool}{fuel d:Nat}(h:arun P G ops n (λ_=>true) b hs zs L f true [] none=some ⟨L',a,ok',a',some ob⟩)(c:(ok',a'.map Prod.fst)=(true,a'.map Prod.snd))(hq:ob)(g:fuel+b.length=d)(K:∀x,Fr n ds L' x->wpAnyH P .any ops.toArray (Qp N X R) (Sep z Γ) fuel a x w):∀x,Fr n ds L x->wpAnyH P .any ops.toArray (Qp N X R) (Sep z Γ) d f x w:=
 g▸Xe (S:=Sep z Γ) (λ_ H _ _ _ _ q=>(show Sep z (DO G F) _ from e.e▸H).blk _ (Dj q)) H b h (DD c).1 (DD c).2 hq K
end
end

structure FiR where
 L:List (Nat×Value)
 G:List Pt
 p:Pos
 a:List Nat
 b:List Nat
 ob:Option Prop
def fin:Option GsR->Option FiR
 | some ⟨L,G,p,true,a,ob⟩=>some ⟨L,G,p,a.map Prod.fst,a.map Prod.snd,ob⟩
 | _=>none
def Na{β:Type}:List Pt->List Af->(List Af->β)->β
 | [],R,k=>k R
 | .b b cs ty::G,R,k=>Na G R λΓ=>k (blk b cs ty::Γ)
 | .a A::G,R,k=>Na G R λΓ=>k (A::Γ)
theorem Uy{β:Type}{R:List Af}(G:List Pt):∀(k:List Af->β),Na G R k=k (DO G R):=by
 induction G with
 | nil=>intro k;rfl
 | cons x G ih=>intro k;cases x<;>exact ih _
structure FwR where
 L:List (Nat×Value)
 Γ:List Af
 p:Pos
 a:List Nat
 b:List Nat
 ob:Option Prop
def SG(F:List Af):Option GsR->Option FwR
 | some ⟨L,G,p,true,a,ob⟩=>Na G F λΓ=>some ⟨L,Γ,p,a.map Prod.fst,a.map Prod.snd,ob⟩
 | _=>none
theorem NE{F Γ:List Af}{q:Option GsR}{L:List (Nat×Value)}{p:Pos}{al:List Nat}{ob:Option Prop}(h:SG F q=some ⟨L,Γ,p,al,al,ob⟩):∃a G,q=some ⟨L,G,p,true,a,ob⟩/\B3 a/\DO G F=Γ:=by
 unfold SG at h;split at h
 ·rename_i a _
  rw[Uy] at h;simp only[Aef,FwR.mk.injEq] at h;obtain ⟨rfl,b,rfl,c,d,rfl⟩:=h;exact ⟨_,_,Z,Du (c.trans d.symm),b⟩
 cases h
theorem Kx{q:Option GsR}{L:List (Nat×Value)}{G:List Pt}{p:Pos}{al:List Nat}{ob:Option Prop}(h:fin q=some ⟨L,G,p,al,al,ob⟩):∃a,q=some ⟨L,G,p,true,a,ob⟩/\B3 a:=by
 unfold fin at h;split at h
 ·rename_i a _
  simp only[Aef,FiR.mk.injEq] at h;obtain ⟨rfl,rfl,rfl,b,c,rfl⟩:=h;exact ⟨_,Z,Du (b.trans c.symm)⟩
 cases h
section
variable{P:Program}{N R:Act->World->Prop}{X:Nat->Act->World->Prop}{n:Nat}{ds:List Deferred}{L L':List (Nat×Value)}{w z:World}{p p':Pos}{al:List Nat}{G G':List Pt}{Γ F:List Af}
theorem AaZ(w:World):Mo false (λG w'=>G=[]/\w'=w):=⟨λh e=>by rw[h.1] at e;simp at e,λh=>by cases h⟩
theorem Aa0(z:World)(F:List Af)(w:World):Mo false (λG w'=>Sep z (DO G F) w'/\w'=w):=⟨λH e=>H.1.blk _ (Dj e),λh=>by cases h⟩
theorem Uz(z:World)(F:List Af):Mo true (λG w=>Sep z (DO G F) w):=⟨λH e=>H.blk _ (Dj e),λ_ {G w k j b cs a ty} H e f i g h c=>by
 have:=H.write j (Dj e) f i g h c;have d:j<G.length:=(Ad6.1 e).1;exact (JS (R:=F) (b:=b) (cs:=a) (ty:=ty) d)▸this⟩
theorem Z0(k:Nat)(hs:List Nat)(h:fin (go P false n k hs [] L [] p true [] none)=some ⟨L',[],p',[],[],none⟩)(K:∀x,Fr n ds L' x->BR P N X R p' x w):∀x,Fr n ds L x->BR P N X R p x w:=by
 obtain ⟨a,h,b⟩:=Kx h;exact Il (AaZ w) k h Z b trivial (λ_ c=>c.2▸K) w ⟨Z,Z⟩
theorem Zc(k:Nat)(h:fin (go P false n k [] [] L [] p true [] none)=some ⟨L',[],p',[],[],none⟩)(K:∀x,Fr n ds L' x->BR P N X R p' x w):∀x,Fr n ds L x->BR P N X R p x w:=Z0 k [] h K
theorem Z1(k:Nat)(hs:List Nat)(zs:List Int){ob:Prop}(h:fin (go P false n k hs zs L [] p true [] none)=some ⟨L',[],p',[],[],some ob⟩)(hq:ob)(K:∀x,Fr n ds L' x->BR P N X R p' x w):∀x,Fr n ds L x->BR P N X R p x w:=by
 obtain ⟨a,h,b⟩:=Kx h;exact Il (AaZ w) k h Z b hq (λ_ c=>c.2▸K) w ⟨Z,Z⟩
theorem Z2(k:Nat)(hs:List Nat)(H:Sep z Γ w)[e:Rf Γ G F](h:fin (go P false n k hs [] L G p true [] none)=some ⟨L',G',p',al,al,none⟩)(K:∀x,Fr n ds L' x->BR P N X R p' x w):∀x,Fr n ds L x->BR P N X R p x w:=by
 obtain ⟨a,h,b⟩:=Kx h;exact Il (Aa0 z F w) k h Z b trivial (λ_ c=>c.2▸K) w ⟨e.e▸H,Z⟩
theorem Z3(k:Nat)(hs:List Nat)(zs:List Int)(H:Sep z Γ w)[e:Rf Γ G F]{ob:Prop}(h:fin (go P false n k hs zs L G p true [] none)=some ⟨L',G',p',al,al,some ob⟩)(hq:ob)(K:∀x,Fr n ds L' x->BR P N X R p' x w):∀x,Fr n ds L x->BR P N X R p x w:=by
 obtain ⟨a,h,b⟩:=Kx h;exact Il (Aa0 z F w) k h Z b hq (λ_ c=>c.2▸K) w ⟨e.e▸H,Z⟩
theorem Z4(k:Nat)(hs:List Nat)(H:Sep z Γ w)[e:Rf Γ G F]{Γ':List Af}(h:SG F (go P true n k hs [] L G p true [] none)=some ⟨L',Γ',p',al,al,none⟩)(K:∀w,Sep z Γ' w->∀x,Fr n ds L' x->BR P N X R p' x w):∀x,Fr n ds L x->BR P N X R p x w:=by
 obtain ⟨a,G',c,b,rfl⟩:=NE h;exact Il (Uz z F) k c Z b trivial K w (e.e▸H)
theorem Z5(k:Nat)(hs:List Nat)(zs:List Int)(H:Sep z Γ w)[e:Rf Γ G F]{Γ':List Af}{ob:Prop}(h:SG F (go P true n k hs zs L G p true [] none)=some ⟨L',Γ',p',al,al,some ob⟩)(hq:ob)(K:∀w,Sep z Γ' w->∀x,Fr n ds L' x->BR P N X R p' x w):∀x,Fr n ds L x->BR P N X R p x w:=by
 obtain ⟨a,G',c,b,rfl⟩:=NE h;exact Il (Uz z F) k c Z b hq K w (e.e▸H)
end

section
variable{P:Program}{N R:Act->World->Prop}{X:Nat->Act->World->Prop}{n d:Nat}{ds:List Deferred}{L:List (Nat×Value)}{w z:World}{k:Kd}{ops rest:List Oper}{o:Oper}{v:Value}
theorem Ae{f:FuncId}{d:Func}{c:Code}{args:List Value}{R:Value->World->Prop}(e:P.funcs[f]?=some d)(i:d.body=some c)(g:d.ntmps=n)(b:Nat.ble args.length n=true)
  (h:∀a,Fr n [] (first 0 args) a->BR P (Gb P d R) IC (Gb P d R) (.c c .fin) a w):Calls P f args.toArray w (Ret R):=enter e i n g b h
theorem gf(K:∀x,Fr n ds L x->N x w):∀x,Fr n ds L x->BR P N X R (.n .fin) x w:=K
theorem gx{a R':Act->World->Prop}{i:Nat}(K:∀x,Fr n ds L x->BR P N X R (.x i k) x w):∀x,Fr n ds L x->BR P a (kQ P N X R k).2 R' (.x i .fin) x w:=K
theorem gn(K:∀x,Fr n ds L x->BR P N X R (.n k) x w):∀x,Fr n ds L x->(kQ P N X R k).1 x w:=K
theorem gw(K:∀x,Fr n ds L x->BR P N X R (.o ops rest k) x w):∀x,Fr n ds L x->wpList P ops.toArray (Qp (kQ P N X R k).1 (kQ P N X R k).2 R) rest x w:=K
theorem Ep{c:Operand}{x y:Code}{b:Bool}(e:ev L c=some (.bool b))(d:b=true->∀a,Fr n ds L a->BR P N X R (.c x k) a w)(f:b=false->∀a,Fr n ds L a->BR P N X R (.c y k) a w):∀a,Fr n ds L a->BR P N X R (.c (.cond c x y) k) a w:=R9 e d f
theorem Ag{c:Operand}{x y:Code}{p:Prop}[hp:Decidable p](d:ev L c=some (.bool (decide p)))(b:p->∀a,Fr n ds L a->BR P N X R (.c x k) a w)(e:¬p->∀a,Fr n ds L a->BR P N X R (.c y k) a w):∀a,Fr n ds L a->BR P N X R (.c (.cond c x y) k) a w:=Gp d b e
theorem Xf{x y:Code}(M:Act->World->Prop)(h:∀a,Fr n ds L a->BR P M (kQ P N X R k).2 R (.c x .fin) a w)(h':∀a w,M a w->BR P N X R (.c y k) a w):∀a,Fr n ds L a->BR P N X R (.c (.seq x y) k) a w:=AcJ M h h'
theorem AD{c:Code}{σ:Type}(d:σ->List (Nat×Value))(G:σ->World->Prop)(m:σ->Nat)(e:σ)
  (h₀:∀a,Fr n ds L a->Fr n ds (d e) a)(g:G e w)
  (b:∀s w,G s w->∀a,Fr n ds (d s) a->BR P (λa' w'=>∃f,Fr n ds (d f) a'/\G f w'/\m f<m s) (kQ P N X R k).2 R (.c c .fin) a w):∀a,Fr n ds L a->BR P N X R (.c (.loop c) k) a w:=Sa d G m e h₀ g b
def IJ(ops:List Oper)(L:List (Nat×Value))(n:Nat)(o:Oper):Option Nat:=match o.dst with
 | some d=>match BL ops L o.guard with
  | true=>bif Nat.blt d n then some d else none
  | false=>none
 | none=>none
theorem Ef(h:IJ ops L n o=some d):BL ops L o.guard=true/\o.dst=some d/\Nat.blt d n=true:=by
 unfold IJ at h;split at h
 ·rename_i a b
  split at h
  ·rename_i c
   cases hb:Nat.blt a n with
   | true=>rw[hb] at h;simp at h;subst h;exact ⟨c,b,hb⟩
   | false=>rw[hb] at h;cases h
  cases h
 cases h
theorem Ab(h:IJ ops L n o=some d)(b:Ar P (· =w) n ds L o v)(K:∀a',Fr n ds ((d,v)::L) a'->BR P N X R (.o ops rest k) a' w):∀a,Fr n ds L a->BR P N X R (.o ops (o::rest) k) a w:=s_do (Ef h).1 (Ef h).2.1 (Ef h).2.2 b K
theorem AQ{Rr:Value->World->Prop}(h:IJ ops L n o=some d)(c:Cy P n ds L o w Rr)(K:∀v b,Rr v b->∀a',Fr n ds ((d,v)::L) a'->BR P N X R (.o ops rest k) a' b):∀a,Fr n ds L a->BR P N X R (.o ops (o::rest) k) a w:=E3 (Ef h).1 (Ef h).2.1 (Ef h).2.2 c K
theorem Ky{Rr:Value->World->Prop}(c:BL ops L o.guard=true)(d:o.dst=none)(h:Cy P n ds L o w Rr)(K:∀v b,Rr v b->∀a,Fr n ds L a->BR P N X R (.o ops rest k) a b):∀a,Fr n ds L a->BR P N X R (.o ops (o::rest) k) a w:=W5 c d h K
theorem Az{Rr:World->Prop}(c:BL ops L o.guard=true)(d:o.dst=none)(h:DG P n ds L o w Rr)(K:∀b,Rr b->∀a,Fr n ds L a->BR P N X R (.o ops rest k) a b):∀a,Fr n ds L a->BR P N X R (.o ops (o::rest) k) a w:=FY c d h K
theorem Al{p:Prop}[Decidable p](t:Nat)(b:CB L t=some (.bool (decide p)))(c:p->∀a,Fr n ds ((t,.bool true)::L) a->BR P N X R (.o ops (o::rest) k) a w)(d:¬p->∀a,Fr n ds ((t,.bool false)::L) a->BR P N X R (.o ops (o::rest) k) a w):∀a,Fr n ds L a->BR P N X R (.o ops (o::rest) k) a w:=Sd t b c d
theorem FN{b:Bool}(t:Nat)(c:CB L t=some (.bool b))(d:b=true->∀a,Fr n ds ((t,.bool true)::L) a->BR P N X R (.o ops (o::rest) k) a w)(e:b=false->∀a,Fr n ds ((t,.bool false)::L) a->BR P N X R (.o ops (o::rest) k) a w):∀a,Fr n ds L a->BR P N X R (.o ops (o::rest) k) a w:=Ug t c d e
variable{Γ pre R':List Af}{post:Value->List Af->Prop}{f:FuncId}{vs:List Value}
def Nb(ops:List Oper)(L:List (Nat×Value))(n:Nat)(o:Oper):Option (Nat×FuncId×List Value):=match IJ ops L n o with
 | some d=>match o.op with
  | .call ⟨.value (.func f),⟨xs⟩,_⟩=>match evs L xs with
   | some vs=>some (d,f,vs)
   | none=>none
  | _=>none
 | none=>none
theorem UA(h:Nb ops L n o=some (d,f,vs)):IJ ops L n o=some d/\∃xs tys,o.op=.call {callee:=.value (.func f),args:=(xs:List Operand).toArray,argTypes:=tys} /\evs L xs=some vs:=by
 unfold Nb at h;split at h
 ·rename_i i a
  split at h
  ·rename_i g xs tys e
   split at h
   ·rename_i b c
    simp only[Aef,Afy] at h;obtain ⟨rfl,rfl,rfl⟩:=h;exact ⟨a,xs,tys,e,c⟩
   cases h
  cases h
 cases h
theorem Aq(h:Nb ops L n o=some (d,f,vs))(e:∀w,(callFunc f vs.toArray).run P w=.ok (.enter f vs.toArray) w)(g:Cn P f vs pre post)(H:Sep z (pre++R') w)
  (K:∀v c Γ',post v Γ'->Sep z (Γ'++R') c->∀a',Fr n ds ((d,v)::L) a'->BR P N X R (.o ops rest k) a' c):∀a,Fr n ds L a->BR P N X R (.o ops (o::rest) k) a w:=by
 obtain ⟨b,xs,tys,j,i⟩:=UA h;exact Ft (Ef b).1 (Ef b).2.1 (Ef b).2.2 j i e g H Z K
theorem z_E_{V:Value}{G:List Af}(h:Nb ops L n o=some (d,f,vs))(c:∀w,(callFunc f vs.toArray).run P w=.ok (.enter f vs.toArray) w)(g:Cn P f vs pre (λv Γ=>v=V/\Γ=G))(H:Sep z (pre++R') w)
  (K:∀b,Sep z (G++R') b->∀a',Fr n ds ((d,V)::L) a'->BR P N X R (.o ops rest k) a' b):∀a,Fr n ds L a->BR P N X R (.o ops (o::rest) k) a w:=
 Aq h c g H λv b Γ' e=>by obtain ⟨rfl,rfl⟩:=e;exact K b
def Lz(L:List (Nat×Value)):List ResultVar->Option (List Value)
 | []=>some []
 | .tmp t::rs=>match CB L t with
  | some v=>match Lz L rs with
   | some vs=>some (v::vs)
   | none=>none
  | none=>none
 | _::_=>none
theorem LA{L:List (Nat×Value)}:∀{rs:List ResultVar} {vs:List Value},Lz L rs=some vs->EN P L w rs vs
 | [],vs,h=>by simp only[Lz,Aef] at h;subst h;trivial
 | .tmp t::rs,vs,h=>by
  simp only[Lz] at h;split at h
  ·rename_i v hv
   split at h
   ·rename_i us hu;cases h;exact ⟨hv,LA hu⟩
   cases h
  cases h
 | .cell _ _::_,_,h=>by simp[Lz] at h
def Ri(L:List (Nat×Value))(rs:List ResultVar):Option Value:=match Lz L rs with
 | some [v]=>some v
 | some vs=>some (.tuple vs.toArray)
 | none=>none
theorem PV{rs:List ResultVar}(h:Ri L rs=some v):∃vs,EN P L w rs vs/\GY vs=v:=by
 unfold Ri at h;split at h
 ·rename_i u a;cases h;exact ⟨_,LA a,Z⟩
 ·rename_i vs b a;cases h;exact ⟨_,LA a,by cases vs with
   | nil=>rfl
   | cons x xs=>cases xs with
    | nil=>exact (b x Z).elim
    | cons y ys=>rfl⟩
 cases h
theorem Zr{b:Func}{R:Value->World->Prop}(h:Ri L b.results.toList=some v)(q:R v w):∀a,Fr n [] L a->BR P N X (Gb P b R) .r a w:=by
 obtain ⟨vs,d,c⟩:=PV (P:=P) (w:=w) h;exact Fq O vs d c q
theorem Zf{b:Func}{R':Act->World->Prop}{R:Value->World->Prop}(h:Ri L b.results.toList=some v)(q:R v w):∀a,Fr n [] L a->BR P (Gb P b R) X R' (.n .fin) a w:=by
 obtain ⟨vs,c,d⟩:=PV (P:=P) (w:=w) h;exact Fq O vs c d q

structure RmR where
 vs:List Value
 ok:Bool
 a:List (Nat×Nat)
def Io(P:Program)(L:List (Nat×Value))(G:List Pt):List Nat->List ResultVar->Option RmR
 | _,[]=>some ⟨[],true,[]⟩
 | hs,.tmp t::rs=>match CB L t with
  | some v=>match Io P L G hs rs with
   | some ⟨vs,ok,a⟩=>some ⟨v::vs,ok,a⟩
   | none=>none
  | none=>none
 | j::m::hs,.cell t ty::rs=>match CB L t with
  | some (.pointer (some ⟨b,p,none⟩))=>match G[j]? with
   | some (.b b' cs _)=>match Io P L G hs rs with
    | some ⟨us,ok,a⟩=>G3 ((cs.drop p).take m) λvs=>some ⟨.agg vs.toArray::us,SD (Id P ty) vs.length&&ok,(b,b')::a⟩
    | none=>none
   | _=>none
  | _=>none
 | _,_=>none
theorem LB{G:List Pt}(c:∀(j b:Nat) (cs:List Value) (ty:TypeId),G[j]?=some (Pt.b b cs ty)->Blk b cs ty w):∀{rs:List ResultVar} {hs:List Nat} {q:RmR},Io P L G hs rs=some q->q.ok=true->B3 q.a->EN P L w rs q.vs
 | [],hs,q,h,_,_=>by simp only[Io,Aef] at h;subst h;trivial
 | .tmp t::rs,hs,q,h,hb,ha=>by
  simp only[Io] at h;split at h
  ·rename_i v hv
   split at h
   ·rename_i hu;cases h;exact ⟨hv,LB c hu hb ha⟩
   cases h
  cases h
 | .cell t ty::rs,j::m::hs,q,h,hb,ha=>by
  simp only[Io] at h;split at h
  ·rename_i b p hv
   split at h
   ·rename_i b' cs ty' hG
    split at h
    ·rename_i hu
     rw[E5] at h;cases h;simp only[Aex] at hb;have e:b=b':=ha.1;subst e;exact ⟨⟨b,p,hv,Pn (Kw hb.1) (c _ _ _ _ hG) (by rw[Aes,List.take_eq_take_iff];simp)⟩,LB c hu hb.2 ha.2⟩
    cases h
   cases h
  cases h
 | .cell t ty::rs,[],q,h,_,_=>by simp[Io] at h
 | .cell t ty::rs,[_],q,h,_,_=>by simp[Io] at h
structure RvR where
 v:Value
 a:List Nat
 b:List Nat
def UB:Option RmR->Option RvR
 | some ⟨[v],true,a⟩=>some ⟨v,a.map Prod.fst,a.map Prod.snd⟩
 | some ⟨vs,true,a⟩=>some ⟨.tuple vs.toArray,a.map Prod.fst,a.map Prod.snd⟩
 | _=>none
theorem XR{q:Option RmR}{al:List Nat}(h:UB q=some ⟨v,al,al⟩):∃vs a,q=some ⟨vs,true,a⟩/\B3 a/\GY vs=v:=by
 unfold UB at h;split at h
 ·simp only[Aef,RvR.mk.injEq] at h
  obtain ⟨rfl,b,c⟩:=h;exact ⟨_,_,Z,Du (b.trans c.symm),Z⟩
 ·rename_i vs a d
  simp only[Aef,RvR.mk.injEq] at h;obtain ⟨rfl,b,c⟩:=h;refine ⟨_,_,Z,Du (b.trans c.symm),?_⟩
  cases vs with
  | nil=>rfl
  | cons x xs=>cases xs with
   | nil=>exact (d x Z).elim
   | cons y ys=>rfl
 cases h
theorem Zl(hs:List Nat){G:List Pt}{F:List Af}{al:List Nat}(H:Sep z Γ w)[e:Rf Γ G F]{b:Func}{R:Value->World->Prop}(h:UB (Io P L G hs b.results.toList)=some ⟨v,al,al⟩)(q:R v w):∀a,Fr n [] L a->BR P N X (Gb P b R) .r a w:=by
 obtain ⟨vs,a,c,f,d⟩:=XR h;have H:Sep z (DO G F) w:=e.e▸H;exact Fq O vs (LB (λ_ _ _ _ e=>H.blk _ (Dj e)) c Z f) d q
structure AlR where
 L:List (Nat×Value)
 Γ:List Af
 ops:List Oper
 os:List Oper
 k:Kd
 d:Nat
 zs:List Value
 e:TypeId
 ob:Option Prop
 a:List Nat
 b:List Nat
def alc(P:Program)(n:Nat):Option FwR->Option AlR
 | some ⟨L,G,p,a,b,ob⟩=>match Xb p with
  | some (ops,o,os,k)=>match IJ ops L n o with
   | some d=>match o.op with
    | .alloc e=>match zeroCells P e with
     | some zs=>G3 zs.toList λzs=>some ⟨L,G,ops,os,k,d,zs,e,ob,a,b⟩
     | none=>none
    | .box e x=>match ev L x with
     | some v=>G3 (II v) λzs=>some ⟨L,G,ops,os,k,d,zs,e,ob,a,b⟩
     | none=>none
    | _=>none
   | none=>none
  | none=>none
 | none=>none
theorem Aa2{q:Option FwR}{L':List (Nat×Value)}{G':List Af}{j:List Oper}{zs:List Value}{e:TypeId}{ob:Option Prop}{al:List Nat}(h:alc P n q=some ⟨L',G',ops,j,k,d,zs,e,ob,al,al⟩)(K:∀b w,Sep z (blk b zs e::G') w->∀x,Fr n ds ((d,Y b)::L') x->BR P N X R (.o ops j k) x w):
  ∃p',q=some ⟨L',G',p',al,al,ob⟩/\∀w,Sep z G' w->∀x,Fr n ds L' x->BR P N X R p' x w:=by
 unfold alc at h;split at h
 ·rename_i L1 G1 p a b v
  split at h
  ·rename_i l o s k1 r
   obtain rfl:=SE r;split at h
   ·rename_i d1 m
    split at h
    ·rename_i e1 c
     split at h
     ·rename_i g u
      rw[E5] at h;simp only[Aef,AlR.mk.injEq] at h;obtain ⟨rfl,rfl,rfl,rfl,rfl,rfl,rfl,rfl,rfl,rfl,rfl⟩:=h;refine ⟨_,Z,λw H=>AQ m (Cb H c (zs:=g.toList) (by simpa using u)) ?_⟩;rintro _ i ⟨b,rfl,f⟩;exact K b i f
     cases h
    ·rename_i e1 x1 c
     split at h
     ·rename_i y t
      rw[E5] at h;simp only[Aef,AlR.mk.injEq] at h;obtain ⟨rfl,rfl,rfl,rfl,rfl,rfl,rfl,rfl,rfl,rfl,rfl⟩:=h;refine ⟨_,Z,λw H=>AQ m (G0 H c t (PU _)) ?_⟩;rintro _ i ⟨b,rfl,f⟩;exact K b i f
     cases h
    cases h
   cases h
  cases h
 cases h
theorem Za(m:Nat)(hs:List Nat){L':List (Nat×Value)}{G:List Pt}{G':List Af}{p:Pos}{c:List Oper}{zs:List Value}{e:TypeId}{al:List Nat}{F:List Af}(H:Sep z Γ w)[r:Rf Γ G F](h:alc P n (SG F (go P true n m hs [] L G p true [] none))=some ⟨L',G',ops,c,k,d,zs,e,none,al,al⟩)
  (K:∀b w,Sep z (blk b zs e::G') w->∀x,Fr n ds ((d,Y b)::L') x->BR P N X R (.o ops c k) x w):∀x,Fr n ds L x->BR P N X R p x w:=by
 obtain ⟨p',g,j⟩:=Aa2 h K;obtain ⟨a,G1,i,f,rfl⟩:=NE g;exact Il (Uz z F) m i Z f trivial j w (r.e▸H)
theorem gr(K:∀x,Fr n ds L x->R x w):∀x,Fr n ds L x->BR P N X R .r x w:=K
end
end
structure Sup where
 gen:Int
 epoch:Int
 pages:Int
 start:Int
 len:Int
 head:Int
 seq:Int
def Sup.list(s:Sup):List Int:=[s.gen,s.epoch,s.pages,s.start,s.len,s.head,s.seq]
def Sup.cells(s:Sup):List Value:=[.int .i64 s.gen,.int .i64 s.epoch,.int .i64 s.pages,.int .i64 s.start,.int .i64 s.len,.int .i64 s.head,.int .i64 s.seq]
def Sup.Ok(s:Sup)(n:Int):Prop:=(∀x∈s.list,0<=x/\x<=1099511627776)/\16<=s.pages/\s.pages<=1024/\2+s.pages<=s.start/\64<=s.len/\s.start<=n-s.len/\s.len<=n/\s.head<s.len
instance(s:Sup)(n:Int):Decidable (s.Ok n):=by unfold Sup.Ok;exact inferInstance
theorem Sup.get{s:Sup}{n:Int}(h:s.Ok n):(0<=s.gen/\s.gen<=1099511627776)/\(0<=s.epoch/\s.epoch<=1099511627776)/\(0<=s.pages/\s.pages<=1099511627776)/\(0<=s.start/\s.start<=1099511627776)/\(0<=s.len/\s.len<=1099511627776)/\(0<=s.head/\s.head<=1099511627776)/\(0<=s.seq/\s.seq<=1099511627776):=by
 have:=h.1;simpa [Sup.list] using this

structure Dsk where
 n:Nat
 dur:Nat->List UInt8
 ver:Nat->List (List UInt8)
 f1:Int
 f2:Int
 f3:Int
 cut:Bool
 left:Int
def Dsk.cont(D:Dsk)(i:Nat):List UInt8:=(D.ver i).getLast?.getD (D.dur i)
def Be(f:Int):Int:=if f=0 then 0 else f-1
structure Ent where
 key:Nat
 v:Value
 pvs:List Value
 ps:List (List UInt8)
 born:Nat
def Ent.ie(e:Ent):IE:=((e.key:Int),e.v,e.born)
def Ent.row(e:Ent):Af:=grow 54 1 e.v e.pvs.length e.pvs
def Ent.Ok(hq:Hp)(e:Ent):Prop:=e.pvs.length=e.ps.length/\e.ps≠[]/\∀(j:Nat) (pv:Value) (p:List UInt8),e.pvs[j]?=some pv->e.ps[j]?=some p->p.length=256/\rdH 1 pv 256 (p.map u8) hq
def poolA(hq:Hp):Af:=λh=>CJ hq h
structure Dsk.Ok(D:Dsk):Prop where
 n1:1<=D.n
 n2:D.n<=4096
 dur:∀i,i<D.n->(D.dur i).length=256
 ver:∀i,i<D.n->∀p∈D.ver i,p.length=256
 f1:0<=D.f1/\D.f1<=1099511627776
 f2:0<=D.f2/\D.f2<=1099511627776
 f3:0<=D.f3/\D.f3<=1099511627776
 left:0<=D.left/\D.left<=1099511627776
structure Dsk.In(D:Dsk)(bs:List UInt8)(es:List Ent)(clk:Nat)(hq:Hp):Prop where
 len:bs.length=D.n*256
 own:∀i,i<D.n->(bs.drop (i*256)).take 256=D.dur i
 ent:∀e∈es,e.key<D.n/\e.ps=D.ver e.key/\e.Ok hq
 all:∀i,i<D.n->D.ver i≠[]->∃e∈es,e.key=i
 nodup:(es.map Ent.key).Nodup
 born:(es.map Ent.born).Nodup
 clk:∀e∈es,e.born<clk
def EY(pd bd m:Nat)(D:Dsk)(f0:Int)(bs:List UInt8)(es:List Ent)(clk:Nat)(hq:Hp):List Af:=
  [blk pd [.slice (some ⟨bd,0,none⟩) (D.n*256) (D.n*256),.map (some m),.int .i64 f0,.int .i64 D.f1,.int .i64 D.f2,.int .i64 D.f3,.bool D.cut,.int .i64 D.left] 83,
   blk bd (bs.map u8) 5,AH m (es.map Ent.ie) clk,poolA hq,seps (es.map Ent.row)]
def diskA(pd:Nat)(D:Dsk):Af:=λh=>∃(bd m:Nat) (f0:Int) (bs:List UInt8) (es:List Ent) (clk:Nat) (hq:Hp),(D.Ok/\D.In bs es clk hq)/\seps (EY pd bd m D f0 bs es clk hq) h
theorem diskA.ok{pd:Nat}{D:Dsk}{h:Hp}(a:diskA pd D h):D.Ok:=by
 obtain ⟨_,_,_,_,_,_,_,hp,_⟩:=a;exact hp.1
structure DskX where
 bd:Nat
 m:Nat
 f0:Int
 bs:List UInt8
 es:List Ent
 clk:Nat
 hq:Hp
theorem Sep.disk{z w:World}{Γ:List Af}{pd:Nat}{D:Dsk}(H:Sep z (diskA pd D::Γ) w):∃bd m f0 bs es clk hq,D.Ok/\D.In bs es clk hq/\Sep z (EY pd bd m D f0 bs es clk hq++Γ) w:=by
 obtain ⟨x,⟨b,c⟩,H⟩:=H.into (σ:=DskX) (p:=λx=>D.Ok/\D.In x.bs x.es x.clk x.hq) (As:=λx=>EY pd x.bd x.m D x.f0 x.bs x.es x.clk x.hq)
  (λh a=>by obtain ⟨bd,m,f0,bs,es,clk,hq,hp,hs⟩:=a;exact ⟨⟨bd,m,f0,bs,es,clk,hq⟩,hp,hs⟩)
 exact ⟨_,_,_,_,_,_,_,b,c,H⟩
theorem Sep.toDisk{z w:World}{Γ:List Af}{pd bd m:Nat}{D:Dsk}{f0:Int}{bs:List UInt8}{es:List Ent}{clk:Nat}{hq:Hp}(H:Sep z (EY pd bd m D f0 bs es clk hq++Γ) w)(b:D.Ok)(c:D.In bs es clk hq):Sep z (diskA pd D::Γ) w:=
 H.shut.mono 0 Z (λh a=>⟨_,_,_,_,_,_,_,⟨b,c⟩,a⟩)
theorem get_ent:∀(es:List Ent) (k:Nat),(es.map Ent.key).Nodup->(CO (es.map Ent.ie) (k:Int)=none/\∀e∈es,e.key≠k)\/∃(i:Nat) (e:Ent),es[i]?=some e/\e.key=k/\CO (es.map Ent.ie) (k:Int)=some e.v
 | [],k,_=>.inl ⟨Z,λe h=>by cases h⟩
 | e::es,k,hn=>by
  simp only[AeE,Afc] at hn;simp only[AeE,CO,Ent.ie];by_cases q:(k:Int)=(e.key:Int)
  ·exact .inr ⟨0,e,Z,by omega,by rw[if_pos q]⟩
  rw[if_neg q];rcases get_ent es k hn.2 with ⟨h1,h2⟩|⟨i,e',h1,h2,h3⟩
  ·exact .inl ⟨h1,λe' h=>by
    rcases Aei.1 h with rfl|h
    ·intro q';exact q (by rw[q'])
    exact h2 e' h⟩
  exact .inr ⟨i+1,e',by simpa using h1,h2,h3⟩
theorem Rd.at{sz:Nat}{a:Option Addr}{n c:Nat}{xs:List Value}{w:World}{u:Value}{j:Nat}(r:Rd sz (.slice a n c) n xs w)(h:xs[j]?=some u):At a j u w:=by
 obtain ⟨b,c',e,_,_,_,d⟩:=r;cases e;exact d j u h
theorem FO{As:List Af}{h:Hp}(hs:seps As h){i:Nat}{A:Af}(hi:As[i]?=some A):∃h',A h'/\CJ h' h:=by
 obtain ⟨own,a⟩:=hs;exact ⟨_,a i A hi,λk o e=>(El e).2⟩
theorem Aa3{D:Dsk}{bs:List UInt8}{es:List Ent}{clk:Nat}{hq:Hp}(d:D.In bs es clk hq){k:Nat}(o:k<D.n):
  ∃v a,(CO (es.map Ent.ie) (k:Int)).getD (.slice none 0 0)=v/\a.length=(D.ver k).length/\(∀h,seps (es.map Ent.row) h->rdH 1 v a.length a h)/\
   (∀(j:Nat) (c:Value) (p:List UInt8),a[j]?=some c->(D.ver k)[j]?=some p->∀h,poolA hq h->rdH 1 c 256 (p.map u8) h):=by
 rcases get_ent es k d.nodup with ⟨l,u⟩|⟨i,e,hi,g,l⟩
 ·have s:D.ver k=[]:=by
   cases hvk:D.ver k with
   | nil=>rfl
   | cons p ps=>
    obtain ⟨e,g,f⟩:=d.all k o (by rw[hvk];simp);exact absurd f (u e g)
  exact ⟨.slice none 0 0,[],by simp[l],by rw[s];rfl,λh _=>rdH.nil 1 h,λj c p h=>by simp at h⟩
 obtain ⟨_,m,r,y,x⟩:=d.ent e (Ad8 hi);subst g;refine ⟨e.v,e.pvs,by simp[l],r.trans (congrArg _ m),λh hs=>?_,λj c p q hp h t=>((x j c p q (by rw[m];exact hp)).2).le t⟩;obtain ⟨h',w,b⟩:=FO hs (i:=i) (A:=e.row) (by rw[Aej,hi];rfl);exact (grow.rd w).le b
def IK(D:Dsk)(k:Nat):Nat->List UInt8
 | 0=>D.dur k
 | _+1=>D.cont k
theorem JV{D:Dsk}{k:Nat}(h:D.ver k=[]):D.cont k=D.dur k:=by simp[Dsk.cont,h]
theorem Ms{D:Dsk}{k n:Nat}{p:List UInt8}(a:n=(D.ver k).length)(h:(D.ver k)[n-1]?=some p):D.cont k=p:=by
 subst a;simp[Dsk.cont,List.getLast?_eq_getElem?,h]
theorem Dsk.In.f{D:Dsk}{bs:List UInt8}{es:List Ent}{clk:Nat}{hq:Hp}(h:D.In bs es clk hq)(a b c:Int)(d:Bool)(e:Int):Dsk.In {D with f1:=a,f2:=b,f3:=c,cut:=d,left:=e} bs es clk hq:=
 ⟨h.len,h.own,h.ent,h.all,h.nodup,h.born,h.clk⟩
theorem Dsk.Ok.f{D:Dsk}(h:D.Ok){a b c e:Int}{d:Bool}(g:0<=a/\a<=1099511627776)(k:0<=b/\b<=1099511627776)(j:0<=c/\c<=1099511627776)(i:0<=e/\e<=1099511627776):Dsk.Ok {D with f1:=a,f2:=b,f3:=c,cut:=d,left:=e} :=
 ⟨h.n1,h.n2,h.dur,h.ver,g,k,j,i⟩
theorem Fg{f:Int}(h:0<=f/\f<=1099511627776):0<=Be f/\Be f<=1099511627776:=by unfold Be;split<;>omega
theorem Dsk.cont_len{D:Dsk}(h:D.Ok){i:Nat}(hi:i<D.n):(D.cont i).length=256:=by
 unfold Dsk.cont
 cases hl:(D.ver i).getLast? with
 | none=>exact h.dur i hi
 | some p=>exact h.ver i hi p (List.mem_of_getLast? hl)
abbrev stB(ps pd pt:Nat)(x:Sup)(lp:Value)(md:Nat)(un:Bool)(mo:Value):Af:=blk ps [.pointer (some ⟨pd,0,none⟩),.pointer (some ⟨pt,0,none⟩),.int .i64 x.gen,.int .i64 x.epoch,.int .i64 x.pages,.int .i64 x.start,.int .i64 x.len,.int .i64 x.head,.int .i64 x.seq,lp,.map (some md),.bool un,mo] 131
abbrev lgB(pl pd pt:Nat)(s:Sup)(a q u:Int)(b nu:Bool):Af:=blk pl [.pointer (some ⟨pd,0,none⟩),.pointer (some ⟨pt,0,none⟩),.int .i64 s.gen,.int .i64 s.epoch,.int .i64 s.pages,.int .i64 s.start,.int .i64 s.len,.int .i64 s.head,.int .i64 s.seq,.int .i64 a,.int .i64 q,.int .i64 u,.bool b,.bool nu] 227
theorem CK:Elt prog 5 (u8 0) 1 1:=Elt.mk J Z U U
theorem Cg:Elt prog 76 (.agg #[I 0,I 0,I 0,I 0,I 0,I 0]) 6 48:=Elt.mk J Z U U
theorem BP:Elt prog 74 (.agg #[I 0,I 0,I 0,.slice none 0 0]) 4 48:=Elt.mk J Z U U
theorem Bz:Elt prog 3 (I 0) 1 8:=Elt.mk J Z U U
theorem A0:Elt prog 79 (.agg #[I 0,Cj []]) 2 24:=Elt.mk J Z U U
theorem FF:Elt prog 257 (.agg #[I 0,I 0]) 2 16:=Elt.mk J Z U U
theorem Fv:Elt prog 146 (.agg #[I 0,.slice none 0 0]) 2 32:=Elt.mk J Z U U
theorem Dz:Elt prog 148 (.agg #[I 0,I 0,.slice none 0 0]) 3 40:=Elt.mk J Z U U
theorem Kz:Elt prog 54 (.slice none 0 0) 1 24:=Elt.mk J Z U U
theorem CX(x m:Int):Cn prog 86 [I x,I m] [] (λv Γ=>v=.bool (decide (0<=x/\x<=m))/\Γ=[]):=by
 intro z R w H;replace H:=H.l0;refine Ae func86 Z ntmps86 Z (Z0 10 [0] Z (Al 7 Z (λa=>?_) (λa=>?_)))
 ·refine Z0 8 [0] Z (Zr Z ?_);exact ⟨_,⟨congrArg Value.bool (by rw[Aer];simp<;>omega),Z⟩,H⟩
 refine Zc 8 Z (Zr Z ?_);exact ⟨_,⟨congrArg Value.bool (by rw[Aer];simp<;>omega),Z⟩,H⟩
theorem KA(pd bd m N:Nat)(f0 d b c lf:Int)(a:Bool)(hN:N<=9223372036854775807):Cn prog 77 [Y pd] [blk pd [.slice (some ⟨bd,0,none⟩) N N,.map (some m),I f0,I d,I b,I c,.bool a,I lf] 83] (λv Γ=>v=I ((N:Int)/256)/\Γ=[blk pd [.slice (some ⟨bd,0,none⟩) N N,.map (some m),I f0,I d,I b,I c,.bool a,I lf] 83]):=by
 intro z R w H;replace H:=H.l1;refine Ae func77 Z ntmps77 Z (Z3 17 [0,0,0] [(N:Int)/256] H Z U (Zr Z ?_));exact ⟨_,⟨Z,Z⟩,H⟩
theorem PW(pd bd m N:Nat)(f0 d c b lf:Int)(a:Bool)(x k:Int)(hN:N<=9223372036854775807):Cn prog 130 [Y pd,I x,I k] [blk pd [.slice (some ⟨bd,0,none⟩) N N,.map (some m),I f0,I d,I c,I b,.bool a,I lf] 83] (λv Γ=>v=.bool (decide (0<=x/\0<k/\x<(N:Int)/256/\k<=(N:Int)/256-x))/\Γ=[blk pd [.slice (some ⟨bd,0,none⟩) N N,.map (some m),I f0,I d,I c,I b,.bool a,I lf] 83]):=by
 intro z R w H;replace H:=H.l1;refine Ae func130 Z ntmps130 Z (Z0 10 [0] Z (Al 9 Z (λe=>?_) (λe=>?_)))
 ·refine Z0 4 [0] Z (Al 13 Z (λg=>?_) (λg=>?_))
  ·refine Zc 2 Z (z_E_ Z (call77 _) (KA _ _ _ _ _ _ _ _ _ _ U) H ?_);intro w H;refine Z0 3 [0] Z (Al 19 Z (λf=>?_) (λf=>?_))
   ·refine Zc 2 Z (z_E_ Z (call77 _) (KA _ _ _ _ _ _ _ _ _ _ U) H ?_);intro w H;refine Z1 8 [0] [((N:Int)/256)-x] Z U (Zr Z ?_);exact ⟨_,⟨congrArg Value.bool (by first|(rw[eq_comm,decide_eq_false_iff_not];omega)|(rw[Aer];simp<;>omega)),Z⟩,H⟩
   refine Zc 11 Z (Zr Z ?_);exact ⟨_,⟨congrArg Value.bool (by first|(rw[eq_comm,decide_eq_false_iff_not];omega)|(rw[Aer];simp<;>omega)),Z⟩,H⟩
  refine Zc 17 Z (Zr Z ?_);exact ⟨_,⟨congrArg Value.bool (by first|(rw[eq_comm,decide_eq_false_iff_not];omega)|(rw[Aer];simp<;>omega)),Z⟩,H⟩
 refine Zc 21 Z (Zr Z ?_);exact ⟨_,⟨congrArg Value.bool (by first|(rw[eq_comm,decide_eq_false_iff_not];omega)|(rw[Aer];simp<;>omega)),Z⟩,H⟩
theorem SH(pd bd m N:Nat)(f0 d b c lf:Int)(a:Bool):Cn prog 132 [Y pd] [blk pd [.slice (some ⟨bd,0,none⟩) N N,.map (some m),I f0,I d,I b,I c,.bool a,I lf] 83] (λv Γ=>v=.bool (a&&decide (lf=0))/\Γ=[blk pd [.slice (some ⟨bd,0,none⟩) N N,.map (some m),I f0,I d,I b,I c,.bool a,I lf] 83]):=by
 intro z R w H;replace H:=H.l1;refine Ae func132 Z ntmps132 Z (Z2 12 [6,0,0] H Z (FN 7 Z (λe=>?_) (λe=>?_)))
 ·refine Z2 10 [7,0,0,0] H Z (Zr Z ?_);exact ⟨_,⟨congrArg Value.bool (by simp_all),Z⟩,H⟩
 refine Zc 10 Z (Zr Z ?_);exact ⟨_,⟨congrArg Value.bool (by simp_all),Z⟩,H⟩
theorem UC(pd bd m N:Nat)(f0 a d c lf:Int)(b:Bool)(f:0<=a/\a<=9223372036854775807):Cn prog 131 [Y pd,I 1] [blk pd [.slice (some ⟨bd,0,none⟩) N N,.map (some m),I f0,I a,I d,I c,.bool b,I lf] 83] (λv Γ=>v=.bool (decide (a=1))/\Γ=[blk pd [.slice (some ⟨bd,0,none⟩) N N,.map (some m),I f0,I (if a=0 then 0 else a-1),I d,I c,.bool b,I lf] 83]):=by
 intro z R w H;replace H:=H.l1;refine Ae func131 Z ntmps131 Z (Z3 17 [2,4,1,1,3,0,0,0] [] H Z U (Ag Z (λe=>?_) (λe=>?_)))
 ·refine Zc 6 Z (Zr Z ?_);exact ⟨[blk pd [.slice (some ⟨bd,0,none⟩) N N,.map (some m),I f0,I a,I d,I c,.bool b,I lf] 83],⟨congrArg Value.bool (by first|(rw[Aer];simp<;>omega)|(simp_all<;>omega)),by simp_all⟩,H⟩
 refine Zc 3 Z (BG 10 J J (A5 H λw g=>?_));have H:=g.l1;refine EQ 10 [2,4,1,1,3,0,0,2,4,1,1,3] [a-1] H Z J U (CD (gw (Z5 16 [0,2,4,1,1,3,0,0,0] [] H Z U ?_)));intro w H;refine Zr Z ?_;exact ⟨[blk pd [.slice (some ⟨bd,0,none⟩) N N,.map (some m),I f0,I (a-1),I d,I c,.bool b,I lf] 83],⟨congrArg Value.bool (by first|(rw[Aer];simp<;>omega)|(simp_all<;>omega)),by simp_all⟩,H⟩
theorem UD(pd bd m N:Nat)(f0 d a c lf:Int)(b:Bool)(f:0<=a/\a<=9223372036854775807):Cn prog 131 [Y pd,I 2] [blk pd [.slice (some ⟨bd,0,none⟩) N N,.map (some m),I f0,I d,I a,I c,.bool b,I lf] 83] (λv Γ=>v=.bool (decide (a=1))/\Γ=[blk pd [.slice (some ⟨bd,0,none⟩) N N,.map (some m),I f0,I d,I (if a=0 then 0 else a-1),I c,.bool b,I lf] 83]):=by
 intro z R w H;replace H:=H.l1;refine Ae func131 Z ntmps131 Z (Z3 17 [2,4,1,2,4,0,0,0] [] H Z U (Ag Z (λe=>?_) (λe=>?_)))
 ·refine Zc 6 Z (Zr Z ?_);exact ⟨[blk pd [.slice (some ⟨bd,0,none⟩) N N,.map (some m),I f0,I d,I a,I c,.bool b,I lf] 83],⟨congrArg Value.bool (by first|(rw[Aer];simp<;>omega)|(simp_all<;>omega)),by simp_all⟩,H⟩
 refine Zc 3 Z (BG 10 J J (A5 H λw g=>?_));have H:=g.l1;refine EQ 10 [2,4,1,2,4,0,0,2,4,1,2,4] [a-1] H Z J U (CD (gw (Z5 16 [0,2,4,1,2,4,0,0,0] [] H Z U ?_)));intro w H;refine Zr Z ?_;exact ⟨[blk pd [.slice (some ⟨bd,0,none⟩) N N,.map (some m),I f0,I d,I (a-1),I c,.bool b,I lf] 83],⟨congrArg Value.bool (by first|(rw[Aer];simp<;>omega)|(simp_all<;>omega)),by simp_all⟩,H⟩
theorem UE(pd bd m N:Nat)(f0 d c a lf:Int)(b:Bool)(g:0<=a/\a<=9223372036854775807):Cn prog 131 [Y pd,I 3] [blk pd [.slice (some ⟨bd,0,none⟩) N N,.map (some m),I f0,I d,I c,I a,.bool b,I lf] 83] (λv Γ=>v=.bool (decide (a=1))/\Γ=[blk pd [.slice (some ⟨bd,0,none⟩) N N,.map (some m),I f0,I d,I c,I (if a=0 then 0 else a-1),.bool b,I lf] 83]):=by
 intro z R w H;replace H:=H.l1;refine Ae func131 Z ntmps131 Z (Z3 17 [2,4,1,3,5,0,0,0] [] H Z U (Ag Z (λe=>?_) (λe=>?_)))
 ·refine Zc 6 Z (Zr Z ?_);exact ⟨[blk pd [.slice (some ⟨bd,0,none⟩) N N,.map (some m),I f0,I d,I c,I a,.bool b,I lf] 83],⟨congrArg Value.bool (by first|(rw[Aer];simp<;>omega)|(simp_all<;>omega)),by simp_all⟩,H⟩
 refine Zc 3 Z (BG 10 J J (A5 H λw f=>?_));have H:=f.l1;refine EQ 10 [2,4,1,3,5,0,0,2,4,1,3,5] [a-1] H Z J U (CD (gw (Z5 16 [0,2,4,1,3,5,0,0,0] [] H Z U ?_)));intro w H;refine Zr Z ?_;exact ⟨[blk pd [.slice (some ⟨bd,0,none⟩) N N,.map (some m),I f0,I d,I c,I (a-1),.bool b,I lf] 83],⟨congrArg Value.bool (by first|(rw[Aer];simp<;>omega)|(simp_all<;>omega)),by simp_all⟩,H⟩
theorem Xg(pd bd m N:Nat)(f0 c d b lf:Int)(a:Bool)(i:Nat)(hN:N<=9223372036854775807)(hi:(i+1)*256<=N):Cn prog 135 [Y pd,I (i:Int)] [blk pd [.slice (some ⟨bd,0,none⟩) N N,.map (some m),I f0,I c,I d,I b,.bool a,I lf] 83] (λv Γ=>v=.slice (some ⟨bd,i*256,none⟩) 256 (N-i*256)/\Γ=[blk pd [.slice (some ⟨bd,0,none⟩) N N,.map (some m),I f0,I c,I d,I b,.bool a,I lf] 83]):=by
 intro z R w H;replace H:=H.l1;refine Ae func135 Z ntmps135 Z (Z3 16 [0,0,0] [(i:Int)*256,(i:Int)+1,((i:Int)+1)*256] H Z U (Ab Z (BK Z (z:=1) (p:=(i*256)) (q:=((i+1)*256)) (o':=i*256) (l':=256) (c':=N-i*256) J Z (.inr ⟨_,_,_,Z,Z,U⟩) (.inr ⟨_,_,_,Z,Z,U⟩) U U U U U U) (Zc 4 Z (Zr Z ?_))));exact ⟨_,⟨Z,Z⟩,H⟩
section
abbrev FX(ro:Option Nat):Fence:= {Fence.wide with round:=ro}
def RW(P:Program)(ro:Option Nat)(c:Code)(Q:Exit->Act->World->Prop)(a:Act)(w:World):Prop:=c.wpIn (FX ro) 0 P Q a w
section
variable{P:Program}{ro:Option Nat}{N R:Act->World->Prop}{X:Nat->Act->World->Prop}{a:Act}{w:World}{n:Nat}{ds:List Deferred}{L:List (Nat×Value)}
theorem CR{x y:Code}(h:∀a,Fr n ds L a->RW P ro x (Qp (λa w=>RW P ro y (Qp N X R) a w) X R) a w):∀a,Fr n ds L a->RW P ro (Code.seq x y) (Qp N X R) a w:=λa b=>
 wpIn_seq (wpIn_mono (h a b) λe a w q=>by cases e<;>exact q)
theorem Gr(h:∀a,Fr n ds L a->N a w):∀a,Fr n ds L a->RW P ro Code.skip (Qp N X R) a w:=λa b=>wpIn_skip (h a b)
theorem LD{id:Nat}(h:∀a,Fr n ds L a->X id a w):∀a,Fr n ds L a->RW P ro (Code.exit id) (Qp N X R) a w:=λa b=>wpIn_exit (h a b)
theorem D9{id:Nat}{c:Code}(h:∀a,Fr n ds L a->RW P ro c (Qp N (upd X id N) R) a w):∀a,Fr n ds L a->RW P ro (Code.block id c) (Qp N X R) a w:=λa b=>
 wpIn_block (wpIn_mono (h a b) λe a w q=>by cases e<;>exact q)
theorem XS{c:Operand}{x y:Code}(d:ev L c=some (.bool true))(h:∀a,Fr n ds L a->RW P ro x (Qp N X R) a w):∀a,Fr n ds L a->RW P ro (Code.cond c x y) (Qp N X R) a w:=λa b=>wpIn_cond_true (b.ev d) (h a b)
theorem Ip{c:Operand}{x y:Code}(d:ev L c=some (.bool false))(h:∀a,Fr n ds L a->RW P ro y (Qp N X R) a w):∀a,Fr n ds L a->RW P ro (Code.cond c x y) (Qp N X R) a w:=λa b=>wpIn_cond_false (b.ev d) (h a b)
theorem Jg{c:Operand}{x y:Code}{b:Bool}(d:ev L c=some (.bool b))(e:b=true->∀a,Fr n ds L a->RW P ro x (Qp N X R) a w)(f:b=false->∀a,Fr n ds L a->RW P ro y (Qp N X R) a w):∀a,Fr n ds L a->RW P ro (Code.cond c x y) (Qp N X R) a w:=by
 cases b with
 | true=>exact XS d (e Z)
 | false=>exact Ip d (f Z)
theorem Aa4{c:Operand}{x y:Code}{p:Prop}[hp:Decidable p](d:ev L c=some (.bool (decide p)))(b:p->∀a,Fr n ds L a->RW P ro x (Qp N X R) a w)(e:¬p->∀a,Fr n ds L a->RW P ro y (Qp N X R) a w):∀a,Fr n ds L a->RW P ro (Code.cond c x y) (Qp N X R) a w:=
 Jg d (λh=>b (of_decide_eq_true h)) (λh=>e (of_decide_eq_false h))
theorem LE{c:Code}{σ:Type}(i:σ->List (Nat×Value))(G:σ->World->Prop)(m:σ->Nat)(z:σ)
  (h₀:∀a,Fr n ds L a->Fr n ds (i z) a)(g₀:G z w)
  (f:∀s w,G s w->∀a,Fr n ds (i s) a->RW P ro c (Qp (λa' h=>∃r,Fr n ds (i r) a'/\G r h/\m r<m s) X R) a w):∀a,Fr n ds L a->RW P ro (Code.loop c) (Qp N X R) a w:=by
 intro a hF b k cs o t u;have key:∀n' s a w,m s=n'->Fr n ds (i s) a->G s w->
   ∃e a' h,Qp N X R e a' h/\ArrivesIn (Machine.fenced P (FX ro)) P (lone (b.atR a (.code c:: .inLoop c::k)) cs w) b k cs e a' h:=by
  intro n'
  induction n' using Nat.strongRecOn with
  | _ n' ih=>
   intro s a w hn hI hG;obtain ⟨e,y,v,hq,d⟩:=f s w hG a hI b (.inLoop c::k) cs o t u
   cases e with
   | normal=>
    obtain ⟨s₁,j,p,a0⟩:=hq;obtain ⟨e₂,a₂,w₂,q,g⟩:=ih (m s₁) (hn▸a0) s₁ y v Z j p;exact ⟨e₂,a₂,w₂,q,.of_steps (StepsIn.trans d (.one (fenced_calm t u Z) stepR_inLoop)) g⟩
   | exit id=>exact ⟨.exit id,y,v,hq,.pass (x:=.inLoop c) Z (λ_ _=>.inl O) d⟩
   | ret=>exact ⟨.ret,y,v,hq,.pass (x:=.inLoop c) Z (λ_ _=>.inl O) d⟩
   | goto l=>exact hq.elim
   | panic ch=>exact hq.elim
   | outgrown=>exact hq.elim
 obtain ⟨e,a',h,hq,d⟩:=key _ z a w Z (h₀ a hF) g₀;exact ⟨e,a',h,hq,.of_steps (.one (fenced_calm t u Z) stepR_loop) d⟩

def De(o:Oper):Bool:=match o.op with| .defer _=>false|_=>true
theorem Rj{o:Oper}(h:De o=true):∀c,o.op≠ .defer c:=λc e=>by rw[De,e] at h;cases h
theorem NF(o:Oper)(h:De o=true)(ρ:Operand->Value):Oper.semAt ro ρ o=execOp ρ o:=by
 cases ro with
 | none=>rfl
 | some l=>exact Oper.semAt_some l ρ o (Rj h)
theorem UF{f:FuncId}{args:Array Value}{E:Ending->World->Prop}(h:Calls P f args w E)(k:Nat):CallsIn (FX ro) k P f args w E:=callsIn_wide.2 h
theorem XT{a:String}{args:Array Value}{E:Value->World->Prop}(h:Rows P a args w E)(k:Nat):RowsIn (FX ro) k P a args w E:=λc cs _=>
 let ⟨v,w',r,s⟩:=h c cs;⟨v,w',r,stepsIn_wide.2 s⟩
theorem PX{o:Oper}(c:De o=true){K:Act->World->Prop}(h:o.wp P a w K (Qp N X R)):o.wpIn (FX ro) 0 P a w K (Qp N X R):=by
 refine ⟨λ_ _=>trivial,?_⟩;rw[show (FX ro).round=ro from Z,NF o c];unfold Oper.wp at h
 cases hr:(execOp a.eval o).run P w with
 | ok x w'=>
  rw[hr] at h;cases x<;>simp only[Oper.upon,Oper.uponIn] at h ⊢ <;>first
   | exact h
   | exact h.elim
   | exact ⟨λq=>(by cases q),UF (Ago h λe b q=>by cases e<;>exact q) _⟩
   | exact ⟨λq=>(by cases q),XT h _⟩
 | halt x w'=>
  rw[hr] at h;cases x<;>simp only[Oper.upon,Oper.uponIn] at h ⊢ <;>first
   | exact h
   | exact h.elim
theorem SI{Q:Exit->Act->World->Prop}{N R:Act->World->Prop}{X:Nat->Act->World->Prop}(b:Q=Qp N X R):¬LetsOut Q:=by
 subst b;rintro ⟨a,w,h⟩;exact h
theorem LF{ops:Array Oper}:∀(l:List Oper) (a:Act) (w:World),l.all De=true->wpList P ops (Qp N X R) l a w->wpListIn (FX ro) 0 P ops (Qp N X R) l a w
 | [],_,_,_,h=>h
 | o::rest,a,w,hd,h=>by
  simp only[List.all_cons,Aex] at hd;unfold wpList at h;unfold wpListIn;split
  ·rename_i hw
   rw[if_pos hw] at h;rcases h with h|⟨_,h⟩
   ·exact Oper.wpIn_mono (λa w q=>LF rest a w hd.2 q) (PX hd.1 h)
   exact absurd h (SI Z)
  rename_i hw;rw[if_neg hw] at h;exact ⟨λ_ _=>trivial,LF rest _ _ hd.2 h⟩
theorem Ce{id:Nat}{ops:List Oper}(h:∀a,Fr n ds L a->wpList P ops.toArray (Qp N X R) ops a w)(c:ops.all De=true:=by rfl):∀a,Fr n ds L a->RW P ro (Code.region id ops.toArray false) (Qp N X R) a w:=λa b=>
 wpIn_region_lit (LF ops a w c (h a b))
theorem AcX{ops:Array Oper}(d:ops.toList.all De=true){i:Nat}{K:Act->World->Prop}(h:wpOp P ops (Qp N X R) i K a w):wpOpIn (FX ro) 0 P ops (Qp N X R) i K a w:=by
 unfold wpOp at h;unfold wpOpIn;split
 ·rename_i e;rw[e] at h;exact h
 rename_i o e;rw[e] at h;simp only at h;have b:De o=true:=AfW.1 d o (by
  have:=AhF e;simpa using this)
 split
 ·rename_i c
  rw[if_pos c] at h;rcases h with h|⟨_,h⟩
  ·exact PX b h
  exact absurd h (SI Z)
 rename_i c;rw[if_neg c] at h;exact ⟨λ_ _=>trivial,h⟩
theorem NG{ops:Array Oper}(hd:ops.toList.all De=true):∀(fuel:Nat) (listed:Array Bool) (a:Act) (w:World),wpAny P .any ops (Qp N X R) fuel listed a w->wpAnyIn (FX ro) 0 P .any ops (Qp N X R) fuel listed a w
 | 0,_,_,_,h=>h
 | fuel+1,_,_,_,h=>⟨h.1,λi hi=>wpOpIn_mono (λa w q=>NG hd fuel _ a w q) (AcX hd (h.2 i hi))⟩
theorem IL{id:Nat}{ops:List Oper}(S:World->Prop)(k:Nat)(c:ops.length=k)(d:P.follows .mixedOrders=true)
  (h:∀b,Ext No w b->b.heap.size=w.heap.size->∀a,Fr n ds L a->GB P ops (Qp N X R) S k (Array.replicate k false) a b)(f:ops.all De=true:=by rfl):∀a,Fr n ds L a->RW P ro (Code.region id ops.toArray true) (Qp N X R) a w:=λa e=>
 wpIn_region_any d (NG (by simpa using f) _ _ _ _ (Ig (S:=S) _ _ _ _ (by have:=h _ (Ext.drawn No w) Z a e (Dc.start _ _) (by simp[c]);simpa [c] using this)))
theorem SJ{id:Nat}{ops:List Oper}(C:World->Prop)(e:P.follows .mixedOrders=true)(g:Region.lexB .any ops.toArray=true)(f:C w.drew)
  (h:∀a,Fr n ds L a->wpQuiet P ops.toArray C (λa'=>∀c,C c->N a' c) ops a)(j:ops.all De=true:=by rfl):∀a,Fr n ds L a->RW P ro (Code.region id ops.toArray true) (Qp N X R) a w:=λa i=>by
 refine wpIn_region_any e (NG (by simpa using j) _ _ _ _ ?_);have b:=g;simp only[Region.lexB,Aex] at b;refine wpAny_of_quiet (C:=C) (Q:=λa'=>∀c,C c->N a' c) (λ_ c d h=>h c d) _ _ _ _ f ?_;have:=wpAnyQ_lex (C:=C) (md:=.any) b.1 ops.toArray.toList 0 (Array.replicate ops.toArray.size false) a O (by simpa using b.2) (h a i);simpa using this

section steps
variable{ops:List Oper}{Q:Exit->Act->World->Prop}{rest:List Oper}{o:Oper}{d:Nat}{v:Value}
theorem JX{id:Nat}(h:∀a,Fr n ds L a->wpListIn (FX ro) 0 P ops.toArray (Qp N X R) ops a w):∀a,Fr n ds L a->RW P ro (Code.region id ops.toArray false) (Qp N X R) a w:=λa b=>wpIn_region_lit (h a b)
theorem Rk(h:∀a,Fr n ds L a->N a w):∀a,Fr n ds L a->wpListIn (FX ro) 0 P ops.toArray (Qp N X R) [] a w:=h
theorem Eq(g:BL ops L o.guard=true)(h:o.dst=some d)(e:Nat.blt d n=true)(b:Ar P (· =w) n ds L o v)(K:∀a',Fr n ds ((d,v)::L) a'->wpListIn (FX ro) 0 P ops.toArray Q rest a' w)(c:De o=true:=by rfl):∀a,Fr n ds L a->wpListIn (FX ro) 0 P ops.toArray Q (o::rest) a w:=by
 intro a f;unfold wpListIn;rw[if_pos (wantL_ok f g)];refine ⟨λ_ _=>trivial,?_⟩;rw[show (FX ro).round=ro from Z,NF o c,b a f w Z,Oper.uponIn_value,h];exact K _ (f.put d v e)
theorem LG{l:Nat}{x:Operand}{args:List Operand}{vs:List Value}{tys:Array TypeId}{E:Ending->World->Prop}(u:BL ops L o.guard=true)(t:o.dst=some d)(p:Nat.blt d n=true)
  (s:o.op=.call {callee:=.value x,args:=args.toArray,argTypes:=tys})(hx:ev L x=some (.func (.yield l) #[] #[]))(g:evs L args=some vs)(i:YieldAt (FX none) 0 P l vs.toArray w E)
  (hE:∀e k,E e k->∃v,e=.returned v/\∀a',Fr n ds ((d,v)::L) a'->wpListIn (FX ro) 0 P ops.toArray Q rest a' k):∀a,Fr n ds L a->wpListIn (FX ro) 0 P ops.toArray Q (o::rest) a w:=by
 intro a j;obtain ⟨r,c,b,f,i,z⟩:=i;have m:De o=true:=by rw[De,s]
 unfold wpListIn;rw[if_pos (wantL_ok j u)];refine ⟨λ_ _=>trivial,?_⟩;have e1:=j.evs g;have e2:=j.ev hx;have h:(execOp a.eval o).run P w=.ok (.round l r c b f) w:=by
  unfold execOp;simp only[s,resolve,e2,Deferred.ofValue,invoke];simp only[go_sem,AeR,e1,AeL,AeQ,i];simpa using i
 rw[show (FX ro).round=ro from Z,NF o m,h,Oper.uponIn_round];refine ⟨λq=>(by cases q),RoundIn.mono (show RoundIn (FX ro) 0 P l r c b f w E from z) λe k q=>?_⟩;obtain ⟨v,rfl,y⟩:=hE e k q;simp only[t];exact y _ (j.put d v p)
end steps
end

def It(P:Program)(gf:FuncId)(lb:List Value)(pre:List Af)(vs:List (List Value)):Prop:=
 ∀(z:World) (l:Nat) (J_:Nat->List Af),(∀i v,vs[i]?=some v->∀w,Sep z (pre++J_ i) w->YieldAt (FX none) 0 P l v.toArray w (λe w'=>e=.returned (.bool true)/\Sep z (pre++J_ (i+1)) w'))->
  ∀w,Sep z (pre++J_ 0) w->CallsIn (FX none) 0 P gf (#[Value.func (.yield l) #[] #[]]++lb.toArray) w (λe w'=>(∃v,e=.returned v)/\Sep z (pre++J_ vs.length) w')
theorem JY{P:Program}{gf:FuncId}{d:Func}{c:Code}{args:List Value}{w:World}{T:World->Prop}(i:P.funcs[gf]?=some d)(g:d.body=some c)(f:d.results= #[])(n:Nat)(j:d.ntmps=n)(b:Nat.ble args.length n=true)
  (h:∀a,Fr n [] (first 0 args) a->RW P none c (Qp (λa w=>a.defers=[]/\T w) IC (λa w=>a.defers=[]/\T w)) a w):CallsIn (FX none) 0 P gf args.toArray w (λe w'=>(∃v,e=.returned v)/\T w'):=by
 refine callsIn_of_wp i g trivial (wpIn_mono (h _ (by rw[j];exact Fr.start args n (by simpa using b))) λe a w q=>?_) Z
 cases e with
 | normal=>exact ⟨q.1,.tuple #[],by simp[results,f,go_sem],⟨_,Z⟩,q.2⟩
 | ret=>exact ⟨q.1,.tuple #[],by simp[results,f,go_sem],⟨_,Z⟩,q.2⟩
 | exit id=>exact q.elim
 | goto l=>exact q.elim
 | panic ch=>exact q.elim
 | outgrown=>exact q.elim
def mark(D:Nat):Deferred:= {target:=.collected D,args:= #[]}
def B4(st:LoopState)(fn:FuncId)(tmps:Array Value)(t:Nat)(assign body:Code)(D:Nat):Obj:=.loop {state:=st,pending:=none,fn,tmps,params:= #[t],assign,body,defers:=D}
theorem Sep.setObj{z w:World}{Γ:List Af}(i:Nat){b:Nat}{o:Obj}(o':Obj)(H:Sep z Γ w)(c:Γ[i]?=some (YtnifkcmmanmbbaaGreatDoor.bk b o)):Sep z (Γ.set i (YtnifkcmmanmbbaaGreatDoor.bk b o')) (w.putObj b o'):=by
 have e:=H.bk i c;have a:b<w.heap.size:=(AeU.1 e).1;exact H.write i c Z Z Z (World.putObj_heap_same a) (λk d=>World.putObj_heap_other d)
theorem XU{P:Program}{N R:Act->World->Prop}{X:Nat->Act->World->Prop}{z w:World}{n:Nat}{ds:List Deferred}{L:List (Nat×Value)}{g:Operand}{t:Nat}{assign body:Code}{gf:FuncId}{s:List Value}{pre:List Af}{vs:List Value}
  (J_:Nat->List Af)(hg:ev L g=some (.func (.func gf) #[] s.toArray))(eg:∀args w,(callFunc gf args).run P w=.ok (.enter gf args) w)(ht:Nat.blt t n=true)(a0:It P gf s pre (vs.map λv=>[v]))(H:Sep z (J_ 0++pre) w)
  (c:∀(ro:Option Nat) (i:Nat) (v:Value),vs[i]?=some v->∀w a,Fr n [] ((t,v)::L) a->
   RW P ro assign (Qp (λa1 w1=>w1=w/\∀(F:List Af) (w:World),Sep z (J_ i++(pre++F)) w->RW P ro body (Qp (λ_ r=>Sep z (J_ (i+1)++(pre++F)) r) IC (λ_ _=>False)) a1 w) IC (λ_ _=>False)) a w)
  (K:∀D w',Sep z (YtnifkcmmanmbbaaGreatDoor.bk D (.deferred (some []))::(J_ vs.length++pre)) w'->∀a,Fr n (mark D::ds) L a->N a w'):
  ∀a,Fr n ds L a->(Code.rangeFunc g #[t] assign body).wp P (Qp N X R) a w:=by
 intro a m;refine (wpIn_wide (n:=0)).1 ?_;refine wpIn_rangeFunc ?_;intro fn _;have a2:Fence.wide.round=none:=rfl;rw[a2];obtain ⟨W1,k⟩:∃W1,(w.alloc (.deferred (some []))).alloc (B4 .ready fn a.tmps t assign body w.heap.size)=W1:=⟨_,Z⟩;obtain ⟨D,hD⟩:∃D,D=w.heap.size:=⟨_,Z⟩;obtain ⟨T,hT⟩:∃T:List Af,T=[YtnifkcmmanmbbaaGreatDoor.bk D (.deferred (some [])),YtnifkcmmanmbbaaGreatDoor.bk (D+1) (B4 .ready fn a.tmps t assign body D)]:=⟨_,Z⟩;have H1:Sep z (pre++(T++J_ 0)) W1:=by
  have h1:=H.new (b:=w.heap.size) (o:=.deferred (some [])) (Ds w (.deferred (some []))) (Aed _) (by show (w.heap.push _)[w.heap.size]?=_;simp);have h2:=h1.new (b:=w.heap.size+1) (o:=B4 .ready fn a.tmps t assign body w.heap.size) (Ds _ (B4 .ready fn a.tmps t assign body w.heap.size)) O (by
   show ((w.heap.push _).push _)[w.heap.size+1]?=_;rw[Ag6,if_pos O])
  have h3:Sep z (YtnifkcmmanmbbaaGreatDoor.bk (w.heap.size+1) (B4 .ready fn a.tmps t assign body w.heap.size)::YtnifkcmmanmbbaaGreatDoor.bk w.heap.size (.deferred (some []))::(J_ 0++pre)) W1:=k▸h2;have h4:=(h3.pick 2 [1,0] Z);have h5:Sep z (T++(J_ 0++pre)) W1:=by rw[hT,hD];exact h4
  exact (Sep.swap (As:=T++J_ 0) (Bs:=pre) (by rw[Aec];exact h5))
 refine ⟨w.heap.size+1,[mark w.heap.size],W1,{target:=.fn (.func gf) s.toArray,args:= #[.func (.yield (w.heap.size+1)) #[] #[]]},W1,gf,#[.func (.yield (w.heap.size+1)) #[] #[]]++s.toArray,W1,?_,?_,λ_ _=>trivial,?_,λq=>(by cases q),?_⟩
 ·rw[<-k];exact run_enterLoop_outer _ _ _ _ _
 ·simp only[resolve,m.ev hg]
  simp[go_sem]
 ·simp[invoke,go_sem,eg]
 rw[<-hD] at k ⊢;have d:∀{i:Nat} {w:World},Sep z (pre++(T++J_ i)) w->Sep z (YtnifkcmmanmbbaaGreatDoor.bk D (.deferred (some []))::YtnifkcmmanmbbaaGreatDoor.bk (D+1) (B4 .ready fn a.tmps t assign body D)::(J_ i++pre)) w:=λh=>by
  have:=h.swap;rw[Aec,hT] at this;exact this
 have f:∀(i:Nat) (w:World),Sep z (YtnifkcmmanmbbaaGreatDoor.bk D (.deferred (some []))::YtnifkcmmanmbbaaGreatDoor.bk (D+1) (B4 .ready fn a.tmps t assign body D)::(J_ i++pre)) w->Sep z (pre++(T++J_ i)) w:=λi w h=>by
  have h':Sep z (T++(J_ i++pre)) w:=by rw[hT];exact h
  exact (Sep.swap (As:=T++J_ i) (Bs:=pre) (by rw[Aec];exact h'))
 have key:=a0 z (D+1) (λi=>T++J_ i) ?_ W1 H1
 ·refine CallsIn.mono (show CallsIn Fence.wide 0 P gf _ W1 _ from key) ?_
  rintro e w2 ⟨⟨v,rfl⟩,H2⟩;simp only[Aea] at H2;have H2:=d H2;refine ⟨none,_,run_endLoop (H2.bk 1 Z) O,?_⟩;refine K D _ ?_ _ ⟨m.size,by show [mark D]++a.defers=_;rw[m.defers];rfl,m.get⟩;have H3:=H2.setObj 1 (.loop {state:=.exhausted,pending:=none,fn,tmps:=a.tmps,params:= #[t],assign,body,defers:=D}) Z;exact H3.pick 2 [0] Z
 intro i v hv w2 H2;rw[Aej] at hv;obtain ⟨u,hu,rfl⟩:=Agr.1 hv;have H2:=d H2;have hy:=run_yield (P:=P) (args:=[u].toArray) (H2.bk 1 Z) O;refine ⟨fn,_,assign,body,hy,?_⟩;refine roundIn_of_wpIn (F:=FX none) trivial ?_;have y:Fr n [] ((t,u)::L) {tmps:=(((#[t]:Array Tmp).zip [u].toArray).foldl (λtmps (x:Tmp×Value)=>tmps.setIfInBounds x.1 x.2) a.tmps),defers:=[]} :=by
  have h0:Fr n [] L {tmps:=a.tmps,defers:=[]} :=⟨m.size,Z,m.get⟩;have:=h0.put t u ht;simpa [Act.put] using this
 have hr:=c (some (D+1)) i u hu w2 _ y;refine wpIn_mono (show assign.wpIn ((FX none).inRound (D+1)) 0 P _ _ w2 from hr) ?_;intro e a1 w1 q
 cases e with
 | normal=>
  obtain ⟨rfl,j⟩:=q;refine ⟨_,run_beginRound (H2.bk 1 Z) Z,?_⟩;have H3:=H2.setObj 1 (B4 .busy fn a.tmps t assign body D) Z;have H4:Sep z ([YtnifkcmmanmbbaaGreatDoor.bk D (.deferred (some [])),YtnifkcmmanmbbaaGreatDoor.bk (D+1) (B4 .busy fn a.tmps t assign body D)]++(J_ i++pre)) _:=H3;have H5:=H4.swap;rw[Aec] at H5;refine wpIn_mono (show body.wpIn ((FX none).inRound (D+1)) 0 P _ _ _ from j _ _ H5) ?_;intro e a3 r p
  cases e with
  | normal=>
   have H6:Sep z (J_ (i+1)++(pre++[YtnifkcmmanmbbaaGreatDoor.bk D (.deferred (some [])),YtnifkcmmanmbbaaGreatDoor.bk (D+1) (B4 .busy fn a.tmps t assign body D)])) r:=p;rw[<-Aec] at H6;have H7:Sep z (YtnifkcmmanmbbaaGreatDoor.bk D (.deferred (some []))::YtnifkcmmanmbbaaGreatDoor.bk (D+1) (B4 .busy fn a.tmps t assign body D)::(J_ (i+1)++pre)) r:=H6.swap;refine ⟨_,_,run_endRound none (H7.bk 1 Z),Z,f _ _ ?_⟩;exact H7.setObj 1 (B4 .ready fn a.tmps t assign body D) Z
  | exit id=>exact p.elim
  | ret=>exact p.elim
  | goto l=>exact p.elim
  | panic ch=>exact p.elim
  | outgrown=>exact p.elim
 | exit id=>exact q.elim
 | ret=>exact q.elim
 | goto l=>exact q.elim
 | panic ch=>exact q.elim
 | outgrown=>exact q.elim

def KB(P:Program)(fn:Func)(R:Value->World->Prop)(a:Act)(w:World):Prop:=
 (a.defers=[]/\∃v,(results fn a.tmps).run P w=.ok v w/\R v w)\/∃D w',a.defers=[mark D]/\(Instr.takeDeferred D).run P w=.ok [] w'/\∃v,(results fn a.tmps).run P w'=.ok v w'/\R v w'
theorem NH{P:Program}{f:FuncId}{b:Func}{c:Code}{args:List Value}{w:World}{R:Value->World->Prop}(o:P.funcs[f]?=some b)(m:b.body=some c)(n:Nat)(p:b.ntmps=n)(d:Nat.ble args.length n=true)
  (h:∀a,Fr n [] (first 0 args) a->c.wp P (Qp (KB P b R) IC (KB P b R)) a w):Calls P f args.toArray w (Ret R):=by
 refine (callsIn_wide (n:=0)).1 (callsIn_of_wp_marks o m trivial (wpIn_mono ((wpIn_wide (n:=0)).2 (h _ (by rw[p];exact Fr.start args n (by simpa using d)))) λe a w q=>?_) Z);have fin:KB P b R a w->LeavesInM Fence.wide 0 P b a.tmps (Ret R) a.defers .returning w:=λq=>by
  rcases q with ⟨j,v,i,g⟩|⟨D,r,j,k,v,i,g⟩
  ·rw[j];exact ⟨v,i,g⟩
  rw[j];exact ⟨by simp,.inl ⟨D,r,Z,k,v,i,g⟩⟩
 cases e with
 | normal=>exact fin q
 | ret=>exact fin q
 | exit id=>exact q.elim
 | goto l=>exact q.elim
 | panic ch=>exact q.elim
 | outgrown=>exact q.elim
theorem NI{P:Program}{b:Func}{R:Value->World->Prop}{n:Nat}{L:List (Nat×Value)}{w:World}{rs:List ResultVar}(c:b.results=rs.toArray)(vs:List Value)(e:EN P L w rs vs){v:Value}(d:GY vs=v)(h:R v w):∀a,Fr n [] L a->KB P b R a w:=λa f=>.inl (Fq c vs e d h a f)
theorem NJ{P:Program}{b:Func}{R:Value->World->Prop}{n D:Nat}{L:List (Nat×Value)}{z w:World}{Γ:List Af}(H:Sep z (YtnifkcmmanmbbaaGreatDoor.bk D (.deferred (some []))::Γ) w){rs:List ResultVar}(e:b.results=rs.toArray)(vs:List Value)(d:∀w,EN P L w rs vs){v:Value}(f:GY vs=v)(h:∀w,Sep z Γ w->R v w):∀a,Fr n [mark D] L a->KB P b R a w:=λa c=>
 .inr ⟨D,w.putObj D (.deferred none),c.defers,run_takeDeferred (H.bk 0 Z),v,by rw[<-f];exact Hi c e (d _),h _ ((H.setObj 0 (.deferred none) Z).pick 1 [] Z)⟩
end
section
def GG(r m clk:Nat)(seen:List Nat):Af:=bk r (.mapIter (some m) clk seen.toArray clk)
def Ck(l:List IE)(seen:List Nat):List IE:=l.filter λp=> !seen.contains p.2.2
theorem C6{l:List IE}{seen:List Nat}{p:IE}(h:p∈Ck l seen):p∈l/\p.2.2∉seen:=by
 simpa [Ck] using h
theorem SK(l:List IE)(seen:List Nat):(l.map Cu).toArray.filter (λe=> !seen.toArray.contains e.born)=((Ck l seen).map Cu).toArray:=by
 simp[Ck,Agc,Function.comp_def];rfl
theorem EB{l:List IE}{seen:List Nat}{p:IE}(h:p∈Ck l seen):(Ck l (seen++[p.2.2])).length<(Ck l seen).length:=by
 obtain ⟨b,c⟩:=C6 h;unfold Ck;refine filter_lt _ _ (λx a=>?_) p ?_ ?_ l b
 ·simp only[List.contains_eq_mem,Aek,Bool.not_eq_true',decide_eq_false_iff_not,not_or] at a ⊢;exact a.1
 ·simpa using c
 simp
def SL:Option IE->Value
 | none=>.tuple #[.bool false]
 | some p=>.tuple #[.bool true,.int .i64 p.1,p.2.1]
def JJ(seen:List Nat):Option IE->List Nat
 | none=>seen
 | some p=>seen++[p.2.2]
def nxP(l:List IE)(seen:List Nat):Option IE->Prop
 | none=>Ck l seen=[]
 | some p=>p∈Ck l seen
section
variable{P:Program}{C:World->Prop}{o:Oper}{w z:World}{Γ:List Af}{n:Nat}{ds:List Deferred}{L:List (Nat×Value)}{x y:Operand}
theorem Pp{r m clk:Nat}{seen:List Nat}{l:List IE}(n:w.heap[r]?=some (.mapIter (some m) clk seen.toArray clk))(hm:w.heap[m]?=some (.map (l.map Cu).toArray clk))(d:∀p∈l,p.2.2<clk)(ty:TypeId):
  ∃q:Option IE,nxP l seen q/\∃a:World,(a=w\/a=w.drew)/\(Instr.next (Y r) false ty).run P w=.ok (SL q) {a with heap:=a.heap.setIfInBounds r (.mapIter (some m) clk (JJ seen q).toArray clk)} :=by
 have a0:r<w.heap.size:=(AeU.1 n).1;have hE:∀x∈(l.map Cu).toArray.toList,x.born<clk:=λx c=>by
  simp only[Aeh] at c;obtain ⟨p,hp,rfl⟩:=c;exact d p hp
 simp only[Instr.next,getObj,Aeq,Sem.run,n,hm,Result.andThen,next_test_false seen.toArray _ clk clk hE (Aed _),Afm,if_false];rw[SK];have b:∀p∈Ck l seen,p.2.2<clk:=λp hp=>d p (C6 hp).1;generalize hG:Ck l seen=G at b;have e1:((G.map Cu).toArray).filter (λx=>decide (x.born<clk))=(G.map Cu).toArray:=Array.filter_eq_self.2 (λx c=>by
  simp only[List.mem_toArray,Aeh] at c;obtain ⟨p,hp,rfl⟩:=c;exact decide_eq_true (b p hp))
 have e2:((G.map Cu).toArray).filter (λx=>decide (x.born>=clk))= #[]:=by
  rw[Array.filter_eq_empty_iff];intro x c;simp only[List.mem_toArray,Aeh] at c;obtain ⟨p,hp,rfl⟩:=c;have:=b p hp;simp[Cu];omega
 simp only[e1,e2,Array.append_empty];have h:∀u:World,u.heap=w.heap->({u with heap:=u.heap.setIfInBounds r (.mapIter (some m) clk seen.toArray clk)} :World)=u:=λu hu=>by
  have:u.heap.setIfInBounds r (.mapIter (some m) clk seen.toArray clk)=u.heap:=by
   rw[hu];apply Array.ext_getElem?;intro k;rw[Array.getElem?_setIfInBounds];split
   ·rename_i e;subst e;exact n.symm
   rfl
  rw[this]
 cases G with
 | nil=>
  refine ⟨none,hG,w,.inl Z,?_⟩;show _=Result.ok _ ({w with heap:=w.heap.setIfInBounds r (.mapIter (some m) clk seen.toArray clk)} :World);rw[h w Z];simp[choose,Sem.run,Question.forced,SL]
 | cons p0 G=>
  have t:((((p0::G).map Cu).toArray).isEmpty)=false:=by simp[Array.isEmpty]
  simp only[t,Afm,if_false,Array.empty_append,Array.size_map];generalize hK:(p0::G)=K at hG;have o:0<K.length:=by rw[<-hK];simp
  have s:∃(j:Nat) (a:World),j<K.length/\(a=w\/a=w.drew)/\(choose (Question.mapNext ((K.map Cu).toArray).size)).run P w=.ok j a:=by
   by_cases hf:((K.map Cu).toArray).size<=1
   ·exact ⟨0,w,by omega,.inl Z,by simp only[choose,Sem.run,Question.forced,hf,decide_true,if_true]⟩
   rw[List.size_toArray,Aea] at hf ⊢;exact ⟨(Question.mapNext K.length).cut (w.tape w.drawn (Question.mapNext K.length)),w.drew,Nat.mod_lt _ o,.inr Z,by
    simp only[choose,Sem.run,Question.forced,decide_eq_true_eq,hf,if_false,Afm];rfl⟩
  obtain ⟨j,a,z,i,f⟩:=s;have v:a.heap=w.heap:=by rcases i with rfl|rfl<;>rfl
  refine ⟨some K[j],by show K[j]∈Ck l seen;rw[hG];exact AfJ z,a,i,?_⟩;have g:∀o':Obj,(setObj r o').run P a=.ok () {a with heap:=a.heap.setIfInBounds r o'} :=λo'=>by
   simp[setObj,Sem.run,v,n]
  have y:((K.map Cu).toArray)[j]?=some (Cu K[j]):=by simp[z]
  simp only[f,Array.getElem?_map,y,AeN,Aeq,g,Result.andThen];simp[SL,JJ,Cu,Sem.run]
theorem HD(j:Nat){t e:TypeId}{m clk:Nat}{l:List IE}(H:Sep z Γ w)(d:Γ[j]?=some (AH m l clk))(i:o.op=.range t x)(c:EO P t=some e)(h:ev L x=some (.map (some m))):
  Cy P n ds L o w (λv w'=>∃r,v=Y r/\Sep z (GG r m clk []::Γ) w'):=λa g=>by
 obtain ⟨b,p,f,k⟩:=D4 c;refine ⟨_,_,?_,w.heap.size,Z,H.new (Ds w (.mapIter (some m) clk #[] clk)) (Aed _) (by show (w.heap.push _)[w.heap.size]?=_;simp)⟩;simp only[execOp,i,g.ev h,Aeq,run_range_map w t b e m _ clk f (H.bk j d),Aem,Aev];rfl
theorem IM(i j:Nat){r m clk:Nat}{l:List IE}{seen:List Nat}(H:Sep z Γ w)(hi:Γ[i]?=some (GG r m clk seen))(t:Γ[j]?=some (AH m l clk))(ho:o.op=.next x false)(y:ev L x=some (Y r))(e:∀p∈l,p.2.2<clk):
  Cy P n ds L o w (λv w'=>∃q:Option IE,v=SL q/\nxP l seen q/\Sep z (Γ.set i (GG r m clk (JJ seen q))) w'):=λa u=>by
 have h:=H.bk i hi;obtain ⟨q,hq,b,f,c⟩:=Pp (P:=P) h (H.bk j t) e o.type;have g:r<w.heap.size:=(AeU.1 h).1;have d:b.heap=w.heap/\b.os=w.os/\b.tape=w.tape/\b.output=w.output:=by rcases f with rfl|rfl<;>exact ⟨Z,Z,Z,Z⟩
 refine ⟨_,{b with heap:=b.heap.setIfInBounds r (.mapIter (some m) clk (JJ seen q).toArray clk)},?_,q,Z,hq,H.write i hi d.2.1 d.2.2.1 d.2.2.2 (o':=.mapIter (some m) clk (JJ seen q).toArray clk) (by show (b.heap.setIfInBounds r _)[r]?=_;rw[d.1];simp[g]) (λk s=>by show (b.heap.setIfInBounds r _)[k]?=_;rw[d.1];rw[AfK (AfN s)])⟩;simp only[execOp,ho,u.ev y,Aeq,c,Aem,Aev]
theorem KC{q:Option IE}(b:o.op=.extract x 0)(a:ev L x=some (SL q)):Ar P C n ds L o (.bool q.isSome):=by
 cases q with
 | none=>exact Fe b a Z
 | some p=>exact Fe b a Z
theorem HE{r m clk:Nat}{l:List IE}{seen:List Nat}{p:IE}(j:o.op=.entry x)(e:ev L x=some (Y r))(g:∀w,C w->w.heap[r]?=some (.mapIter (some m) clk (seen++[p.2.2]).toArray clk)/\w.heap[m]?=some (.map (l.map Cu).toArray clk))(hp:p∈l)(i:(l.map (·.2.2)).Nodup):
  Ar P C n ds L o (.tuple #[I p.1,p.2.1]):=λa b w c=>by
 obtain ⟨d,f⟩:=g w c;have h:((l.map Cu).toArray).find? (λx=>x.born==p.2.2)=some (Cu p):=by
  rw[<-Array.find?_toList];exact find_born (Cu p) _ (by simpa [Function.comp_def,Cu] using i) (Aeu hp)
 simp only[execOp,j,b.ev e,Instr.entry,getObj,Aeq,Sem.run,d,f,Result.andThen,<-List.push_toArray,Array.back?_push,bne_self_eq_false,Afm,if_false,h];rfl
theorem Jh(i:Nat){t e:TypeId}{m clk:Nat}{l:List IE}(H:Sep z Γ w)(hi:Γ[i]?=some (AH m l clk))(k:o.op=.call {callee:=.builtin .clear,args:= #[x],argTypes:= #[t]})(f:EO P t=some e)(j:ev L x=some (.map (some m))):
  Cy P n ds L o w (λv w'=>v=.tuple #[]/\Sep z (Γ.set i (AH m [] clk)) w'):=λa h=>by
 obtain ⟨p,r,g,s⟩:=D4 f;have c:w.heap[m]?=some (.map (l.map Cu).toArray clk):=H.bk i hi;have d:m<w.heap.size:=(AeU.1 c).1;have b:(Builtin.clear_ #[t] o.type #[.map (some m)]).run P w=.ok (.tuple #[]) {w with heap:=w.heap.setIfInBounds m (.map #[] clk)} :=by
  simp[Builtin.clear_,run_underlying g,getObj,setObj,Sem.run,c]
 refine ⟨_,{w with heap:=w.heap.setIfInBounds m (.map #[] clk)},?_,Z,H.write i hi Z Z Z (by show (w.heap.setIfInBounds m (.map #[] clk))[m]?=_;simp[d]) (λq hq=>by show (w.heap.setIfInBounds m _)[q]?=_;rw[AfK (AfN hq)])⟩;simp only[execOp,k,resolve,invoke,builtin,Aeq,Aev,Aem,AeR,AeE,Aft,h.ev j,b]
end
def Xh(P:Program)(gf:FuncId)(lb:List Value)(pre:List Af){σ:Type}(stp:σ->Value->σ->Prop)(s0:σ)(fin:σ->Prop):Prop:=
 ∀(z:World) (l:Nat) (J_:σ->List Af),(∀s v s' F,stp s v s'->∀w,Sep z (pre++(F++J_ s)) w->YieldAt (FX none) 0 P l #[v] w (λe w'=>e=.returned (.bool true)/\Sep z (pre++(F++J_ s')) w'))->
  ∀w,Sep z (pre++J_ s0) w->CallsIn (FX none) 0 P gf (#[Value.func (.yield l) #[] #[]]++lb.toArray) w (λe w'=>(∃v,e=.returned v)/\∃s,fin s/\Sep z (pre++J_ s) w')
theorem NK{P:Program}{N R:Act->World->Prop}{X:Nat->Act->World->Prop}{z w:World}{n:Nat}{ds:List Deferred}{L:List (Nat×Value)}{g:Operand}{t:Nat}{assign body:Code}{gf:FuncId}{lb:List Value}{pre:List Af}{σ:Type}{stp:σ->Value->σ->Prop}{r:σ}{fin:σ->Prop}
  (J_:σ->List Af)(hg:ev L g=some (.func (.func gf) #[] lb.toArray))(eg:∀args w,(callFunc gf args).run P w=.ok (.enter gf args) w)(ht:Nat.blt t n=true)(a2:Xh P gf lb pre stp r fin)(H:Sep z (J_ r++pre) w)
  (c:∀(ro:Option Nat) (i:σ) (v:Value) (k:σ),stp i v k->∀w a,Fr n [] ((t,v)::L) a->
   RW P ro assign (Qp (λa1 w1=>w1=w/\∀(F:List Af) (w:World),Sep z (J_ i++(pre++F)) w->RW P ro body (Qp (λ_ w3=>Sep z (J_ k++(pre++F)) w3) IC (λ_ _=>False)) a1 w) IC (λ_ _=>False)) a w)
  (K:∀D w' s,fin s->Sep z (YtnifkcmmanmbbaaGreatDoor.bk D (.deferred (some []))::(J_ s++pre)) w'->∀a,Fr n (mark D::ds) L a->N a w'):
  ∀a,Fr n ds L a->(Code.rangeFunc g #[t] assign body).wp P (Qp N X R) a w:=by
 intro a p;refine (wpIn_wide (n:=0)).1 ?_;refine wpIn_rangeFunc ?_;intro fn _;have a4:Fence.wide.round=none:=rfl;rw[a4];obtain ⟨W1,m⟩:∃W1,(w.alloc (.deferred (some []))).alloc (B4 .ready fn a.tmps t assign body w.heap.size)=W1:=⟨_,Z⟩;obtain ⟨D,hD⟩:∃D,D=w.heap.size:=⟨_,Z⟩;obtain ⟨T,hT⟩:∃T:List Af,T=[YtnifkcmmanmbbaaGreatDoor.bk D (.deferred (some [])),YtnifkcmmanmbbaaGreatDoor.bk (D+1) (B4 .ready fn a.tmps t assign body D)]:=⟨_,Z⟩;have H1:Sep z (pre++(T++J_ r)) W1:=by
  have h1:=H.new (b:=w.heap.size) (o:=.deferred (some [])) (Ds w (.deferred (some []))) (Aed _) (by show (w.heap.push _)[w.heap.size]?=_;simp);have h2:=h1.new (b:=w.heap.size+1) (o:=B4 .ready fn a.tmps t assign body w.heap.size) (Ds _ (B4 .ready fn a.tmps t assign body w.heap.size)) O (by
   show ((w.heap.push _).push _)[w.heap.size+1]?=_;rw[Ag6,if_pos O])
  have h3:Sep z (YtnifkcmmanmbbaaGreatDoor.bk (w.heap.size+1) (B4 .ready fn a.tmps t assign body w.heap.size)::YtnifkcmmanmbbaaGreatDoor.bk w.heap.size (.deferred (some []))::(J_ r++pre)) W1:=m▸h2;have h4:=(h3.pick 2 [1,0] Z);have h5:Sep z (T++(J_ r++pre)) W1:=by rw[hT,hD];exact h4
  exact (Sep.swap (As:=T++J_ r) (Bs:=pre) (by rw[Aec];exact h5))
 refine ⟨w.heap.size+1,[mark w.heap.size],W1,{target:=.fn (.func gf) lb.toArray,args:= #[.func (.yield (w.heap.size+1)) #[] #[]]},W1,gf,#[.func (.yield (w.heap.size+1)) #[] #[]]++lb.toArray,W1,?_,?_,λ_ _=>trivial,?_,λq=>(by cases q),?_⟩
 ·rw[<-m];exact run_enterLoop_outer _ _ _ _ _
 ·simp only[resolve,p.ev hg]
  simp[go_sem]
 ·simp[invoke,go_sem,eg]
 rw[<-hD] at m ⊢;have d:∀{G:List Af} {i:σ} {w:World},Sep z (G++(T++J_ i)) w->Sep z (YtnifkcmmanmbbaaGreatDoor.bk D (.deferred (some []))::YtnifkcmmanmbbaaGreatDoor.bk (D+1) (B4 .ready fn a.tmps t assign body D)::(J_ i++G)) w:=λh=>by
  have:=h.swap;rw[Aec,hT] at this;exact this
 have f:∀(G:List Af) (i:σ) (w:World),Sep z (YtnifkcmmanmbbaaGreatDoor.bk D (.deferred (some []))::YtnifkcmmanmbbaaGreatDoor.bk (D+1) (B4 .ready fn a.tmps t assign body D)::(J_ i++G)) w->Sep z (G++(T++J_ i)) w:=λG i w h=>by
  have h':Sep z (T++(J_ i++G)) w:=by rw[hT];exact h
  exact (Sep.swap (As:=T++J_ i) (Bs:=G) (by rw[Aec];exact h'))
 have key:=a2 z (D+1) (λi=>T++J_ i) ?_ W1 H1
 ·refine CallsIn.mono (show CallsIn Fence.wide 0 P gf _ W1 _ from key) ?_
  rintro e w2 ⟨⟨v,rfl⟩,s,hs,H2⟩;have H2:=d H2;refine ⟨none,_,run_endLoop (H2.bk 1 Z) O,?_⟩;refine K D _ s hs ?_ _ ⟨p.size,by show [mark D]++a.defers=_;rw[p.defers];rfl,p.get⟩;have H3:=H2.setObj 1 (.loop {state:=.exhausted,pending:=none,fn,tmps:=a.tmps,params:= #[t],assign,body,defers:=D}) Z;exact H3.pick 2 [0] Z
 intro i u k F hu w2 H2;rw[<-Aec] at H2;have H2:=d H2;have hy:=run_yield (P:=P) (args:=[u].toArray) (H2.bk 1 Z) O;refine ⟨fn,_,assign,body,hy,?_⟩;refine roundIn_of_wpIn (F:=FX none) trivial ?_;have a0:Fr n [] ((t,u)::L) {tmps:=(((#[t]:Array Tmp).zip [u].toArray).foldl (λtmps (x:Tmp×Value)=>tmps.setIfInBounds x.1 x.2) a.tmps),defers:=[]} :=by
  have h0:Fr n [] L {tmps:=a.tmps,defers:=[]} :=⟨p.size,Z,p.get⟩;have:=h0.put t u ht;simpa [Act.put] using this
 have hr:=c (some (D+1)) i u k hu w2 _ a0;refine wpIn_mono (show assign.wpIn ((FX none).inRound (D+1)) 0 P _ _ w2 from hr) ?_;intro e a1 w1 q
 cases e with
 | normal=>
  obtain ⟨rfl,j⟩:=q;refine ⟨_,run_beginRound (H2.bk 1 Z) Z,?_⟩;have H3:=H2.setObj 1 (B4 .busy fn a.tmps t assign body D) Z;have H4:Sep z ([YtnifkcmmanmbbaaGreatDoor.bk D (.deferred (some [])),YtnifkcmmanmbbaaGreatDoor.bk (D+1) (B4 .busy fn a.tmps t assign body D)]++(J_ i++(pre++F))) _:=H3;have H5:=H4.swap;rw[Aec,Aec] at H5;refine wpIn_mono (show body.wpIn ((FX none).inRound (D+1)) 0 P _ _ _ from j _ _ H5) ?_;intro e a3 w3 y
  cases e with
  | normal=>
   have H6:Sep z (J_ k++(pre++(F++[YtnifkcmmanmbbaaGreatDoor.bk D (.deferred (some [])),YtnifkcmmanmbbaaGreatDoor.bk (D+1) (B4 .busy fn a.tmps t assign body D)]))) w3:=y;rw[<-Aec pre,<-Aec (J_ k)] at H6;have H7:Sep z (YtnifkcmmanmbbaaGreatDoor.bk D (.deferred (some []))::YtnifkcmmanmbbaaGreatDoor.bk (D+1) (B4 .busy fn a.tmps t assign body D)::(J_ k++(pre++F))) w3:=H6.swap;refine ⟨_,_,run_endRound none (H7.bk 1 Z),Z,?_⟩;rw[<-Aec];refine f _ _ _ ?_;exact H7.setObj 1 (B4 .ready fn a.tmps t assign body D) Z
  | exit id=>exact y.elim
  | ret=>exact y.elim
  | goto l=>exact y.elim
  | panic ch=>exact y.elim
  | outgrown=>exact y.elim
 | exit id=>exact q.elim
 | ret=>exact q.elim
 | goto l=>exact q.elim
 | panic ch=>exact q.elim
 | outgrown=>exact q.elim
theorem UG{P:Program}{N R:Act->World->Prop}{X:Nat->Act->World->Prop}{z w:World}{n:Nat}{ds:List Deferred}{L:List (Nat×Value)}{g:Operand}{t:Nat}{b f:Code}{gf:FuncId}{r:List Value}{pre:List Af}{σ:Type}{stp:σ->Value->σ->Prop}{p:σ}{fin:σ->Prop}
  (J_:σ->List Af)(x:ev L g=some (.func (.func gf) #[] r.toArray))(eg:∀args w,(callFunc gf args).run P w=.ok (.enter gf args) w)(u:Nat.blt t n=true)(k:Xh P gf r pre stp p fin)(H:Sep z (J_ p++pre) w)
  (d:∀(ro:Option Nat) (i:σ) (v:Value) (j:σ),stp i v j->∀w a,Fr n [] ((t,v)::L) a->
   RW P ro b (Qp (λa1 m=>m=w/\∀(F:List Af) (w:World),Sep z (J_ i++F) w->RW P ro f (Qp (λ_ w3=>Sep z (J_ j++F) w3) IC (λ_ _=>False)) a1 w) IC (λ_ _=>False)) a w)
  (K:∀D o s,fin s->Sep z (YtnifkcmmanmbbaaGreatDoor.bk D (.deferred (some []))::(J_ s++pre)) o->∀a,Fr n (mark D::ds) L a->N a o):
  ∀a,Fr n ds L a->(Code.rangeFunc g #[t] b f).wp P (Qp N X R) a w:=
 NK J_ x eg u k H (λro i v j h w a y=>by
  refine wpIn_mono (d ro i v j h w a y) ?_;intro e a1 m q
  cases e with
  | normal=>exact ⟨q.1,λF w hs=>q.2 _ w hs⟩
  | exit id=>exact q.elim
  | ret=>exact q.elim
  | goto l=>exact q.elim
  | panic c=>exact q.elim
  | outgrown=>exact q.elim) K
end
end Go.Proofs.YtnifkcmmanmbbaaGreatDoor
