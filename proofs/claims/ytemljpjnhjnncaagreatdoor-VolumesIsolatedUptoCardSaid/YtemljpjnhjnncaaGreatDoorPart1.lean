/-
  Steps to: Law VolumesIsolated: what is written to one volume is read in no other one. No condition.
-/
import Derived.Test.YtemljpjnhjnncaaGreatDoorCards
import Derived.Test.YtemljpjnhjnncaaGreatDoorTie
import Derived.WalkKit
import Derived.WalkSpells
import Derived.Deep.Quiet
import Derived.KernelRfl
import Derived.IntWalk
import Derived.Maps.AppendAt
import Derived.Laws.AppendOwnNone
import Derived.Laws.CopyRow
import Derived.StillTail
import Derived.Deep.RegionHeld
import Derived.Laws.IdiomStrings
import Derived.Laws.BytesArg
import Derived.Laws.OwnMore
import Derived.Lib.Strings
import Derived.ArgAppend
import Derived.Test.YtemljpjnhjnncaaGreatDoorRows
import Derived.RangeFuncLeaves
import Derived.RangeFuncRecord
import Derived.RangeFuncCalls
import Derived.RangeFuncSeq
import Derived.OrdersIn
import Derived.TacticsIn
import Derived.Laws.IdiomRangeMap
import Derived.Defers
import Derived.Laws.LoneSync
import Derived.LoopN
import Derived.Lib.TrailingZeros
import Derived.Test.YtemljpjnhjnncaaGreatDoorProg
import Derived.Shelf.Sort.Plain
import Derived.Shelf.Slices.In.SortNone
import Derived.Shelf.Small.Bits
import Derived.DataReads
import Derived.ProofKit
import Derived.OpenShut
import Derived.Lib.SmallJoins
import Derived.Deep.DeepHandedRow
import Derived.Lib.LaidTab
set_option maxRecDepth 100000
set_option linter.unusedSimpArgs false
set_option linter.unusedVariables false
open Go.Proofs.Tryz
namespace Go.Proofs.YtemljpjnhjnncaaGreatDoor
open Go.RowKit
variable{n m i j e g r:Nat}{t s p q:Int}{V:List Value}{B S:List UInt8}{T:TypeId}{L:List (Nat×Value)}{v u y:Value}{z:World}{l:List Int}{R:List Nat}{N:Act->World->Prop}{b c:Bool}{x:Operand}{o:List Oper}{K:Value->World->Prop}{C:Nat->Nat}{P:Program}{F:Nat->Bool}{a:Act}
section
theorem Z{α : Sort _}{a : α}: a=a := rfl
theorem U {p : Prop} (h : p := by omega) : p := h
theorem J {p : Prop} (h : p := by kernel_rfl) : p := h
theorem O {p : Prop} (h : p := by simp) : p := h
abbrev Aeb:=@List.getElem?_eq_some_iff
abbrev Aec:=@List.mem_of_getElem?
abbrev Aed:=@List.getElem?_eq_getElem
abbrev Aee:=@List.length_append
abbrev Aef:=@List.length_map
abbrev Aeg:=@List.length_cons
abbrev Aeh:=@List.append_assoc
abbrev Aei:=@Nat.le_refl
abbrev Aej:=@List.take_of_length_le
abbrev Aek:=@List.mem_map
abbrev Ael:=@Option.some.injEq
abbrev Aem:=@List.getElem?_append_left
abbrev Aen:=@List.mem_cons
abbrev Aeo:=@List.getElem?_map
abbrev Aep:=@List.mem_append
abbrev Aeq:=@Nat.lt_or_ge
abbrev Aer:=@Result.andThen_ok
abbrev Aes:=@List.getElem?_append_right
abbrev Aet:=@List.take_append_of_le_length
abbrev Aeu:=@List.drop_zero
abbrev Aev:=@Sem.run_bind
abbrev Aew:=@Bool.eq_iff_iff
abbrev Aex:=@List.length_take
abbrev Aey:=@List.getElem?_cons_succ
abbrev Aez:=@List.mem_map_of_mem
abbrev AeA:=@Sem.run_pure
abbrev AeB:=@List.length_nil
abbrev AeC:=@Bool.and_eq_true
abbrev AeD:=@List.take_take
abbrev AeE:=@Nat.min_eq_left
abbrev AeF:=@List.take_left'
abbrev AeG:=@List.flatMap_cons
abbrev AeH:=@List.map_append
abbrev AeI:=@List.getElem?_eq_none
abbrev AeJ:=@List.map_cons
abbrev AeK:=@List.drop_of_length_le
abbrev AeL:=@List.take_append_drop
abbrev AeM:=@List.length_drop
abbrev AeN:=@List.take_add_one
abbrev AeO:=@Nat.zero_le
abbrev AeP:=@Nat.mul_one
abbrev AeQ:=@List.nil_append
abbrev AeR:=@Option.map_some
abbrev AeS:=@List.getElem?_cons_zero
abbrev AeT:=@List.drop_append_of_le_length
abbrev AeU:=@List.length_set
abbrev AeV:=@List.append_nil
abbrev AeW:=@List.map_toArray
abbrev AeX:=@List.getElem?_take
abbrev AeY:=@List.mem_iff_getElem?
abbrev AeZ:=@List.drop_eq_getElem_cons
abbrev Ae0:=@Array.getElem?_eq_none
abbrev Ae1:=@Array.getElem?_eq_some_iff
abbrev Ae2:=@List.getElem?_of_mem
abbrev Ae3:=@List.drop_succ_cons
abbrev Ae4:=@Int.toNat_natCast
abbrev Ae5:=@List.take_succ_cons
abbrev Ae6:=@List.drop_append
abbrev Ae7:=@List.take_length
abbrev Ae8:=@Option.isSome_iff_exists
abbrev Ae9:=@List.nodup_append
abbrev Afa:=@List.set_eq_take_append_cons_drop
abbrev Afb:=@List.mem_filter
abbrev Afc:=@List.count_cons
abbrev Afd:=@Classical.byContradiction
abbrev Afe:=@List.getElem?_toArray
abbrev Aff:=@List.getElem?_set_self
abbrev Afg:=@List.mem_of_mem_take
abbrev Afh:=@List.perm_middle
abbrev Afi:=@List.nodup_cons
abbrev Afj:=@List.length_replicate
abbrev Afk:=@List.Perm.cons
abbrev Afl:=@List.getElem?_drop
abbrev Afm:=@Int.le_refl
abbrev Afn:=@List.map_map
abbrev Afo:=@List.getElem?_set
abbrev Afp:=@List.map_take
abbrev Afq:=@List.ext_getElem?
abbrev Afr:=@List.count_append
abbrev Afs:=@Bool.false_eq_true
abbrev Aft:=@List.mem_singleton
abbrev Afu:=@List.mem_of_mem_drop
abbrev Afv:=@List.pairwise_iff_getElem
abbrev Afw:=@List.Perm.append_right
abbrev Afx:=@Prod.mk.injEq
abbrev Afy:=@Option.map_none
abbrev Afz:=@List.map_nil
abbrev AfA:=@Nat.mod_eq_of_lt
abbrev AfB:=@List.cons_append
abbrev AfC:=@List.map_congr_left
abbrev AfD:=@List.perm_iff_count
abbrev AfE:=@List.take_zero
abbrev AfF:=@List.exists_cons_of_ne_nil
abbrev AfG:=@Nat.mul_le_mul_right
abbrev AfH:=@List.length_zip
abbrev AfI:=@Nat.lt_trichotomy
abbrev AfJ:=@List.pairwise_map
abbrev AfK:=@Nat.eq_of_beq_eq_true
abbrev AfL:=@IntWalk.i64_in
abbrev AfM:=@Nat.zero_add
abbrev AfN:=@List.filter_append
abbrev AfO:=@List.getElem_mem
abbrev AfP:=@Array.getElem?_setIfInBounds_ne
abbrev AfQ:=@List.mem_range
abbrev AfR:=@List.drop_left'
abbrev AfS:=@Ne.symm
abbrev AfT:=@List.length_filter_le
abbrev AfU:=@List.map_drop
abbrev AfV:=@List.getElem?_set_ne
abbrev AfW:=@List.drop_take
abbrev AfX:=@List.Perm.swap
abbrev AfY:=@Int.eq_ofNat_of_zero_le
abbrev AfZ:=@List.set_append
abbrev Af0:=@List.toList_toArray
abbrev Af1:=@List.flatMap_append
abbrev Af2:=@List.all_eq_true
abbrev Af3:=@List.mem_replicate
abbrev Af4:=@Int.emod_lt_of_pos
abbrev Af5:=@List.perm_append_comm
abbrev Af6:=@List.set_getElem_self
abbrev Af7:=@Nat.shiftRight_eq_div_pow
abbrev Af8:=@List.replicate_append_replicate
abbrev Af9:=@BitVec.toNat_ushiftRight
abbrev Aga:=@List.mem_iff_getElem
abbrev Agb:=@Option.some.inj
abbrev Agc:=@Nat.add_assoc
abbrev Agd:=@Nat.add_sub_cancel_left
abbrev Age:=@List.length_eq_zero_iff
abbrev Agf:=@BitVec.toNat_and
abbrev Agg:=@List.mem_flatMap
abbrev Agh:=@List.getElem?_eraseIdx
abbrev Agi:=@Nat.le_of_eq
abbrev Agj:=@List.filter_map
abbrev Agk:=@Int.emod_nonneg
abbrev Agl:=@Int.emod_eq_of_lt
abbrev Agm:=@List.mem_append_left
abbrev Agn:=@List.mem_cons_of_mem
abbrev Ago:=@Nat.mul_add
abbrev Agp:=@DataW.trod_int
abbrev Agq:=@Array.setIfInBounds_comm
abbrev Agr:=@Nat.le_trans
abbrev Ags:=@Nat.mul_le_mul_left
abbrev Agt:=@List.filter_eq_self
abbrev Agu:=@Calls.mono
abbrev Agv:=@List.count_pos_iff
abbrev Agw:=@Nat.ne_of_beq_eq_false
abbrev Agx:=@Option.map_eq_some_iff
abbrev Agy:=@List.eq_nil_of_length_eq_zero
abbrev Agz:=@List.flatten_cons
abbrev AgA:=@List.foldl_append
abbrev AgB:=@Array.getElem?_modify
abbrev AgC:=@List.mem_append_right
abbrev AgD:=@Nat.sub_self
abbrev AgE:=@List.set_set
abbrev AgF:=@Region.noSelect_spec
abbrev AgG:=@Nat.add_mul_div_left
abbrev AgH:=@Nat.div_eq_of_lt
abbrev AgI:=@BitVec.toNat_add
abbrev AgJ:=@Decidable.of_not_not
abbrev AgK:=@List.drop_replicate
abbrev AgL:=@Function.comp_apply
abbrev AgM:=@Oper.upon_value
abbrev AgN:=@Oper.upon_enter
abbrev AgO:=@Array.getElem?_eq_getElem
abbrev AgP:=@Nat.add_mul_mod_self_left
abbrev AgQ:=@Nat.two_pow_pos
abbrev AgR:=@Bool.false_ne_true
abbrev AgS:=@Nat.add_comm
abbrev AgT:=@Nat.eq_zero_or_pos
abbrev AgU:=@Int.le_of_lt
abbrev AgV:=@Option.bind_some
abbrev AgW:=@Region.free_spec
abbrev AgX:=@List.ext_getElem
abbrev AgY:=@List.take_append
abbrev AgZ:=@List.getElem_set
abbrev Ag0:=@BitVec.getLsbD_twoPow
abbrev Ag1:=@BitVec.eq_of_toNat_eq
abbrev Ag2:=@List.cons.injEq
abbrev Ag3:=@Nat.sub_zero
abbrev Ag4:=@Nat.add_zero
abbrev Ag5:=@UInt8.toNat_inj
abbrev Ag6:=@BitVec.ofInt_natCast
abbrev Ag7:=@Nat.and_two_pow_sub_one_eq_mod
abbrev Ag8:=@List.range_succ
abbrev Ag9:=@List.mem_eraseIdx_iff_getElem?
abbrev Aha:=@Nat.pow_le_pow_right
abbrev Ahb:=@Array.getElem?_push
abbrev Ahc:=@List.length_pos_iff
abbrev Ahd:=@List.Perm.refl
abbrev Ahe:=@List.perm_append_comm_assoc
abbrev Ahf:=@List.map_replicate
abbrev Ahg:=@List.find?_eq_none
abbrev Ahh:=@Int.tmod_lt_of_pos
abbrev Ahi:=@List.take_length_add_append
abbrev Ahj:=@List.drop_length_add_append
abbrev Ahk:=@Array.getElem?_append_left
abbrev Ahl:=@Addr.mk.injEq
abbrev Ahm:=@Array.any_eq_true
abbrev Ahn:=@Array.getElem_mem
abbrev Aho:=@Decidable.not_not
abbrev Ahp:=@Int.emod_add_emod
abbrev Ahq:=@List.filter_congr
abbrev Ahr:=@Int.shiftRight_eq_div_pow
abbrev Ahs:=@List.mem_take_iff_getElem
abbrev Aht:=@List.mem_or_eq_of_mem_set
abbrev Ahu:=@Iff.rfl
abbrev Ahv:=@List.any_eq_true
abbrev Ahw:=@UInt32.toNat_inj
abbrev Ahx:=@List.getElem_map
abbrev Ahy:=@List.map_set
abbrev Ahz:=@Nat.pow_succ
abbrev AhA:=@Nat.mul_comm
abbrev AhB:=@List.flatMap_nil
abbrev AhC:=@List.filter_cons
abbrev AhD:=@Nat.mul_eq_zero
abbrev AhE:=@Int.tmod_nonneg
abbrev AhF:=@Nat.add_mul
abbrev AhG:=@List.drop_drop
abbrev I(x:Int):Value:=.int .i64 x
abbrev Y (b:Nat):Value:=.pointer (some ⟨b,0,none⟩)
def CC:List (Nat×Value)->Nat->Option Value
 | [],_=>none
 | (t,v)::l,k=>bif Nat.beq t k then some v else CC l k
theorem Aaz(h:m≠i):Nat.beq m i=false:=by
 cases hb:Nat.beq m i with
 | false=>rfl
 | true=>exact absurd (AfK hb) h
structure Fr(n:Nat)(ds:List Deferred)(L:List (Nat×Value))(a:Act):Prop where
 size:a.tmps.size=n
 defers:a.defers=ds
 get:∀t v,CC L t=some v->a.tmps[t]?=some v
theorem Fr.put{n:Nat}{ds:List Deferred}{L:List (Nat×Value)}{a:Act}(h:Fr n ds L a)(d:Nat)(v:Value)(f:Nat.blt d n=true):Fr n ds ((d,v)::L) (a.put (some d) v):=by
 have c:d<n:=by simpa using f
 refine ⟨by simp[Act.put,h.size],by simp[Act.put,h.defers],λt u b=>?_⟩;simp only[CC] at b;by_cases e:d=t
 ·subst e
  have:Nat.beq d d=true:=by simp
  rw[this] at b;simp only[cond_true,Ael] at b;subst b;simp[Act.put,h.size,c]
 rw[Aaz e] at b;simp only[cond_false] at b;simp[Act.put,AfP e,h.get t u b]
theorem Fr.nil{n:Nat}{ds:List Deferred}{L:List (Nat×Value)}{a:Act}(h:Fr n ds L a):Fr n ds [] a:=⟨h.size,h.defers,λt v b=>by simp[CC] at b⟩
theorem Fr.cons{n:Nat}{ds:List Deferred}{L L':List (Nat×Value)}{a:Act}(h:Fr n ds L a)(h':Fr n ds L' a)(t:Nat)(v u:Value)(b:CC L t=some u)(e:u=v):Fr n ds ((t,v)::L') a:=by
 refine ⟨h.size,h.defers,λs x hs=>?_⟩;simp only[CC] at hs
 cases hb:Nat.beq t s with
 | true=>rw[hb] at hs;simp at hb;subst hb;simp at hs;subst hs;subst e;exact h.get t u b
 | false=>rw[hb] at hs;exact h'.get s x (by simpa using hs)
theorem Fr.co{n:Nat}{ds:List Deferred}{L L':List (Nat×Value)}{a:Act}{t:Nat}(h:Fr n ds L a)(b:CC L t=some u)(e:u=v)(h':Fr n ds L' a):Fr n ds ((t,v)::L') a:=h.cons h' t v u b e
theorem Fr.all{n:Nat}{ds:List Deferred}{L:List (Nat×Value)}{a:Act}(h:Fr n ds L a):∀{L':List (Nat×Value)},L'.map (λe=>CC L e.1)=L'.map (λe=>some e.2)->Fr n ds L' a
 | [],_=>h.nil
 | e::L',q=>by
  simp only[AeJ,Ag2] at q;exact h.cons (h.all q.2) e.1 e.2 e.2 q.1 Z
theorem Fr.cz{n:Nat}{ds:List Deferred}{L L':List (Nat×Value)}{a:Act}{t:Nat}{v u:Value}(h:Fr n ds L a)(b:CC L t=some u:=by exact Z)(e:u=v:=by go_num)(q:L'.map (λe=>CC L e.1)=L'.map (λe=>some e.2):=by exact Z):Fr n ds ((t,v)::L') a:=h.co b e (h.all q)
theorem fr_z {n:Nat} {ds:List Deferred} {L L':List (Nat×Value)} {t:Nat} {v u:Value} (b:CC L t=some u:=by exact Z) (e:u=v:=by go_num) (q:L'.map (λe=>CC L e.1)=L'.map (λe=>some e.2):=by exact Z):∀a,Fr n ds L a->Fr n ds ((t,v)::L') a:=λ_ h=>h.co b e (h.all q)
theorem Fr.upd{n:Nat}{ds:List Deferred}{L:List (Nat×Value)}{a:Act}(h:Fr n ds L a)(t:Nat)(b:CC L t=some u)(e:u=v):Fr n ds ((t,v)::L) a:=h.cons h t v u b e
def ev(L:List (Nat×Value)):Operand->Option Value
 | .tmp t=>CC L t
 | .const v=>some v
 | .global g=>some (.pointer (some ⟨g,0,none⟩))
 | .func f=>some (.func (.func f) #[] #[])
theorem Fr.ev{n:Nat}{ds:List Deferred}{L:List (Nat×Value)}{a:Act}(h:Fr n ds L a){x:Operand}{v:Value}(b:ev L x=some v):a.eval x=v:=by
 cases x with
 | tmp t=>simp only[YtemljpjnhjnncaaGreatDoor.ev] at b;simp[Act.eval,h.get t v b]
 | const u=>simp only[YtemljpjnhjnncaaGreatDoor.ev,Ael] at b;simp[Act.eval,b]
 | global g=>simp only[YtemljpjnhjnncaaGreatDoor.ev,Ael] at b;simp[Act.eval,b]
 | func f=>simp only[YtemljpjnhjnncaaGreatDoor.ev,Ael] at b;simp[Act.eval,b]
def evs(L:List (Nat×Value)):List Operand->Option (List Value)
 | []=>some []
 | x::xs=>match YtemljpjnhjnncaaGreatDoor.ev L x,evs L xs with
  | some v,some vs=>some (v::vs)
  | _,_=>none
theorem Fr.evs{n:Nat}{ds:List Deferred}{L:List (Nat×Value)}{a:Act}(h:Fr n ds L a):∀{xs:List Operand} {vs:List Value},evs L xs=some vs->xs.map a.eval=vs
 | [],vs,e=>by simp only[YtemljpjnhjnncaaGreatDoor.evs,Ael] at e;subst e;rfl
 | x::xs,vs,e=>by
  simp only[YtemljpjnhjnncaaGreatDoor.evs] at e
  cases h1:YtemljpjnhjnncaaGreatDoor.ev L x with
  | none=>rw[h1] at e;cases e
  | some v=>
   cases h2:YtemljpjnhjnncaaGreatDoor.evs L xs with
   | none=>rw[h1,h2] at e;cases e
   | some us=>
    rw[h1,h2] at e;simp only[Ael] at e;subst e;simp[h.ev h1,h.evs h2]
def first:Nat->List Value->List (Nat×Value)
 | _,[]=>[]
 | k,v::vs=>(k,v)::first (k+1) vs
theorem Kr:∀(vs:List Value) (k t:Nat) (v:Value),CC (first k vs) t=some v->k<=t/\vs[t-k]?=some v
 | [],_,_,_,h=>by simp[first,CC] at h
 | u::us,k,t,v,h=>by
  simp only[first,CC] at h
  cases hb:Nat.beq k t with
  | true=>rw[hb] at h;simp at hb h;subst hb;subst h;simp
  | false=>
   rw[hb] at h;have:=Kr us (k+1) t v (by simpa using h);refine ⟨by omega,?_⟩;rw[show t-k=(t-(k+1))+1 from by omega];simpa using this.2
theorem Fr.start(args:List Value)(n:Nat)(h:args.length<=n):Fr n [] (first 0 args) {tmps:=args.toArray++Array.replicate (n-args.toArray.size) undef,defers:=[]} :=by
 refine ⟨by simp;omega,Z,λt v b=>?_⟩;have:=(Kr args 0 t v b).2;simp only[Ag3] at this;have a:t<args.length:=by
  rcases Aeq t args.length with h|h
  ·exact h
  rw[AeI h] at this;cases this
 rw[Ahk (by simpa using a)];simpa using this

def Qp(N:Act->World->Prop)(X:Nat->Act->World->Prop)(R:Act->World->Prop):Exit->Act->World->Prop
 | .normal,a,w=>N a w
 | .exit id,a,w=>X id a w
 | .ret,a,w=>R a w
 | _,_,_=>False
def ID:Nat->Act->World->Prop:=λ_ _ _=>False
def upd(X:Nat->Act->World->Prop)(id:Nat)(N:Act->World->Prop):Nat->Act->World->Prop:=λj a w=>if j=id then N a w else X j a w
section
variable{P:Program}{N R:Act->World->Prop}{X:Nat->Act->World->Prop}{a:Act}{w:World}
theorem AaA{c:Code}{d R':Act->World->Prop}{b:Nat->Act->World->Prop}(h:c.wp P (Qp N X R) a w)(hN:∀a w,N a w->d a w)(g:∀i a w,X i a w->b i a w)(f:∀a w,R a w->R' a w):c.wp P (Qp d b R') a w:=
 wp_mono h λe a w q=>by cases e<;>first|exact hN _ _ q|exact g _ _ _ q|exact f _ _ q|exact q
theorem W0{x y:Code}(h:x.wp P (Qp (λa w=>y.wp P (Qp N X R) a w) X R) a w):(Code.seq x y).wp P (Qp N X R) a w:=
 wp_seq (wp_mono h λe a w q=>by cases e<;>exact q)
theorem AcK{x y:Code}(M:Act->World->Prop)(h:x.wp P (Qp M X R) a w)(h':∀a w,M a w->y.wp P (Qp N X R) a w):(Code.seq x y).wp P (Qp N X R) a w:=
 W0 (AaA h h' (λ_ _ _ q=>q) (λ_ _ q=>q))
theorem AaB(h:N a w):Code.skip.wp P (Qp N X R) a w:=wp_skip h
theorem AaC(h:X m a w):(Code.exit m).wp P (Qp N X R) a w:=wp_exit h
theorem AcL(h:R a w):Code.ret.wp P (Qp N X R) a w:=wp_ret h
theorem XF{c:Code}(h:c.wp P (Qp N (upd X m N) R) a w):(Code.block m c).wp P (Qp N X R) a w:=
 wp_block (wp_mono h λe a w q=>by
  cases e<;>exact q)
theorem AaD(h:N a w):upd X m N m a w:=by simp only[upd,if_true];exact h
theorem AcM{M:Act->World->Prop}(b:Nat.beq j m=false)(h:X j a w):upd X m M j a w:=by
 have:j≠m:=Agw b;simp only[upd,if_neg this];exact h
theorem Sg{n:Nat}{ds:List Deferred}{L:List (Nat×Value)}(d:Fr n ds L a){c:Operand}{x y:Code}(b:ev L c=some (.bool true))(h:x.wp P (Qp N X R) a w):(Code.cond c x y).wp P (Qp N X R) a w:=wp_cond_true (d.ev b) h
theorem PN{n:Nat}{ds:List Deferred}{L:List (Nat×Value)}(d:Fr n ds L a){c:Operand}{x y:Code}(b:ev L c=some (.bool false))(h:y.wp P (Qp N X R) a w):(Code.cond c x y).wp P (Qp N X R) a w:=wp_cond_false (d.ev b) h
theorem Sh{n:Nat}{ds:List Deferred}{L:List (Nat×Value)}(e:Fr n ds L a){c:Operand}{x y:Code}(d:ev L c=some (.bool b))(g:b=true->x.wp P (Qp N X R) a w)(f:b=false->y.wp P (Qp N X R) a w):(Code.cond c x y).wp P (Qp N X R) a w:=by
 cases b with
 | true=>exact Sg e d (g Z)
 | false=>exact PN e d (f Z)
theorem AcN{n:Nat}{ds:List Deferred}{L:List (Nat×Value)}(d:Fr n ds L a){c:Operand}{x y:Code}{p:Prop}[hp:Decidable p](b:ev L c=some (.bool (decide p)))(f:p->x.wp P (Qp N X R) a w)(e:¬p->y.wp P (Qp N X R) a w):(Code.cond c x y).wp P (Qp N X R) a w:=
 Sh d b (λh=>f (of_decide_eq_true h)) (λh=>e (of_decide_eq_false h))

section framed
variable{n:Nat}{ds:List Deferred}{L:List (Nat×Value)}
theorem AY{x y:Code}(h:∀a,Fr n ds L a->x.wp P (Qp (λa w=>y.wp P (Qp N X R) a w) X R) a w):∀a,Fr n ds L a->(Code.seq x y).wp P (Qp N X R) a w:=λa b=>W0 (h a b)
theorem AcO{x y:Code}(M:Act->World->Prop)(h:∀a,Fr n ds L a->x.wp P (Qp M X R) a w)(h':∀a w,M a w->y.wp P (Qp N X R) a w):∀a,Fr n ds L a->(Code.seq x y).wp P (Qp N X R) a w:=λa b=>AcK M (h a b) h'
theorem DG(h:∀a,Fr n ds L a->N a w):∀a,Fr n ds L a->Code.skip.wp P (Qp N X R) a w:=λa b=>AaB (h a b)
theorem Si(h:∀a,Fr n ds L a->X m a w):∀a,Fr n ds L a->(Code.exit m).wp P (Qp N X R) a w:=λa b=>AaC (h a b)
theorem D7(h:∀a,Fr n ds L a->R a w):∀a,Fr n ds L a->Code.ret.wp P (Qp N X R) a w:=λa b=>AcL (h a b)
theorem FK{c:Code}(h:∀a,Fr n ds L a->c.wp P (Qp N (upd X m N) R) a w):∀a,Fr n ds L a->(Code.block m c).wp P (Qp N X R) a w:=λa b=>XF (h a b)
theorem IG(h:∀a,Fr n ds L a->N a w):∀a,Fr n ds L a->upd X m N m a w:=λa b=>AaD (h a b)
theorem AcP{M:Act->World->Prop}(c:Nat.beq j m=false)(h:∀a,Fr n ds L a->X j a w):∀a,Fr n ds L a->upd X m M j a w:=λa b=>AcM c (h a b)
theorem Sj{c:Operand}{x y:Code}(d:ev L c=some (.bool true))(h:∀a,Fr n ds L a->x.wp P (Qp N X R) a w):∀a,Fr n ds L a->(Code.cond c x y).wp P (Qp N X R) a w:=λa b=>Sg b d (h a b)
theorem EA{c:Operand}{x y:Code}(d:ev L c=some (.bool false))(h:∀a,Fr n ds L a->y.wp P (Qp N X R) a w):∀a,Fr n ds L a->(Code.cond c x y).wp P (Qp N X R) a w:=λa b=>PN b d (h a b)
theorem Sk{c:Operand}{x y:Code}(e:ev L c=some (.bool b))(g:b=true->∀a,Fr n ds L a->x.wp P (Qp N X R) a w)(f:b=false->∀a,Fr n ds L a->y.wp P (Qp N X R) a w):∀a,Fr n ds L a->(Code.cond c x y).wp P (Qp N X R) a w:=
 λa d=>Sh d e (λh=>g h a d) (λh=>f h a d)
theorem Gq{c:Operand}{x y:Code}{p:Prop}[hp:Decidable p](d:ev L c=some (.bool (decide p)))(f:p->∀a,Fr n ds L a->x.wp P (Qp N X R) a w)(e:¬p->∀a,Fr n ds L a->y.wp P (Qp N X R) a w):∀a,Fr n ds L a->(Code.cond c x y).wp P (Qp N X R) a w:=
 λa b=>AcN b d (λh=>f h a b) (λh=>e h a b)
end framed
theorem Sl{n:Nat}{ds:List Deferred}{L:List (Nat×Value)}{c:Code}{σ:Type}(i:σ->List (Nat×Value))(G:σ->World->Prop)(m:σ->Nat)(q:σ)
  (h₀:∀a,Fr n ds L a->Fr n ds (i q) a)(g₀:G q w)
  (g:∀s w,G s w->∀a,Fr n ds (i s) a->c.wp P (Qp (λa' h=>∃u,Fr n ds (i u) a'/\G u h/\m u<m s) X R) a w):∀a,Fr n ds L a->(Code.loop c).wp P (Qp N X R) a w:=by
 intro a z b k cs;have key:∀n' s a w,m s=n'->Fr n ds (i s) a->G s w->
   ∃e a' h,Qp N X R e a' h/\Arrives P (lone (b.at a (.code c:: .inLoop c::k)) cs w) b k cs e a' h:=by
  intro n'
  induction n' using Nat.strongRecOn with
  | _ n' ih=>
   intro s a w hn hI hG;obtain ⟨e,o,j,hq,d⟩:=g s w hG a hI b (.inLoop c::k) cs
   cases e with
   | normal=>
    obtain ⟨y,p,v,r⟩:=hq;obtain ⟨e₂,a₂,w₂,t,f⟩:=ih (m y) (hn▸r) y o j Z p v;exact ⟨e₂,a₂,w₂,t,.of_steps (Steps.trans d (.one step_inLoop)) f⟩
   | exit id=>exact ⟨.exit id,o,j,hq,.pass (x:=.inLoop c) Z (λ_ _=>.inl O) d⟩
   | ret=>exact ⟨.ret,o,j,hq,.pass (x:=.inLoop c) Z (λ_ _=>.inl O) d⟩
   | goto l=>exact hq.elim
   | panic ch=>exact hq.elim
   | outgrown=>exact hq.elim
 obtain ⟨e,a',h,hq,d⟩:=key _ q a w Z (h₀ a z) g₀;exact ⟨e,a',h,hq,.of_steps (.one step_loop) d⟩
end
def Ret(R:Value->World->Prop):Ending->World->Prop
 | .returned v,w=>R v w
 | _,_=>False
theorem Ret.mono{P:Program}{f:FuncId}{args:Array Value}{w:World}{R R':Value->World->Prop}(h:Calls P f args w (Ret R))(b:∀v a,R v a->R' v a):Calls P f args w (Ret R'):=
 Agu h λe a q=>by cases e<;>first|exact b _ _ q|exact q
def Gc(P:Program)(fn:Func)(R:Value->World->Prop)(a:Act)(w:World):Prop:=
 a.defers=[]/\∃v,(results fn a.tmps).run P w=.ok v w/\R v w
theorem enter{P:Program}{f:FuncId}{d:Func}{c:Code}{w:World}{R:Value->World->Prop}(m:P.funcs[f]?=some d)(o:d.body=some c)(n:Nat)(k:d.ntmps=n)(b:Nat.ble V.length n=true)
  (h:∀a,Fr n [] (first 0 V) a->c.wp P (Qp (Gc P d R) ID (Gc P d R)) a w):Calls P f V.toArray w (Ret R):=by
 refine calls_of_wp m o (wp_mono (h _ (by rw[k];exact Fr.start V n (by simpa using b))) λe a w q=>?_)
 cases e with
 | normal=>obtain ⟨j,v,i,g⟩:=q;exact ⟨j,v,i,g⟩
 | ret=>obtain ⟨j,v,i,g⟩:=q;exact ⟨j,v,i,g⟩
 | exit id=>exact q.elim
 | goto l=>exact q.elim
 | panic ch=>exact q.elim
 | outgrown=>exact q.elim
def AaE(P:Program)(L:List (Nat×Value))(w:World):ResultVar->Value->Prop
 | .tmp t,v=>CC L t=some v
 | .cell t ty,v=>∃b p,CC L t=some (.pointer (some ⟨b,p,none⟩))/\(loadVar ty ⟨b,p,none⟩).run P w=.ok v w
def EN(P:Program)(L:List (Nat×Value))(w:World):List ResultVar->List Value->Prop
 | [],[]=>True
 | r::rs,v::vs=>AaE P L w r v/\EN P L w rs vs
 | _,_=>False
theorem Ks{P:Program}{n:Nat}{ds:List Deferred}{L:List (Nat×Value)}{a:Act}{w:World}(d:Fr n ds L a):∀(rs:List ResultVar) (vs:List Value),EN P L w rs vs->
  (rs.mapM (λx=>match x with
   | ResultVar.tmp t=>(Pure.pure (a.tmps.getD t undef):Sem Value)
   | ResultVar.cell p t=>do loadVar t (<-asAddr (a.tmps.getD p undef)))).run P w=.ok vs w
 | [],[],_=>by simp[go_sem]
 | [],_::_,h=>h.elim
 | _::_,[],h=>h.elim
 | r::rs,v::vs,h=>by
  have ih:=Ks d rs vs h.2;have c:=h.1
  cases r with
  | tmp t=>
   simp only[AaE] at c;simp only[List.mapM_cons,Aev,AeA,Aer,ih];simp[Array.getD,d.get t v c];have:=d.get t v c;rw[Ae1] at this;obtain ⟨f,j⟩:=this;simp[f,j]
  | cell t ty=>
   obtain ⟨b,p,l,i⟩:=c;have k:=d.get t _ l;have e:a.tmps.getD t undef=.pointer (some ⟨b,p,none⟩):=by simp[k]
   have g:(asAddr (a.tmps.getD t undef)).run P w=.ok ⟨b,p,none⟩ w:=by rw[e];rfl
   simp only[List.mapM_cons,Aev,AeA,Aer,g,i,ih]
def GY:List Value->Value
 | [v]=>v
 | vs=>.tuple vs.toArray
theorem Hi{P:Program}{b:Func}{n:Nat}{ds:List Deferred}{L:List (Nat×Value)}{a:Act}{w:World}(f:Fr n ds L a){rs:List ResultVar}(g:b.results=rs.toArray)(d:EN P L w rs V):(results b a.tmps).run P w=.ok (GY V) w:=by
 have c:=Ks f rs V d;have e:(List.toArray<$> (rs.mapM (λx=>match x with
   | ResultVar.tmp t=>(Pure.pure (a.tmps.getD t undef):Sem Value)
   | ResultVar.cell p t=>do loadVar t (<-asAddr (a.tmps.getD p undef))))).run P w=.ok V.toArray w:=by
  show (Sem.bind _ _).run P w=_;have:=Aev (P:=P) (w:=w) (rs.mapM (λx=>match x with
   | ResultVar.tmp t=>(Pure.pure (a.tmps.getD t undef):Sem Value)
   | ResultVar.cell p t=>do loadVar t (<-asAddr (a.tmps.getD p undef)))) (λx=>(Pure.pure x.toArray:Sem (Array Value)))
  refine this.trans ?_;rw[c];rfl
 unfold results;rw[g,List.mapM_toArray,Aev]
 erw [e]
 simp only[Aer,AeA]
 cases V with
 | nil=>rfl
 | cons x xs=>cases xs with
  | nil=>rfl
  | cons y ys=>simp[GY]
theorem Fq{P:Program}{b:Func}{R:Value->World->Prop}{n:Nat}{L:List (Nat×Value)}{w:World}{rs:List ResultVar}(f:b.results=rs.toArray)(vs:List Value)(d:EN P L w rs vs)(e:GY vs=v)(h:R v w):∀a,Fr n [] L a->Gc P b R a w:=λa c=>
 ⟨c.defers,v,by rw[<-e];exact Hi c f d,h⟩
theorem AcQ{P:Program}{b:Func}{R:Value->World->Prop}{n:Nat}{L:List (Nat×Value)}{a:Act}{w:World}(c:Fr n [] L a)(d:b.results= #[])(h:R (.tuple #[]) w):Gc P b R a w:=
 ⟨c.defers,_,by simp[results,d,go_sem],h⟩
theorem dn0{P:Program}{b:Func}{R:Value->World->Prop}{n:Nat}{L:List (Nat×Value)}{w:World}(d:b.results= #[])(h:R (.tuple #[]) w):∀a,Fr n [] L a->Gc P b R a w:=λ_ c=>AcQ c d h
end
section
structure Ext(F:Nat->Prop)(w w':World):Prop where
 os:w'.os=w.os
 tape:w'.tape=w.tape
 output:w'.output=w.output
 size:w.heap.size<=w'.heap.size
 block:∀k,k<w.heap.size->¬F k->w'.heap[k]?=w.heap[k]?
def No:Nat->Prop:=λ_=>False
theorem Ext.refl(F:Nat->Prop)(w:World):Ext F w w:=⟨Z,Z,Z,Aei _,λ_ _ _=>rfl⟩
theorem Ext.mono{F a:Nat->Prop}{w:World}(h:Ext F w z)(c:∀k,k<w.heap.size->F k->a k):Ext a w z:=
 ⟨h.os,h.tape,h.output,h.size,λk b d=>h.block k b (λq=>d (c k b q))⟩
theorem Ext.below{w:World}(h:Ext No w z):Below w.heap.size w z:=⟨h.os,h.tape,h.output,h.size,λk a=>h.block k a (λq=>q)⟩
theorem Ext.of_grown{w:World}{a:Option Nat}(h:w.grownBy z a):Ext (λk=>some k=a) w z:=⟨h.os,h.tape,h.output,h.size,λk c b=>h.block k c b⟩
theorem Ext.drawn(F:Nat->Prop)(w:World):Ext F w {w with drawn:=w.drawn+1} :=⟨Z,Z,Z,Aei _,λ_ _ _=>rfl⟩
def Blk(b:Nat)(cs:List Value)(ty:TypeId)(w:World):Prop:=w.heap[b]?=some (.cells cs.toArray ty (0,0))
def FE(b o:Nat)(v:Value)(w:World):Prop:=w.cell? ⟨b,o,none⟩=some v
theorem Sm{w:World}{o:Obj}(h:w.heap[m]?=some o):m<w.heap.size:=by
 rcases Aeq m w.heap.size with h'|h'
 ·exact h'
 rw[Ae0 h'] at h;cases h
theorem Blk.lt{b:Nat}{cs:List Value}{ty:TypeId}{w:World}(h:Blk b cs ty w):b<w.heap.size:=Sm h
theorem Blk.cel{b:Nat}{cs:List Value}{ty:TypeId}{w:World}(h:Blk b cs ty w)(o:Nat){v:Value}(a:cs[o]?=some v):FE b o v w:=by
 unfold FE World.cell?;have h':w.heap[b]?=some (.cells cs.toArray ty (0,0)):=h;simp[h',a]
theorem Blk.free{b:Nat}{cs:List Value}{ty:TypeId}{w:World}(h:Blk b cs ty w)(o:Nat):w.frozen? ⟨b,o,none⟩=false:=by
 unfold World.frozen?;have h':w.heap[b]?=some (.cells cs.toArray ty (0,0)):=h;simp[h']
def AdA(P:Program)(C:World->Prop)(o:Oper)(a:Act)(v:Value):Prop:=∀w,C w->(execOp a.eval o).run P w=.ok (.value v) w
def Au(P:Program)(C:World->Prop)(n:Nat)(ds:List Deferred)(L:List (Nat×Value))(o:Oper)(v:Value):Prop:=∀a,Fr n ds L a->AdA P C o a v
def AdB(P:Program)(o:Oper)(a:Act)(w:World)(R:Value->World->Prop):Prop:=∃v w',(execOp a.eval o).run P w=.ok (.value v) w'/\R v w'
def AdC(P:Program)(o:Oper)(a:Act)(w:World)(R:World->Prop):Prop:=∃w',(execOp a.eval o).run P w=.ok .skip w'/\R w'
def Cy(P:Program)(n:Nat)(ds:List Deferred)(L:List (Nat×Value))(o:Oper)(w:World)(R:Value->World->Prop):Prop:=∀a,Fr n ds L a->AdB P o a w R
def DH(P:Program)(n:Nat)(ds:List Deferred)(L:List (Nat×Value))(o:Oper)(w:World)(R:World->Prop):Prop:=∀a,Fr n ds L a->AdC P o a w R
def BM(ops:List Oper)(L:List (Nat×Value)):Option (Nat×Bool)->Bool
 | none=>true
 | some (j,b)=>match (ops[j]?).bind (·.dst) with
  | some t=>match CC L t with
   | some (.bool c)=>(match c,b with|true,true=>true|false,false=>true|_,_=>false)
   | _=>false
  | none=>false
def EW(ops:List Oper)(L:List (Nat×Value)):Option (Nat×Bool)->Bool
 | none=>false
 | some (j,b)=>match (ops[j]?).bind (·.dst) with
  | some t=>match CC L t with
   | some (.bool c)=>(match c,b with|true,false=>true|false,true=>true|_,_=>false)
   | some (.tuple _)=>true
   | _=>false
  | none=>false
theorem wantL_ok{ops:List Oper}{L:List (Nat×Value)}{n:Nat}{ds:List Deferred}{a:Act}{o:Oper}(e:Fr n ds L a)(h:BM ops L o.guard=true):Region.wanted o (yielded ops.toArray a.tmps)=true:=by
 unfold Region.wanted
 cases hg:o.guard with
 | none=>rfl
 | some g=>
  obtain ⟨j,b⟩:=g;rw[hg] at h;simp only[BM] at h;simp only[yielded,Afe]
  cases ht:(ops[j]?).bind (·.dst) with
  | none=>rw[ht] at h;cases h
  | some t=>
   rw[ht] at h;simp only at h
   cases hl:CC L t with
   | none=>rw[hl] at h;cases h
   | some v=>
    rw[hl] at h;have d:=e.get t v hl;cases v<;>simp at h;rename_i c;simp only[AgV,d];cases c<;>cases b<;>simp at h ⊢
theorem skipL_ok{ops:List Oper}{L:List (Nat×Value)}{n:Nat}{ds:List Deferred}{a:Act}{o:Oper}(e:Fr n ds L a)(h:EW ops L o.guard=true):Region.wanted o (yielded ops.toArray a.tmps)=false:=by
 unfold Region.wanted
 cases hg:o.guard with
 | none=>rw[hg] at h;cases h
 | some g=>
  obtain ⟨j,b⟩:=g;rw[hg] at h;simp only[EW] at h;simp only[yielded,Afe]
  cases ht:(ops[j]?).bind (·.dst) with
  | none=>rw[ht] at h;cases h
  | some t=>
   rw[ht] at h;simp only at h
   cases hl:CC L t with
   | none=>rw[hl] at h;cases h
   | some v=>
    rw[hl] at h;have d:=e.get t v hl;simp only[AgV,d];cases v<;>simp at h ⊢;rename_i c;cases c<;>cases b<;>simp at h ⊢
section steps
variable{P:Program}{ops:List Oper}{Q:Exit->Act->World->Prop}{a:Act}{w:World}{rest:List Oper}{o:Oper}{n d:Nat}{ds:List Deferred}{L:List (Nat×Value)}{v:Value}
theorem Ay{p:World->Prop}{w:World}(h:p w):∀a,a=w->p a:=λa e=>by subst e;exact h
theorem s_do(f:BM ops L o.guard=true)(g:o.dst=some d)(c:Nat.blt d n=true)(b:Au P (· =w) n ds L o v)(K:∀a',Fr n ds ((d,v)::L) a'->wpList P ops.toArray Q rest a' w):∀a,Fr n ds L a->wpList P ops.toArray Q (o::rest) a w:=by
 intro a e;unfold wpList;rw[if_pos (wantL_ok e f)];left;unfold Oper.wp;rw[b a e w Z,AgM,g];exact K _ (e.put d v c)
theorem Sn(e:EW ops L o.guard=true)(f:o.dst=some d)(b:Nat.blt d n=true)(K:∀a',Fr n ds ((d,undef)::L) a'->wpList P ops.toArray Q rest a' w):∀a,Fr n ds L a->wpList P ops.toArray Q (o::rest) a w:=by
 intro a c;unfold wpList;rw[if_neg (by rw[skipL_ok c e];exact AgR),f];exact K _ (c.put d undef b)
theorem XG(c:EW ops L o.guard=true)(d:o.dst=none)(K:∀a,Fr n ds L a->wpList P ops.toArray Q rest a w):∀a,Fr n ds L a->wpList P ops.toArray Q (o::rest) a w:=by
 intro a b;unfold wpList;rw[if_neg (by rw[skipL_ok b c];exact AgR),d];exact K a b
theorem E3{R:Value->World->Prop}(f:BM ops L o.guard=true)(j:o.dst=some d)(c:Nat.blt d n=true)(h:Cy P n ds L o w R)(K:∀v b,R v b->∀a',Fr n ds ((d,v)::L) a'->wpList P ops.toArray Q rest a' b):∀a,Fr n ds L a->wpList P ops.toArray Q (o::rest) a w:=by
 intro a e;obtain ⟨v,b,i,g⟩:=h a e;unfold wpList;rw[if_pos (wantL_ok e f)];left;unfold Oper.wp;rw[i,AgM,j];exact K v b g _ (e.put d v c)
theorem F0{R:World->Prop}(d:BM ops L o.guard=true)(g:o.dst=none)(h:DH P n ds L o w R)(K:∀b,R b->∀a,Fr n ds L a->wpList P ops.toArray Q rest a b):∀a,Fr n ds L a->wpList P ops.toArray Q (o::rest) a w:=by
 intro a c;obtain ⟨b,f,e⟩:=h a c;unfold wpList;rw[if_pos (wantL_ok c d)];left;unfold Oper.wp;rw[f,Oper.upon_skip,g];exact K b e a c
theorem So{p:Prop}[Decidable p](t:Nat)(c:CC L t=some (.bool (decide p)))(e:p->∀a,Fr n ds ((t,.bool true)::L) a->wpList P ops.toArray Q (o::rest) a w)(d:¬p->∀a,Fr n ds ((t,.bool false)::L) a->wpList P ops.toArray Q (o::rest) a w):∀a,Fr n ds L a->wpList P ops.toArray Q (o::rest) a w:=by
 intro a b;by_cases h:p
 ·exact e h a (b.upd t c (by simp[h]))
 exact d h a (b.upd t c (by simp[h]))
theorem Uq(t:Nat)(d:CC L t=some (.bool b))(f:b=true->∀a,Fr n ds ((t,.bool true)::L) a->wpList P ops.toArray Q (o::rest) a w)(e:b=false->∀a,Fr n ds ((t,.bool false)::L) a->wpList P ops.toArray Q (o::rest) a w):∀a,Fr n ds L a->wpList P ops.toArray Q (o::rest) a w:=by
 intro a c
 cases b with
 | true=>exact f Z a (c.upd t d Z)
 | false=>exact e Z a (c.upd t d Z)
theorem AQ{R:Act->World->Prop}{X:Nat->Act->World->Prop}(h:∀a,Fr n ds L a->N a w):∀a,Fr n ds L a->wpList P ops.toArray (Qp N X R) [] a w:=h
theorem AI{id:Nat}{R:Act->World->Prop}{X:Nat->Act->World->Prop}(h:∀a,Fr n ds L a->wpList P ops.toArray (Qp N X R) ops a w):∀a,Fr n ds L a->(Code.region id ops.toArray false).wp P (Qp N X R) a w:=λa b=>wp_region_lit (h a b)
theorem Sp{R:Value->World->Prop}{f:FuncId}{args:List Operand}{vs:List Value}{tys:Array TypeId}(m:BM ops L o.guard=true)(r:o.dst=some d)(k:Nat.blt d n=true)
  (p:o.op=.call {callee:=.value (.func f),args:=args.toArray,argTypes:=tys})(b:evs L args=some vs)(l:∀w,(callFunc f vs.toArray).run P w=.ok (.enter f vs.toArray) w)(h:Calls P f vs.toArray w (Ret R))
  (K:∀v i,R v i->∀a',Fr n ds ((d,v)::L) a'->wpList P ops.toArray Q rest a' i):∀a,Fr n ds L a->wpList P ops.toArray Q (o::rest) a w:=by
 intro a j;unfold wpList;rw[if_pos (wantL_ok j m)];left;have g:(execOp a.eval o).run P w=.ok (.enter f vs.toArray) w:=by
  unfold execOp;have e:=j.evs b;simp only[p,resolve,Act.eval,Deferred.ofValue,invoke];simp only[go_sem,AeW,e,AeQ,AeV,l];simpa using l w
 unfold Oper.wp;rw[g,AgN];exact Agu h λe i q=>by
  cases e with
  | returned v=>simp only[r];exact K v i q _ (j.put d v k)
  | panicked c=>exact q.elim
  | outgrown=>exact q.elim
end steps

section quiet
variable{P:Program}{ops:List Oper}{C:World->Prop}{Q:Act->Prop}{a:Act}{rest:List Oper}{o:Oper}{n d:Nat}{ds:List Deferred}{L:List (Nat×Value)}{v:Value}
theorem AL(h:BM ops L o.guard=true)(i:o.dst=some d)(c:Nat.blt d n=true)(b:Au P C n ds L o v)(K:∀a',Fr n ds ((d,v)::L) a'->wpQuiet P ops.toArray C Q rest a'):∀a,Fr n ds L a->wpQuiet P ops.toArray C Q (o::rest) a:=λa e=>
 wpQuiet_step λK' g=>by
  rw[if_pos (wantL_ok e h)];refine ⟨v,λw f=>?_,g _ ?_⟩
  ·unfold Oper.quietAt;rw[b a e w f];exact ⟨Z,Z⟩
  rw[i];exact K _ (e.put d v c)
theorem Sr(f:EW ops L o.guard=true)(g:o.dst=some d)(b:Nat.blt d n=true)(K:∀a',Fr n ds ((d,undef)::L) a'->wpQuiet P ops.toArray C Q rest a'):∀a,Fr n ds L a->wpQuiet P ops.toArray C Q (o::rest) a:=λa c=>
 wpQuiet_step λK' e=>by
  rw[if_neg (by rw[skipL_ok c f];exact AgR)];exact e _ (by rw[g];exact K _ (c.put d undef b))
theorem Cd{p:Prop}[Decidable p](t:Nat)(c:CC L t=some (.bool (decide p)))(e:p->∀a,Fr n ds ((t,.bool true)::L) a->wpQuiet P ops.toArray C Q (o::rest) a)(d:¬p->∀a,Fr n ds ((t,.bool false)::L) a->wpQuiet P ops.toArray C Q (o::rest) a):∀a,Fr n ds L a->wpQuiet P ops.toArray C Q (o::rest) a:=by
 intro a b;by_cases h:p
 ·exact e h a (b.upd t c (by simp[h]))
 exact d h a (b.upd t c (by simp[h]))
theorem Dm{f:FuncId}{args:List Operand}{vs:List Value}{tys:Array TypeId}(p:BM ops L o.guard=true)(s:o.dst=some d)(j:Nat.blt d n=true)
  (r:o.op=.call {callee:=.value (.func f),args:=args.toArray,argTypes:=tys})(b:evs L args=some vs)(l:∀w,(callFunc f vs.toArray).run P w=.ok (.enter f vs.toArray) w)(h:∀w,C w->Calls P f vs.toArray w (Ret λu k=>u=v/\C k))
  (K:∀a',Fr n ds ((d,v)::L) a'->wpQuiet P ops.toArray C Q rest a'):∀a,Fr n ds L a->wpQuiet P ops.toArray C Q (o::rest) a:=λa i=>
 wpQuiet_step λK' t=>by
  rw[if_pos (wantL_ok i p)];refine ⟨v,λw m=>?_,t _ ?_⟩
  ·have g:(execOp a.eval o).run P w=.ok (.enter f vs.toArray) w:=by
    unfold execOp;have e:=i.evs b;simp only[r,resolve,Act.eval,Deferred.ofValue,invoke];simp only[go_sem,AeW,e,AeQ,AeV,l];simpa using l w
   unfold Oper.quietAt;rw[g];refine ⟨Z,Agu (h w m) λe k q=>?_⟩
   cases e with
   | returned u=>exact ⟨by rw[q.1],q.2⟩
   | panicked c=>exact q.elim
   | outgrown=>exact q.elim
  rw[s];exact K _ (i.put d v j)
theorem BI(h:∀b,C b->∀a,Fr n ds L a->N a b):∀a,Fr n ds L a->wpQuiet P ops.toArray C (λa'=>∀b,C b->N a' b) [] a:=λa c b d=>h b d a c
theorem Bv{R:Act->World->Prop}{X:Nat->Act->World->Prop}{w:World}(C:World->Prop)(f:P.follows .mixedOrders=true)(d:Region.lexB .any ops.toArray=true)(c:C w.drew)
  (h:∀a,Fr n ds L a->wpQuiet P ops.toArray C (λa'=>∀b,C b->N a' b) ops a):∀a,Fr n ds L a->(Code.region m ops.toArray true).wp P (Qp N X R) a w:=λa e=>
 wp_region_quiet (C:=C) f d c (h a e)
end quiet
end
section
section
variable{P:Program}{C:World->Prop}{o:Oper}{a:Act}{n:Nat}{ds:List Deferred}{L:List (Nat×Value)}{v:Value}
theorem Cj{x:Operand}(d:o.op=.move x)(c:ev L x=some v):Au P C n ds L o v:=λa b w _=>by
 simp only[execOp,d,b.ev c];rfl
theorem Bl{x:Operand}(d:o.op=.assign x)(c:ev L x=some v):Au P C n ds L o v:=λa b w _=>by
 simp only[execOp,d,b.ev c];rfl
theorem Nl{c x y:Operand}(f:o.op=.pick c x y)(d:ev L c=some (.bool true))(e:ev L x=some v):Au P C n ds L o v:=λa b w _=>by
 simp only[execOp,f,b.ev d,b.ev e];simp[go_sem]
theorem Nm{c x y:Operand}(f:o.op=.pick c x y)(d:ev L c=some (.bool false))(e:ev L y=some v):Au P C n ds L o v:=λa b w _=>by
 simp only[execOp,f,b.ev d,b.ev e];simp[go_sem]

def D8(P:Program)(s t:TypeId):Option IntKind:=match P.underlying s,P.underlying t with
 | some _,some (.int k)=>some k
 | _,_=>none
theorem FL{t:TypeId}{k:IntKind}(h:D8 P T t=some k):∃d,P.underlying T=some d/\P.underlying t=some (.int k):=by
 unfold D8 at h;split at h
 ·rename_i d c b a;simp only[Ael] at h;subst h;exact ⟨d,b,a⟩
 cases h
def Dn(P:Program)(t:TypeId):Option Nat:=match P.underlying t with
 | some (.slice e)=>(P.info? e).map (·.size)
 | _=>none
theorem Fd(h:Dn P T=some m):∃e i,P.underlying T=some (.slice e)/\P.info? e=some i/\i.size=m:=by
 unfold Dn at h;split at h
 ·rename_i e a
  cases hi:P.info? e with
  | none=>rw[hi] at h;cases h
  | some i=>rw[hi] at h;exact ⟨e,i,a,hi,by simpa using h⟩
 cases h
def Id(P:Program)(t:TypeId):Option (Nat×Nat):=match P.underlying t with
 | some (.array l e)=>(P.info? e).map λi=>(l,i.size)
 | _=>none
theorem Ie(h:Id P T=some (m,j)):∃e i,P.underlying T=some (.array m e)/\P.info? e=some i/\i.size=j:=by
 unfold Id at h;split at h
 ·rename_i l' e a
  cases hi:P.info? e with
  | none=>rw[hi] at h;cases h
  | some i=>
   rw[hi] at h;simp only[AeR,Ael,Afx] at h;obtain ⟨rfl,b⟩:=h;exact ⟨e,i,a,hi,b⟩
 cases h
def Ek(P:Program)(s:TypeId)(f:Nat):Option Nat:=match P.underlying s with
 | some (.struct fs)=>match fs[f]? with
  | some fd=>match P.info? fd.type with
   | some i=>bif Nat.beq i.size 0 then none else some fd.offset
   | none=>none
  | none=>none
 | _=>none
theorem Pu{k:Nat}(h:Ek P T m=some k):∃b a i,P.underlying T=some (.struct b)/\b[m]?=some a/\P.info? a.type=some i/\i.size≠0/\a.offset=k:=by
 unfold Ek at h;split at h
 ·rename_i b c
  split at h
  ·rename_i a d
   split at h
   ·rename_i i e
    cases hb:Nat.beq i.size 0 with
    | true=>rw[hb] at h;cases h
    | false=>
     rw[hb] at h;exact ⟨b,a,i,c,d,e,Agw hb,by simpa using h⟩
   cases h
  cases h
 cases h
def If(P:Program)(t:TypeId):Option Nat:=match P.underlying t with
 | some (.struct _)=>(P.info? t).map (·.size)
 | some (.array _ _)=>(P.info? t).map (·.size)
 | _=>none
theorem Nn(h:If P T=some m)(w:World):(isAgg T).run P w=.ok true w/\(sizeOf T).run P w=.ok m w:=by
 have key:∀d,P.underlying T=some d->((d matches .struct _)=true\/(d matches .array _ _)=true)->(P.info? T).map (·.size)=some m->(isAgg T).run P w=.ok true w/\(sizeOf T).run P w=.ok m w:=by
  intro d c a hs
  cases hi:P.info? T with
  | none=>rw[hi] at hs;cases hs
  | some i=>
   rw[hi] at hs;simp only[AeR,Ael] at hs;refine ⟨?_,by simp[sizeOf,typeInfo,hi,go_sem,hs]⟩;unfold isAgg;simp only[run_underlying c,go_sem,Aev,Aer];rcases a with a|a<;>(cases d<;>simp at a ⊢)
 unfold If at h;split at h
 ·rename_i b;exact key _ b (.inl Z) h
 ·rename_i b;exact key _ b (.inr Z) h
 cases h

section ints
variable{x y:Operand}{xt yt:TypeId}{k:IntKind}{p q:Int}
theorem W4(c:o.op=.binOp .add xt x y yt)(d:ev L x=some (.int k p))(e:ev L y=some (.int k q)):Au P C n ds L o (.int k (k.wrap (p+q))):=λa b w _=>by
 simp only[execOp,c,b.ev d,b.ev e];simp[go_sem]
theorem AcR(c:o.op=.binOp .sub xt x y yt)(d:ev L x=some (.int k p))(e:ev L y=some (.int k q)):Au P C n ds L o (.int k (k.wrap (p-q))):=λa b w _=>by
 simp only[execOp,c,b.ev d,b.ev e];simp[go_sem]
theorem AcS(c:o.op=.binOp .mul xt x y yt)(d:ev L x=some (.int k p))(e:ev L y=some (.int k q)):Au P C n ds L o (.int k (k.wrap (p*q))):=λa b w _=>by
 simp only[execOp,c,b.ev d,b.ev e];simp[go_sem]
theorem AcT(d:o.op=.binOp .quo xt x y yt)(c:ev L x=some (.int k p))(f:ev L y=some (.int k q))(e:q≠0):Au P C n ds L o (.int k (k.wrap (p.tdiv q))):=λa b w _=>by
 simp only[execOp,d,b.ev c,b.ev f];simp[go_sem,e]
theorem Na(d:o.op=.binOp .rem xt x y yt)(c:ev L x=some (.int k p))(f:ev L y=some (.int k q))(e:q≠0):Au P C n ds L o (.int k (p.tmod q)):=λa b w _=>by
 simp only[execOp,d,b.ev c,b.ev f];simp[go_sem,e]
theorem Rj(c:o.op=.binOp .lss xt x y yt)(d:ev L x=some (.int k p))(e:ev L y=some (.int k q)):Au P C n ds L o (.bool (decide (p<q))):=λa b w _=>by
 simp only[execOp,c,b.ev d,b.ev e];simp[go_sem]
theorem W5(c:o.op=.binOp .leq xt x y yt)(d:ev L x=some (.int k p))(e:ev L y=some (.int k q)):Au P C n ds L o (.bool (decide (p<=q))):=λa b w _=>by
 simp only[execOp,c,b.ev d,b.ev e];simp[go_sem]
theorem W6(c:o.op=.binOp .gtr xt x y yt)(d:ev L x=some (.int k p))(e:ev L y=some (.int k q)):Au P C n ds L o (.bool (decide (q<p))):=λa b w _=>by
 simp only[execOp,c,b.ev d,b.ev e];simp[go_sem]
theorem W7(c:o.op=.binOp .geq xt x y yt)(d:ev L x=some (.int k p))(e:ev L y=some (.int k q)):Au P C n ds L o (.bool (decide (q<=p))):=λa b w _=>by
 simp only[execOp,c,b.ev d,b.ev e];simp[go_sem]
theorem W8(c:o.op=.binOp .eql xt x y yt)(d:ev L x=some (.int k p))(e:ev L y=some (.int k q)):Au P C n ds L o (.bool (decide (p=q))):=λa b w _=>by
 simp only[execOp,c,b.ev d,b.ev e];simp[go_sem];rw[Aew];simp
theorem Xa(c:o.op=.binOp .neq xt x y yt)(d:ev L x=some (.int k p))(e:ev L y=some (.int k q)):Au P C n ds L o (.bool (decide (p≠q))):=λa b w _=>by
 simp only[execOp,c,b.ev d,b.ev e];simp[go_sem];rw[Aew];simp
theorem C3(b:o.op=.binOp .add xt x y yt)(d:ev L x=some (I p))(e:ev L y=some (I q)){r:Int}(c:p+q=r)(a: -9223372036854775808<=r/\r<=9223372036854775807):Au P C n ds L o (I r):=by
 have:=W4 (P:=P) (C:=C) (n:=n) (ds:=ds) (L:=L) b d e;rwa[c,AfL _ a] at this
theorem Hs(b:o.op=.binOp .sub xt x y yt)(d:ev L x=some (I p))(e:ev L y=some (I q)){r:Int}(c:p-q=r)(a: -9223372036854775808<=r/\r<=9223372036854775807):Au P C n ds L o (I r):=by
 have:=AcR (P:=P) (C:=C) (n:=n) (ds:=ds) (L:=L) b d e;rwa[c,AfL _ a] at this
theorem Ht(b:o.op=.binOp .mul xt x y yt)(d:ev L x=some (I p))(e:ev L y=some (I q)){r:Int}(c:p*q=r)(a: -9223372036854775808<=r/\r<=9223372036854775807):Au P C n ds L o (I r):=by
 have:=AcS (P:=P) (C:=C) (n:=n) (ds:=ds) (L:=L) b d e;rwa[c,AfL _ a] at this
theorem Ln(b:o.op=.binOp .quo xt x y yt)(c:ev L x=some (I p))(d:ev L y=some (I q)){r:Int}(a:0<=p)(f:0<q)(e:p/q=r)(h:p<=9223372036854775807):Au P C n ds L o (I r):=by
 have:=AcT (P:=P) (C:=C) (n:=n) (ds:=ds) (L:=L) b c d U;rw[Int.tdiv_eq_ediv_of_nonneg a] at this;have g:0<=p/q:=Int.ediv_nonneg a U;have i:p/q<=p:=Int.ediv_le_self q a;rwa[e,AfL _ U] at this
theorem Lo(a:o.op=.binOp .rem xt x y yt)(e:ev L x=some (.int k p))(f:ev L y=some (.int k q)){r:Int}(d:0<=p)(c:q≠0)(b:p%q=r):Au P C n ds L o (.int k r):=by
 have:=Na (P:=P) (C:=C) (n:=n) (ds:=ds) (L:=L) a e f c;rwa[Int.tmod_eq_emod_of_nonneg d,b] at this
theorem Xb(c:o.op=.unOp .neg xt x)(d:ev L x=some (.int k p)):Au P C n ds L o (.int k (k.wrap (0-p))):=λa b w _=>by
 simp only[execOp,c,b.ev d];simp[go_sem]
theorem PO(b:o.op=.unOp .neg xt x)(c:ev L x=some (I p)){r:Int}(d: -p=r)(a: -9223372036854775808<=r/\r<=9223372036854775807):Au P C n ds L o (I r):=by
 have:=Xb (P:=P) (C:=C) (n:=n) (ds:=ds) (L:=L) b c;rwa[show (0:Int)-p=r from by omega,AfL _ a] at this
theorem Hu{c:IntKind}(f:o.op=.convert xt T x)(b:D8 P xt T=some c)(d:ev L x=some (.int k p)):Au P C n ds L o (.int c (c.wrap p)):=λa e w _=>by
 obtain ⟨h,g,b⟩:=FL b;simp only[execOp,f,e.ev d];simp[convert,run_underlying g,run_underlying b,go_sem]
theorem Ur{a:IntKind}(b:o.op=.convert xt T x)(d:D8 P xt T=some a)(e:ev L x=some (.int k p)){r:Int}(c:a.wrap p=r):Au P C n ds L o (.int a r):=by
 have:=Hu (P:=P) (C:=C) (n:=n) (ds:=ds) (L:=L) b d e;rwa[c] at this
end ints

def Np(P:Program)(t:TypeId):Bool:=match P.underlying t with|some .bool=>true|_=>false
theorem Ss(h:Np P T=true):P.underlying T=some .bool:=by
 unfold Np at h;split at h
 ·assumption
 cases h
theorem Kt{xt:TypeId}{x:Operand}(e:o.op=.unOp .not xt x)(c:ev L x=some (.bool b)):Au P C n ds L o (.bool !b):=λa d w _=>by
 simp only[execOp,e,d.ev c];simp[go_sem]
theorem AF{xt:TypeId}{x:Operand}(d:o.op=.unOp .not xt x){p:Prop}[Decidable p](b:ev L x=some (.bool (decide p))):Au P C n ds L o (.bool (decide (¬p))):=λa c w _=>by
 simp only[execOp,d,c.ev b];simp[go_sem]
theorem Nq{xt yt:TypeId}{x y:Operand}(g:o.op=.binOp .neq xt x y yt)(d:Np P xt=true)(f:ev L x=some (.bool b))(h:ev L y=some (.bool c)):Au P C n ds L o (.bool (decide (b≠c))):=λa e w _=>by
 have d:=Ss d;simp only[execOp,g,e.ev f,e.ev h];simp[d,go_sem];cases b<;>cases c<;>rfl

def Ge(P:Program)(t:TypeId):Bool:=match P.underlying t with
 | some (.struct _)=>false
 | some (.array _ _)=>false
 | some _=>true
 | none=>false
theorem FM(h:Ge P T=true)(w:World):(isAgg T).run P w=.ok false w:=by
 unfold Ge at h;unfold isAgg
 cases hu:P.underlying T with
 | none=>rw[hu] at h;cases h
 | some d=>rw[hu] at h;simp[run_underlying hu,go_sem];cases d<;>simp at h ⊢
theorem Bg{x:Operand}{p:Nat}(e:o.op=.load T x)(g:ev L x=some (.pointer (some ⟨m,p,none⟩)))(f:Ge P T=true)(b:∀w,C w->FE m p v w):Au P C n ds L o v:=λa d w c=>by
 have:=b w c;unfold FE at this;simp only[execOp,e,d.ev g];simp[Instr.loadAt,Instr.sureAddr,loadVar,FM f,go_sem,this]
theorem BU{x:Operand}{p:Nat}{vs:List Value}(g:o.op=.load T x)(k:ev L x=some (.pointer (some ⟨m,p,none⟩)))
  (h:If P T=some vs.length)(l:∀w,C w->∀j u,vs[j]?=some u->FE m (p+j) u w):Au P C n ds L o (.agg vs.toArray):=λa f w d=>by
 have r:=run_loadCells_list (P:=P) w ⟨m,p,none⟩ vs (λj u q=>by
  have:=l w d j u q;have e:(Addr.add ⟨m,p,none⟩ j)=⟨m,p+j,none⟩:=by
   unfold Addr.add;split
   ·rename_i i;simp[i]
   rfl
  rw[e];exact this)
 obtain ⟨b,c⟩:=Nn h w;simp only[execOp,g,f.ev k,Instr.loadAt,Instr.sureAddr,loadVar,Aev,AeA,Aer,b,if_true,c,r]
theorem Blk.part{b:Nat}{cs:List Value}{ty:TypeId}{w:World}(h:Blk b cs ty w)(p k:Nat)(vs:List Value)(c:vs=(cs.drop p).take k):∀j u,vs[j]?=some u->FE b (p+j) u w:=λj u a=>by
 subst c;refine h.cel _ ?_;rw[AeX] at a;split at a
 ·rw[Afl] at a;exact a
 cases a
def GZ(P:Program)(t:TypeId):Bool:=match P.underlying t with|some .string=>true|_=>false
theorem GA(h:GZ P T=true):P.underlying T=some .string:=by
 unfold GZ at h;split at h
 ·assumption
 cases h

theorem Fs{x:Operand}{t z:TypeId}{h:Option Addr}{l c:Nat}(f:o.op=.call {callee:=.builtin .len,args:= #[x],argTypes:= #[t]})(b:Dn P t=some z)(g:ev L x=some (.slice h l c)):Au P C n ds L o (I l):=λa d w _=>by
 obtain ⟨e,i,b,_,_⟩:=Fd b;simp only[execOp,f,d.ev g,resolve,AeW,AeJ,Afz];simp[invoke,builtin,Builtin.len_,run_underlying b,goInt,go_sem]
theorem AaG{x:Operand}{t:TypeId}{s:ByteArray}(e:o.op=.call {callee:=.builtin .len,args:= #[x],argTypes:= #[t]})(b:GZ P t=true)(c:ev L x=some (.string s)):Au P C n ds L o (I s.size):=λa d w _=>by
 have b:=GA b;simp only[execOp,e,d.ev c,resolve,AeW,AeJ,Afz];simp[invoke,builtin,Builtin.len_,run_underlying b,goInt,go_sem]
theorem Nb{x y:Operand}{t u:TypeId}{k d:IntKind}{p q:Int}(e:o.op=.call {callee:=.builtin .max,args:= #[x,y],argTypes:= #[t,u]})(c:ev L x=some (.int k p))(f:ev L y=some (.int d q)):Au P C n ds L o (.int k (max p q)):=λa b w _=>by
 simp only[execOp,e,b.ev c,b.ev f,resolve,AeW,AeJ,Afz];simp[invoke,builtin,Builtin.max_,Builtin.max2,go_sem];omega
theorem Ku{x y:Operand}{t u:TypeId}{k d:IntKind}{p q:Int}(e:o.op=.call {callee:=.builtin .min,args:= #[x,y],argTypes:= #[t,u]})(c:ev L x=some (.int k p))(f:ev L y=some (.int d q)):Au P C n ds L o (.int k (min p q)):=λa b w _=>by
 simp only[execOp,e,b.ev c,b.ev f,resolve,AeW,AeJ,Afz];simp[invoke,builtin,Builtin.min_,Builtin.min2,go_sem];omega
theorem DS{x:Operand}{p k:Nat}(d:o.op=.fieldAddr T x m)(hs:Ek P T m=some k)(f:ev L x=some (.pointer (some ⟨i,p,none⟩)))(l:p+k=r):Au P C n ds L o (.pointer (some ⟨i,r,none⟩)):=λa c w _=>by
 obtain ⟨t,b,j,hs,h,hi,g,s⟩:=Pu hs;have e:(Addr.add ⟨i,p,none⟩ b.offset)=⟨i,r,none⟩:=by
  unfold Addr.add;split
  ·rename_i q;simp only[Ahl,true_and,and_true];omega
  simp only[Ahl,true_and,and_true];omega
 simp only[execOp,d,c.ev f];simp[Instr.fieldAt,run_underlying hs,h,Instr.sureAddr,fieldPlace,sizeOf,typeInfo,hi,g,e,go_sem]
theorem CI{x y:Operand}{p c z:Nat}{k:IntKind}(i:o.op=.indexAddr T x y)(d:Dn P T=some z)
  (q:ev L x=some (.slice (some ⟨m,p,none⟩) g c))(t:ev L y=some (.int k s))(b:s=j)(v:j<g)(l:p+j*z=r):Au P C n ds L o (.pointer (some ⟨m,r,none⟩)):=λa f w _=>by
 obtain ⟨e,i0,d,hi,u⟩:=Fd d;subst b;have h:(0:Int)<=(j:Int)/\(j:Int)<(g:Int):=by omega
 simp only[execOp,i,f.ev q,f.ev t];simp[Instr.indexAt,run_underlying d,sizeOf,typeInfo,hi,u,h,v,l,go_sem,asIntOf]
def At(ao:Option Addr)(k:Nat)(v:Value)(w:World):Prop:=∃b p,ao=some ⟨b,p,none⟩/\FE b (p+k) v w
def Hj(ao:Option Addr)(k:Nat):Value:=.pointer (ao.map λa=>⟨a.block,a.off+k,none⟩)
theorem Aj{x y:Operand}{h:Option Addr}{z:Nat}{k:IntKind}{t:World}{q:Nat}(v:o.op=.indexAddr T x y)(d:Dn P T=some z)
  (hx:ev L x=some (.slice h m g))(hy:ev L y=some (.int k s))(c:s=j)(hl:j<m)(f:At h q u t)(hr:j*z=r):Au P C n ds L o (Hj h r):=λa i w _=>by
 obtain ⟨e,i0,d,hi,hz⟩:=Fd d;obtain ⟨b,p,rfl,_⟩:=f;subst c;have l:(0:Int)<=(j:Int)/\(j:Int)<(m:Int):=by omega
 simp only[execOp,v,i.ev hx,i.ev hy];simp[Instr.indexAt,run_underlying d,sizeOf,typeInfo,hi,hz,l,hl,hr,Hj,go_sem,asIntOf]
theorem Bm{x:Operand}{d:Option Addr}{p k q:Nat}(h:o.op=.fieldAddr T x m)(hs:Ek P T m=some k)(f:ev L x=some (Hj d p))(c:At d q u z)(i:p+k=r):Au P C n ds L o (Hj d r):=λa g w e=>by
 obtain ⟨b,p',rfl,_⟩:=c;have:=DS (P:=P) (C:=C) (r:=p'+r) h hs (show ev L x=some (.pointer (some ⟨b,p'+p,none⟩)) from f) U a g w e;simpa [Hj] using this
theorem Ax{x:Operand}{c:Option Addr}{k:Nat}(g:o.op=.load T x)(j:ev L x=some (Hj c k))(i:Ge P T=true)(d:∀w,C w->At c k v w):Au P C n ds L o v:=λa f w e=>by
 obtain ⟨b,p,rfl,h⟩:=d w e;exact Bg (P:=P) (C:=(· =w)) g j i (Ay h) a f w Z
theorem Bp{x:Operand}{g:Option Addr}{k:Nat}{vs:List Value}(l:o.op=.load T x)(q:ev L x=some (Hj g k))
  (m:If P T=some vs.length)(c:vs≠[])(f:∀w,C w->∀j u,vs[j]?=some u->At g (k+j) u w):Au P C n ds L o (.agg vs.toArray):=λa i w d=>by
 cases vs with
 | nil=>exact absurd Z c
 | cons u us=>
  obtain ⟨b,p,rfl,_⟩:=f w d 0 u Z;refine BU (P:=P) (C:=(· =w)) l q m (Ay λj x r=>?_) a i w Z;obtain ⟨b',p',e,h⟩:=f w d j x r;simp only[Ael,Ahl,and_true] at e;obtain ⟨rfl,rfl⟩:=e;rw[Agc];exact h
theorem JQ{x y:Operand}{p l z:Nat}{k:IntKind}(g:o.op=.indexAddr T x y)(c:Id P T=some (l,z))
  (i:ev L x=some (.pointer (some ⟨m,p,none⟩)))(q:ev L y=some (.int k s))(b:s=j)(u:j<l)(h:p+j*z=r):Au P C n ds L o (.pointer (some ⟨m,r,none⟩)):=λa d w _=>by
 obtain ⟨e,v,c,hi,t⟩:=Ie c;subst b;have f:(0:Int)<=(j:Int)/\(j:Int)<(l:Int):=by omega
 simp only[execOp,g,d.ev i,d.ev q];simp[Instr.indexAt,run_underlying c,Instr.sureAddr,sizeOf,typeInfo,hi,t,f,u,h,go_sem,asIntOf]
theorem Fe{x:Operand}{vs:List Value}(d:o.op=.extract x i)(b:ev L x=some (.tuple vs.toArray))(hi:vs[i]?=some v):Au P C n ds L o v:=λa c w _=>by
 simp only[execOp,d,c.ev b];simp[Instr.extract,hi,go_sem]
theorem Kv{x:Operand}{b:Addr}(e:o.op=.nilCheck x)(c:ev L x=some (.pointer (some b))):Au P C n ds L o (.pointer (some b)):=λa d w _=>by
 simp only[execOp,e,d.ev c];simp[go_sem]
theorem Jd{x:Operand}{lo hi:Option Operand}{z:Option Addr}{p q:Nat}(r:o.op=.slice T x lo hi none)(h:Dn P T=some g)
  (s:ev L x=some (.slice z m j))(u:(lo=none/\p=0)\/∃y k i,lo=some y/\ev L y=some (.int k i)/\i=(p:Int))(v:(hi=none/\q=m)\/∃y k i,hi=some y/\ev L y=some (.int k i)/\i=(q:Int))(b:p<=q)(d:q<=j):
  Au P C n ds L o (.slice (if j=p then z else z.map (·.add (p*g))) (q-p) (j-p)):=λa f w _=>by
 obtain ⟨e,i0,h,c,t⟩:=Fd h;have h1:(0:Int)<=(p:Int)/\(p:Int)<=(q:Int):=by omega
 have h2:(0:Int)<=(q:Int)/\(q:Int)<=(j:Int):=by omega
 rcases u with ⟨rfl,rfl⟩|⟨y,k,i,rfl,hy,rfl⟩<;>rcases v with ⟨rfl,rfl⟩|⟨y',k',i',rfl,l,rfl⟩
 ·simp only[execOp,r,AeR,Afy,f.ev s];simp[Instr.sliceAt,Instr.slice,run_underlying h,Instr.sliceBounds,sizeOf,typeInfo,c,t,b,d,go_sem]<;>(try (intro;omega))
 ·simp only[execOp,r,AeR,Afy,f.ev s,f.ev l];simp[Instr.sliceAt,Instr.slice,run_underlying h,Instr.sliceBounds,Instr.sliceBound,asIntOf,h2,sizeOf,typeInfo,c,t,b,d,go_sem]<;>(try (intro;omega))
 ·simp only[execOp,r,AeR,Afy,f.ev s,f.ev hy];simp[Instr.sliceAt,Instr.slice,run_underlying h,Instr.sliceBounds,Instr.sliceBound,asIntOf,h1,sizeOf,typeInfo,c,t,b,d,go_sem]<;>(try (intro;omega))
 simp only[execOp,r,AeR,Afy,f.ev s,f.ev hy,f.ev l];simp[Instr.sliceAt,Instr.slice,run_underlying h,Instr.sliceBounds,Instr.sliceBound,asIntOf,h1,h2,sizeOf,typeInfo,c,t,b,d,go_sem]<;>(try (intro;omega))
end
end
section
def Elt(P:Program)(e:TypeId)(z:Value)(sz by_:Nat):Prop:=∃i,P.info? e=some i/\i.zero=some z/\i.size=sz/\i.bytes=by_/\z.cells.size=sz/\0<sz/\0<by_
theorem Elt.mk{P:Program}{e:TypeId}{z:Value}{sz by_:Nat}(h:(P.info? e).map (λi=>(i.zero,i.size,i.bytes))=some (some z,sz,by_))(a:z.cells.size=sz)(b:0<sz)(c:0<by_):Elt P e z sz by_:=by
 cases hi:P.info? e with
 | none=>rw[hi] at h;cases h
 | some i=>
  rw[hi] at h;simp only[AeR,Ael,Afx] at h;exact ⟨i,hi,h.1,h.2.1,h.2.2,a,b,c⟩
def Rd(sz:Nat)(v:Value)(n:Nat)(xs:List Value)(w:World):Prop:=
 ∃ao c,v=.slice ao n c/\n<=c/\c<=9223372036854775807/\xs.length=n*sz/\∀j u,xs[j]?=some u->At ao j u w
def Xc(B:Nat)(e:TypeId)(sz:Nat)(v:Value)(n:Nat)(xs:List Value)(w:World):Prop:=w.ownsRow B e sz v n xs
theorem Rd.nil(sz:Nat)(w:World):Rd sz (.slice none 0 0) 0 [] w:=⟨none,0,Z,AeO _,by omega,by simp,λj u h=>by simp at h⟩
section
variable{P:Program}{o:Oper}{a:Act}{w:World}{n:Nat}{ds:List Deferred}{L:List (Nat×Value)}
def Nr(cs:List Value)(ty:TypeId)(w:World)(v:Value)(w':World):Prop:=∃b,v=.pointer (some ⟨b,0,none⟩)/\w.heap.size=b/\w'.heap.size=b+1/\Blk b cs ty w'/\Ext No w w'
def Su(cs:List Value)(ty:TypeId)(len:Nat)(w:World)(v:Value)(w':World):Prop:=∃b,v=.slice (some ⟨b,0,none⟩) len len/\w.heap.size=b/\w'.heap.size=b+1/\Blk b cs ty w'/\Ext No w w'
theorem Du(w:World)(o:Obj):Ext No w {w with heap:=w.heap.push o} :=⟨Z,Z,Z,by simp,λk a _=>by
 show (w.heap.push o)[k]?=_;rw[Ahb,if_neg U]⟩
theorem PP(w:World)(cs:List Value)(ty:TypeId):Nr cs ty w (.pointer (some ⟨w.heap.size,0,none⟩)) {w with heap:=w.heap.push (.cells cs.toArray ty)} :=
 ⟨_,Z,Z,by simp,by show (w.heap.push _)[w.heap.size]?=_;simp,Du w _⟩
theorem XH(w:World)(cs:List Value)(ty:TypeId)(a:Nat):Su cs ty a w (.slice (some ⟨w.heap.size,0,none⟩) a a) {w with heap:=w.heap.push (.cells cs.toArray ty)} :=
 ⟨_,Z,Z,by simp,by show (w.heap.push _)[w.heap.size]?=_;simp,Du w _⟩
def zeroCells(P:Program)(e:TypeId):Option (Array Value):=((P.info? e).bind (·.zero)).map Value.cells
theorem XI(c:o.op=.alloc T)(b:zeroCells P T=some V.toArray):Cy P n ds L o w (Nr V T w):=by
 intro a d;refine ⟨_,_,?_,PP w V T⟩;unfold zeroCells at b
 cases hi:P.info? T with
 | none=>rw[hi] at b;cases b
 | some i0=>
  rw[hi] at b;simp only[AgV] at b
  cases hq:i0.zero with
  | none=>rw[hq] at b;cases b
  | some z=>
   rw[hq] at b;simp only[AeR,Ael] at b;simp only[execOp,c];simp[Instr.alloc,zeroValue,typeInfo,hi,hq,newVar,newRow,newObj,go_sem,Sem.run];rw[<-b];rfl
theorem Pv{vs:List Value}{t:TypeId}(g:If P T=some vs.length)(c:Blk m V t w)(d:vs=(V.drop i).take vs.length):(loadVar T ⟨m,i,none⟩).run P w=.ok (.agg vs.toArray) w:=by
 have h:=run_loadCells_list (P:=P) w ⟨m,i,none⟩ vs (λj u f=>by
  have:=c.part i vs.length vs d j u f;have e:(Addr.add ⟨m,i,none⟩ j)=⟨m,i+j,none⟩:=by
   unfold Addr.add;split
   ·rename_i k;simp[k]
   rfl
  rw[e];exact this)
 obtain ⟨a,b⟩:=Nn g w;simp only[loadVar,Aev,AeA,Aer,a,if_true,b,h]
theorem AcU(d:o.op=.box T x)(e:ev L x=some v)(c:v.cells=V.toArray):Cy P n ds L o w (Nr V T w):=by
 intro a b;refine ⟨_,_,?_,PP w V T⟩;simp only[execOp,d,b.ev e];simp[Instr.box,newVar,newRow,newObj,go_sem,Sem.run];rw[<-c];rfl
theorem Bc{C:World->Prop}{parts:List (Nat×Operand)}{vs:List (Nat×Value)}{out:List Value}(c:o.op=.build T parts.toArray)
  (b:(evs L (parts.map (·.2))).map (List.zip (parts.map (·.1)))=some vs)(d:P.built T vs=some out.toArray):Au P C n ds L o (.agg out.toArray):=λa f w _=>by
 cases he:evs L (parts.map (·.2)) with
 | none=>rw[he] at b;cases b
 | some us=>
  rw[he] at b;simp only[AeR,Ael] at b;have e:=f.evs he;have:(parts.map λx=>(x.1,a.eval x.2))=vs:=by
   rw[<-b,<-e,Afn];clear b he e d c
   induction parts with
   | nil=>rfl
   | cons x xs ih=>simp[ih]
  have g:=run_build (P:=P) w T vs.toArray out.toArray (by simpa using d);simp only[execOp,c,AeW];rw[show (List.map (λx=>match x with|(i,x)=>(i,a.eval x)) parts)=vs from this];simp only[Aev,g,Aer,AeA]
theorem Ut{x y:Operand}{t e:TypeId}{z:Value}{sz by_ B k m:Nat}{v u:Value}{xs news:List Value}(ho:o.op=.call {callee:=.builtin .append,args:= #[x,y],argTypes:= #[t,t]})
  (ht:P.underlying t=some (.slice e))(hE:Elt P e z sz by_)(hx:ev L x=some v)(hy:ev L y=some u)(f:Xc B e sz v k xs w)(a2:Rd sz u m news w)(h1:∀c∈news,c.oneCell'=true)(hB:B<=w.heap.size)(a9:(k+m)*by_<=140737488355328):
  Cy P n ds L o w λd w'=>Xc B e sz d (k+m) (xs++news) w'/\Ext (λi=>v.ownBlock=some i) w w'/\(d.ownBlock=v.ownBlock\/d.ownBlock=some w.heap.size):=by
 intro a hF;obtain ⟨i,hi,hz,hs,hb,a6,a3,a4⟩:=hE;obtain ⟨ao,c,rfl,b0,_,hl,a1⟩:=a2;have l:∀r w',(Builtin.append_ #[t,t] o.type #[v,.slice ao m c]).run P w=.ok r w'->(execOp a.eval o).run P w=.ok (.value r) w':=λr w' h=>by
  simp only[execOp,ho,resolve,invoke,builtin,Aev,AeA,Aer,AeW,AeJ,Afz,hF.ev hx,hF.ev hy,h]
 have a5:k+m<=maxLen:=by
  have:(k+m)*1<=(k+m)*by_:=Ags _ a4;unfold maxLen;omega
 have s:news=[]->∀d,d=v->Xc B e sz d (k+m) (xs++news) w/\Ext (λi=>v.ownBlock=some i) w w/\(d.ownBlock=v.ownBlock\/d.ownBlock=some w.heap.size):=by
  intro hn d a7;subst a7;have hm:m=0:=by
   rw[hn] at hl;simp only[AeB] at hl;rcases AhD.1 hl.symm with h|h<;>omega
  subst hm;rw[hn,AeV];exact ⟨f,Ext.refl _ _,.inl Z⟩
 cases ao with
 | none=>
  have hn:news=[]:=by
   cases news with
   | nil=>rfl
   | cons q qs=>obtain ⟨b,p,hh,_⟩:=a1 0 q Z;cases hh
  have hm:m=0:=by
   rw[hn] at hl;simp only[AeB] at hl;rcases AhD.1 hl.symm with h|h<;>omega
  subst hm;refine ⟨v,w,l _ _ ?_,s hn v Z⟩;rcases f.2 with ⟨rfl,rfl⟩|⟨g,b1,b2,rfl,_,_,a8,_⟩
  ·simp[Builtin.append_,run_underlying ht,sizeOf,typeInfo,hi,Builtin.lenOf,Builtin.firstCells]
  simp[Builtin.append_,run_underlying ht,sizeOf,typeInfo,hi,Builtin.lenOf,Builtin.firstCells,a8,storeCells]
 | some ad=>
  have a0:∀j q,news[j]?=some q->w.cell? (ad.add j)=some q:=λj q hj=>by
   obtain ⟨b,p,hh,hc⟩:=a1 j q hj;simp only[Ael] at hh;subst hh;have e:(Addr.add ⟨b,p,none⟩ j)=⟨b,p+j,none⟩:=by
    unfold Addr.add;split
    ·rename_i h0;simp[h0]
    rfl
   rw[e];exact hc
  obtain ⟨d,w',hr,h2,h3,_,h5⟩:=run_append_own_at (P:=P) w B t o.type e i z sz by_ ht hi hz hs hb a6 a3 v k xs f ad m c news hl a0 h1 a5 a9 hB;exact ⟨d,w',l _ _ hr,h2,(Ext.of_grown h3).mono (λ_ _ q=>q.symm),h5⟩
theorem PQ{y:Operand}{ty:TypeId}{vs:List Value}(g:o.op=.store T x y)(h:ev L x=some (.pointer (some ⟨m,j,none⟩)))(l:ev L y=some v)(p:v.cells=vs.toArray)(f:∀u∈vs,u.oneCell'=true)
  (hs:(P.info? T).map (·.size)=some vs.length)(e:Blk m V ty w)(hp:j+vs.length<=V.length){out:List Value}(c:V.take j++vs++V.drop (j+vs.length)=out):
  DH P n ds L o w λw'=>Blk m out ty w'/\Ext (· =m) w w'/\w'.heap.size=w.heap.size:=by
 intro a d;have b:=run_storeCells_at P m j ty vs 0 V.toArray w e (by simpa using hp) f;simp only[Ag4,Af0] at b;rw[c] at b;refine ⟨_,?_,setRow_heap w m _ _ ty (0,0) e,⟨Z,Z,Z,by simp,λk _ q=>setRow_other w m k _ q⟩,by simp⟩
 cases hq:P.info? T with
 | none=>rw[hq] at hs;cases hs
 | some i=>
  rw[hq] at hs;simp only[AeR,Ael] at hs;simp only[execOp,g,d.ev h,d.ev l,Instr.storeAt,Instr.sureAddr,storeVar,sizeOf,typeInfo,Aev,AeA,Aer,p];simp[hq,hs,go_sem,b]
end
end
section
abbrev Hp:=Nat->Option Obj
abbrev Ai:=Hp->Prop
def Hp.part(h:Hp)(own:Nat->Nat)(i:Nat):Hp:=λk=>if own k=i then h k else none
def seps(Γ:List Ai):Ai:=λh=>∃own:Nat->Nat,∀(i:Nat) (A:Ai),Γ[i]?=some A->A (h.part own i)
def hp(w:World):Hp:=λk=>w.heap[k]?
structure Sep(z:World)(Γ:List Ai)(w:World):Prop where
 os:w.os=z.os
 tape:w.tape=z.tape
 output:w.output=z.output
 own:seps Γ (hp w)
def bk(b:Nat)(o:Obj):Ai:=λh=>h b=some o
def blk(b:Nat)(cs:List Value)(ty:TypeId):Ai:=bk b (.cells cs.toArray ty (0,0))
def base(z:World):Ai:=λh=>∀k,k<z.heap.size->h k=z.heap[k]?
def emp:Ai:=λ_=>True
theorem Db{h h':Hp}{own':Nat->Nat}(e:∀k,C k=i↔own' k=j)(b:∀k,C k=i->h k=h' k):h.part C i=h'.part own' j:=by
 funext k;unfold Hp.part;by_cases q:C k=i
 ·rw[if_pos q,if_pos ((e k).1 q),b k q]
 rw[if_neg q,if_neg (λa=>q ((e k).2 a))]
theorem El{h:Hp}{o:Obj}(e:h.part C i n=some o):C n=i/\h n=some o:=by
 unfold Hp.part at e;split at e
 ·exact ⟨by assumption,e⟩
 cases e

def pos:List Nat->Nat->Option Nat
 | [],_=>none
 | x::xs,y=>if y=x then some 0 else (pos xs y).map (· +1)
theorem JR:∀(is:List Nat) (y j:Nat),pos is y=some j->is[j]?=some y
 | [],_,_,h=>by simp[pos] at h
 | x::xs,y,j,h=>by
  unfold pos at h;split at h
  ·rename_i e;simp at h;subst h;simp[e]
  cases hp:pos xs y with
  | none=>rw[hp] at h;cases h
  | some q=>rw[hp] at h;simp at h;subst h;simpa using JR xs y q hp
theorem AaH(h:pos R n=some j):j<R.length:=(Aeb.1 (JR R n j h)).1
def Gf(n:Nat)(is:List Nat):Bool:=(List.range is.length).all λj=>match is[j]? with
 | some y=>Nat.blt y n&&(match pos is y with|some q=>Nat.beq q j|none=>false)
 | none=>false
theorem Sv(h:Gf n R=true)(j y:Nat)(e:R[j]?=some y):y<n/\pos R y=some j:=by
 unfold Gf at h;rw[Af2] at h;have:=h j (by have:=(Aeb.1 e).1;simpa using this);rw[e] at this;simp only[AeC] at this;obtain ⟨b,a⟩:=this;refine ⟨by simpa using b,?_⟩
 cases hq:pos R y with
 | none=>rw[hq] at a;cases a
 | some q=>rw[hq] at a;simp at a;rw[a]
def DI(Γ:List Ai):List Nat->List Ai
 | []=>[]
 | i::is=>(match Γ[i]? with|some A=>A|none=>emp)::DI Γ is
theorem Ml(Γ:List Ai):∀(a:List Nat) (j:Nat) (A:Ai),(DI Γ a)[j]?=some A->∃i,a[j]?=some i/\(Γ[i]?=some A\/A=emp)
 | [],_,_,h=>by simp[DI] at h
 | i::a,0,A,h=>by
  simp only[DI,AeS,Ael] at h;refine ⟨i,Z,?_⟩
  cases hi:Γ[i]? with
  | none=>rw[hi] at h;exact .inr h.symm
  | some B=>rw[hi] at h;exact .inl (congrArg some h)
 | i::a,j+1,A,h=>by
  simp only[DI,Aey] at h;obtain ⟨q,hq,hA⟩:=Ml Γ a j A h;exact ⟨q,by simpa using hq,hA⟩
theorem picks_len(Γ:List Ai):∀is:List Nat,(DI Γ is).length=is.length
 | []=>rfl
 | _::is=>by simp[DI,picks_len Γ is]
theorem Mn{Γ:List Ai}{h:Hp}(hs:seps Γ h)(n:Nat)(a:List Nat)(l:Gf n a=true):seps (DI Γ a++Γ.drop n) h:=by
 obtain ⟨own,c⟩:=hs;refine ⟨λk=>if own k<n then (match pos a (own k) with|some j=>j|none=>a.length+Γ.length) else a.length+(own k-n),λj A b=>?_⟩;rcases Aeq j a.length with g|g
 ·rw[Aem (by rw[picks_len];exact g)] at b
  obtain ⟨i,hi,b⟩:=Ml Γ a j A b;obtain ⟨f,d⟩:=Sv l j i hi;rcases b with b|rfl
  ·have:=c i A b
   rw[Db (h':=h) (own':=λk=>if own k<n then (match pos a (own k) with|some j=>j|none=>a.length+Γ.length) else a.length+(own k-n)) (j:=j) (λk=>?_) (λ_ _=>rfl)] at this
   ·exact this
   constructor
   ·intro e;subst e;simp[f,d]
   intro e;split at e
   ·cases hp:pos a (own k) with
    | none=>rw[hp] at e;simp at e;omega
    | some q=>rw[hp] at e;simp at e;subst e;have:=JR _ _ _ hp;rw[hi] at this;simpa using this.symm
   omega
  trivial
 rw[Aes (by rw[picks_len];exact g),picks_len,Afl] at b;have:=c _ A b;have m:=(Aeb.1 b).1;rw[Db (h':=h) (own':=λk=>if own k<n then (match pos a (own k) with|some j=>j|none=>a.length+Γ.length) else a.length+(own k-n)) (j:=j) (λk=>?_) (λ_ _=>rfl)] at this
 ·exact this
 constructor
 ·intro e;rw[if_neg U];omega
 intro e;split at e
 ·cases hp:pos a (own k) with
  | none=>rw[hp] at e;simp at e;omega
  | some q=>rw[hp] at e;simp at e;have:=AaH hp;omega
 omega
theorem IH{As Γ:List Ai}{h:Hp}(hs:seps (seps As::Γ) h):seps (As++Γ) h:=by
 obtain ⟨own,b⟩:=hs;obtain ⟨a,f⟩:=b 0 _ Z;refine ⟨λk=>if own k=0 then (if a k<As.length then a k else As.length+Γ.length) else As.length+(own k-1),λj A c=>?_⟩;rcases Aeq j As.length with d|d
 ·rw[Aem d] at c
  have:=f j A c;have e:(h.part own 0).part a j=h.part (λk=>if own k=0 then (if a k<As.length then a k else As.length+Γ.length) else As.length+(own k-1)) j:=by
   funext k;unfold Hp.part;dsimp only;by_cases q:own k=0
   ·by_cases q':a k=j
    ·simp[q,q',d]
    have:¬(if a k<As.length then a k else As.length+Γ.length)=j:=by split<;>omega
    simp[q,q',this]
   have:¬As.length+(own k-1)=j:=by omega
   simp[q,this]
  rwa[e] at this
 rw[Aes d] at c;have g:=(Aeb.1 c).1;have:=b (j-As.length+1) A (by simpa using c);rw[Db (h':=h) (own':=λk=>if own k=0 then (if a k<As.length then a k else As.length+Γ.length) else As.length+(own k-1)) (j:=j) (λk=>?_) (λ_ _=>rfl)] at this
 ·exact this
 constructor
 ·intro e;rw[if_neg U];omega
 intro e;split at e
 ·split at e<;>omega
 omega
theorem Mp{As Γ:List Ai}{h:Hp}(hs:seps (As++Γ) h):seps (seps As::Γ) h:=by
 obtain ⟨own,a⟩:=hs;refine ⟨λk=>if own k<As.length then 0 else own k-As.length+1,λj A c=>?_⟩
 cases j with
 | zero=>
  simp only[AeS,Ael] at c;subst c;refine ⟨own,λi A hi=>?_⟩;have b:=(Aeb.1 hi).1;have:=a i A (by rw[Aem b];exact hi);have e:h.part own i=(h.part (λk=>if own k<As.length then 0 else own k-As.length+1) 0).part own i:=by
   funext k;unfold Hp.part;dsimp only;by_cases q:own k=i
   ·simp[q,b]
   simp[q]
  rwa[e] at this
 | succ j=>
  simp only[Aey] at c;have:=a (As.length+j) A (by rw[Aes U];simpa using c);rw[Db (h':=h) (own':=λk=>if own k<As.length then 0 else own k-As.length+1) (j:=j+1) (λk=>?_) (λ_ _=>rfl)] at this
  ·exact this
  constructor
  ·intro e;rw[if_neg U];omega
  intro e;split at e<;>omega
theorem DY{As Bs:List Ai}{h:Hp}(hs:seps (As++Bs) h):seps (Bs++As) h:=by
 obtain ⟨own,a⟩:=hs;refine ⟨λk=>if own k<As.length then own k+Bs.length else if own k<As.length+Bs.length then own k-As.length else own k,λj A b=>?_⟩;rcases Aeq j Bs.length with d|d
 ·rw[Aem d] at b
  have:=a (As.length+j) A (by rw[Aes U];simpa using b);rw[Db (h':=h) (own':=λk=>if own k<As.length then own k+Bs.length else if own k<As.length+Bs.length then own k-As.length else own k) (j:=j) (λk=>?_) (λ_ _=>rfl)] at this
  ·exact this
  constructor
  ·intro e;rw[if_neg U,if_pos U];omega
  intro e;split at e
  ·omega
  split at e<;>omega
 rw[Aes d] at b;have c:=(Aeb.1 b).1;have:=a (j-Bs.length) A (by rw[Aem c];exact b);rw[Db (h':=h) (own':=λk=>if own k<As.length then own k+Bs.length else if own k<As.length+Bs.length then own k-As.length else own k) (j:=j) (λk=>?_) (λ_ _=>rfl)] at this
 ·exact this
 constructor
 ·intro e;rw[if_pos U];omega
 intro e;split at e
 ·omega
 split at e<;>omega
theorem XJ{Γ:List Ai}{h:Hp}(hs:seps Γ h)(i:Nat){A:Ai}(d:Γ[i]?=some A){σ:Type}{B:σ->Ai}(c:∀h',(∀k o,h' k=some o->h k=some o)->A h'->∃x,B x h'):∃x,seps (Γ.set i (B x)) h:=by
 obtain ⟨own,a⟩:=hs;obtain ⟨x,f⟩:=c _ (λk o e=>(El e).2) (a i A d);refine ⟨x,own,λj C b=>?_⟩;rw[Afo] at b;split at b
 ·rename_i e;subst e
  split at b
  ·cases b;exact f
  cases b
 exact a j C b

section
variable{z w:World}{Γ:List Ai}
theorem Sep.same{a:World}(H:Sep z Γ w)(e:a.os=w.os)(b:a.tape=w.tape)(d:a.output=w.output)(c:∀k:Nat,a.heap[k]?=w.heap[k]?):Sep z Γ a:=
 ⟨e.trans H.os,b.trans H.tape,d.trans H.output,(show hp a=hp w from funext c)▸H.own⟩
theorem Sep.drew(H:Sep z Γ w):Sep z Γ w.drew:=H.same Z Z Z λ_=>rfl
theorem Sep.pick(n:Nat)(b:List Nat)(H:Sep z Γ w)(a:Gf n b=true):Sep z (DI Γ b++Γ.drop n) w:=⟨H.os,H.tape,H.output,Mn H.own n b a⟩
theorem Sep.perm(n:Nat)(a:List Nat){Γ':List Ai}(H:Sep z Γ w)(b:Gf n a=true)(e:DI Γ a++Γ.drop n=Γ'):Sep z Γ' w:=e▸H.pick n a b
theorem Sep.opened{As:List Ai}(H:Sep z (seps As::Γ) w):Sep z (As++Γ) w:=⟨H.os,H.tape,H.output,IH H.own⟩
theorem Sep.shut{As:List Ai}(H:Sep z (As++Γ) w):Sep z (seps As::Γ) w:=⟨H.os,H.tape,H.output,Mp H.own⟩
theorem Sep.swap{As Bs:List Ai}(H:Sep z (As++Bs) w):Sep z (Bs++As) w:=⟨H.os,H.tape,H.output,DY H.own⟩
theorem Sep.front{As Bs:List Ai}(H:Sep z (As++Bs) w):Sep z As w:=by
 have b:=H.swap;have:seps As (hp w):=by
  obtain ⟨own,d⟩:=b.own;refine ⟨λk=>if own k<Bs.length then As.length else own k-Bs.length,λj A a=>?_⟩;have c:=(Aeb.1 a).1;have:=d (Bs.length+j) A (by rw[Aes U];simpa using a);rwa[Db (h':=hp w) (own':=λk=>if own k<Bs.length then As.length else own k-Bs.length) (j:=j) (λk=>⟨λe=>by rw[if_neg U];omega,λe=>by split at e<;>omega⟩) (λ_ _=>rfl)] at this
 exact ⟨H.os,H.tape,H.output,this⟩
theorem Sep.ex(i:Nat){A:Ai}{σ:Type}{B:σ->Ai}(H:Sep z Γ w)(c:Γ[i]?=some A)(a:∀h,A h->∃x,B x h):∃x,Sep z (Γ.set i (B x)) w:=by
 obtain ⟨x,b⟩:=XJ H.own i c (λh _ q=>a h q);exact ⟨x,H.os,H.tape,H.output,b⟩
theorem Sep.mono(i:Nat){A B:Ai}(H:Sep z Γ w)(b:Γ[i]?=some A)(a:∀h,A h->B h):Sep z (Γ.set i B) w:=by
 obtain ⟨_,c⟩:=H.ex i (σ:=Unit) (B:=λ_=>B) b (λh q=>⟨(),a h q⟩);exact c
theorem Sep.exAt(i:Nat){A:Ai}{σ:Type}{p:σ->Prop}{B:σ->Ai}(H:Sep z Γ w)(c:Γ[i]?=some A)(a:∀h,A h->∃x,p x/\B x h):∃x,p x/\Sep z (Γ.set i (B x)) w:=by
 obtain ⟨⟨x,hp⟩,e⟩:=H.ex i (σ:= {x:σ // p x}) (B:=λx=>B x.1) c (λh q=>by obtain ⟨x,b,d⟩:=a h q;exact ⟨⟨x,b⟩,d⟩);exact ⟨x,hp,e⟩
theorem Sep.into{σ:Type}{A:Ai}{p:σ->Prop}{As:σ->List Ai}(H:Sep z (A::Γ) w)(b:∀h,A h->∃x,p x/\seps (As x) h):∃x,p x/\Sep z (As x++Γ) w:=by
 obtain ⟨⟨x,hp⟩,d⟩:=H.ex 0 (σ:= {x:σ // p x}) (B:=λx=>seps (As x.1)) Z (λh q=>by obtain ⟨x,a,c⟩:=b h q;exact ⟨⟨x,a⟩,c⟩);exact ⟨x,hp,d.opened⟩
theorem Sep.made(n:Nat){A:Ai}(H:Sep z Γ w)(a:∀h,seps (Γ.take n) h->A h):Sep z (A::Γ.drop n) w:=by
 have:Sep z (Γ.take n++Γ.drop n) w:=by rw[AeL];exact H
 exact this.shut.mono 0 Z a
theorem Sep.get(i:Nat){A:Ai}(H:Sep z Γ w)(b:Γ[i]?=some A):∃h,A h/\∀k o,h k=some o->w.heap[k]?=some o:=by
 obtain ⟨own,a⟩:=H.own;exact ⟨_,a i A b,λk o e=>(El e).2⟩
theorem Sep.bk(i:Nat){b:Nat}{o:Obj}(H:Sep z Γ w)(c:Γ[i]?=some (bk b o)):w.heap[b]?=some o:=by
 obtain ⟨h,a,d⟩:=H.get i c;exact d _ _ a
theorem Sep.blk(i:Nat){b:Nat}{cs:List Value}{ty:TypeId}(H:Sep z Γ w)(a:Γ[i]?=some (blk b cs ty)):Blk b cs ty w:=H.bk i a
theorem Sep.cel(i:Nat){b:Nat}{cs:List Value}{ty:TypeId}(H:Sep z Γ w)(c:Γ[i]?=some (YtemljpjnhjnncaaGreatDoor.blk b cs ty))(o:Nat){v:Value}(a:cs[o]?=some v):FE b o v w:=(H.blk i c).cel o a
theorem Sep.write(i:Nat){b:Nat}{o o':Obj}{c:World}(H:Sep z Γ w)(l:Γ[i]?=some (YtemljpjnhjnncaaGreatDoor.bk b o))(h:c.os=w.os)(n:c.tape=w.tape)(s:c.output=w.output)
  (r:c.heap[b]?=some o')(p:∀k,k≠b->c.heap[k]?=w.heap[k]?):Sep z (Γ.set i (YtemljpjnhjnncaaGreatDoor.bk b o')) c:=by
 refine ⟨h.trans H.os,n.trans H.tape,s.trans H.output,?_⟩;obtain ⟨own,a⟩:=H.own;have f:=(El (a i _ l)).1;refine ⟨own,λj C d=>?_⟩;rw[Afo] at d;split at d
 ·rename_i e;subst e
  split at d
  ·cases d
   unfold YtemljpjnhjnncaaGreatDoor.bk Hp.part hp;rw[if_pos f,r]
  cases d
 rename_i e;have:=a j C d;have m:(hp w).part own j=(hp c).part own j:=Db (λ_=>Ahu) (λk g=>(p k (λq=>e (by rw[<-g,q,f]))).symm);rwa[m] at this
theorem Sep.grow{A:Ai}{a:World}(H:Sep z Γ w)(x:Ext No w a)(d:A (λk=>if k<w.heap.size then none else a.heap[k]?)):Sep z (A::Γ) a:=by
 refine ⟨x.os.trans H.os,x.tape.trans H.tape,x.output.trans H.output,?_⟩;obtain ⟨own,b⟩:=H.own;refine ⟨λk=>if k<w.heap.size then own k+1 else 0,λj C c=>?_⟩
 cases j with
 | zero=>
  simp only[AeS,Ael] at c;subst c;have e:(hp a).part (λk=>if k<w.heap.size then own k+1 else 0) 0=λk=>if k<w.heap.size then none else a.heap[k]? :=by
   funext k;unfold Hp.part hp;dsimp only;by_cases q:k<w.heap.size
   ·simp[q]
   simp[q]
  rw[e];exact d
 | succ j=>
  simp only[Aey] at c;have:=b j C c;have e:(hp a).part (λk=>if k<w.heap.size then own k+1 else 0) (j+1)=(hp w).part own j:=by
   funext k;unfold Hp.part hp;dsimp only;by_cases q:k<w.heap.size
   ·simp only[q,if_true,Nat.add_right_cancel_iff]
    by_cases q':own k=j
    ·simp only[q',if_true];exact x.block k q (λr=>r)
    simp[q']
   have:w.heap[k]?=none:=Ae0 U;simp[q,this]
  rwa[e]
theorem Sep.ext0{a:World}(H:Sep z Γ w)(x:Ext No w a):Sep z Γ a:=by
 have:=H.grow (A:=emp) x trivial;have:=this.perm 1 [] (Γ':=Γ) Z Z;exact this
theorem AZ{K:World->Prop}(H:Sep z Γ w)(h:∀w,Sep z Γ w->K w):∀a,Ext No w a->a.heap.size=w.heap.size->K a:=λa x _=>h a (H.ext0 x)
theorem Sep.new{b:Nat}{o:Obj}{a:World}(H:Sep z Γ w)(x:Ext No w a)(d:w.heap.size<=b)(c:a.heap[b]?=some o):Sep z (YtemljpjnhjnncaaGreatDoor.bk b o::Γ) a:=
 H.grow x (show (if b<w.heap.size then none else a.heap[b]?)=some o by rw[if_neg U];exact c)
theorem Sep.done(i:Nat)(H:Sep z Γ w)(c:Γ[i]?=some (base z)):Ext No z w:=by
 obtain ⟨h,b,d⟩:=H.get i c;have key:∀k,k<z.heap.size->w.heap[k]?=z.heap[k]? :=λk a=>by
  have e:z.heap[k]?=some z.heap[k]:=AgO a;rw[e];exact d k _ ((b k a).trans e)
 refine ⟨H.os,H.tape,H.output,?_,λk a _=>key k a⟩;rcases Aeq w.heap.size z.heap.size with q|q
 ·have:=key w.heap.size q
  rw[Ae0 (Aei _),AgO q] at this;cases this
 exact q
end

section
variable{z w:World}{Γ:List Ai}{a0 a1 a2 a3 a4 a5 a6 a7 a8 a9 a10 a11 a12 a13 a14 a15 a16 a17 a18 a19 a20 a21 a22 a23 a24 a25 a26:Ai}
theorem Sep.l1(H:Sep z (a0::Γ) w):Sep z (a0::Γ) w:=H
theorem Sep.l2(H:Sep z (a0::a1::Γ) w):Sep z (a0::a1::Γ) w:=H
theorem Sep.l3(H:Sep z (a0::a1::a2::Γ) w):Sep z (a0::a1::a2::Γ) w:=H
theorem Sep.l4(H:Sep z (a0::a1::a2::a3::Γ) w):Sep z (a0::a1::a2::a3::Γ) w:=H
theorem Sep.l5(H:Sep z (a0::a1::a2::a3::a4::Γ) w):Sep z (a0::a1::a2::a3::a4::Γ) w:=H
theorem Sep.l6(H:Sep z (a0::a1::a2::a3::a4::a5::Γ) w):Sep z (a0::a1::a2::a3::a4::a5::Γ) w:=H
theorem Sep.l7(H:Sep z (a0::a1::a2::a3::a4::a5::a6::Γ) w):Sep z (a0::a1::a2::a3::a4::a5::a6::Γ) w:=H
theorem Sep.l8(H:Sep z (a0::a1::a2::a3::a4::a5::a6::a7::Γ) w):Sep z (a0::a1::a2::a3::a4::a5::a6::a7::Γ) w:=H
theorem Sep.l9(H:Sep z (a0::a1::a2::a3::a4::a5::a6::a7::a8::Γ) w):Sep z (a0::a1::a2::a3::a4::a5::a6::a7::a8::Γ) w:=H
theorem Sep.l10(H:Sep z (a0::a1::a2::a3::a4::a5::a6::a7::a8::a9::Γ) w):Sep z (a0::a1::a2::a3::a4::a5::a6::a7::a8::a9::Γ) w:=H
theorem Sep.l11(H:Sep z (a0::a1::a2::a3::a4::a5::a6::a7::a8::a9::a10::Γ) w):Sep z (a0::a1::a2::a3::a4::a5::a6::a7::a8::a9::a10::Γ) w:=H
theorem Sep.l12(H:Sep z (a0::a1::a2::a3::a4::a5::a6::a7::a8::a9::a10::a11::Γ) w):Sep z (a0::a1::a2::a3::a4::a5::a6::a7::a8::a9::a10::a11::Γ) w:=H
theorem Sep.l13(H:Sep z (a0::a1::a2::a3::a4::a5::a6::a7::a8::a9::a10::a11::a12::Γ) w):Sep z (a0::a1::a2::a3::a4::a5::a6::a7::a8::a9::a10::a11::a12::Γ) w:=H
theorem Sep.l14(H:Sep z (a0::a1::a2::a3::a4::a5::a6::a7::a8::a9::a10::a11::a12::a13::Γ) w):Sep z (a0::a1::a2::a3::a4::a5::a6::a7::a8::a9::a10::a11::a12::a13::Γ) w:=H
theorem Sep.l15(H:Sep z (a0::a1::a2::a3::a4::a5::a6::a7::a8::a9::a10::a11::a12::a13::a14::Γ) w):Sep z (a0::a1::a2::a3::a4::a5::a6::a7::a8::a9::a10::a11::a12::a13::a14::Γ) w:=H
theorem Sep.l16(H:Sep z (a0::a1::a2::a3::a4::a5::a6::a7::a8::a9::a10::a11::a12::a13::a14::a15::Γ) w):Sep z (a0::a1::a2::a3::a4::a5::a6::a7::a8::a9::a10::a11::a12::a13::a14::a15::Γ) w:=H
theorem Sep.l17(H:Sep z (a0::a1::a2::a3::a4::a5::a6::a7::a8::a9::a10::a11::a12::a13::a14::a15::a16::Γ) w):Sep z (a0::a1::a2::a3::a4::a5::a6::a7::a8::a9::a10::a11::a12::a13::a14::a15::a16::Γ) w:=H
theorem Sep.l19(H:Sep z (a0::a1::a2::a3::a4::a5::a6::a7::a8::a9::a10::a11::a12::a13::a14::a15::a16::a17::a18::Γ) w):Sep z (a0::a1::a2::a3::a4::a5::a6::a7::a8::a9::a10::a11::a12::a13::a14::a15::a16::a17::a18::Γ) w:=H
theorem Sep.f1(H:Sep z (a0::a1::Γ) w):Sep z (a1::a0::Γ) w:=H.pick 2 [1,0] Z
theorem Sep.f2(H:Sep z (a0::a1::a2::Γ) w):Sep z (a2::a0::a1::Γ) w:=H.pick 3 [2,0,1] Z
theorem Sep.f3(H:Sep z (a0::a1::a2::a3::Γ) w):Sep z (a3::a0::a1::a2::Γ) w:=H.pick 4 [3,0,1,2] Z
theorem Sep.f4(H:Sep z (a0::a1::a2::a3::a4::Γ) w):Sep z (a4::a0::a1::a2::a3::Γ) w:=H.pick 5 [4,0,1,2,3] Z
theorem Sep.f5(H:Sep z (a0::a1::a2::a3::a4::a5::Γ) w):Sep z (a5::a0::a1::a2::a3::a4::Γ) w:=H.pick 6 [5,0,1,2,3,4] Z
theorem Sep.f6(H:Sep z (a0::a1::a2::a3::a4::a5::a6::Γ) w):Sep z (a6::a0::a1::a2::a3::a4::a5::Γ) w:=H.pick 7 [6,0,1,2,3,4,5] Z
theorem Sep.f7(H:Sep z (a0::a1::a2::a3::a4::a5::a6::a7::Γ) w):Sep z (a7::a0::a1::a2::a3::a4::a5::a6::Γ) w:=H.pick 8 [7,0,1,2,3,4,5,6] Z
theorem Sep.f8(H:Sep z (a0::a1::a2::a3::a4::a5::a6::a7::a8::Γ) w):Sep z (a8::a0::a1::a2::a3::a4::a5::a6::a7::Γ) w:=H.pick 9 [8,0,1,2,3,4,5,6,7] Z
theorem Sep.f9(H:Sep z (a0::a1::a2::a3::a4::a5::a6::a7::a8::a9::Γ) w):Sep z (a9::a0::a1::a2::a3::a4::a5::a6::a7::a8::Γ) w:=H.pick 10 [9,0,1,2,3,4,5,6,7,8] Z
theorem Sep.f10(H:Sep z (a0::a1::a2::a3::a4::a5::a6::a7::a8::a9::a10::Γ) w):Sep z (a10::a0::a1::a2::a3::a4::a5::a6::a7::a8::a9::Γ) w:=H.pick 11 [10,0,1,2,3,4,5,6,7,8,9] Z
theorem Sep.f13(H:Sep z (a0::a1::a2::a3::a4::a5::a6::a7::a8::a9::a10::a11::a12::a13::Γ) w):Sep z (a13::a0::a1::a2::a3::a4::a5::a6::a7::a8::a9::a10::a11::a12::Γ) w:=H.pick 14 [13,0,1,2,3,4,5,6,7,8,9,10,11,12] Z
theorem Sep.f14(H:Sep z (a0::a1::a2::a3::a4::a5::a6::a7::a8::a9::a10::a11::a12::a13::a14::Γ) w):Sep z (a14::a0::a1::a2::a3::a4::a5::a6::a7::a8::a9::a10::a11::a12::a13::Γ) w:=H.pick 15 [14,0,1,2,3,4,5,6,7,8,9,10,11,12,13] Z
theorem Sep.l0(H:Sep z Γ w):Sep z Γ w:=H
theorem Sep.d(H:Sep z (a0::Γ) w):Sep z Γ w:=H.pick 1 [] Z
end

def Cn(P:Program)(f:FuncId)(args:List Value)(pre:List Ai)(post:Value->List Ai->Prop):Prop:=
 ∀z R w,Sep z (pre++R) w->Calls P f args.toArray w (Ret λv w'=>∃Γ',post v Γ'/\Sep z (Γ'++R) w')
theorem Cn.mono{P:Program}{f:FuncId}{args:List Value}{pre:List Ai}{post a:Value->List Ai->Prop}(h:Cn P f args pre post)(hp:∀v Γ,post v Γ->a v Γ):Cn P f args pre a:=
 λz R w H=>Ret.mono (h z R w H) λ_ _ ⟨Γ',q,b⟩=>⟨Γ',hp _ _ q,b⟩
theorem AD{ds:List Deferred}{K:Act->Prop}(t:Nat)(c:CC L t=some u)(e:u=v)(h:∀a,Fr n ds ((t,v)::L) a->K a):∀a,Fr n ds L a->K a:=λa b=>h a (b.upd t c e)
theorem AdD{ds:List Deferred}{K:Act->Prop}(t:Nat){p:Prop}{b:Decidable p}(c:CC L t=some (.bool (@decide p b)))(e: @decide p b=false)(h:∀a,Fr n ds ((t,.bool false)::L) a->K a):∀a,Fr n ds L a->K a:=AD t c (congrArg _ e) h
end
variable{Γ:List Ai}{h:Hp}{A:Ai}
section
section more
variable{P:Program}{o:Oper}{a:Act}{w:World}{n:Nat}{ds:List Deferred}{L:List (Nat×Value)}
theorem Ns{e:TypeId}{parts:List (Nat×Operand)}{vs:List (Nat×Value)}(l:o.op=.buildSlice T m parts.toArray)(v:P.underlying T=some (.slice e))(q:Elt P e u j g)
  (b:(evs L (parts.map (·.2))).map (List.zip (parts.map (·.1)))=some vs)(y:m*j<=16777216)(hl:0<m)(p:Instr.fill (λi=>some (i*j,j)) ((Array.range (m*j)).map (u.cells[· % u.cells.size]!)) vs=some V.toArray):Cy P n ds L o w (Su V e m w):=by
 intro a s;obtain ⟨i,hi,hz,hs,hb,a0,r,t⟩:=q;refine ⟨_,_,?_,XH w V e m⟩
 cases he:evs L (parts.map (·.2)) with
 | none=>rw[he] at b;cases b
 | some us=>
  rw[he] at b;simp only[AeR,Ael] at b;have e2:=s.evs he;have:(parts.map λx=>(x.1,a.eval x.2))=vs:=by
   rw[<-b,<-e2,Afn];clear b he e2 p l
   induction parts with
   | nil=>rfl
   | cons x xs ih=>simp[ih]
  simp only[execOp,l,AeW];rw[show (List.map (λx=>match x with|(i,x)=>(i,a.eval x)) parts)=vs from this];have d:m*j≠0:=by
   intro z;rcases AhD.1 z with h|h<;>omega
  have c:¬m*j > 2^24:=by omega
  have k:∀w,(zeroValue e).run P w=.ok u w:=λw=>by simp[zeroValue,typeInfo,hi,hz,go_sem]
  have f:∀w,(sizeOf e).run P w=.ok j w:=λw=>by simp[sizeOf,typeInfo,hi,hs,go_sem]
  simp only[Instr.buildSlice,Aev,run_underlying v,Aer,f,if_neg c,AeA,if_neg d,k,p,newRow,newObj,Sem.run]
end more
section tail
variable{P:Program}{ops:List Oper}{Q:Act->Prop}{a:Act}{w:World}{rest:List Oper}{o:Oper}{n d:Nat}{ds:List Deferred}{L:List (Nat×Value)}{v:Value}
theorem B9(g:BM ops L o.guard=true)(h:o.dst=some d)(c:Nat.blt d n=true)(b:Au P (· =w) n ds L o v)(K:∀a',Fr n ds ((d,v)::L) a'->wpStill P ops.toArray w Q rest a'):∀a,Fr n ds L a->wpStill P ops.toArray w Q (o::rest) a:=λa e=>
 wpStill_step λK' f=>by
  rw[if_pos (wantL_ok e g)];unfold Oper.still;rw[b a e w Z,Oper.stillUpon_value,h];exact f _ (K _ (e.put d v c))
theorem Sw(f:EW ops L o.guard=true)(g:o.dst=some d)(b:Nat.blt d n=true)(K:∀a',Fr n ds ((d,undef)::L) a'->wpStill P ops.toArray w Q rest a'):∀a,Fr n ds L a->wpStill P ops.toArray w Q (o::rest) a:=λa c=>
 wpStill_step λK' e=>by
  rw[if_neg (by rw[skipL_ok c f];exact AgR),g];exact e _ (K _ (c.put d undef b))
theorem CF(h:∀a,Fr n ds L a->Q a):∀a,Fr n ds L a->wpStill P ops.toArray w Q [] a:=h
theorem BH{N R:Act->World->Prop}{X:Nat->Act->World->Prop}(k:Nat)(e:P.follows .mixedOrders=true)(c:Region.lexTailB .any ops.toArray k=true)
  (h:∀b,Ext No w b->b.heap.size=w.heap.size->∀a,Fr n ds L a->wpStill P ops.toArray b (λa'=>wpList P ops.toArray (Qp N X R) (ops.drop k) a' b) (ops.take k) a):∀a,Fr n ds L a->(Code.region m ops.toArray true).wp P (Qp N X R) a w:=λa d=>
 wp_region_still_tail k e c (h _ (Ext.drawn No w) Z a d)
end tail
section held
variable{P:Program}{ops:List Oper}{N R:Act->World->Prop}{X:Nat->Act->World->Prop}{S:World->Prop}{a:Act}{w:World}{fuel:Nat}{listed:Array Bool}{n d i:Nat}{ds:List Deferred}{L:List (Nat×Value)}{v:Value}{o:Oper}
theorem AN(S:World->Prop)(k:Nat)(d:ops.length=k)(e:P.follows .mixedOrders=true)
  (h:∀b,Ext No w b->b.heap.size=w.heap.size->∀a,Fr n ds L a->wpAnyH P .any ops.toArray (Qp N X R) S k (Array.replicate k false) a b):∀a,Fr n ds L a->(Code.region m ops.toArray true).wp P (Qp N X R) a w:=λa c=>
 wp_region_held (S:=S) e (by have:=h _ (Ext.drawn No w) Z a c;simpa [d] using this)
theorem BN(i:Nat)(hi:ops[i]?=some o)(hs:Region.noSelect ops.toArray=true)(l:Region.free .any ops.toArray listed i=true)(j:(Region.ready .any ops.toArray listed).contains i=true)
  (f:BM ops L o.guard=true)(k:o.dst=some d)(e:Nat.blt d n=true)(c:Au P S n ds L o v)(m:S w)
  (K:∀a',Fr n ds ((d,v)::L) a'->wpAnyH P .any ops.toArray (Qp N X R) S fuel (listed.setIfInBounds i true) a' w):∀a,Fr n ds L a->wpAnyH P .any ops.toArray (Qp N X R) S (fuel+1) listed a w:=λa b=>
 wpAnyH_take (i:=i) (oi:=o) (v:=v) (by simpa using hi) hs l j (λ_ _ _ h=>h.elim) (.inl ⟨wantL_ok b f,λg h=>c a b g h⟩) m (by rw[k];exact K _ (b.put d v e))
theorem Sx(i:Nat)(hi:ops[i]?=some o)(hs:Region.noSelect ops.toArray=true)(f:Region.free .any ops.toArray listed i=true)(j:(Region.ready .any ops.toArray listed).contains i=true)
  (e:EW ops L o.guard=true)(k:o.dst=some d)(b:Nat.blt d n=true)(g:S w)
  (K:∀a',Fr n ds ((d,undef)::L) a'->wpAnyH P .any ops.toArray (Qp N X R) S fuel (listed.setIfInBounds i true) a' w):∀a,Fr n ds L a->wpAnyH P .any ops.toArray (Qp N X R) S (fuel+1) listed a w:=λa c=>
 wpAnyH_take (i:=i) (oi:=o) (v:=undef) (by simpa using hi) hs f j (λ_ _ _ h=>h.elim) (.inr ⟨skipL_ok c e,Z⟩) g (by rw[k];exact K _ (c.put d undef b))
theorem AC(rs:List Nat)(d:Region.ready .any ops.toArray listed=rs)(b:rs≠[])
  (h:∀i∈rs,∀a,Fr n ds L a->wpOp P ops.toArray (Qp N X R) i (λa' w'=>S w'/\wpAnyH P .any ops.toArray (Qp N X R) S fuel (listed.setIfInBounds i true) a' w') a w):∀a,Fr n ds L a->wpAnyH P .any ops.toArray (Qp N X R) S (fuel+1) listed a w:=λa c=>
 wpAnyH_all d b (λi hi=>h i hi a c)
theorem Am{p:Nat->Prop}{i:Nat}(h:p i):∀j∈[i],p j:=λj a=>by simp at a;subst a;exact h
theorem JS{p:Nat->Prop}{i:Nat}(h:p i)(h':p m):∀j∈[i,m],p j:=λj a=>by
 simp at a;rcases a with rfl|rfl
 ·exact h
 exact h'
theorem a_done{fuel:Nat}(c:Region.ready .any ops.toArray listed=[])(h:∀a,Fr n ds L a->N a w):∀a,Fr n ds L a->wpAnyH P .any ops.toArray (Qp N X R) S fuel listed a w:=λa b=>wpAnyH_done c (h a b) _
theorem Av{Z_:Act->World->Prop}(c:S w)(h:∀a,Fr n ds L a->Z_ a w):∀a,Fr n ds L a->S w/\Z_ a w:=λa b=>⟨c,h a b⟩
theorem Ca{K:Act->World->Prop}{Rr:Value->World->Prop}(hi:ops[i]?=some o)(f:BM ops L o.guard=true)(l:o.dst=some d)(c:Nat.blt d n=true)(h:Cy P n ds L o w Rr)(g:∀v b,Rr v b->∀a',Fr n ds ((d,v)::L) a'->K a' b):∀a,Fr n ds L a->wpOp P ops.toArray (Qp N X R) i K a w:=by
 intro a e;obtain ⟨v,b,k,j⟩:=h a e;unfold wpOp;rw[Afe,hi];simp only;rw[if_pos (wantL_ok e f)];left;unfold Oper.wp;rw[k,AgM,l];exact g v b j _ (e.put d v c)
theorem Bi{K:Act->World->Prop}{Rr:World->Prop}(hi:ops[i]?=some o)(d:BM ops L o.guard=true)(j:o.dst=none)(h:DH P n ds L o w Rr)(e:∀b,Rr b->∀a,Fr n ds L a->K a b):∀a,Fr n ds L a->wpOp P ops.toArray (Qp N X R) i K a w:=by
 intro a c;obtain ⟨b,g,f⟩:=h a c;unfold wpOp;rw[Afe,hi];simp only;rw[if_pos (wantL_ok c d)];left;unfold Oper.wp;rw[g,Oper.upon_skip,j];exact e b f a c
theorem Sy{K:Act->World->Prop}{Rr:Value->World->Prop}{f:FuncId}{args:List Operand}{vs:List Value}{tys:Array TypeId}(hi:ops[i]?=some o)(p:BM ops L o.guard=true)(s:o.dst=some d)(l:Nat.blt d n=true)
  (r:o.op=.call {callee:=.value (.func f),args:=args.toArray,argTypes:=tys})(b:evs L args=some vs)(m:∀w,(callFunc f vs.toArray).run P w=.ok (.enter f vs.toArray) w)(h:Calls P f vs.toArray w (Ret Rr))
  (t:∀v j,Rr v j->∀a',Fr n ds ((d,v)::L) a'->K a' j):∀a,Fr n ds L a->wpOp P ops.toArray (Qp N X R) i K a w:=by
 intro a k;have g:(execOp a.eval o).run P w=.ok (.enter f vs.toArray) w:=by
  unfold execOp;have e:=k.evs b;simp only[r,resolve,Act.eval,Deferred.ofValue,invoke];simp only[go_sem,AeW,e,AeQ,AeV,m];simpa using m w
 unfold wpOp;rw[Afe,hi];simp only;rw[if_pos (wantL_ok k p)];left;unfold Oper.wp;rw[g,AgN];exact Agu h λe j q=>by
  cases e with
  | returned v=>simp only[s];exact t v j q _ (k.put d v l)
  | panicked c=>exact q.elim
  | outgrown=>exact q.elim
end held

section last
variable{P:Program}{ops:Array Oper}{Q:Exit->Act->World->Prop}{S:World->Prop}
def Dc(ops:Array Oper)(listed:Array Bool):Prop:=∀k o,ops[k]?=some o->listed.getD k true=true->k<listed.size->∀e∈o.after,Region.binds .any e=true->listed.getD e.on false=true
theorem Dc.start(ops:Array Oper)(k:Nat):Dc ops (Array.replicate k false):=λj o _ h a=>by
 simp at a;simp[Array.getD,a] at h
theorem Dc.next{listed:Array Bool}{i:Nat}(h:Dc ops listed)(hi:i∈Region.ready .any ops listed):Dc ops (listed.setIfInBounds i true):=λk o g f l e d j=>by
 have b:k<listed.size:=by simpa using l
 by_cases hki:k=i
 ·subst hki
  obtain ⟨_,o',a,c⟩:=mem_ready.1 hi;rw[g] at a;cases a;have:=c e d j;by_cases hei:e.on=k
  ·rw[hei];simp[b]
  rw[getD_set_ne false (AfS hei)];exact this
 rw[getD_set_ne true (AfS hki)] at f;have:=h k o g f b e d j;by_cases hei:e.on=i
 ·rw[hei]
  rcases Aeq i listed.size with h'|h'
  ·simp[h']
  rw[hei] at this;simp[Ae0 h'] at this
 rw[getD_set_ne false (AfS hei)];exact this
def Ig(ops:Array Oper):Bool:=(List.range (ops.size-1)).all λk=>(List.range ops.size).any λj=>k<j&&(match ops[j]? with|some o=>o.after.any λe=>Region.binds .any e&&e.on==k|none=>false)
theorem Rk(h:Ig ops=true)(k:Nat)(d:k+1<ops.size):∃j o,k<j/\ops[j]?=some o/\∃e∈o.after,Region.binds .any e=true/\e.on=k:=by
 simp only[Ig,Af2,AfQ] at h;have:=h k U;simp only[Ahv,AfQ,AeC,decide_eq_true_eq] at this;obtain ⟨j,_,b,a⟩:=this
 cases ho:ops[j]? with
 | none=>rw[ho] at a;cases a
 | some o=>
  rw[ho] at a;simp only[Ahm] at a;obtain ⟨q,hq,c⟩:=a;simp only[AeC,beq_iff_eq] at c;exact ⟨j,o,b,ho,_,Ahn hq,c.1,c.2⟩
theorem Rl(h:Ig ops=true){listed:Array Bool}(m:Dc ops listed)(hs:listed.size=ops.size)(r:ops.size-1∈Region.ready .any ops listed):∀n k,ops.size-k<=n->k+1<ops.size->listed.getD k false=true:=by
 intro n
 induction n with
 | zero=>intro k q d;omega
 | succ n ih=>
  intro k q d;obtain ⟨j,o,l,f,e,g,i,c⟩:=Rk h k d;have s:j<ops.size:=(Ae1.1 f).1;by_cases hjl:j=ops.size-1
  ·subst hjl
   obtain ⟨_,o',a,b⟩:=mem_ready.1 r;rw[f] at a;cases a;rw[<-c];exact b e g i
  have:=ih j U U;rw[<-c];exact m j o f (by
   have p:j<listed.size:=by omega
   simp[p] at this ⊢;exact this) U e g i
def Hv(P:Program)(ops:Array Oper)(Q:Exit->Act->World->Prop)(S:World->Prop):Nat->Array Bool->Act->World->Prop
 | 0,listed,a,w=>Region.ready .any ops listed=[]/\Q .normal a w
 | fuel+1,listed,a,w=>
  (Region.ready .any ops listed=[]->Q .normal a w)/\
  ∀i∈Region.ready .any ops listed,wpOp P ops Q i (λa' w'=>(i≠ops.size-1->S w')/\Hv P ops Q S fuel (listed.setIfInBounds i true) a' w') a w
theorem Ih:∀(fuel:Nat) (listed:Array Bool) (a:Act) (w:World),Hv P ops Q S fuel listed a w->wpAny P .any ops Q fuel listed a w
 | 0,_,_,_,h=>h
 | fuel+1,_,_,_,h=>⟨h.1,λi hi=>wpOp_mono (λa' w' h'=>Ih fuel _ a' w' h'.2) (h.2 i hi)⟩
theorem Nt(r:Ig ops=true){i:Nat}{oi:Oper}{v:Value}(hi:ops[i]?=some oi)(a6:i≠ops.size-1)(m:∀(j:Nat) (o:Oper) cs b,ops[j]?=some o->o.op≠ .select cs b)
  (hQ:∀c a w,Q (.panic c) (a.put oi.dst v) w->Q (.panic c) a w):
  ∀(fuel:Nat) (listed:Array Bool) (a:Act) (w:World),Dc ops listed->listed.size=ops.size->
   (∀j q,ops[j]?=some q->j≠i->listed.getD j true=false->(∀e∈q.after,Region.binds .any e=true->e.on≠i)->oi.apart ops q=true)->
   i∈Region.ready .any ops listed->YieldsIf P ops S oi v a->S w->
   Hv P ops Q S fuel (listed.setIfInBounds i true) (a.put oi.dst v) w->Hv P ops Q S (fuel+1) listed a w:=by
 have a5:i<ops.size:=(Ae1.1 hi).1;intro fuel
 induction fuel with
 | zero=>
  intro listed a w hd p _ g hy hS H;refine ⟨λh=>(by rw[h] at g;cases g),λj u=>?_⟩;by_cases hji:j=i
  ·subst hji;exact hy.wpOp hi hS ⟨λ_=>hS,H⟩
  have:=ready_mono u hji;rw[H.1] at this;cases this
 | succ fuel ih=>
  intro listed a w hd p d g hy hS H;refine ⟨λh=>(by rw[h] at g;cases g),λj u=>?_⟩;by_cases hji:j=i
  ·subst hji;exact hy.wpOp hi hS ⟨λ_=>hS,H⟩
  have n:=H.2 j (ready_mono u hji);have a0:j≠ops.size-1:=λe=>by
   subst e;have:=Rl r hd p u (ops.size-i) i (Aei _) U;have t:=(mem_ready.1 g).1;have hh:i<listed.size:=by omega
   simp[hh] at this t;rw[this] at t;cases t
  obtain ⟨l,q,s,x⟩:=mem_ready.1 u;have z:∀e∈q.after,Region.binds .any e=true->e.on≠i:=λe he hb a4=>by
   have n:=x e he hb;have t:=(mem_ready.1 g).1;rw[a4] at n;rcases Aeq i listed.size with h'|h'
   ·simp[h'] at t n;rw[t] at n;cases n
   simp[Ae0 h'] at n
  have h2:=wpOp_putIf s (d j q s hji l z) (λcs b=>m i oi cs b hi) (λcs b=>m j q cs b s) hQ hy n;have f:∀k y,ops[k]?=some y->k≠i->(listed.setIfInBounds j true).getD k true=false->
    (∀e∈y.after,Region.binds .any e=true->e.on≠i)->oi.apart ops y=true:=λk y hk a2 a1 a3=>by
   refine d k y hk a2 ?_ a3;by_cases hjk:j=k
   ·subst hjk;exact l
   rw[getD_set_ne true hjk] at a1;exact a1
  refine wpOp_mono (λa' w' h3=>⟨λ_=>h3.2.1 a0,ih (listed.setIfInBounds j true) a' w' (hd.next u) (by simpa using p) f (ready_mono g (AfS hji)) h3.1 (h3.2.1 a0) ?_⟩) h2;rw[Agq _ _ hji];exact h3.2.2
theorem Pw{listed:Array Bool}{a:Act}{w:World}(hr:Region.ready .any ops listed=[])(h:Q .normal a w):∀fuel,Hv P ops Q S fuel listed a w
 | 0=>⟨hr,h⟩
 | _+1=>⟨λ_=>h,by rw[hr];simp⟩
end last
section last2
variable{P:Program}{ops:List Oper}{N R:Act->World->Prop}{X:Nat->Act->World->Prop}{S:World->Prop}{a:Act}{w:World}{fuel:Nat}{listed:Array Bool}{n d i:Nat}{ds:List Deferred}{L:List (Nat×Value)}{v:Value}{o:Oper}
def GB(P:Program)(ops:List Oper)(Q:Exit->Act->World->Prop)(S:World->Prop)(fuel:Nat)(listed:Array Bool)(a:Act)(w:World):Prop:=Dc ops.toArray listed->listed.size=ops.length->Hv P ops.toArray Q S fuel listed a w
theorem Bh(S:World->Prop)(k:Nat)(c:ops.length=k)(e:P.follows .mixedOrders=true)
  (h:∀b,Ext No w b->b.heap.size=w.heap.size->∀a,Fr n ds L a->GB P ops (Qp N X R) S k (Array.replicate k false) a b):∀a,Fr n ds L a->(Code.region m ops.toArray true).wp P (Qp N X R) a w:=λa d=>
 wp_region_any e (Ih (S:=S) _ _ _ _ (by have:=h _ (Ext.drawn No w) Z a d (Dc.start _ _) (by simp[c]);simpa [c] using this))
theorem BJ(i:Nat)(b:Ig ops.toArray=true)(hi:ops[i]?=some o)(m:Nat.beq i (ops.length-1)=false)(hs:Region.noSelect ops.toArray=true)(t:Region.free .any ops.toArray listed i=true)(r:(Region.ready .any ops.toArray listed).contains i=true)
  (p:BM ops L o.guard=true)(s:o.dst=some d)(l:Nat.blt d n=true)(k:Au P S n ds L o v)(u:S w)
  (K:∀a',Fr n ds ((d,v)::L) a'->GB P ops (Qp N X R) S fuel (listed.setIfInBounds i true) a' w):∀a,Fr n ds L a->GB P ops (Qp N X R) S (fuel+1) listed a w:=λa j g e=>
 have f:ops.toArray[i]?=some o:=by simpa using hi
 have c:i∈Region.ready .any ops.toArray listed:=by simpa using r
 Nt b (i:=i) (oi:=o) (v:=v) f (by simpa using Agw m) (AgF hs) (λ_ _ _ h=>h.elim) fuel listed a w g (by simpa using e) (AgW f t) c (.inl ⟨wantL_ok j p,λq h=>k a j q h⟩) u
  (by rw[s];exact K _ (j.put d v l) (g.next c) (by simpa using e))
theorem AE(rs:List Nat)(g:Region.ready .any ops.toArray listed=rs)(b:rs≠[])
  (h:∀i∈rs,∀a,Fr n ds L a->wpOp P ops.toArray (Qp N X R) i (λa' c=>(i≠ops.length-1->S c)/\GB P ops (Qp N X R) S fuel (listed.setIfInBounds i true) a' c) a w):∀a,Fr n ds L a->GB P ops (Qp N X R) S (fuel+1) listed a w:=λa j f d=>
 ⟨λe=>absurd (g▸e) b,λi hi=>wpOp_mono (λa' c q=>⟨by simpa using q.1,q.2 (f.next hi) (by simpa using d)⟩) (h i (g▸hi) a j)⟩
theorem Bj{fuel:Nat}(c:Region.ready .any ops.toArray listed=[])(h:∀a,Fr n ds L a->N a w):∀a,Fr n ds L a->GB P ops (Qp N X R) S fuel listed a w:=λa b _ _=>Pw c (h a b) _
theorem Ar{q:Prop}{Z_:Act->World->Prop}(c:q->S w)(h:∀a,Fr n ds L a->Z_ a w):∀a,Fr n ds L a->(q->S w)/\Z_ a w:=λa b=>⟨c,h a b⟩
end last2
end
section
def u8(b:UInt8):Value:=.int .u8 b.toNat
def u32(b:UInt32):Value:=.int .u32 b.toNat
def GC(x:Int):UInt8:=UInt8.ofNat (x%256).toNat
def Ft(x:Int):UInt32:=UInt32.ofNat (x%4294967296).toNat
theorem AcV(x:Int):IntKind.u8.wrap x=(GC x).toNat:=by
 simp[GC,IntKind.wrap,IntKind.bits,IntKind.signed];omega
theorem XK(x:Int):IntKind.u32.wrap x=(Ft x).toNat:=by
 simp[Ft,IntKind.wrap,IntKind.bits,IntKind.signed];omega
theorem AaI{b:UInt32}:Ft b.toNat=b:=by
 apply Ahw.1;have:=b.toNat_lt;simp[Ft];omega
theorem XL(x:Int):Value.int .u8 (IntKind.u8.wrap x)=u8 (GC x):=congrArg _ (AcV x)
theorem Uu(x:Int):Value.int .u32 (IntKind.u32.wrap x)=u32 (Ft x):=congrArg _ (XK x)
theorem AdX{a b:UInt8}(h:u8 a=u8 b):a=b:=by
 simp only[u8,Value.int.injEq,true_and] at h;exact Ag5.1 U
section
variable{P:Program}{C:World->Prop}{o:Oper}{a:Act}{w z:World}{Γ:List Ai}{n:Nat}{ds:List Deferred}{L:List (Nat×Value)}{v:Value}{x y:Operand}{xt yt:TypeId}
theorem AaJ{p q:UInt8}(d:o.op=.binOp .xor xt x y yt)(c:ev L x=some (u8 p))(e:ev L y=some (u8 q)):Au P C n ds L o (u8 (p ^^^ q)):=λa b w _=>by
 simp only[execOp,d,b.ev c,b.ev e,u8];simp[go_sem,Op.intBits,IntKind.wrap,IntKind.bits,IntKind.signed];have:=(p ^^^ q).toNat_lt;rw[<-UInt8.toNat_xor];show (((p ^^^ q).toNat:Int))%256=((p ^^^ q).toNat:Int);omega
theorem Sz{p q:UInt8}(f:o.op=.binOp .eql xt x y yt){k:IntKind}(g:D8 P xt xt=some k)(e:ev L x=some (u8 p))(i:ev L y=some (u8 q)):Au P C n ds L o (.bool (decide (p=q))):=λa b w _=>by
 obtain ⟨d,j,c⟩:=FL g;simp only[execOp,f,b.ev e,b.ev i,u8];simp[c,go_sem];rw[Aew];simp;exact ⟨λh=>Ag5.1 U,λh=>by rw[h]⟩
theorem AdV{p q:UInt32}(f:o.op=.binOp .eql xt x y yt){k:IntKind}(g:D8 P xt xt=some k)(e:ev L x=some (u32 p))(i:ev L y=some (u32 q)):Au P C n ds L o (.bool (decide (p=q))):=λa b w _=>by
 obtain ⟨d,j,c⟩:=FL g;simp only[execOp,f,b.ev e,b.ev i,u32];simp[c,go_sem];rw[Aew];simp;exact ⟨λh=>Ahw.1 U,λh=>by rw[h]⟩
theorem XM{p q:UInt32}(g:o.op=.binOp .neq xt x y yt){k:IntKind}(i:D8 P xt xt=some k)(f:ev L x=some (u32 p))(j:ev L y=some (u32 q)):Au P C n ds L o (.bool (decide (p≠q))):=λa b w _=>by
 obtain ⟨d,l,c⟩:=FL i;simp only[execOp,g,b.ev f,b.ev j,u32];simp[c,go_sem];rw[Aew];simp;exact ⟨λh e=>h (by rw[e]),λh e=>h (Ahw.1 U)⟩
theorem PR{p q:UInt32}(d:o.op=.binOp .xor xt x y yt)(c:ev L x=some (u32 p))(e:ev L y=some (u32 q)):Au P C n ds L o (u32 (p ^^^ q)):=λa b w _=>by
 simp only[execOp,d,b.ev c,b.ev e,u32];simp[go_sem,Op.intBits,IntKind.wrap,IntKind.bits,IntKind.signed];have:=(p ^^^ q).toNat_lt;rw[<-UInt32.toNat_xor];show (((p ^^^ q).toNat:Int))%4294967296=((p ^^^ q).toNat:Int);omega
theorem XN{p q:UInt32}(d:o.op=.binOp .and xt x y yt)(c:ev L x=some (u32 p))(e:ev L y=some (u32 q)):Au P C n ds L o (u32 (p&&&q)):=λa b w _=>by
 simp only[execOp,d,b.ev c,b.ev e,u32];simp[go_sem,Op.intBits,IntKind.wrap,IntKind.bits,IntKind.signed];have:=(p&&&q).toNat_lt;rw[<-UInt32.toNat_and];show (((p&&&q).toNat:Int))%4294967296=((p&&&q).toNat:Int);omega
theorem XO{p q:UInt32}(d:o.op=.binOp .mul xt x y yt)(c:ev L x=some (u32 p))(e:ev L y=some (u32 q)):Au P C n ds L o (u32 (p*q)):=λa b w _=>by
 simp only[execOp,d,b.ev c,b.ev e,u32];simp[go_sem,IntKind.wrap,IntKind.bits,IntKind.signed,UInt32.toNat_mul]
theorem Hw{p:UInt32}{k:IntKind}{m:Int}{n':UInt32}(g:o.op=.binOp .shr xt x y yt)(e:ev L x=some (u32 p))(i:ev L y=some (.int k m))(d:0<=m/\m<32/\n'=UInt32.ofNat m.toNat):Au P C n ds L o (u32 (p>>>n')):=λa c w _=>by
 obtain ⟨h,l,rfl⟩:=d;obtain ⟨j,rfl⟩:=AfY h;simp only[execOp,g,c.ev e,c.ev i,u32];have f:¬((j:Int)<0):=by omega
 have b:min j 32=j:=by omega
 simp[go_sem,Op.shift,IntKind.bits,f,b,UInt32.toNat_shiftRight];rw[Ahr];simp;rw[AfA U]
theorem PS{p:UInt32}(c:o.op=.unOp .xor xt x)(d:ev L x=some (u32 p)):Au P C n ds L o (u32 (4294967295 ^^^ p)):=λa b w _=>by
 simp only[execOp,c,b.ev d,u32];simp[go_sem,Op.intBits,IntKind.max,IntKind.wrap,IntKind.bits,IntKind.signed];have:=(4294967295 ^^^ p).toNat_lt;have e:(4294967295 ^^^ p).toNat=4294967295 ^^^ p.toNat:=UInt32.toNat_xor _ _;rw[<-e];show (((4294967295 ^^^ p).toNat:Int))%4294967296=((4294967295 ^^^ p).toNat:Int);omega

theorem Rm{k:IntKind}(c:o.op=.convert xt T x)(a:D8 P xt T=some .u8)(b:ev L x=some (.int k p)):Au P C n ds L o (u8 (GC p)):=by
 have:=Hu (P:=P) (C:=C) (n:=n) (ds:=ds) (L:=L) c a b;rwa[XL] at this
theorem SA{k:IntKind}(c:o.op=.convert xt T x)(a:D8 P xt T=some .u32)(b:ev L x=some (.int k p)):Au P C n ds L o (u32 (Ft p)):=by
 have:=Hu (P:=P) (C:=C) (n:=n) (ds:=ds) (L:=L) c a b;rwa[Uu] at this
theorem Rn{p:UInt8}(a:o.op=.convert xt T x)(b:D8 P xt T=some .i64)(c:ev L x=some (u8 p)):Au P C n ds L o (I p.toNat):=by
 have:=Hu (P:=P) (C:=C) (n:=n) (ds:=ds) (L:=L) a b c;have hp:=p.toNat_lt;rwa[AfL _ U] at this
theorem AaK{p:UInt32}(a:o.op=.convert xt T x)(b:D8 P xt T=some .i64)(c:ev L x=some (u32 p)):Au P C n ds L o (I p.toNat):=by
 have:=Hu (P:=P) (C:=C) (n:=n) (ds:=ds) (L:=L) a b c;have hp:=p.toNat_lt;rwa[AfL _ U] at this
theorem Hx{p:UInt32}(a:o.op=.convert xt T x)(b:D8 P xt T=some .u8)(c:ev L x=some (u32 p)):Au P C n ds L o (u8 p.toUInt8):=by
 have:=Rm (P:=P) (C:=C) (n:=n) (ds:=ds) (L:=L) a b c;have e:GC p.toNat=p.toUInt8:=by
  apply Ag5.1;simp[GC];omega
 rwa[e] at this
def F1(P:Program)(t:TypeId):Bool:=match P.underlying t with|some (.pointer _)=>true|_=>false
theorem Ii(h:F1 P T=true):∃e,P.underlying T=some (.pointer e):=by
 unfold F1 at h;split at h
 ·exact ⟨_,by assumption⟩
 cases h
def Ro(P:Program)(t:TypeId):Bool:=match P.underlying t with|some (.slice _)=>true|_=>false
theorem PT(h:Ro P T=true):∃e,P.underlying T=some (.slice e):=by
 unfold Ro at h;split at h
 ·exact ⟨_,by assumption⟩
 cases h
theorem Nu{f:Addr}(g:o.op=.binOp .eql xt x y yt)(b:F1 P xt=true)(d:ev L x=some (.pointer (some f)))(h:ev L y=some (.pointer none)):Au P C n ds L o (.bool false):=λa c w _=>by
 obtain ⟨e,b⟩:=Ii b;simp only[execOp,g,c.ev d,c.ev h];simp[b,go_sem]
theorem Uv{f:Addr}(g:o.op=.binOp .neq xt x y yt)(b:F1 P xt=true)(d:ev L x=some (.pointer (some f)))(h:ev L y=some (.pointer none)):Au P C n ds L o (.bool true):=λa c w _=>by
 obtain ⟨e,b⟩:=Ii b;simp only[execOp,g,c.ev d,c.ev h];simp[b,go_sem]
theorem Uw(f:o.op=.binOp .eql xt x y yt)(b:F1 P xt=true)(d:ev L x=some (.pointer none))(g:ev L y=some (.pointer none)):Au P C n ds L o (.bool true):=λa c w _=>by
 obtain ⟨e,b⟩:=Ii b;simp only[execOp,f,c.ev d,c.ev g];simp[b,go_sem]
theorem Ux(f:o.op=.binOp .neq xt x y yt)(b:F1 P xt=true)(d:ev L x=some (.pointer none))(g:ev L y=some (.pointer none)):Au P C n ds L o (.bool false):=λa c w _=>by
 obtain ⟨e,b⟩:=Ii b;simp only[execOp,f,c.ev d,c.ev g];simp[b,go_sem]
theorem Ij{f:Addr}(g:o.op=.binOp .eql xt x y yt)(b:Ro P xt=true)(d:ev L x=some (.slice (some f) m j))(h:ev L y=some (.slice none 0 0)):Au P C n ds L o (.bool false):=λa c w _=>by
 obtain ⟨e,b⟩:=PT b;simp only[execOp,g,c.ev d,c.ev h];simp[Lib.run_eql_slice_nil _ _ e _ _ _ _ _ b,go_sem]
theorem Uy(f:o.op=.binOp .eql xt x y yt)(b:Ro P xt=true)(d:ev L x=some (.slice none 0 0))(g:ev L y=some (.slice none 0 0)):Au P C n ds L o (.bool true):=λa c w _=>by
 obtain ⟨e,b⟩:=PT b;simp only[execOp,f,c.ev d,c.ev g];simp[Lib.run_eql_slice_nil _ _ e _ _ _ _ _ b,go_sem]
theorem C5{f:Fn}{bs cs:List Operand}{vs:List Value}(d:o.op=.makeFunc f bs.toArray cs.toArray)(e:evs L bs=some V)(c:evs L cs=some vs):Au P C n ds L o (.func f V.toArray vs.toArray):=λa b w _=>by
 have e1:=b.evs e;have e2:=b.evs c;simp only[execOp,d,AeW,e1,e2];rfl

def Nv(P:Program)(t:TypeId):Option (Nat×Nat):=match P.underlying t with
 | some (.pointer a)=>Id P a
 | _=>none
theorem SB{z:Nat}(h:Nv P T=some (m,z)):∃a e i,P.underlying T=some (.pointer a)/\P.underlying a=some (.array m e)/\P.info? e=some i/\i.size=z:=by
 unfold Nv at h;split at h
 ·rename_i a b
  obtain ⟨e,i,c,d,f⟩:=Ie h;exact ⟨a,e,i,b,c,d,f⟩
 cases h
theorem BL{lo hi:Option Operand}{p q z o' l' c':Nat}(t:o.op=.slice T x lo hi none)(u:Dn P T=some z)
  (w:ev L x=some (.slice (some ⟨m,j,none⟩) g r))(d:(lo=none/\p=0)\/∃y k i,lo=some y/\ev L y=some (.int k i)/\i=(p:Int))(f:(hi=none/\q=g)\/∃y k i,hi=some y/\ev L y=some (.int k i)/\i=(q:Int))(b:p<=q)(c:q<=r)
  (l:j+p*z=o')(s:q-p=l')(h3:r-p=c')(a:p<r\/p*z=0):Au P C n ds L o (.slice (some ⟨m,o',none⟩) l' c'):=by
 have:=Jd (P:=P) (C:=C) (n:=n) (ds:=ds) (L:=L) t u w d f b c;rw[s,h3] at this;have e:(if r=p then (some ⟨m,j,none⟩:Option Addr) else (some ⟨m,j,none⟩:Option Addr).map (·.add (p*z)))=some ⟨m,o',none⟩:=by
  subst l;split
  ·rename_i h;rcases a with a|a
   ·omega
   simp[a]
  simp only[AeR,Ael];unfold Addr.add;split
  ·rename_i v;simp[v]
  rfl
 rwa[e] at this
theorem AdE{lo hi:Option Operand}{q z o' l' c':Nat}(ho:o.op=.slice T x lo hi none)(ht:Nv P T=some (g,z))
  (t:ev L x=some (.pointer (some ⟨m,j,none⟩)))(a0:(lo=none/\r=0)\/∃y k i,lo=some y/\ev L y=some (.int k i)/\i=(r:Int))(a1:(hi=none/\q=g)\/∃y k i,hi=some y/\ev L y=some (.int k i)/\i=(q:Int))(d:r<=q)(c:q<=g)
  (h1:j+r*z=o')(h2:q-r=l')(h3:g-r=c')(v:r<g\/r*z=0):Au P C n ds L o (.slice (some ⟨m,o',none⟩) l' c'):=λa p w _=>by
 obtain ⟨ar,e,i0,f,l,b,u⟩:=SB ht;have g1:(0:Int)<=(r:Int)/\(r:Int)<=(q:Int):=by omega
 have g2:(0:Int)<=(q:Int)/\(q:Int)<=(g:Int):=by omega
 have key:((if g=r then (⟨m,j,none⟩:Addr) else (⟨m,j,none⟩:Addr).add (r*z)))=⟨m,o',none⟩:=by
  subst h1;split
  ·rename_i h;rcases v with v|v
   ·omega
   simp[v]
  unfold Addr.add;split
  ·rename_i h0;simp[h0]
  rfl
 rcases a0 with ⟨rfl,rfl⟩|⟨y,k,i,rfl,hy,rfl⟩<;>rcases a1 with ⟨rfl,rfl⟩|⟨y',k',i',rfl,s,rfl⟩
 ·simp only[execOp,ho,AeR,Afy,p.ev t];simp[Instr.sliceAt,Instr.slice,run_underlying f,run_underlying l,Instr.sureAddr,Instr.sliceBounds,sizeOf,typeInfo,b,u,d,c,go_sem,key,h2,h3]<;>(try simp_all)<;>(try omega)
 ·simp only[execOp,ho,AeR,Afy,p.ev t,p.ev s];simp[Instr.sliceAt,Instr.slice,run_underlying f,run_underlying l,Instr.sureAddr,Instr.sliceBounds,Instr.sliceBound,asIntOf,g2,sizeOf,typeInfo,b,u,d,c,go_sem,key,h2,h3]<;>(try simp_all)<;>(try omega)
 ·simp only[execOp,ho,AeR,Afy,p.ev t,p.ev hy];simp[Instr.sliceAt,Instr.slice,run_underlying f,run_underlying l,Instr.sureAddr,Instr.sliceBounds,Instr.sliceBound,asIntOf,g1,sizeOf,typeInfo,b,u,d,c,go_sem,key,h2,h3]<;>(try simp_all)<;>(try omega)
 simp only[execOp,ho,AeR,Afy,p.ev t,p.ev hy,p.ev s];simp[Instr.sliceAt,Instr.slice,run_underlying f,run_underlying l,Instr.sureAddr,Instr.sliceBounds,Instr.sliceBound,asIntOf,g1,g2,sizeOf,typeInfo,b,u,d,c,go_sem,key,h2,h3]<;>(try simp_all)<;>(try omega)
theorem GD{lo hi:Option Operand}{n' p q z o' l' c':Nat}(v:o.op=.slice T x lo hi none)(ht:Id P T=some (n',z))
  (r:ev L x=some (.pointer (some ⟨m,j,none⟩)))(a0:(lo=none/\p=0)\/∃y k i,lo=some y/\ev L y=some (.int k i)/\i=(p:Int))(a1:(hi=none/\q=n')\/∃y k i,hi=some y/\ev L y=some (.int k i)/\i=(q:Int))(d:p<=q)(c:q<=n')
  (h1:j+p*z=o')(u:q-p=l')(h3:n'-p=c')(t:p<n'\/p*z=0):Au P C n ds L o (.slice (some ⟨m,o',none⟩) l' c'):=λa g w _=>by
 obtain ⟨e,i0,f,b,s⟩:=Ie ht;have g1:(0:Int)<=(p:Int)/\(p:Int)<=(q:Int):=by omega
 have g2:(0:Int)<=(q:Int)/\(q:Int)<=(n':Int):=by omega
 have key:((if n'=p then (⟨m,j,none⟩:Addr) else (⟨m,j,none⟩:Addr).add (p*z)))=⟨m,o',none⟩:=by
  subst h1;split
  ·rename_i h;rcases t with t|t
   ·omega
   simp[t]
  unfold Addr.add;split
  ·rename_i h0;simp[h0]
  rfl
 rcases a0 with ⟨rfl,rfl⟩|⟨y,k,i,rfl,hy,rfl⟩<;>rcases a1 with ⟨rfl,rfl⟩|⟨y',k',i',rfl,l,rfl⟩
 ·simp only[execOp,v,AeR,Afy,g.ev r];simp[Instr.sliceAt,Instr.slice,run_underlying f,Instr.sureAddr,Instr.sliceBounds,sizeOf,typeInfo,b,s,d,c,go_sem,key,u,h3]<;>(try simp_all)<;>(try omega)
 ·simp only[execOp,v,AeR,Afy,g.ev r,g.ev l];simp[Instr.sliceAt,Instr.slice,run_underlying f,Instr.sureAddr,Instr.sliceBounds,Instr.sliceBound,asIntOf,g2,sizeOf,typeInfo,b,s,d,c,go_sem,key,u,h3]<;>(try simp_all)<;>(try omega)
 ·simp only[execOp,v,AeR,Afy,g.ev r,g.ev hy];simp[Instr.sliceAt,Instr.slice,run_underlying f,Instr.sureAddr,Instr.sliceBounds,Instr.sliceBound,asIntOf,g1,sizeOf,typeInfo,b,s,d,c,go_sem,key,u,h3]<;>(try simp_all)<;>(try omega)
 simp only[execOp,v,AeR,Afy,g.ev r,g.ev hy,g.ev l];simp[Instr.sliceAt,Instr.slice,run_underlying f,Instr.sureAddr,Instr.sliceBounds,Instr.sliceBound,asIntOf,g1,g2,sizeOf,typeInfo,b,s,d,c,go_sem,key,u,h3]<;>(try simp_all)<;>(try omega)

theorem Cb(H:Sep z Γ w){zs:List Value}(g:o.op=.alloc T)(e:zeroCells P T=some zs.toArray):Cy P n ds L o w (λv c=>∃b,v=Y b/\Sep z (blk b zs T::Γ) c):=λa f=>by
 obtain ⟨v,c,h,b,rfl,hs,_,d,i⟩:=XI (w:=w) g e a f;exact ⟨_,c,h,b,Z,H.new i U d⟩
theorem G0(H:Sep z Γ w){cs:List Value}(h:o.op=.box T x)(d:ev L x=some v)(f:v.cells=cs.toArray):Cy P n ds L o w (λv c=>∃b,v=Y b/\Sep z (blk b cs T::Γ) c):=λa g=>by
 obtain ⟨v,c,i,b,rfl,hs,_,e,d⟩:=AcU (P:=P) (w:=w) h d f a g;exact ⟨_,c,i,b,Z,H.new d U e⟩
theorem Ak(i:Nat)(H:Sep z Γ w){ty:TypeId}{p:Nat}{vs:List Value}(hi:Γ[i]?=some (blk m V ty))(h:o.op=.store T x y)(b:ev L x=some (.pointer (some ⟨m,p,none⟩)))(l:ev L y=some v)(r:v.cells=vs.toArray)(f:∀u∈vs,u.oneCell'=true)
  (hs:(P.info? T).map (·.size)=some vs.length)(hp:p+vs.length<=V.length){out:List Value}(c:V.take p++vs++V.drop (p+vs.length)=out):
  DH P n ds L o w (λd=>Sep z (Γ.set i (blk m out ty)) d):=λa g=>by
 obtain ⟨d,j,e,b,_⟩:=PQ h b l r f hs (H.blk i hi) hp c a g;refine ⟨d,j,H.write i hi b.os b.tape b.output e (λk s=>?_)⟩;rcases Aeq k w.heap.size with q|q
 ·exact b.block k q s
 rw[Ae0 q,Ae0 U]
theorem Lp(i:Nat)(H:Sep z Γ w){ty:TypeId}(hi:Γ[i]?=some (blk m (u::V) ty))(c:o.op=.store T x y)(d:ev L x=some (Y m))(e:ev L y=some v)(a:v.cells= #[v])(b:v.oneCell'=true)(hs:(P.info? T).map (·.size)=some 1):DH P n ds L o w (λw'=>Sep z (Γ.set i (blk m (v::V) ty)) w'):=
 Ak i H hi c d e (vs:=[v]) a (by simp[b]) hs O Z
theorem Lq(i:Nat)(H:Sep z Γ w){ty:TypeId}{d:Value}(hi:Γ[i]?=some (blk m (u::d::V) ty))(c:o.op=.store T x y)(e:ev L x=some (.pointer (some ⟨m,1,none⟩)))(f:ev L y=some v)(a:v.cells= #[v])(b:v.oneCell'=true)(hs:(P.info? T).map (·.size)=some 1):DH P n ds L o w (λw'=>Sep z (Γ.set i (blk m (u::v::V) ty)) w'):=
 Ak i H hi c e f (vs:=[v]) a (by simp[b]) hs O Z
theorem JT(i:Nat)(H:Sep z Γ w){ty:TypeId}{a x2:Value}(hi:Γ[i]?=some (blk m (u::a::x2::V) ty))(d:o.op=.store T x y)(e:ev L x=some (.pointer (some ⟨m,2,none⟩)))(f:ev L y=some v)(b:v.cells= #[v])(c:v.oneCell'=true)(hs:(P.info? T).map (·.size)=some 1):DH P n ds L o w (λw'=>Sep z (Γ.set i (blk m (u::a::v::V) ty)) w'):=
 Ak i H hi d e f (vs:=[v]) b (by simp[c]) hs O Z
theorem Nw(i:Nat)(H:Sep z Γ w){ty:TypeId}{a x2 e:Value}(hi:Γ[i]?=some (blk m (u::a::x2::e::V) ty))(d:o.op=.store T x y)(f:ev L x=some (.pointer (some ⟨m,3,none⟩)))(g:ev L y=some v)(b:v.cells= #[v])(c:v.oneCell'=true)(hs:(P.info? T).map (·.size)=some 1):DH P n ds L o w (λw'=>Sep z (Γ.set i (blk m (u::a::x2::v::V) ty)) w'):=
 Ak i H hi d f g (vs:=[v]) b (by simp[c]) hs O Z
theorem AdF(i:Nat)(H:Sep z Γ w){ty:TypeId}{a x2 b c:Value}(hi:Γ[i]?=some (blk m (u::a::x2::b::c::V) ty))(f:o.op=.store T x y)(g:ev L x=some (.pointer (some ⟨m,4,none⟩)))(h:ev L y=some v)(d:v.cells= #[v])(e:v.oneCell'=true)(hs:(P.info? T).map (·.size)=some 1):DH P n ds L o w (λw'=>Sep z (Γ.set i (blk m (u::a::x2::b::v::V) ty)) w'):=
 Ak i H hi f g h (vs:=[v]) d (by simp[e]) hs O Z
theorem AdG(i:Nat)(H:Sep z Γ w){ty:TypeId}{b x2 e d a c f:Value}(hi:Γ[i]?=some (blk m (u::b::x2::e::d::a::c::f::V) ty))(h:o.op=.store T x y)(j:ev L x=some (.pointer (some ⟨m,7,none⟩)))(k:ev L y=some v)(l:v.cells= #[v])(g:v.oneCell'=true)(hs:(P.info? T).map (·.size)=some 1):DH P n ds L o w (λw'=>Sep z (Γ.set i (blk m (u::b::x2::e::d::a::c::v::V) ty)) w'):=
 Ak i H hi h j k (vs:=[v]) l (by simp[g]) hs O Z
theorem AdH(i:Nat)(H:Sep z Γ w){ty:TypeId}{d x2 g f a e b c p:Value}(hi:Γ[i]?=some (blk m (u::d::x2::g::f::a::e::b::c::p::V) ty))(j:o.op=.store T x y)(k:ev L x=some (.pointer (some ⟨m,9,none⟩)))(l:ev L y=some v)(q:v.cells= #[v])(h:v.oneCell'=true)(hs:(P.info? T).map (·.size)=some 1):DH P n ds L o w (λw'=>Sep z (Γ.set i (blk m (u::d::x2::g::f::a::e::b::c::v::V) ty)) w'):=
 Ak i H hi j k l (vs:=[v]) q (by simp[h]) hs O Z
theorem AcW(i:Nat)(H:Sep z Γ w){ty:TypeId}{f x2 k j c g d e h a b:Value}(hi:Γ[i]?=some (blk m (u::f::x2::k::j::c::g::d::e::h::a::b::V) ty))(p:o.op=.store T x y)(q:ev L x=some (.pointer (some ⟨m,11,none⟩)))(r:ev L y=some v)(s:v.cells= #[v])(l:v.oneCell'=true)(hs:(P.info? T).map (·.size)=some 1):DH P n ds L o w (λw'=>Sep z (Γ.set i (blk m (u::f::x2::k::j::c::g::d::e::h::a::v::V) ty)) w'):=
 Ak i H hi p q r (vs:=[v]) s (by simp[l]) hs O Z
theorem AcX(i:Nat)(H:Sep z Γ w){ty:TypeId}{g x2 l k d h e f j b a c:Value}(hi:Γ[i]?=some (blk m (u::g::x2::l::k::d::h::e::f::j::b::a::c::V) ty))(q:o.op=.store T x y)(r:ev L x=some (.pointer (some ⟨m,12,none⟩)))(s:ev L y=some v)(t:v.cells= #[v])(p:v.oneCell'=true)(hs:(P.info? T).map (·.size)=some 1):DH P n ds L o w (λw'=>Sep z (Γ.set i (blk m (u::g::x2::l::k::d::h::e::f::j::b::a::v::V) ty)) w'):=
 Ak i H hi q r s (vs:=[v]) t (by simp[p]) hs O Z
end

section calls
variable{P:Program}{ops:List Oper}{Q:Exit->Act->World->Prop}{a:Act}{w z:World}{rest:List Oper}{o:Oper}{n d:Nat}{ds:List Deferred}{L:List (Nat×Value)}{v:Value}{Γ pre R':List Ai}{post:Value->List Ai->Prop}{f:FuncId}{args:List Operand}{vs:List Value}{tys:Array TypeId}
theorem Cn.or{B:Ai}(a:Cn P f vs (A::pre) post)(c:Cn P f vs (B::pre) post):Cn P f vs ((λh=>A h\/B h)::pre) post:=λz R w H=>by
 obtain ⟨b,H⟩:=H.ex 0 (σ:=Bool) (B:=λb=>bif b then A else B) Z (λh q=>by rcases q with q|q;exact ⟨true,q⟩;exact ⟨false,q⟩)
 cases b with
 | true=>exact a z R w H
 | false=>exact c z R w H
theorem Cn.at(c:Cn P f vs pre post)(H:Sep z Γ w)(k:Nat)(a:List Nat)(b:Gf k a=true)(e:DI Γ a++Γ.drop k=pre++R'):Calls P f vs.toArray w (Ret λv w'=>∃Γ',post v Γ'/\Sep z (Γ'++R') w'):=
 c z R' w (H.perm k a b e)
theorem AdW(j:BM ops L o.guard=true)(r:o.dst=some d)(g:Nat.blt d n=true)(l:o.op=.call {callee:=.value (.func f),args:=args.toArray,argTypes:=tys})(b:evs L args=some vs)(m:∀w,(callFunc f vs.toArray).run P w=.ok (.enter f vs.toArray) w)
  (s:Cn P f vs pre post)(H:Sep z Γ w)(k:Nat)(i:List Nat)(h:Gf k i=true)(e:DI Γ i++Γ.drop k=pre++R')
  (K:∀v c Γ',post v Γ'->Sep z (Γ'++R') c->∀a',Fr n ds ((d,v)::L) a'->wpList P ops.toArray Q rest a' c):∀a,Fr n ds L a->wpList P ops.toArray Q (o::rest) a w:=
 Sp j r g l b m (s.at H k i h e) λv c ⟨Γ',q,p⟩=>K v c Γ' q p
theorem Cn.use(a:Cn P f vs pre post)(H:Sep z (pre++R') w):Calls P f vs.toArray w (Ret λv w'=>∃Γ',post v Γ'/\Sep z (Γ'++R') w'):=a z R' w H
theorem Fu(h:BM ops L o.guard=true)(k:o.dst=some d)(g:Nat.blt d n=true)(i:o.op=.call {callee:=.value (.func f),args:=args.toArray,argTypes:=tys})(b:evs L args=some vs)(j:∀w,(callFunc f vs.toArray).run P w=.ok (.enter f vs.toArray) w)
  (m:Cn P f vs pre post)(H:Sep z Γ w)(e:Γ=pre++R')
  (K:∀v c Γ',post v Γ'->Sep z (Γ'++R') c->∀a',Fr n ds ((d,v)::L) a'->wpList P ops.toArray Q rest a' c):∀a,Fr n ds L a->wpList P ops.toArray Q (o::rest) a w:=
 Sp h k g i b j (m.use (e▸H)) λv c ⟨Γ',q,l⟩=>K v c Γ' q l
theorem cq(j:Cn P f vs pre post)(hq:∀u Γ',post u Γ'->u=v/\Γ'=pre)(k:Nat)(d a:List Nat)(c:Gf k d=true)(e:DI Γ d++Γ.drop k=pre++R')(b:Gf k a=true)(h:DI (pre++R') a++(pre++R').drop k=Γ):
  ∀w,Sep z Γ w->Calls P f vs.toArray w (Ret λu g=>u=v/\Sep z Γ g):=λw H=>
 Ret.mono (j.at H k d c e) λu g ⟨Γ',q,i⟩=>by
  obtain ⟨rfl,rfl⟩:=hq u Γ' q;exact ⟨Z,i.perm k a b h⟩
theorem Xd{Rr:Value->World->Prop}(d:BM ops L o.guard=true)(g:o.dst=none)(h:Cy P n ds L o w Rr)(K:∀v b,Rr v b->∀a,Fr n ds L a->wpList P ops.toArray Q rest a b):∀a,Fr n ds L a->wpList P ops.toArray Q (o::rest) a w:=by
 intro a c;obtain ⟨v,b,f,e⟩:=h a c;unfold wpList;rw[if_pos (wantL_ok c d)];left;unfold Oper.wp;rw[f,AgM,g];exact K v b e a c
end calls
section callsH
variable{P:Program}{ops:List Oper}{N R:Act->World->Prop}{X:Nat->Act->World->Prop}{a:Act}{w z:World}{n d i:Nat}{ds:List Deferred}{L:List (Nat×Value)}{v:Value}{o:Oper}{Γ pre R':List Ai}{post:Value->List Ai->Prop}{f:FuncId}{args:List Operand}{vs:List Value}{tys:Array TypeId}{K:Act->World->Prop}
theorem PU(hi:ops[i]?=some o)(l:BM ops L o.guard=true)(s:o.dst=some d)(g:Nat.blt d n=true)(m:o.op=.call {callee:=.value (.func f),args:=args.toArray,argTypes:=tys})(b:evs L args=some vs)(p:∀w,(callFunc f vs.toArray).run P w=.ok (.enter f vs.toArray) w)
  (t:Cn P f vs pre post)(H:Sep z Γ w)(k:Nat)(j:List Nat)(h:Gf k j=true)(e:DI Γ j++Γ.drop k=pre++R')
  (u:∀v c Γ',post v Γ'->Sep z (Γ'++R') c->∀a',Fr n ds ((d,v)::L) a'->K a' c):∀a,Fr n ds L a->wpOp P ops.toArray (Qp N X R) i K a w:=
 Sy hi l s g m b p (t.at H k j h e) λv c ⟨Γ',q,r⟩=>u v c Γ' q r
theorem Bo(hi:ops[i]?=some o)(h:BM ops L o.guard=true)(m:o.dst=some d)(g:Nat.blt d n=true)(j:o.op=.call {callee:=.value (.func f),args:=args.toArray,argTypes:=tys})(b:evs L args=some vs)(k:∀w,(callFunc f vs.toArray).run P w=.ok (.enter f vs.toArray) w)
  (p:Cn P f vs pre post)(H:Sep z Γ w)(e:Γ=pre++R')
  (r:∀v c Γ',post v Γ'->Sep z (Γ'++R') c->∀a',Fr n ds ((d,v)::L) a'->K a' c):∀a,Fr n ds L a->wpOp P ops.toArray (Qp N X R) i K a w:=
 Sy hi h m g j b k (p.use (e▸H)) λv c ⟨Γ',q,l⟩=>r v c Γ' q l
theorem CD(hi:ops[i]?=some o)(e:BM ops L o.guard=true)(j:o.dst=some d)(c:Nat.blt d n=true)(b:Au P (· =w) n ds L o v)(f:∀a',Fr n ds ((d,v)::L) a'->K a' w):∀a,Fr n ds L a->wpOp P ops.toArray (Qp N X R) i K a w:=
 Ca hi e j c (Rr:=λu g=>u=v/\g=w) (λa h=>⟨v,w,b a h w Z,Z,Z⟩) λ_ _ ⟨e1,e2⟩=>by subst e1;subst e2;exact f
theorem AcY{Rr:Value->World->Prop}(hi:ops[i]?=some o)(d:BM ops L o.guard=true)(j:o.dst=none)(h:Cy P n ds L o w Rr)(e:∀v b,Rr v b->∀a,Fr n ds L a->K a b):∀a,Fr n ds L a->wpOp P ops.toArray (Qp N X R) i K a w:=by
 intro a c;obtain ⟨v,b,g,f⟩:=h a c;unfold wpOp;rw[Afe,hi];simp only;rw[if_pos (wantL_ok c d)];left;unfold Oper.wp;rw[g,AgM,j];exact e v b f a c
end callsH
end
section
def Mq:IntKind->IntKind->Bool
 | .i64,.i64=>true
 | .u8,.u8=>true
 | .u32,.u32=>true
 | .u64,.u64=>true
 | .i32,.i32=>true
 | .u16,.u16=>true
 | _,_=>false
theorem Hy{k a:IntKind}(h:Mq k a=true):k=a:=by unfold Mq at h;split at h<;>first|rfl|cases h
def icmp(b:BinOp)(p q:Int):Option Value:=match b with
 | .lss=>some (.bool (decide (p<q)))
 | .leq=>some (.bool (decide (p<=q)))
 | .gtr=>some (.bool (decide (q<p)))
 | .geq=>some (.bool (decide (q<=p)))
 | .eql=>some (.bool (decide (p=q)))
 | .neq=>some (.bool (decide (p≠q)))
 | _=>none
def noq(n:Option Nat)(p r:Nat):Bool:=match n with
 | some k=>Nat.beq (p+k) r
 | none=>false
abbrev Mm:=List (Nat×List Value×TypeId)
def MemL(w:World):Mm->Prop
 | []=>True
 | e::M=>Blk e.1 e.2.1 e.2.2 w/\MemL w M
theorem AM{w:World}:MemL w []:=trivial
theorem AO{w:World}{M:Mm}(h:Blk m V T w)(g:MemL w M):MemL w ((m,V,T)::M):=⟨h,g⟩
theorem MemL.get{w:World}:∀{M:Mm} {j:Nat} {e:Nat×List Value×TypeId},MemL w M->M[j]?=some e->Blk e.1 e.2.1 e.2.2 w
 | [],_,_,_,h=>by simp at h
 | _::_,0,_,g,h=>by simp at h;subst h;exact g.1
 | _::_,j+1,_,g,h=>MemL.get (j:=j) g.2 (by simpa using h)
structure Qv where
 v:Value
 hs:List Nat
 ok:Bool
 a:List (Nat×Nat)
def Rp(P:Program)(M:Mm)(L:List (Nat×Value))(hs:List Nat):Op->Option Qv
 | .move x=>match ev L x with|some v=>some ⟨v,hs,true,[]⟩|none=>none
 | .assign x=>match ev L x with|some v=>some ⟨v,hs,true,[]⟩|none=>none
 | .pick c x y=>match ev L c with
  | some (.bool true)=>(match ev L x with|some v=>some ⟨v,hs,true,[]⟩|none=>none)
  | some (.bool false)=>(match ev L y with|some v=>some ⟨v,hs,true,[]⟩|none=>none)
  | _=>none
 | .extract x i=>match ev L x with
  | some (.tuple vs)=>(match vs.toList[i]? with|some v=>some ⟨v,hs,true,[]⟩|none=>none)
  | _=>none
 | .nilCheck x=>match ev L x with
  | some (.pointer (some ad))=>some ⟨.pointer (some ad),hs,true,[]⟩
  | _=>none
 | .unOp b _ x=>match b with
  | .not=>(match ev L x with|some (.bool c)=>some ⟨.bool !c,hs,true,[]⟩|_=>none)
  | _=>none
 | .binOp b _ x y _=>match ev L x with
  | some (.int k p)=>(match ev L y with
   | some (.int k' q)=>(match icmp b p q with|some v=>some ⟨v,hs,Mq k k',[]⟩|none=>none)
   | _=>none)
  | _=>none
 | .fieldAddr s x f=>match hs with
  | r::hs=>(match ev L x with
   | some (.pointer (some ⟨b,p,none⟩))=>some ⟨.pointer (some ⟨b,r,none⟩),hs,noq (Ek P s f) p r,[]⟩
   | _=>none)
  | []=>none
 | .load t x=>match hs with
  | j::hs=>(match ev L x with
   | some (.pointer (some ⟨b,p,none⟩))=>(match M[j]? with
    | some e=>(match e.2.1[p]? with
     | some v=>some ⟨v,hs,Ge P t,[(b,e.1)]⟩
     | none=>none)
    | none=>none)
   | _=>none)
  | []=>none
 | _=>none
def B4:List (Nat×Nat)->Prop
 | []=>True
 | e::l=>e.1=e.2/\B4 l
theorem Co:∀{l m:List (Nat×Nat)},B4 (l++m)->B4 l/\B4 m
 | [],_,h=>⟨trivial,h⟩
 | _::_,_,h=>⟨⟨h.1,(Co h.2).1⟩,(Co h.2).2⟩
section
variable{P:Program}{M:Mm}{L:List (Nat×Value)}{n:Nat}{ds:List Deferred}{w:World}
theorem Hz{C:World->Prop}{o:Oper}{hs:List Nat}{q:Qv}(hM:∀w,C w->MemL w M)(h:Rp P M L hs o.op=some q)(i:q.ok=true)(u:B4 q.a):Au P C n ds L o q.v:=by
 unfold Rp at h;split at h
 ·rename_i d
  split at h
  ·rename_i c;cases h;exact Cj d c
  cases h
 ·rename_i d
  split at h
  ·rename_i c;cases h;exact Bl d c
  cases h
 ·rename_i d
  split at h
  ·rename_i l
   split at h
   ·rename_i c;cases h;exact Nl d l c
   cases h
  ·rename_i l
   split at h
   ·rename_i c;cases h;exact Nm d l c
   cases h
  cases h
 ·rename_i d
  split at h
  ·rename_i vs c
   split at h
   ·rename_i g;cases h
    exact Fe (vs:=vs.toList) d (by simpa using c) g
   cases h
  cases h
 ·rename_i d
  split at h
  ·rename_i c;cases h;exact Kv d c
  cases h
 ·rename_i d
  split at h
  ·split at h
   ·rename_i c;cases h;exact Kt d c
   cases h
  cases h
 ·rename_i b _ x y _ d
  split at h
  ·rename_i k p c
   split at h
   ·rename_i k' r j
    split at h
    ·rename_i v g
     cases h
     obtain rfl:=Hy i;unfold icmp at g;split at g<;>first|(cases g;first|exact Rj d c j|exact W5 d c j|exact W6 d c j|exact W7 d c j|exact W8 d c j|exact Xa d c j)|cases g
    cases h
   cases h
  cases h
 ·rename_i s x f d
  split at h
  ·split at h
   ·rename_i b p c
    cases h
    dsimp only at i
    cases hf:Ek P s f with
    | none=>rw[hf] at i;cases i
    | some k=>
     rw[hf] at i;exact DS d hf c (AfK i)
   cases h
  cases h
 ·rename_i t x d
  split at h
  ·split at h
   ·rename_i b p c
    split at h
    ·rename_i e z
     split at h
     ·rename_i v g
      cases h
      have e1:b=e.1:=u.1;exact Bg d c i (λw m=>by rw[e1];exact ((hM w m).get z).cel p g)
     cases h
    cases h
   cases h
  cases h
 cases h
structure Qs where
 L:List (Nat×Value)
 os:List Oper
 ok:Bool
 a:List (Nat×Nat)
def quiet(P:Program)(M:Mm)(ops:List Oper)(n:Nat):Nat->List Nat->Bool->List (Nat×Nat)->List (Nat×Value)->List Oper->Option Qs
 | 0,_,ok,a,L,os=>some ⟨L,os,ok,a⟩
 | _+1,_,_,_,_,[]=>none
 | k+1,hs,ok,a,L,o::os=>match o.dst with
  | none=>none
  | some d=>match Nat.blt d n with
   | false=>none
   | true=>match BM ops L o.guard with
    | true=>(match Rp P M L hs o.op with
     | some q=>quiet P M ops n k q.hs (q.ok&&ok) (q.a++a) ((d,q.v)::L) os
     | none=>none)
    | false=>(match EW ops L o.guard with
     | true=>quiet P M ops n k hs ok a ((d,undef)::L) os
     | false=>none)
theorem Ik{ops:List Oper}:∀{k:Nat} {hs:List Nat} {d:Bool} {a:List (Nat×Nat)} {L:List (Nat×Value)} {b:List Oper} {q:Qs},quiet P M ops n k hs d a L b=some q->q.ok=true->B4 q.a->d=true/\B4 a:=by
 intro k
 induction k with
 | zero=>intro hs d a L b q h e c;simp only[quiet,Ael] at h;subst h;exact ⟨e,c⟩
 | succ k ih=>
  intro hs d a L b q h e c
  cases b with
  | nil=>simp[quiet] at h
  | cons o b=>
   simp only[quiet] at h;split at h
   ·cases h
   split at h
   ·cases h
   split at h
   ·split at h
    ·obtain ⟨f,g⟩:=ih h e c
     exact ⟨by simp at f;exact f.2,(Co g).2⟩
    cases h
   split at h
   ·exact ih h e c
   cases h
theorem s_P{ops:List Oper}{Q:Exit->Act->World->Prop}(r:MemL w M):∀(k:Nat) (hs:List Nat) {i:Bool} {a:List (Nat×Nat)} {L L':List (Nat×Value)} {c b:List Oper} {ok':Bool} {a':List (Nat×Nat)},quiet P M ops n k hs i a L c=some ⟨L',b,ok',a'⟩->ok'=true->B4 a'->
  (∀x,Fr n ds L' x->wpList P ops.toArray Q b x w)->∀x,Fr n ds L x->wpList P ops.toArray Q c x w:=by
 intro k
 induction k with
 | zero=>
  intro hs i a L L' c b ok' a' h _ _ K;simp only[quiet,Ael,Qs.mk.injEq] at h;obtain ⟨rfl,rfl,_,_⟩:=h;exact K
 | succ k ih=>
  intro hs i a L L' c b ok' a' h j g K
  cases c with
  | nil=>simp[quiet] at h
  | cons o c=>
   simp only[quiet] at h;split at h
   ·cases h
   rename_i d m;split at h
   ·cases h
   rename_i f;split at h
   ·rename_i p
    split at h
    ·rename_i q hq
     obtain ⟨l,s⟩:=Ik h j g;simp at l;exact s_do p m f (Hz (λ_ e=>e▸r) hq l.1 (Co s).1) (ih _ h j g K)
    cases h
   split at h
   ·rename_i t
    exact Sn t m f (ih _ h j g K)
   cases h
theorem Dv:∀{l:List (Nat×Nat)},l.map Prod.fst=l.map Prod.snd->B4 l
 | [],_=>trivial
 | _::_,h=>by
  simp only[AeJ,Ag2] at h;exact ⟨h.1,Dv h.2⟩
theorem Gj{ops:List Oper}{Q:Exit->Act->World->Prop}(k:Nat)(hs:List Nat)(e:MemL w M){L L':List (Nat×Value)}{a:List Oper}{a':List (Nat×Nat)}(h:quiet P M ops n k hs true [] L o=some ⟨L',a,b,a'⟩)(d:b=true)(c:a'.map Prod.fst=a'.map Prod.snd)(K:∀x,Fr n ds L' x->wpList P ops.toArray Q a x w):∀x,Fr n ds L x->wpList P ops.toArray Q o x w:=s_P e k hs h d (Dv c) K
theorem Mr{ops:List Oper}{Q:Exit->Act->World->Prop}(k:Nat)(hs:List Nat){L L':List (Nat×Value)}{a:List Oper}(h:quiet P [] ops n k hs true [] L o=some ⟨L',a,b,[]⟩)(c:b=true)(K:∀x,Fr n ds L' x->wpList P ops.toArray Q a x w):∀x,Fr n ds L x->wpList P ops.toArray Q o x w:=s_P AM k hs h c trivial K
theorem BZ{ops:List Oper}{Q:Exit->Act->World->Prop}(k:Nat){L L':List (Nat×Value)}{a:List Oper}(h:quiet P [] ops n k [] true [] L o=some ⟨L',a,b,[]⟩)(c:b=true)(K:∀x,Fr n ds L' x->wpList P ops.toArray Q a x w):∀x,Fr n ds L x->wpList P ops.toArray Q o x w:=s_P AM k [] h c trivial K

theorem q_P{ops:List Oper}{C:World->Prop}{Q:Act->Prop}(p:∀w,C w->MemL w M):∀(k:Nat) (hs:List Nat) {g:Bool} {a:List (Nat×Nat)} {L L':List (Nat×Value)} {c b:List Oper} {ok':Bool} {a':List (Nat×Nat)},quiet P M ops n k hs g a L c=some ⟨L',b,ok',a'⟩->ok'=true->B4 a'->
  (∀x,Fr n ds L' x->wpQuiet P ops.toArray C Q b x)->∀x,Fr n ds L x->wpQuiet P ops.toArray C Q c x:=by
 intro k
 induction k with
 | zero=>
  intro hs g a L L' c b ok' a' h _ _ K;simp only[quiet,Ael,Qs.mk.injEq] at h;obtain ⟨rfl,rfl,_,_⟩:=h;exact K
 | succ k ih=>
  intro hs g a L L' c b ok' a' h i f K
  cases c with
  | nil=>simp[quiet] at h
  | cons o c=>
   simp only[quiet] at h;split at h
   ·cases h
   rename_i d l;split at h
   ·cases h
   rename_i e;split at h
   ·rename_i m
    split at h
    ·rename_i q hq
     obtain ⟨j,r⟩:=Ik h i f;simp at j;exact AL m l e (Hz p hq j.1 (Co r).1) (ih _ h i f K)
    cases h
   split at h
   ·rename_i s
    exact Sr s l e (ih _ h i f K)
   cases h
theorem DZ{ops:List Oper}{C:World->Prop}{Q:Act->Prop}(k:Nat)(hs:List Nat)(e:∀w,C w->MemL w M){L L':List (Nat×Value)}{a:List Oper}{a':List (Nat×Nat)}(h:quiet P M ops n k hs true [] L o=some ⟨L',a,b,a'⟩)(d:b=true)(c:a'.map Prod.fst=a'.map Prod.snd)(K:∀x,Fr n ds L' x->wpQuiet P ops.toArray C Q a x):∀x,Fr n ds L x->wpQuiet P ops.toArray C Q o x:=q_P e k hs h d (Dv c) K
theorem B0{ops:List Oper}{C:World->Prop}{Q:Act->Prop}(k:Nat)(hs:List Nat){L L':List (Nat×Value)}{a:List Oper}(h:quiet P [] ops n k hs true [] L o=some ⟨L',a,b,[]⟩)(c:b=true)(K:∀x,Fr n ds L' x->wpQuiet P ops.toArray C Q a x):∀x,Fr n ds L x->wpQuiet P ops.toArray C Q o x:=q_P (λ_ _=>AM) k hs h c trivial K
theorem t_P{ops:List Oper}{Q:Act->Prop}(r:MemL w M):∀(k:Nat) (hs:List Nat) {i:Bool} {a:List (Nat×Nat)} {L L':List (Nat×Value)} {c b:List Oper} {ok':Bool} {a':List (Nat×Nat)},quiet P M ops n k hs i a L c=some ⟨L',b,ok',a'⟩->ok'=true->B4 a'->
  (∀x,Fr n ds L' x->wpStill P ops.toArray w Q b x)->∀x,Fr n ds L x->wpStill P ops.toArray w Q c x:=by
 intro k
 induction k with
 | zero=>
  intro hs i a L L' c b ok' a' h _ _ K;simp only[quiet,Ael,Qs.mk.injEq] at h;obtain ⟨rfl,rfl,_,_⟩:=h;exact K
 | succ k ih=>
  intro hs i a L L' c b ok' a' h j g K
  cases c with
  | nil=>simp[quiet] at h
  | cons o c=>
   simp only[quiet] at h;split at h
   ·cases h
   rename_i d m;split at h
   ·cases h
   rename_i f;split at h
   ·rename_i p
    split at h
    ·rename_i q hq
     obtain ⟨l,s⟩:=Ik h j g;simp at l;exact B9 p m f (Hz (λ_ e=>e▸r) hq l.1 (Co s).1) (ih _ h j g K)
    cases h
   split at h
   ·rename_i t
    exact Sw t m f (ih _ h j g K)
   cases h
theorem PV{ops:List Oper}{Q:Act->Prop}(k:Nat)(hs:List Nat)(e:MemL w M){L L':List (Nat×Value)}{a:List Oper}{a':List (Nat×Nat)}(h:quiet P M ops n k hs true [] L o=some ⟨L',a,b,a'⟩)(d:b=true)(c:a'.map Prod.fst=a'.map Prod.snd)(K:∀x,Fr n ds L' x->wpStill P ops.toArray w Q a x):∀x,Fr n ds L x->wpStill P ops.toArray w Q o x:=t_P e k hs h d (Dv c) K
theorem PW{ops:List Oper}{Q:Act->Prop}(k:Nat)(hs:List Nat){L L':List (Nat×Value)}{a:List Oper}(h:quiet P [] ops n k hs true [] L o=some ⟨L',a,b,[]⟩)(c:b=true)(K:∀x,Fr n ds L' x->wpStill P ops.toArray w Q a x):∀x,Fr n ds L x->wpStill P ops.toArray w Q o x:=t_P AM k hs h c trivial K
structure Qa where
 L:List (Nat×Value)
 listed:Array Bool
 ok:Bool
 a:List (Nat×Nat)
def quietA(P:Program)(M:Mm)(ops:List Oper)(n:Nat)(g:Nat->Bool):List Nat->List Nat->Bool->List (Nat×Nat)->List (Nat×Value)->Array Bool->Option Qa
 | [],_,ok,a,L,li=>some ⟨L,li,ok,a⟩
 | i::is,hs,ok,a,L,li=>match ops[i]? with
  | none=>none
  | some o=>match o.dst with
   | none=>none
   | some d=>match Nat.blt d n with
    | false=>none
    | true=>match BM ops L o.guard with
     | true=>(match Rp P M L hs o.op with
      | some q=>quietA P M ops n g is q.hs (((q.ok&&g i)&&(Region.noSelect ops.toArray&&(Region.free .any ops.toArray li i&&(Region.ready .any ops.toArray li).contains i)))&&ok) (q.a++a) ((d,q.v)::L) (li.setIfInBounds i true)
      | none=>none)
     | false=>(match EW ops L o.guard with
      | true=>quietA P M ops n g is hs ((g i&&(Region.noSelect ops.toArray&&(Region.free .any ops.toArray li i&&(Region.ready .any ops.toArray li).contains i)))&&ok) a ((d,undef)::L) (li.setIfInBounds i true)
      | false=>none)
theorem F2{ops:List Oper}:∀{e hs:List Nat} {c:Bool} {a:List (Nat×Nat)} {L:List (Nat×Value)} {j:Array Bool} {q:Qa},quietA P M ops n F e hs c a L j=some q->q.ok=true->B4 q.a->c=true/\B4 a:=by
 intro e
 induction e with
 | nil=>intro hs c a L j q h d b;simp only[quietA,Ael] at h;subst h;exact ⟨d,b⟩
 | cons i e ih=>
  intro hs c a L j q h d b;simp only[quietA] at h;split at h
  ·cases h
  split at h
  ·cases h
  split at h
  ·cases h
  split at h
  ·split at h
   ·obtain ⟨f,g⟩:=ih h d b
    exact ⟨(AeC _ _▸f).2,(Co g).2⟩
   cases h
  split at h
  ·obtain ⟨f,g⟩:=ih h d b
   exact ⟨(AeC _ _▸f).2,g⟩
  cases h
section
variable{ops:List Oper}{N R:Act->World->Prop}{X:Nat->Act->World->Prop}{S:World->Prop}
theorem a_P(u:∀w,S w->MemL w M)(s:S w):∀(e hs:List Nat) {l:Bool} {a:List (Nat×Nat)} {L L':List (Nat×Value)} {j c:Array Bool} {ok':Bool} {a':List (Nat×Nat)} {fuel:Nat},quietA P M ops n (λ_=>true) e hs l a L j=some ⟨L',c,ok',a'⟩->ok'=true->B4 a'->
  (∀x,Fr n ds L' x->wpAnyH P .any ops.toArray (Qp N X R) S fuel c x w)->∀x,Fr n ds L x->wpAnyH P .any ops.toArray (Qp N X R) S (fuel+e.length) j x w:=by
 intro e
 induction e with
 | nil=>
  intro hs l a L L' j c ok' a' fuel h _ _ K;simp only[quietA,Ael,Qa.mk.injEq] at h;obtain ⟨rfl,rfl,_,_⟩:=h;exact K
 | cons i e ih=>
  intro hs l a L L' j c ok' a' fuel h k g K;simp only[quietA] at h;split at h
  ·cases h
  rename_i o r;split at h
  ·cases h
  rename_i d m;split at h
  ·cases h
  rename_i f;split at h
  ·rename_i t
   split at h
   ·rename_i q hq
    obtain ⟨b,p⟩:=F2 h k g;simp only[AeC] at b;exact BN (fuel:=fuel+e.length) i r b.1.2.1 b.1.2.2.1 b.1.2.2.2 t m f (Hz u hq b.1.1.1 (Co p).1) s (ih _ h k g K)
   cases h
  split at h
  ·rename_i v
   obtain ⟨b,p⟩:=F2 h k g;simp only[AeC] at b;exact Sx (fuel:=fuel+e.length) i r b.1.2.1 b.1.2.2.1 b.1.2.2.2 v m f s (ih _ h k g K)
  cases h
theorem a_L(c hs:List Nat)(k:∀w,S w->MemL w M)(g:S w){L L':List (Nat×Value)}{d a:Array Bool}{a':List (Nat×Nat)}(h:quietA P M ops n (λ_=>true) c hs true [] L d=some ⟨L',a,b,a'⟩)(j:b=true)(e:a'.map Prod.fst=a'.map Prod.snd)(f:m+c.length=i)(K:∀x,Fr n ds L' x->wpAnyH P .any ops.toArray (Qp N X R) S m a x w):∀x,Fr n ds L x->wpAnyH P .any ops.toArray (Qp N X R) S i d x w:=f▸a_P k g c hs h j (Dv e) K
def Nc(ops:List Oper)(i:Nat):Bool:= !(Nat.beq i (ops.length-1))&&(match ops[i]? with|some o=>o.guard.isNone|none=>false)
theorem l_P(f:Ig ops.toArray=true)(y:∀w,S w->MemL w M)(z:S w):∀(j hs:List Nat) {p:Bool} {a:List (Nat×Nat)} {L L':List (Nat×Value)} {l c:Array Bool} {ok':Bool} {a':List (Nat×Nat)} {fuel:Nat},quietA P M ops n (Nc ops) j hs p a L l=some ⟨L',c,ok',a'⟩->ok'=true->B4 a'->
  (∀x,Fr n ds L' x->GB P ops (Qp N X R) S fuel c x w)->∀x,Fr n ds L x->GB P ops (Qp N X R) S (fuel+j.length) l x w:=by
 intro j
 induction j with
 | nil=>
  intro hs p a L L' l c ok' a' fuel h _ _ K;simp only[quietA,Ael,Qa.mk.injEq] at h;obtain ⟨rfl,rfl,_,_⟩:=h;exact K
 | cons i j ih=>
  intro hs p a L L' l c ok' a' fuel h s m K;simp only[quietA] at h;split at h
  ·cases h
  rename_i o u;split at h
  ·cases h
  rename_i d v;split at h
  ·cases h
  rename_i r;split at h
  ·rename_i k
   split at h
   ·rename_i q hq
    obtain ⟨b,t⟩:=F2 h s m;simp only[AeC] at b;exact BJ (fuel:=fuel+j.length) i f u (by have:=b.1.1.2;unfold Nc at this;simp only[AeC] at this;simpa using this.1) b.1.2.1 b.1.2.2.1 b.1.2.2.2 k v r (Hz y hq b.1.1.1 (Co t).1) z (ih _ h s m K)
   cases h
  rename_i k;split at h
  ·obtain ⟨b,t⟩:=F2 h s m
   simp only[AeC] at b;exfalso;have e:=b.1.1;unfold Nc at e;rw[u] at e;simp only[AeC] at e
   cases hgd:o.guard with
   | none=>rw[hgd] at k;simp[BM] at k
   | some g=>have:=e.2;rw[hgd] at this;cases this
  cases h
theorem Bu(d hs:List Nat)(a:Ig ops.toArray=true)(l:∀w,S w->MemL w M)(j:S w){L L':List (Nat×Value)}{e c:Array Bool}{a':List (Nat×Nat)}(h:quietA P M ops n (Nc ops) d hs true [] L e=some ⟨L',c,b,a'⟩)(k:b=true)(f:a'.map Prod.fst=a'.map Prod.snd)(g:m+d.length=i)(K:∀x,Fr n ds L' x->GB P ops (Qp N X R) S m c x w):∀x,Fr n ds L x->GB P ops (Qp N X R) S i e x w:=g▸l_P a l j d hs h k (Dv f) K
end
end
end
section
def celH(h:Hp)(b o:Nat)(v:Value):Prop:=∃cs ty fr,h b=some (.cells cs ty fr)/\cs[o]?=some v
def CJ(h h':Hp):Prop:=∀k o,h k=some o->h' k=some o
theorem celH.le{h':Hp}{b o:Nat}{v:Value}(c:celH h b o v)(s:CJ h h'):celH h' b o v:=by
 obtain ⟨cs,ty,a,d,e⟩:=c;exact ⟨cs,ty,a,s _ _ d,e⟩
theorem celH.cel{b o:Nat}{v:Value}{w:World}(c:celH h b o v)(s:CJ h (hp w)):FE b o v w:=by
 obtain ⟨cs,ty,d,e,f⟩:=c.le s;have a:w.heap[b]?=some (.cells cs ty d):=e;unfold FE World.cell?;simp[a,f]
def rdH(sz:Nat)(v:Value)(n:Nat)(xs:List Value)(h:Hp):Prop:=
 ∃ao c,v=.slice ao n c/\n<=c/\c<=9223372036854775807/\xs.length=n*sz/\∀(j:Nat) (u:Value),xs[j]?=some u->∃b p,ao=some ⟨b,p,none⟩/\celH h b (p+j) u
theorem rdH.le{sz:Nat}{v:Value}{n:Nat}{xs:List Value}{h h':Hp}(r:rdH sz v n xs h)(s:CJ h h'):rdH sz v n xs h':=by
 obtain ⟨l,c,e,a,d,i,k⟩:=r;exact ⟨l,c,e,a,d,i,λj u g=>by obtain ⟨b,p,e,f⟩:=k j u g;exact ⟨b,p,e,f.le s⟩⟩
theorem rdH.rd{sz:Nat}{v:Value}{n:Nat}{xs:List Value}{w:World}(r:rdH sz v n xs h)(s:CJ h (hp w)):Rd sz v n xs w:=by
 obtain ⟨l,c,e,a,d,i,k⟩:=r;exact ⟨l,c,e,a,d,i,λj u g=>by obtain ⟨b,p,e,f⟩:=k j u g;exact ⟨b,p,e,f.cel s⟩⟩
theorem rdH.small{sz:Nat}{v:Value}{n:Nat}{xs:List Value}(r:rdH sz v n xs h):n<=9223372036854775807:=by
 obtain ⟨d,c,e,a,b,_⟩:=r;omega
theorem rdH.nil(sz:Nat)(h:Hp):rdH sz (.slice none 0 0) 0 [] h:=⟨none,0,Z,Aei _,by omega,by simp,λj u a=>by simp at a⟩
theorem blk.celH{b:Nat}{cs:List Value}{ty:TypeId}{h:Hp}(c:blk b cs ty h)(o:Nat){v:Value}(a:cs[o]?=some v):celH h b o v:=⟨_,_,_,c,by simpa using a⟩
theorem blk.rd{b l c sz:Nat}{cs xs:List Value}{ty:TypeId}(f:blk b cs ty h)(d:l<=c)(e:c<=9223372036854775807)(i:m+l*sz<=cs.length)(g:(cs.drop m).take (l*sz)=xs):rdH sz (.slice (some ⟨b,m,none⟩) l c) l xs h:=by
 subst g;refine ⟨_,_,Z,d,e,by simp;omega,λj u a=>⟨b,m,Z,f.celH _ ?_⟩⟩;rw[AeX] at a;split at a
 ·rw[Afl] at a;exact a
 cases a
section
variable{P:Program}{C:World->Prop}{o:Oper}{a:Act}{w z:World}{Γ:List Ai}{n:Nat}{ds:List Deferred}{L:List (Nat×Value)}{v:Value}{x y:Operand}{xt yt:TypeId}{A:Ai}
theorem Sep.get'(i:Nat)(H:Sep z Γ w)(a:Γ[i]?=some A):∃h,A h/\CJ h (hp w):=H.get i a
def Lr:List Ai->Nat->Ai
 | [],_=>λ_=>True
 | a::_,0=>a
 | _::l,i+1=>Lr l i
theorem Xe:∀(Γ:List Ai) (i:Nat),Γ[i]?=none/\(∀h,Lr Γ i h)\/Γ[i]?=some (Lr Γ i)
 | [],_=>.inl ⟨Z,λ_=>trivial⟩
 | _::_,0=>.inr Z
 | _::l,i+1=>Xe l i
theorem Xf{Γ:List Ai}{z w:World}(i:Nat)(H:Sep z Γ w):∃h,Lr Γ i h/\CJ h (hp w):=(Xe Γ i).elim (λq=>⟨_,q.2 _,λ_ _ e=>e⟩) (λq=>H.get' i q)
theorem Sep.rd(i:Nat)(H:Sep z Γ w)(b:Γ[i]?=some A){sz m:Nat}{u:Value}{xs:List Value}(d:∀h,A h->rdH sz u m xs h):Rd sz u m xs w:=by
 obtain ⟨h,a,c⟩:=H.get' i b;exact (d h a).rd c
theorem Sep.rv{Γ:List Ai}{z w:World}(i:Nat)(H:Sep z Γ w){sz:Nat}{xs:List Value}(r:∀{h},Lr Γ i h->rdH sz u m xs h):Rd sz u m xs w:=by
 obtain ⟨_,q,e⟩:=Xf i H;exact (r q).rd e
theorem Sep.cell(i:Nat)(H:Sep z Γ w)(c:Γ[i]?=some A){b p:Nat}(e:∀h,A h->celH h b p u):FE b p u w:=by
 obtain ⟨h,a,d⟩:=H.get' i c;exact (e h a).cel d
theorem Sep.says(i:Nat)(H:Sep z Γ w)(b:Γ[i]?=some A){p:Prop}(c:∀h,A h->p):p:=by
 obtain ⟨h,a,_⟩:=H.get' i b;exact c h a

theorem Sep.sy{Γ:List Ai}{z w:World}(i:Nat)(H:Sep z Γ w){p:Prop}(r:∀{h},Lr Γ i h->p):p:=by
 obtain ⟨_,q,_⟩:=Xf i H;exact r q
def grow(e:TypeId)(sz:Nat)(v:Value)(n:Nat)(xs:List Value):Ai:=λh=>xs.length=n*sz/\
 ((v=.slice none 0 0/\n=0)\/∃g cap cur,v=.slice (some ⟨g,0,none⟩) n cap/\h g=some (.cells cur e (0,0))/\n<=cap/\cap<=maxLen/\cur.size=cap*sz/\cur.toList.take (n*sz)=xs)
theorem grow.form{e:TypeId}{sz:Nat}{xs:List Value}(g:grow e sz u m xs h):(u=.slice none 0 0/\m=0)\/∃b c,u=.slice (some ⟨b,0,none⟩) m c/\m<=c:=by
 rcases g.2 with g|⟨b,c,f,d,_,a,_⟩
 ·exact .inl g
 exact .inr ⟨b,c,d,a⟩
theorem grow.len{e:TypeId}{sz:Nat}{xs:List Value}(g:grow e sz u m xs h):xs.length=m*sz:=g.1
theorem grow.nil(e:TypeId)(sz:Nat)(h:Hp):grow e sz (.slice none 0 0) 0 [] h:=⟨by simp,.inl ⟨Z,Z⟩⟩
theorem grow.rd{e:TypeId}{sz:Nat}{xs:List Value}(g:grow e sz u m xs h):rdH sz u m xs h:=by
 have d:=g.1;rcases g.2 with ⟨rfl,rfl⟩|⟨b,c,i,rfl,k,f,n,hs,l⟩
 ·have:xs=[]:=by simpa using d
  subst this;exact rdH.nil sz h
 refine ⟨_,c,Z,f,(by unfold maxLen at n;omega),d,λj u a=>⟨b,0,Z,_,_,_,k,?_⟩⟩;rw[<-l] at a;rw[AeX] at a;split at a
 ·simpa using a
 cases a
theorem grow.own{e:TypeId}{sz:Nat}{xs:List Value}(g:grow e sz u m xs h)(s:CJ h (hp w)):Xc 0 e sz u m xs w:=by
 refine ⟨g.1,?_⟩;rcases g.2 with g|⟨b,a,c,d,f,r⟩
 ·exact .inl g
 exact .inr ⟨b,a,c,d,AeO _,s _ _ f,r⟩
theorem Sep.void{B:Ai}(H:Sep z Γ w)(a:∀h,B h):Sep z (B::Γ) w:=H.grow (Ext.refl No w) (a _)
theorem Sep.nilg(H:Sep z Γ w)(e:TypeId)(sz:Nat):Sep z (YtemljpjnhjnncaaGreatDoor.grow e sz (.slice none 0 0) 0 []::Γ) w:=H.void λh=>grow.nil e sz h
theorem blk.grow{b k c sz:Nat}{cs xs:List Value}{ty:TypeId}{h:Hp}(f:blk b cs ty h)(a:k<=c)(g:c<=9223372036854775807)(d:cs.length=c*sz)(e:cs.take (k*sz)=xs):grow ty sz (.slice (some ⟨b,0,none⟩) k c) k xs h:=by
 refine ⟨?_,.inr ⟨b,c,cs.toArray,Z,f,a,(by unfold maxLen;omega),by simpa using d,by simpa using e⟩⟩;rw[<-e,Aex,d];exact AeE (AfG _ a)
theorem A0(i:Nat){t e:TypeId}{zv:Value}{sz by_ k m:Nat}{u:Value}{xs news:List Value}(H:Sep z Γ w)(hi:Γ[i]?=some (grow e sz v k xs))(ho:o.op=.call {callee:=.builtin .append,args:= #[x,y],argTypes:= #[t,t]})
  (ht:P.underlying t=some (.slice e))(hE:Elt P e zv sz by_)(hx:ev L x=some v)(hy:ev L y=some u)(a3:Rd sz u m news w)(h1:∀c∈news,c.oneCell'=true)(a9:(k+m)*by_<=140737488355328):
  Cy P n ds L o w (λv' w'=>Sep z (Γ.set i (grow e sz v' (k+m) (xs++news))) w'):=λa hF=>by
 obtain ⟨own,f⟩:=H.own;have hg:=f i _ hi;have s:CJ ((hp w).part own i) (hp w):=λq o' e=>(El e).2;have hO:=hg.own s;obtain ⟨v',w',hr,a2,d,b0⟩:=Ut (B:=0) ho ht hE hx hy hO a3 h1 (AeO _) a9 a hF;refine ⟨v',w',hr,d.os.trans H.os,d.tape.trans H.tape,d.output.trans H.output,λq=>if q<w.heap.size then own q else i,λj B l=>?_⟩;have p:∀q,v.ownBlock=some q->own q=i:=λq hq=>by
  rcases hg.2 with ⟨rfl,_⟩|⟨b,a1,a4,rfl,a5,_⟩
  ·simp[Value.ownBlock] at hq
  simp[Value.ownBlock] at hq;subst hq;exact (El a5).1
 rw[Afo] at l;split at l
 ·rename_i e;subst e
  split at l
  ·cases l
   refine ⟨a2.1,?_⟩;rcases a2.2 with q|⟨g,a1,a4,h,_,a8,r⟩
   ·exact .inl q
   refine .inr ⟨g,a1,a4,h,?_,r⟩;unfold Hp.part hp;have a7:(if g<w.heap.size then own g else i)=i:=by
    split
    ·rename_i b1
     rcases b0 with q|q
     ·exact p g (by rw[<-q,h];rfl)
     rw[h] at q;simp[Value.ownBlock] at q;omega
    rfl
   rw[if_pos a7];exact a8
  cases l
 rename_i a0;have:=f j B l;have e:(hp w').part (λq=>if q<w.heap.size then own q else i) j=(hp w).part own j:=by
  funext q;unfold Hp.part hp;dsimp only;by_cases hq:q<w.heap.size
  ·simp only[hq,if_true]
   by_cases hqj:own q=j
   ·simp only[hqj,if_true]
    exact d.block q hq (λa6=>a0 ((p q a6).symm.trans hqj))
   simp[hqj]
  have:w.heap[q]?=none:=Ae0 U;simp[hq,this,a0]
 rwa[e]
theorem AP(H:Sep z Γ w){e:TypeId}{parts:List (Nat×Operand)}{vs:List (Nat×Value)}{out:List Value}(l:o.op=.buildSlice T m parts.toArray)(p:P.underlying T=some (.slice e))(f:Elt P e u j g)
  (s:(evs L (parts.map (·.2))).map (List.zip (parts.map (·.1)))=some vs)(d:m*j<=16777216)(x:0<m)(t:Instr.fill (λi=>some (i*j,j)) ((Array.range (m*j)).map (u.cells[· % u.cells.size]!)) vs=some out.toArray):
  Cy P n ds L o w (λv c=>∃b,v=.slice (some ⟨b,0,none⟩) m m/\Sep z (blk b out e::Γ) c):=λa k=>by
 obtain ⟨v,c,q,b,rfl,hs,_,h,r⟩:=Ns (w:=w) l p f s d x t a k;exact ⟨_,c,q,b,Z,H.new r U h⟩
theorem EX(H:Sep z Γ w){e:TypeId}(k:o.op=.buildSlice T 0 #[])(h:P.underlying T=some (.slice e))(d:Elt P e u m j):
  Cy P n ds L o w (λv w'=>∃b,v=.slice (some ⟨b,0,none⟩) 0 0/\Sep z (blk b [] e::Γ) w'):=λa q=>by
 obtain ⟨i,hi,p,hs,r,l,f,g⟩:=d;refine ⟨_,_,?_,w.heap.size,Z,H.new (Du w (.cells #[] e)) (Aei _) (by show (w.heap.push _)[w.heap.size]?=_;simp)⟩;simp only[execOp,k,AeW];have c:∀w,(sizeOf e).run P w=.ok m w:=λw=>by simp[sizeOf,typeInfo,hi,hs,go_sem]
 simp[Instr.buildSlice,run_underlying h,c,newRow,newObj,go_sem,Sem.run,Instr.fill]
end
end
section
def Ck(l:List UInt8):Value:=.string ⟨l.toArray⟩
def Rq(P:Program)(t:TypeId):Bool:=match P.underlying t with
 | some (.slice e)=>(match P.underlying e with|some (.int .u8)=>(match P.info? e with|some i=>Nat.beq i.size 1|none=>false)|_=>false)
 | _=>false
theorem PX{P:Program}(h:Rq P T=true):∃e i,P.underlying T=some (.slice e)/\P.underlying e=some (.int .u8)/\P.info? e=some i/\i.size=1:=by
 unfold Rq at h;split at h
 ·rename_i e a
  split at h
  ·rename_i b
   split at h
   ·rename_i i c;exact ⟨e,i,a,b,c,by simpa using h⟩
   cases h
  cases h
 cases h
section
variable{P:Program}{C:World->Prop}{o:Oper}{a:Act}{w z:World}{Γ:List Ai}{n:Nat}{ds:List Deferred}{L:List (Nat×Value)}{v:Value}{x y:Operand}{xt yt:TypeId}{A:Ai}

theorem Cg{l:List UInt8}(z:o.op=.convert xt T x)(s:Rq P xt=true)(y:GZ P T=true)(hx:ev L x=some u)(hr:∀w,C w->Rd 1 u l.length (l.map u8) w):Au P C n ds L o (Ck l):=λa v w r=>by
 obtain ⟨e,i,f,k,_,_⟩:=PX s;have g:=GA y;obtain ⟨m,c,rfl,a0,_,_,h⟩:=hr w r;have key:(convert xt T (.slice m l.length c)).run P w=.ok (Ck l) w:=by
  cases m with
  | none=>
   have:l=[]:=by
    cases l with
    | nil=>rfl
    | cons p q=>obtain ⟨b,p',e,_⟩:=h 0 (u8 p) O;cases e
   subst this;exact run_convert_bytes_nil _ xt e f k _ _ T g
  | some ad=>
   refine run_convert_bytes_back w xt T e ad c l f k g λj hj=>?_;obtain ⟨b,p,e2,d⟩:=h j (u8 l[j]) (by simp[hj]);simp only[Ael] at e2;subst e2;have t:(Addr.add ⟨b,p,none⟩ j)=⟨b,p+j,none⟩:=by
    unfold Addr.add;split
    ·rename_i h0;simp[h0]
    rfl
   rw[t];exact d
 simp only[execOp,z,v.ev hx,Aev,key,Aer,AeA]
theorem II{l m:List UInt8}(e:o.op=.binOp .eql xt x y yt)(b:GZ P xt=true)(d:ev L x=some (Ck l))(f:ev L y=some (Ck m)):Au P C n ds L o (.bool (decide (l=m))):=λa c w _=>by
 have b:=GA b;simp only[execOp,e,c.ev d,c.ev f,Ck];simp[b,go_sem]
 first |(rw[Aew];simp;done)|skip
theorem IJ{l m:List UInt8}(e:o.op=.binOp .neq xt x y yt)(b:GZ P xt=true)(d:ev L x=some (Ck l))(f:ev L y=some (Ck m)):Au P C n ds L o (.bool (decide (l≠m))):=λa c w _=>by
 have b:=GA b;simp only[execOp,e,c.ev d,c.ev f,Ck];simp[b,go_sem]
 first |(rw[Aew];simp;done)|skip
theorem UA{t:TypeId}{l:List UInt8}(b:o.op=.call {callee:=.builtin .len,args:= #[x],argTypes:= #[t]})(a:GZ P t=true)(c:ev L x=some (Ck l)):Au P C n ds L o (I l.length):=AaG b a c

theorem JL{sT ty:TypeId}{a dc:Nat}{x:TypeId}{news:List Value}(hd:∃e i,P.underlying T=some (.slice e)/\P.info? e=some i/\i.size=1)(b:(Rd 1 u m news w)\/(∃l,u=Ck l/\news=l.map u8/\m=l.length))(h1:∀c∈news,c.oneCell'=true)(hb:Blk g V x w)(hl:r+min m a<=V.length):
  ∃v,(Builtin.copy_ #[T,sT] ty #[.slice (some ⟨g,r,none⟩) a dc,u]).run P w=.ok (I (min m a:Nat)) v/\Blk g (V.take r++news.take (min m a)++V.drop (r+min m a)) x v/\Ext (· =g) w v/\v.heap.size=w.heap.size:=by
 obtain ⟨e,i,ht,hi,hs⟩:=hd;have a0:∀w,(sizeOf e).run P w=.ok 1 w:=λw=>by simp[sizeOf,typeInfo,hi,hs,go_sem]
 have d:(news.take (min m a)).length=min m a:=by
  have:news.length=m:=by
   rcases b with ⟨_,_,_,_,_,hl,_⟩|⟨l,_,rfl,rfl⟩
   ·simpa using hl
   simp
  rw[Aex,this];omega
 have f:=run_storeCells_at P g r x (news.take (min m a)) 0 V.toArray w hb (by rw[d];simpa using hl) (λc hc=>h1 c (Afg hc));rw[d] at f;simp only[Ag4,Af0] at f;refine ⟨_,?_,setRow_heap w g _ _ x (0,0) hb,⟨Z,Z,Z,by simp,λk _ hk=>setRow_other w g k _ hk⟩,by simp⟩;have h:(Builtin.lenOf u).run P w=.ok m w:=by
  rcases b with ⟨ao,c,rfl,_⟩|⟨l,rfl,rfl,rfl⟩
  ·rfl
  rfl
 have s:m.min a=min m a:=rfl;have a1:(Builtin.firstCells 1 (min m a) u).run P w=.ok (news.take (min m a)).toArray w:=by
  rcases b with ⟨ao,c,rfl,a2,_,a3,n⟩|⟨l,rfl,rfl,rfl⟩
  ·cases ao with
   | none=>
    have hn:news=[]:=by
     cases news with
     | nil=>rfl
     | cons q qs=>obtain ⟨b',p',t,_⟩:=n 0 q Z;cases t
    subst hn;simp[Builtin.firstCells,AeA]
   | some ad=>
    have:=run_loadCells_list (P:=P) w ad (news.take (min m a)) (λj q y=>by
     have z:news[j]?=some q:=by
      rw[AeX] at y;split at y
      ·exact y
      cases y
     obtain ⟨b',p,t,o⟩:=n j q z;simp only[Ael] at t;subst t;have e3:(Addr.add ⟨b',p,none⟩ j)=⟨b',p+j,none⟩:=by
      unfold Addr.add;split
      ·rename_i h0;simp[h0]
      rfl
     rw[e3];exact o)
    rw[d] at this;simp only[Builtin.firstCells,AeP];exact this
  have e:((({data:=l.toArray} :ByteArray).extract 0 (min l.length a)).data.map λg=>Value.int .u8 g.toNat)=((l.map u8).take (min l.length a)).toArray:=by
   apply Array.ext';rw[Array.toList_map,Lib.extract_data];simp[u8,Afp];rfl
  simp only[Ck,Builtin.firstCells,AeA,e]
 simp only[Builtin.copy_,Afe,AeS,Aey,Aev,run_underlying ht,Aer,h,a0,s,a1,f,AeA,goInt]
theorem F5(i:Nat){t st:TypeId}{b f r dc m:Nat}{ct:TypeId}{cs news:List Value}{u:Value}(H:Sep z Γ w)(hi:Γ[i]?=some (blk b cs ct))(ho:o.op=.call {callee:=.builtin .copy,args:= #[x,y],argTypes:= #[t,st]})(hd:Rq P t=true)(hx:ev L x=some (.slice (some ⟨b,f,none⟩) r dc))(hy:ev L y=some u)
  (j:(Rd 1 u m news w)\/(∃l,u=Ck l/\news=l.map u8/\m=l.length))(h1:∀c∈news,c.oneCell'=true)(hl:f+min m r<=cs.length){k:Nat}(hk:min m r=k){out:List Value}(h:cs.take f++news.take k++cs.drop (f+k)=out):
  Cy P n ds L o w (λv p=>v=I k/\Sep z (Γ.set i (blk b out ct)) p):=λa hF=>by
 obtain ⟨p,hr,s,d,_⟩:=JL (P:=P) (sT:=st) (ty:=o.type) (dc:=dc) (by obtain ⟨e,i,ht,_,hi,hs⟩:=PX hd;exact ⟨e,i,ht,hi,hs⟩) j h1 (H.blk i hi) hl;rw[hk,h] at s;rw[hk] at hr;refine ⟨_,p,?_,Z,H.write i hi d.os d.tape d.output s (λq hq=>?_)⟩
 ·simp only[execOp,ho,resolve,invoke,builtin,Aev,AeA,Aer,AeW,AeJ,Afz,hF.ev hx,hF.ev hy,hr]
 rcases Aeq q w.heap.size with g|g
 ·exact d.block q g hq
 rw[Ae0 g,Ae0 U]
theorem XP(i:Nat){t st:TypeId}{b f s dc m:Nat}{ct:TypeId}{cs news:List Value}{u:Value}(H:Sep z Γ w)(hi:Γ[i]?=some (blk b cs ct))(ho:o.op=.call {callee:=.builtin .copy,args:= #[x,y],argTypes:= #[t,st]})(hd:Dn P t=some 1)(hx:ev L x=some (.slice (some ⟨b,f,none⟩) s dc))(hy:ev L y=some u)
  (j:(Rd 1 u m news w)\/(∃l,u=Ck l/\news=l.map u8/\m=l.length))(p:∀c∈news,c.oneCell'=true)(hl:f+min m s<=cs.length){k:Nat}(hk:min m s=k){out:List Value}(h:cs.take f++news.take k++cs.drop (f+k)=out):
  Cy P n ds L o w (λv r=>v=I k/\Sep z (Γ.set i (blk b out ct)) r):=λa hF=>by
 obtain ⟨r,hr,hB,d,_⟩:=JL (P:=P) (sT:=st) (ty:=o.type) (dc:=dc) (by obtain ⟨e,i0,p,h2,h3⟩:=Fd hd;exact ⟨e,i0,p,h2,h3⟩) j p (H.blk i hi) hl;rw[hk,h] at hB;rw[hk] at hr;refine ⟨_,r,?_,Z,H.write i hi d.os d.tape d.output hB (λq hq=>?_)⟩
 ·simp only[execOp,ho,resolve,invoke,builtin,Aev,AeA,Aer,AeW,AeJ,Afz,hF.ev hx,hF.ev hy,hr]
 rcases Aeq q w.heap.size with g|g
 ·exact d.block q g hq
 rw[Ae0 g,Ae0 U]
theorem Em{e:TypeId}{k:Nat}(H:Sep z Γ w)(p:o.op=.makeSlice T x y)(q:P.underlying T=some (.slice e))(h:Elt P e u 1 m)(r:u.cells= #[u])(s:ev L x=some (I k))(t:ev L y=some (I k))(hk:m*k<=140737488355328):
  Cy P n ds L o w (λv w'=>∃b,v=.slice (some ⟨b,0,none⟩) k k/\Sep z (blk b (List.replicate k u) e::Γ) w'):=λa f=>by
 obtain ⟨i,hi,hz,hs,hb,a0,l,d⟩:=h;have c:(i.bytes:Int)*(k:Int)<=281474976710656:=by
  rw[hb,<-Int.natCast_mul];omega
 have g:=run_make (P:=P) (w:=w) T e i u q hi hz .i64 .i64 (k:Int) (k:Int) U (Afm _) c (by
  have:1*k<=m*k:=AfG _ d;omega)
 have e1:madeCells u.cells (((k:Int)).toNat*i.size)=(List.replicate k u).toArray:=by
  apply Array.ext';simp only[madeCells,hs,r,Ae4,AeP];rw[Af0];apply AgX
  ·simp
  intro j h1 h2;simp[Nat.mod_one]
 rw[e1] at g;refine ⟨_,_,?_,w.heap.size,Z,H.new (Du w (.cells (List.replicate k u).toArray e)) (Aei _) (by show (w.heap.push _)[w.heap.size]?=_;simp)⟩;simp only[execOp,p,f.ev s,f.ev t,Aev,g,Aer,AeA,Ae4];rfl

abbrev IE:=Int×Value×Nat
def Cu(p:IE):MapEntry:=⟨.int .i64 p.1,p.2.1,p.2.2⟩
def AH(m:Nat)(l:List IE)(clk:Nat):Ai:=bk m (.map (l.map Cu).toArray clk)
def fnd:List IE->Int->Nat->Option (Nat×Value)
 | [],_,_=>none
 | p::l,k,i=>if k=p.1 then some (i,p.2.1) else fnd l k (i+1)
def CO:List IE->Int->Option Value
 | [],_=>none
 | p::l,k=>if k=p.1 then some p.2.1 else CO l k
def CP(l:List IE)(k:Int):Bool:=(CO l k).isSome
def updM:List IE->Int->Value->List IE
 | [],_,_=>[]
 | p::l,k,v=>if k=p.1 then (k,v,p.2.2)::l else p::updM l k v
def delM:List IE->Int->List IE
 | [],_=>[]
 | p::l,k=>if k=p.1 then l else p::delM l k
def E4(l:List IE)(k:Int)(v:Value)(clk:Nat):List IE:=if CP l k then updM l k v else l++[(k,v,clk)]
def putC(l:List IE)(k:Int)(clk:Nat):Nat:=if CP l k then clk else clk+1
theorem Je(l:List IE)(k:Int):∀i,(fnd l k i).map (·.2)=CO l k:=by
 induction l with
 | nil=>intro i;rfl
 | cons p l ih=>intro i;simp only[fnd,CO];split<;>simp[ih]
theorem SC{l:List IE}:∀i j u,fnd l t i=some (j,u)->i<=j:=by
 induction l with
 | nil=>intro i j u h;simp[fnd] at h
 | cons p l ih=>
  intro i j u h;simp only[fnd] at h;split at h
  ·simp at h;omega
  have:=ih _ _ _ h;omega
theorem XQ(l:List IE)(k:Int)(v:Value):∀i j u,fnd l k i=some (j,u)->(l.map Cu).modify (j-i) (λe=> {e with key:=I k,val:=v})=(updM l k v).map Cu/\((l.map Cu)[j-i]?).map (·.key)=some (I k):=by
 induction l with
 | nil=>intro i j u h;simp[fnd] at h
 | cons p l ih=>
  intro i j u h;simp only[fnd] at h;simp only[updM];split at h
  ·rename_i e
   simp at h;obtain ⟨rfl,_⟩:=h;simp[e,Cu]
  rename_i e;have c:=SC _ _ _ h;obtain ⟨a,b⟩:=ih _ _ _ h;obtain ⟨q,rfl⟩:∃q,j=i+1+q:=⟨j-(i+1),by omega⟩;rw[show i+1+q-(i+1)=q from by omega] at a b;rw[show i+1+q-i=q+1 from by omega];refine ⟨by simp[e,a],?_⟩;rw[AeJ,Aey];exact b
theorem XR(l:List IE)(k:Int):∀i j u,fnd l k i=some (j,u)->(l.map Cu).eraseIdx (j-i)=(delM l k).map Cu/\j-i<l.length:=by
 induction l with
 | nil=>intro i j u h;simp[fnd] at h
 | cons p l ih=>
  intro i j u h;simp only[fnd] at h;simp only[delM];split at h
  ·rename_i e
   simp at h;obtain ⟨rfl,_⟩:=h;simp[e]
  rename_i e;have c:=SC _ _ _ h;obtain ⟨a,b⟩:=ih _ _ _ h;obtain ⟨q,rfl⟩:∃q,j=i+1+q:=⟨j-(i+1),by omega⟩;rw[show i+1+q-(i+1)=q from by omega] at a b;rw[show i+1+q-i=q+1 from by omega];simp[e,a];omega
theorem Nx(l:List IE)(k:Int)(h:CO l k=none):delM l k=l:=by
 induction l with
 | nil=>rfl
 | cons p l ih=>
  simp only[CO] at h;simp only[delM];split at h
  ·cases h
  rename_i e;rw[if_neg e,ih h]
def EO(P:Program)(t:TypeId):Option TypeId:=match P.underlying t with
 | some (.map k e)=>(match P.underlying k with|some (.int _)=>some e|_=>none)
 | _=>none
theorem D4{e:TypeId}(h:EO P T=some e):∃k a,P.underlying T=some (.map k e)/\P.underlying k=some (.int a):=by
 unfold EO at h;split at h
 ·rename_i k d b
  split at h
  ·rename_i a c;simp only[Ael] at h;subst h;exact ⟨k,a,b,c⟩
  cases h
 cases h
theorem EP{a:IntKind}(b:P.underlying T=some (.int a))(l:List IE)(k:Int)(w:World):(Instr.findKey T (I k) (l.map Cu)).run P w=.ok (fnd l k 0) w:=by
 have key:∀(l:List IE) (i:Nat),Instr.findNow (.int a) (I k) (l.map Cu) i=some (fnd l k i):=by
  intro l
  induction l with
  | nil=>intro i;rfl
  | cons p l ih=>
   intro i;simp only[AeJ,Instr.findNow,Cu,Instr.sameNow,if_true,fnd];by_cases e:k=p.1
   ·simp[e]
   have:(k==p.1)=false:=by simpa using e
   rw[this,if_neg e];exact ih _
 simp only[Instr.findKey,Aev,run_underlying b,Aer,key,AeA]
theorem En{c:IntKind}(a:P.underlying T=some (.int c))(b:Bool)(k:Int)(w:World):(Instr.checkKey b 10000 T (I k)).run P w=.ok () w:=by
 unfold Instr.checkKey;simp only[Aev,run_underlying a,Aer,AeA]
theorem FN{e:TypeId}{l:List IE}{zv:Value}(p:o.op=.lookup T x y false)(r:EO P T=some e)(c:(P.info? e).bind (·.zero)=some zv)(u:ev L x=some (.map (some m)))(v:ev L y=some (I s))
  (t:∀w,C w->w.heap[m]?=some (.map (l.map Cu).toArray j)):Au P C n ds L o ((CO l s).getD zv):=λa f w h=>by
 obtain ⟨kt,ik,k,g⟩:=D4 r;have d:(zeroValue e).run P w=.ok zv w:=by
  cases hi:P.info? e with
  | none=>rw[hi] at c;cases c
  | some i=>rw[hi] at c;simp[zeroValue,typeInfo,hi,show i.zero=some zv from c,go_sem]
 have z:(getObj m).run P w=.ok (.map (l.map Cu).toArray j) w:=by simp[getObj,Sem.run,t w h]
 have b:=Je l s 0;simp only[execOp,p,f.ev u,f.ev v,Instr.lookup,Aev,run_underlying k,Aer,z,AeA,En g,Af0,EP g]
 cases hf:fnd l s 0 with
 | none=>rw[hf] at b;rw[<-b];simp[d,Aev,AeA]
 | some q=>rw[hf] at b;rw[<-b];simp[AeA]
theorem DO(i:Nat){e:TypeId}{l:List IE}{xo x vo:Operand}(H:Sep z Γ w)(hi:Γ[i]?=some (AH m l g))(ho:o.op=.mapUpdate T xo x vo)(ht:EO P T=some e)(hx:ev L xo=some (.map (some m)))(hk:ev L x=some (I s))(hv:ev L vo=some v):
  DH P n ds L o w (λw'=>Sep z (Γ.set i (AH m (E4 l s v g) (putC l s g))) w'):=λa k=>by
 obtain ⟨kt,ik,h1,h2⟩:=D4 ht;have d:w.heap[m]?=some (.map (l.map Cu).toArray g):=H.bk i hi;have hg:(getObj m).run P w=.ok (.map (l.map Cu).toArray g) w:=by simp[getObj,Sem.run,d]
 have c:∀ob,(setObj m ob).run P w=.ok () {w with heap:=w.heap.setIfInBounds m ob} :=λob=>by simp[setObj,Sem.run,d]
 have r:m<w.heap.size:=(Ae1.1 d).1;have fin:∀ob,Sep z (Γ.set i (bk m ob)) {w with heap:=w.heap.setIfInBounds m ob} :=λob=>
  H.write i hi Z Z Z (by show (w.heap.setIfInBounds m ob)[m]?=_;simp[r]) (λq hq=>by show (w.heap.setIfInBounds m ob)[q]?=_;rw[AfP (AfS hq)])
 have b:=Je l s 0;have f:(Instr.mapUpdate T (.map (some m)) (I s) v).run P w=.ok () {w with heap:=w.heap.setIfInBounds m (.map ((E4 l s v g).map Cu).toArray (putC l s g))} :=by
  simp only[Instr.mapUpdate,Aev,run_underlying h1,Aer,hg,AeA,En h2,Af0,EP h2]
  cases hf:fnd l s 0 with
  | none=>
   rw[hf] at b;have t:CP l s=false:=by simp[CP,<-b]
   simp only[E4,putC,t,if_false,Afs,c];simp[Cu]
  | some q=>
   obtain ⟨j,u⟩:=q;rw[hf] at b;have t:CP l s=true:=by simp[CP,<-b]
   obtain ⟨y,f2⟩:=XQ l s v 0 j u hf;simp only[Ag3] at y f2;have h:((((l.map Cu).toArray)[j]?).map (·.key)).getD (I s)=I s:=by
    rw[Afe,f2];rfl
   simp only[E4,putC,t,if_true,h];have p:(Instr.keyThatStays (I s) (I s)).run P w=.ok (I s) w:=by
    simp[Instr.keyThatStays,Instr.sameBits,AeA]
   simp only[p,Aev,Aer];rw[<-y];have:((l.map Cu).toArray.modify j λe=> {e with key:=I s,val:=v})=((l.map Cu).modify j λe=> {e with key:=I s,val:=v}).toArray:=by simp
   rw[this];exact c _
 refine ⟨_,?_,fin _⟩;simp only[execOp,ho,k.ev hx,k.ev hk,k.ev hv,Aev,f,Aer,AeA]
theorem Ny(i:Nat){t e d:TypeId}{m clk:Nat}{l:List IE}{k:Int}(H:Sep z Γ w)(hi:Γ[i]?=some (AH m l clk))(ho:o.op=.call {callee:=.builtin .delete,args:= #[x,y],argTypes:= #[t,d]})(ht:EO P t=some e)(hx:ev L x=some (.map (some m)))(hk:ev L y=some (I k)):
  Cy P n ds L o w (λv w'=>v=.tuple #[]/\Sep z (Γ.set i (AH m (delM l k) clk)) w'):=λa r=>by
 obtain ⟨kt,ik,h1,s⟩:=D4 ht;have c:w.heap[m]?=some (.map (l.map Cu).toArray clk):=H.bk i hi;have hg:(getObj m).run P w=.ok (.map (l.map Cu).toArray clk) w:=by simp[getObj,Sem.run,c]
 have b:∀ob,(setObj m ob).run P w=.ok () {w with heap:=w.heap.setIfInBounds m ob} :=λob=>by simp[setObj,Sem.run,c]
 have h:m<w.heap.size:=(Ae1.1 c).1;have fin:∀ob,Sep z (Γ.set i (bk m ob)) {w with heap:=w.heap.setIfInBounds m ob} :=λob=>
  H.write i hi Z Z Z (by show (w.heap.setIfInBounds m ob)[m]?=_;simp[h]) (λq hq=>by show (w.heap.setIfInBounds m ob)[q]?=_;rw[AfP (AfS hq)])
 have g:=Je l k 0;have f:(Builtin.delete_ #[t,d] o.type #[.map (some m),I k]).run P w=.ok (.tuple #[]) {w with heap:=w.heap.setIfInBounds m (.map ((delM l k).map Cu).toArray clk)} :=by
  simp only[Builtin.delete_,Afe,AeS,Aey,Aev,run_underlying h1,Aer,hg,AeA,En s,EP s]
  cases hf:fnd l k 0 with
  | none=>
   rw[hf] at g;simp only[Aev,b,Aer,Nx l k g.symm,AeA]
  | some q=>
   obtain ⟨j,u⟩:=q;obtain ⟨p,f2⟩:=XR l k 0 j u hf;simp only[Ag3] at p f2;have:((l.map Cu).toArray.eraseIdxIfInBounds j)=((delM l k).map Cu).toArray:=by
    rw[<-p];simp
   simp only[this,Aev,b,Aer,AeA]
 refine ⟨_,_,?_,Z,fin _⟩;simp only[execOp,ho,resolve,invoke,builtin,Aev,AeA,Aer,AeW,AeJ,Afz,r.ev hx,r.ev hk,f]
theorem F6(H:Sep z Γ w)(b:o.op=.makeMap T none):Cy P n ds L o w (λv w'=>∃m,v=.map (some m)/\Sep z (AH m [] 0::Γ) w'):=λa c=>by
 refine ⟨_,_,?_,w.heap.size,Z,H.new (Du w (.map #[] 0)) (Aei _) (by show (w.heap.push _)[w.heap.size]?=_;simp)⟩;simp[execOp,b,Instr.makeMap,newObj,go_sem,Sem.run]
def Jf(P:Program)(t:TypeId):Option Nat:=match P.underlying t with
 | some (.array l e)=>(match P.info? e with|some i=>if Nat.beq i.size 1&&Ge P e then some l else none|none=>none)
 | _=>none
theorem Kw(h:Jf P T=some m):∃e i,P.underlying T=some (.array m e)/\P.info? e=some i/\i.size=1/\Ge P e=true:=by
 unfold Jf at h;split at h
 ·rename_i l' e b
  split at h
  ·rename_i i c
   split at h
   ·rename_i a
    simp only[AeC] at a;simp only[Ael] at h;subst h;exact ⟨e,i,b,c,by simpa using a.1,a.2⟩
   cases h
  cases h
 cases h
theorem Nz{k:IntKind}(q:o.op=.index T x y)(d:Jf P T=some m)(r:ev L x=some (.agg V.toArray))(hl:V=l.map I)(hm:l.length=m)(t:ev L y=some (.int k s))(c:s=j)(h:l[j]?=some p):Au P C n ds L o (I p):=λa g w _=>by
 obtain ⟨e,i0,d,hi,u,z⟩:=Kw d;subst c;have hj:j<l.length:=(Aeb.1 h).1;have i:(0:Int)<=(j:Int)/\(j:Int)<(m:Int):=by omega
 have v:V[j]?=some (I p):=by rw[hl,Aeo,h];rfl
 have b:(part e V.toArray (j*1)).run P w=.ok (I p) w:=by
  simp only[part,Aev,FM z,Aer,if_false,Afs,AeP,Afe,v,AeA]
 have f:(sizeOf e).run P w=.ok 1 w:=by simp[sizeOf,typeInfo,hi,u,go_sem]
 simp only[execOp,q,g.ev r,g.ev t,Instr.index,asIntOf,Aev,AeA,Aer,run_underlying d,if_pos i,Ae4,f,b]

def Slc(v:Value)(l:Nat):Prop:=∃ao c,v=.slice ao l c
theorem grow.slc{e:TypeId}{sz:Nat}{xs:List Value}(g:grow e sz u m xs h):Slc u m:=by
 rcases g.form with ⟨rfl,rfl⟩|⟨b,c,rfl,_⟩
 ·exact ⟨_,_,Z⟩
 exact ⟨_,_,Z⟩
theorem rdH.slc{sz:Nat}{xs:List Value}(g:rdH sz u m xs h):Slc u m:=by
 obtain ⟨a,c,rfl,_⟩:=g;exact ⟨_,_,Z⟩
theorem Ed{t:TypeId}{sz l:Nat}{u:Value}(b:o.op=.call {callee:=.builtin .len,args:= #[x],argTypes:= #[t]})(d:Dn P t=some sz)(e:ev L x=some u)(a:Slc u l):Au P C n ds L o (I l):=by
 obtain ⟨f,c,rfl⟩:=a;exact Fs b d e
theorem Sep.ungrow(i:Nat){e:TypeId}{sz:Nat}{xs:List Value}(H:Sep z Γ w)(hi:Γ[i]?=some (YtemljpjnhjnncaaGreatDoor.grow e sz u m xs))(o:0<m):
  ∃g a rest,u=.slice (some ⟨g,0,none⟩) m a/\m<=a/\a<=9223372036854775807/\rest.length=(a-m)*sz/\Sep z (Γ.set i (YtemljpjnhjnncaaGreatDoor.blk g (xs++rest) e)) w:=by
 obtain ⟨⟨g,a,rest⟩,⟨a1,a2,a3,a4⟩,j⟩:=H.exAt i (σ:=Nat×Nat×List Value) (p:=λq=>u=.slice (some ⟨q.1,0,none⟩) m q.2.1/\m<=q.2.1/\q.2.1<=9223372036854775807/\q.2.2.length=(q.2.1-m)*sz) (B:=λq=>YtemljpjnhjnncaaGreatDoor.blk q.1 (xs++q.2.2) e) hi (λh g=>by
  rcases g.2 with ⟨_,rfl⟩|⟨b,a,d,l,n,k,c,hs,f⟩
  ·omega
  refine ⟨⟨b,a,d.toList.drop (m*sz)⟩,⟨l,k,by unfold maxLen at c;omega,?_⟩,?_⟩
  ·simp[hs,Nat.sub_mul]
  rw[<-f,AeL];simpa [YtemljpjnhjnncaaGreatDoor.blk,YtemljpjnhjnncaaGreatDoor.bk] using n)
 exact ⟨g,a,rest,a1,a2,a3,a4,j⟩
theorem UB{lo hi v:Operand}{p q sz o' l':Nat}{k1 k2 k3:IntKind}{u y:Int}(ho:o.op=.slice T x (some lo) (some hi) (some v))(l:Dn P T=some sz)(hx:ev L x=some (.slice (some ⟨m,i,none⟩) j g))
  (r:ev L lo=some (.int k1 s))(t:ev L hi=some (.int k2 u))(f:ev L v=some (.int k3 y))(e1:s=(p:Int))(e2:u=(q:Int))(e3:y=(q:Int))(a0:p<q)(d:q<=g)(z:i+p*sz=o')(h2:q-p=l'):Au P C n ds L o (.slice (some ⟨m,o',none⟩) l' l'):=λa b w _=>by
 obtain ⟨e,i0,l,c,hz⟩:=Fd l;subst e1;subst e2;subst e3;have g1:(0:Int)<=(p:Int)/\(p:Int)<=(q:Int):=by omega
 have g2:(0:Int)<=(q:Int)/\(q:Int)<=(g:Int):=by omega
 have g3:(0:Int)<=(q:Int)/\(q:Int)<=(q:Int):=by omega
 have key:((⟨m,i,none⟩:Addr).add (p*sz))=⟨m,o',none⟩:=by
  subst z;unfold Addr.add;split
  ·rename_i h0;simp[h0]
  rfl
 have h:¬q=p:=by omega
 have k:p<=q:=by omega
 simp only[execOp,ho,AeR,b.ev hx,b.ev r,b.ev t,b.ev f];simp[Instr.sliceAt,Instr.slice,run_underlying l,Instr.sliceBounds,Instr.sliceBound,asIntOf,g1,g2,g3,sizeOf,typeInfo,c,hz,k,d,h,go_sem,key,h2]
end
end
section
section
variable{P:Program}{C:World->Prop}{o:Oper}{a:Act}{w z:World}{Γ:List Ai}{n:Nat}{ds:List Deferred}{L:List (Nat×Value)}{v:Value}{x y:Operand}{xt yt:TypeId}
theorem AaM{k:IntKind}(f:o.op=.binOp .shr xt x y yt)(d:ev L x=some (I p))(g:ev L y=some (.int k q))(hq:q=m)(h:m<64):Au P C n ds L o (I (p/2^m)):=λa c w _=>by
 subst hq;simp only[execOp,f,c.ev d,c.ev g];have e:¬((m:Int)<0):=by omega
 have b:min m 64=m:=by omega
 simp[go_sem,Op.shift,IntKind.bits,e,b]
theorem SD{k:IntKind}(f:o.op=.binOp .shl xt x y yt)(d:ev L x=some (I p))(g:ev L y=some (.int k q))(hq:q=m)(h:m<64):Au P C n ds L o (I (IntKind.i64.wrap (p*2^m))):=λa c w _=>by
 subst hq;simp only[execOp,f,c.ev d,c.ev g];have e:¬((m:Int)<0):=by omega
 have b:min m 64=m:=by omega
 simp[go_sem,Op.shift,IntKind.bits,e,b]
theorem SE(c:o.op=.binOp .add xt x y yt)(b:ev L x=some (I p))(a:ev L y=some (I q)):Au P C n ds L o (I (IntKind.i64.wrap (p+q))):=W4 (P:=P) (C:=C) (n:=n) (ds:=ds) (L:=L) c b a
theorem AaN{q:Nat}(hp:p%256=0)(hq:q<256):((BitVec.ofInt 64 p|||BitVec.ofInt 64 (q:Int)).toNat:Int)%18446744073709551616=(p+q)%18446744073709551616:=by
 have e1:(BitVec.ofInt 64 p).toNat=(p%18446744073709551616).toNat:=by simp[BitVec.toNat_ofInt]
 have e2:(BitVec.ofInt 64 (q:Int)).toNat=q:=by simp[BitVec.toNat_ofInt];omega
 have b:∃r,(p%18446744073709551616).toNat=r <<< 8:=⟨(p%18446744073709551616).toNat/256,by rw[Nat.shiftLeft_eq];omega⟩;obtain ⟨r,a⟩:=b;rw[BitVec.toNat_or,e1,e2,a,<-Nat.shiftLeft_add_eq_or_of_lt (by omega:q<2^8),<-a];omega
theorem Xg(e:o.op=.binOp .or xt x y yt)(d:ev L x=some (I p))(f:ev L y=some (I q))(hp:p%256=0)(hq:0<=q/\q<256):Au P C n ds L o (I (IntKind.i64.wrap (p+q))):=λa c w _=>by
 obtain ⟨q,rfl⟩:=AfY hq.1;have h:=AaN (p:=p) (q:=q) hp U;have key:IntKind.i64.wrap ((BitVec.ofInt IntKind.i64.bits p|||BitVec.ofInt IntKind.i64.bits (q:Int)).toNat:Int)=IntKind.i64.wrap (p+q):=by
  show (if (true&&decide (((BitVec.ofInt 64 p|||BitVec.ofInt 64 (q:Int)).toNat:Int)%(2^64:Int)>=(2^(64-1):Int)))=true then ((BitVec.ofInt 64 p|||BitVec.ofInt 64 (q:Int)).toNat:Int)%(2^64:Int)-(2^64:Int) else ((BitVec.ofInt 64 p|||BitVec.ofInt 64 (q:Int)).toNat:Int)%(2^64:Int))=(if (true&&decide ((p+q)%(2^64:Int)>=(2^(64-1):Int)))=true then (p+q)%(2^64:Int)-(2^64:Int) else (p+q)%(2^64:Int));simp only[show (2:Int)^64=18446744073709551616 from Z,h]
 have b:IntKind.i64.wrap ((BitVec.ofInt 64 p|||BitVec.ofInt 64 (q:Int)).toNat:Int)=IntKind.i64.wrap (p+q):=key;rw[Ag6] at b;simp only[execOp,e,c.ev d,c.ev f];simp only[binOp,Op.intBits,go_sem,key]
 first |(simp[go_sem,b];done)|(simp only[go_sem];exact congrArg (λv=>Result.ok (I v) _) b)|(simp[go_sem];exact b)
theorem JV{l:List UInt8}{k:IntKind}{b:UInt8}(m:o.op=.index T x y)(d:GZ P T=true)(g:ev L x=some (Ck l))(p:ev L y=some (.int k s))(c:s=j)(f:l[j]?=some b):Au P C n ds L o (u8 b):=λa e w _=>by
 have d:=GA d;subst c;have i:j<l.length:=(Aeb.1 f).1;have h:(⟨l.toArray⟩:ByteArray)[j]?=some b:=by
  have hs:(⟨l.toArray⟩:ByteArray).size=l.length:=by show l.toArray.size=_;simp
  rw[getElem?_pos (⟨l.toArray⟩:ByteArray) j (by rw[hs];exact i)];show some (l.toArray[j]'_)=_;simp[(Aeb.1 f).2]
 simp only[execOp,m,e.ev g,e.ev p,Ck,Instr.index,asIntOf,Aev,AeA,Aer,run_underlying d,if_pos (Int.natCast_nonneg j),Ae4,h];rfl
theorem SF{t e:TypeId}{zv:Value}{sz by_ k d m b h:Nat}{u:Value}{xs news:List Value}(H:Sep z Γ w)(ho:o.op=.call {callee:=.builtin .append,args:= #[x,y],argTypes:= #[t,t]})
  (ht:P.underlying t=some (.slice e))(hE:Elt P e zv sz by_)(hx:ev L x=some (.slice (some ⟨b,h,none⟩) k d))(hy:ev L y=some u)(s:Rd sz (.slice (some ⟨b,h,none⟩) k d) k xs w)(a0:Rd sz u m news w)(hg:d<k+m)(h1:∀c∈news,c.oneCell'=true)(b0:(k+m)*by_<=140737488355328):
  Cy P n ds L o w (λv' l=>Sep z (grow e sz v' (k+m) (xs++news)::Γ) l):=λa hF=>by
 obtain ⟨i,hi,hz,hs,hb,a5,a2,a3⟩:=hE;obtain ⟨b4,c1,e1,b6,_,a7,a1⟩:=s;cases e1;obtain ⟨ao,c,rfl,b3,_,hl,v⟩:=a0;have a4:k+m<=maxLen:=by
  have:(k+m)*1<=(k+m)*by_:=Ags _ a3;unfold maxLen;omega
 have a6:0<news.length:=by
  have:1*1<=m*sz:=Nat.mul_le_mul U U;omega
 obtain ⟨b',p',e2,_⟩:=v 0 news[0] (Aed a6);subst e2;have f:∀(b p j:Nat),(Addr.add ⟨b,p,none⟩ j)=⟨b,p+j,none⟩:=λb p j=>by
  unfold Addr.add;split
  ·rename_i h0;simp[h0]
  rfl
 obtain ⟨v',l,hr,h2,h3⟩:=run_append_arg_grows (P:=P) w t o.type e i zv sz by_ ht hi hz hs hb a5 a2 ⟨b,h,none⟩ k d xs a7 (λj q hj=>by
  obtain ⟨b2,p2,e3,hc⟩:=a1 j q hj;cases e3;rw[f];exact hc) ⟨b',p',none⟩ m c news hl (λj q hj=>by
  obtain ⟨b2,p2,e3,hc⟩:=v j q hj;cases e3;rw[f];exact hc) hg a4 b0
 have a9:Ext No w l:=(Ext.of_grown h3).mono (λ_ _ q=>by cases q);refine ⟨v',l,?_,H.grow a9 ?_⟩
 ·simp only[execOp,ho,resolve,invoke,builtin,Aev,AeA,Aer,AeW,AeJ,Afz,hF.ev hx,hF.ev hy,hr]
 refine ⟨h2.1,?_⟩;rcases h2.2 with q|⟨g,d,b1,hv,b5,a8,r⟩
 ·exact .inl q
 refine .inr ⟨g,d,b1,hv,?_,r⟩;show (if g<w.heap.size then none else l.heap[g]?)=_;rw[if_neg U];exact a8
theorem Ms(l:o.op=.sliceToArrayPointer T x)(b:(match P.underlying T with|some (.array k _)=>Nat.beq k m|_=>false)=true)(c:ev L x=some (.slice (some ⟨i,j,none⟩) g r))(p:m<=g):Au P C n ds L o (.pointer (some ⟨i,j,none⟩)):=λa d w _=>by
 split at b
 ·rename_i k e h
  have f:k=m:=by simpa using b
  subst f;simp only[execOp,l,d.ev c];simp[Instr.arrayAt,run_underlying h,go_sem,p]
 cases b
theorem PY{l g b f c c1 c2 k:UInt8}(ho:o.op=.binOp .neq xt x y yt)(t:(match P.underlying xt with|some (.array 4 e)=>(match P.underlying e,P.info? e with|some (.int .u8),some i=>Nat.beq i.size 1|_,_=>false)|_=>false)=true)(hg:P.eqGuardType P.depth xt=false)(hx:ev L x=some (.agg #[u8 l,u8 g,u8 b,u8 f]))(hy:ev L y=some (.agg #[u8 c,u8 c1,u8 c2,u8 k])):Au P C n ds L o (.bool (decide ([l,g,b,f]≠[c,c1,c2,k]))):=λa hF w _=>by
 split at t
 ·rename_i e h
  split at t
  ·rename_i i h1 h2
   have hz:i.size=1:=by simpa using t
   have z:∀w,(sizeOf e).run P w=.ok 1 w:=λw=>by simp[sizeOf,typeInfo,h2,hz,go_sem]
   have a0:∀w,(isAgg e).run P w=.ok false w:=FM (by simp[Ge,h1]);have hp:∀(cs:Array Value) (j:Nat) (u:Value) w,cs[j]?=some u->(part e cs j).run P w=.ok u w:=λcs j u w hc=>by
    simp only[part,Aev,a0,Aer,if_false,Afs,hc,AeA]
   have v:∀(d:Nat) (p q:UInt8) w,(Op.equalIn (d+1) e (u8 p) (u8 q)).run P w=.ok (decide (p=q)) w:=λd p q w=>by
    simp only[Op.equalIn,Aev,run_underlying h1,Aer,u8];simp[go_sem];rw[Aew];simp;exact ⟨λh=>Ag5.1 U,λh=>by rw[h]⟩
   have s:∀d,(Op.equalIn (d+1+1) xt (.agg #[u8 l,u8 g,u8 b,u8 f]) (.agg #[u8 c,u8 c1,u8 c2,u8 k])).run P w=.ok (decide ([l,g,b,f]=[c,c1,c2,k])) w:=λd=>by
    have q0:=hp #[u8 l,u8 g,u8 b,u8 f] 0 (u8 l) w Z;have q1:=hp #[u8 l,u8 g,u8 b,u8 f] 1 (u8 g) w Z;have q2:=hp #[u8 l,u8 g,u8 b,u8 f] 2 (u8 b) w Z;have q3:=hp #[u8 l,u8 g,u8 b,u8 f] 3 (u8 f) w Z;have r0:=hp #[u8 c,u8 c1,u8 c2,u8 k] 0 (u8 c) w Z;have r1:=hp #[u8 c,u8 c1,u8 c2,u8 k] 1 (u8 c1) w Z;have r2:=hp #[u8 c,u8 c1,u8 c2,u8 k] 2 (u8 c2) w Z;have r3:=hp #[u8 c,u8 c1,u8 c2,u8 k] 3 (u8 k) w Z;rw[Op.equalIn];simp only[Aev,run_underlying h,Aer,z,Std.Legacy.Range.forIn_eq_forIn_range',Std.Legacy.Range.size];simp[List.range',Aev,q0,q1,q2,q3,r0,r1,r2,r3,v];by_cases g0:l=c<;>by_cases g1:g=c1<;>by_cases g2:b=c2<;>by_cases g3:f=k<;>simp[g0,g1,g2,g3,q0,q1,q2,q3,r0,r1,r2,r3,v,Aev]
   have r:(Op.equal xt (.agg #[u8 l,u8 g,u8 b,u8 f]) (.agg #[u8 c,u8 c1,u8 c2,u8 k])).run P w=.ok (decide ([l,g,b,f]=[c,c1,c2,k])) w:=s 9998;have m:(eqGuard .neq xt x y (.agg #[u8 l,u8 g,u8 b,u8 f]) (.agg #[u8 c,u8 c1,u8 c2,u8 k])).run P w=.ok () w:=by
    simp[eqGuard,Aev,program,Sem.run,hg]
   simp only[execOp,ho,hF.ev hx,hF.ev hy];simp only[binOp,Aev,m,r,Aer,AeA];simp
  cases t
 cases t
end
theorem Slc.cells{v:Value}{n:Nat}(h:Slc v n):v.cells= #[v]:=by obtain ⟨_,_,rfl⟩:=h;rfl
theorem Slc.one{v:Value}{n:Nat}(h:Slc v n):v.oneCell'=true:=by obtain ⟨_,_,rfl⟩:=h;rfl
theorem Aw:∀u∈([]:List Value),u.oneCell'=true:=λ_ h=>by cases h
theorem Ad(h:u.oneCell'=true)(hs:∀u∈V,u.oneCell'=true):∀x∈u::V,x.oneCell'=true:=λx a=>by
 rcases Aen.1 a with rfl|q
 ·exact h
 exact hs x q
theorem rdH.cut{b n c lo c':Nat}{xs:List UInt8}(r:rdH 1 (.slice (some ⟨b,i,none⟩) n c) n (xs.map u8) h)(o:lo+m<=n)(f:m<=c')(p:c'<=c):rdH 1 (.slice (some ⟨b,i+lo,none⟩) m c') m (((xs.drop lo).take m).map u8) h:=by
 obtain ⟨v,q,e,t,s,k,l⟩:=r;cases e;refine ⟨_,_,Z,f,by omega,by simp at k ⊢;omega,λj u a=>?_⟩;have d:(xs.map u8)[lo+j]?=some u:=by
  rw[Aeo,AeX] at a;split at a
  ·rw[Afl] at a;rw[Aeo];exact a
  cases a
 obtain ⟨b',p',e,g⟩:=l _ _ d;cases e;exact ⟨_,_,Z,by rw[Agc];exact g⟩
theorem rdH.pre{b n c c':Nat}{xs:List UInt8}(r:rdH 1 (.slice (some ⟨b,i,none⟩) n c) n (xs.map u8) h)(d:m<=n)(a:m<=c'/\c'<=c):rdH 1 (.slice (some ⟨b,i,none⟩) m c') m ((xs.take m).map u8) h:=by
 have:=r.cut (lo:=0) (m:=m) (c':=c') U a.1 a.2;simpa using this
theorem rdH.at{b n c:Nat}{xs:List UInt8}{x:UInt8}(r:rdH 1 (.slice (some ⟨b,m,none⟩) n c) n (xs.map u8) h)(d:xs[j]?=some x):celH h b (m+j) (u8 x):=by
 obtain ⟨i,l,e,p,o,k,g⟩:=r;obtain ⟨b',p',f,a⟩:=g j (u8 x) (by rw[Aeo,d];rfl);cases e;cases f;exact a
theorem Sep.cell4{z w:World}{Γ:List Ai}(i:Nat)(H:Sep z Γ w)(hi:Γ[i]?=some A){b c:Nat}{xs:List UInt8}(d:∀h,A h->rdH 1 (.slice (some ⟨b,m,none⟩) 256 c) 256 (xs.map u8) h){ys:List UInt8}(g:xs.drop 252=ys):∀j u,(ys.map u8)[j]?=some u->FE b (m+252+j) u w:=λj u a=>by
 rw[Aeo,Agx] at a;obtain ⟨y,f,rfl⟩:=a;have e:xs[252+j]?=some y:=by rw[<-Afl,g];exact f
 have:=H.cell i hi (λh q=>(d h q).at e);rwa[<-Agc] at this
theorem rdH.cap{b n c:Nat}{xs:List UInt8}(r:rdH 1 (.slice (some ⟨b,m,none⟩) n c) n (xs.map u8) h):n<=c/\c<=9223372036854775807:=by
 obtain ⟨_,_,e,d,a,_⟩:=r;cases e;exact ⟨d,a⟩
theorem rdH.len{v:Value}{n:Nat}{xs:List UInt8}(r:rdH 1 v n (xs.map u8) h):xs.length=n:=by
 obtain ⟨_,_,_,_,_,q,_⟩:=r;simpa using q
end
set_option linter.unusedSimpArgs false
def bw(F:Nat->Bool)(k:Nat):BitVec 64:=(BitVec.ofBoolListLE ((List.range 64).map λj=>F (64*k+j))).cast O
theorem DT(F:Nat->Bool)(k j:Nat)(h:j<64):(bw F k).getLsbD j=F (64*k+j):=by
 unfold bw;rw[BitVec.getLsbD_cast,BitVec.getLsbD_ofBoolListLE];simp[List.getD,h]
theorem Kx{x:BitVec 64}(h:∀j,j<64->x.getLsbD j=F (64*n+j)):x=bw F n:=
 BitVec.eq_of_getLsbD_eq λj a=>by rw[h j a,DT _ _ _ a]
theorem AcZ(F G:Nat->Bool)(k:Nat):bw F k|||bw G k=bw (λp=>F p||G p) k:=Kx λj a=>by
 rw[BitVec.getLsbD_or,DT _ _ _ a,DT _ _ _ a]
def Eh(m:Nat):BitVec 64:=BitVec.twoPow 64 m
theorem AaO(F:Nat->Bool)(p k:Nat):(if p/64=k then bw F k|||Eh (p%64) else bw F k)=bw (λq=>F q||decide (q=p)) k:=by
 refine Kx λj a=>?_;split
 ·rename_i e
  rw[BitVec.getLsbD_or,DT _ _ _ a,Eh,Ag0];congr 1;rw[Aew];simp;omega
 rename_i e;rw[DT _ _ _ a];have:¬(64*k+j=p):=by omega
 simp[this]
theorem AaP(F:Nat->Bool)(p k:Nat):(if p/64=k then bw F k&&& ~~~(Eh (p%64)) else bw F k)=bw (λq=>F q && !decide (q=p)) k:=by
 refine Kx λj a=>?_;split
 ·rename_i e
  rw[BitVec.getLsbD_and,DT _ _ _ a,BitVec.getLsbD_not,Eh,Ag0];congr 1;rw[Aew];simp;omega
 rename_i e;rw[DT _ _ _ a];have:¬(64*k+j=p):=by omega
 simp[this]
theorem AaQ(F:Nat->Bool)(p:Nat):(bw F (p/64))>>>(p%64)&&&1#64=if F p then 1#64 else 0#64:=by
 refine BitVec.eq_of_getLsbD_eq λj a=>?_;rw[BitVec.getLsbD_and,BitVec.getLsbD_ushiftRight];have e1:∀j,(1#64).getLsbD j=decide (j=0):=λj=>by
  rw[show (1#64)=BitVec.twoPow 64 0 from Z,Ag0,Aew];simp;omega
 by_cases h:j=0
 ·subst h
  rw[DT _ _ _ U,e1,show 64*(p/64)+(p%64+0)=p by omega];cases F p<;>simp
 rw[e1];have:(if F p then 1#64 else 0#64).getLsbD j=false:=by
  split
  ·rw[e1];simp[h]
  simp
 rw[this];simp[h]
theorem bw_zero :bw F n=0#64↔∀j,j<64->F (64*n+j)=false:=by
 constructor
 ·intro h j a;rw[<-DT F n j a,h];simp
 intro h;exact (Kx λj a=>by rw[h j a];simp).symm

def cnt(F:Nat->Bool)(a:Nat):Nat->Nat
 | 0=>0
 | n+1=>cnt F a n+(F (a+n)).toNat
theorem HA(F:Nat->Bool)(a m n:Nat):cnt F a (m+n)=cnt F a m+cnt F (a+m) n:=by
 induction n with
 | zero=>rfl
 | succ n ih=>rw[<-Agc];simp only[cnt];rw[ih,show a+(m+n)=a+m+n by omega];omega
def Cv(w:Nat):List Nat->Nat
 | []=>0
 | d::l=>d+2^w*Cv w l
def evN:List Nat->List Nat
 | a::_::l=>a::evN l
 | _=>[]
def GE:List Nat->List Nat
 | _::b::l=>b::GE l
 | _=>[]
theorem SG(b:j<2^n)(a:e<2^n):(j+2^n*m)&&&(e+2^n*i)=(j&&&e)+2^n*(m&&&i):=by
 have e1:((j+2^n*m)&&&(e+2^n*i))%2^n=j&&&e:=by
  rw[Nat.and_mod_two_pow,AgP,AgP,AfA b,AfA a]
 have hp:0<2^n:=AgQ n;have e2:((j+2^n*m)&&&(e+2^n*i))/2^n=m&&&i:=by
  rw[Nat.and_div_two_pow,AgG _ _ hp,AgG _ _ hp,AgH b,AgH a,AfM,AfM]
 have:=Nat.mod_add_div ((j+2^n*m)&&&(e+2^n*i)) (2^n);rw[e1,e2] at this;exact this.symm
theorem Ky(w:Nat):∀l:List Nat,l.length%2=0->(∀d∈l,d<2^w)->Cv w l&&&Cv (2*w) (List.replicate (l.length/2) (2^w-1))=Cv (2*w) (evN l)
 | [],_,_=>by simp[Cv,evN]
 | [_],h,_=>by simp at h
 | a::b::l,h,hd=>by
  have ih:=Ky w l (by simp at h;omega) (λd j=>hd d (by simp[j]));have f:=hd a O;have i:=hd b O;have e2:(2:Nat)^(2*w)=2^w*2^w:=by rw[<-Nat.pow_add];congr 1;omega
  have hp:0<2^w:=AgQ w;simp only[Cv,evN];rw[show (a::b::l).length/2=l.length/2+1 by simp;omega,List.replicate_succ];simp only[Cv];have c:a+2^w*b<2^(2*w):=by
   rw[e2];have:2^w*(b+1)<=2^w*2^w:=Ags _ i;rw[Ago] at this;omega
  have e:(2^w-1)<2^(2*w):=by
   rw[e2];have:2^w*1<=2^w*2^w:=Ags _ hp;omega
  have g:a+2^w*(b+2^w*Cv w l)=(a+2^w*b)+2^(2*w)*Cv w l:=by
   rw[e2,Ago,Nat.mul_assoc];omega
  rw[g,SG c e,ih,Ag7,AgP,AfA f]
theorem NA(w:Nat):∀(l:List Nat) (d:Nat),Cv w (l++[d])=Cv w l+2^(w*l.length)*d
 | [],d=>by simp[Cv]
 | a::l,d=>by
  simp only[AfB,Cv,NA w l d,Aeg];rw[Ago,<-Nat.mul_assoc,<-Nat.pow_add,show w+w*l.length=w*(l.length+1) by rw[Ago];omega];omega
theorem PZ(h:m<2^n):Cv n (m::R)/2^n=Cv n R:=by
 simp only[Cv];rw[AgG _ _ (AgQ n),AgH h,AfM]
theorem NB(w:Nat)(l:List Nat):Cv w (l++[0])=Cv w l:=by rw[NA];simp
theorem Ls(w:Nat):∀(l m:List Nat),l.length=m.length->Cv w l+Cv w m=Cv w (List.zipWith (·+·) l m)
 | [],[],_=>rfl
 | a::l,b::m,h=>by
  simp only[List.zipWith,Cv];rw[<-Ls w l m (by simpa using h),Ago];omega
 | [],_::_,h=>by simp at h
 | _::_,[],h=>by simp at h
theorem Lt:∀l:List Nat,(evN l).length=l.length/2
 | []=>rfl
 | [_]=>by simp[evN]
 | a::b::l=>by simp only[evN,Aeg,Lt l];omega
theorem Lu:∀l:List Nat,(GE l).length=l.length/2
 | []=>rfl
 | [_]=>by simp[GE]
 | a::b::l=>by simp only[GE,Aeg,Lu l];omega
theorem JX:∀(a:Nat) (l:List Nat),(a::l).length%2=0->evN (l++[0])=GE (a::l)
 | a,[],h=>by simp at h
 | a,[b],_=>by simp[evN,GE]
 | a,b::c::l,h=>by
  simp only[AfB,evN,GE];rw[JX c l (by simp at h ⊢;omega)]
theorem evN_mem:∀(l:List Nat),∀d∈evN l,d∈l
 | [],d,h=>by simp[evN] at h
 | [_],d,h=>by simp[evN] at h
 | a::b::l,d,h=>by
  simp only[evN,Aen] at h;rcases h with rfl|h
  ·simp
  simp[evN_mem l d h]
theorem odN_mem:∀(l:List Nat),∀d∈GE l,d∈l
 | [],d,h=>by simp[GE] at h
 | [_],d,h=>by simp[GE] at h
 | a::b::l,d,h=>by
  simp only[GE,Aen] at h;rcases h with rfl|h
  ·simp
  simp[odN_mem l d h]
def psm(l:List Nat):List Nat:=List.zipWith (·+·) (evN l) (GE l)
theorem Lw(l:List Nat):(psm l).length=l.length/2:=by simp[psm,Lt,Lu]
theorem Jg:∀l:List Nat,l.length%2=0->(psm l).sum=l.sum
 | [],_=>rfl
 | [_],h=>by simp at h
 | a::b::l,h=>by
  have:=Jg l (by simp at h;omega);simp only[psm,evN,GE,List.zipWith,List.sum_cons] at this ⊢;omega
theorem NC{c d:Nat}:∀(l m:List Nat),(∀x∈l,x<=c)->(∀x∈m,x<=d)->∀x∈List.zipWith (·+·) l m,x<=c+d
 | [],_,_,_,x,h=>by simp at h
 | _::_,[],_,_,x,h=>by simp at h
 | a::l,b::m,h1,h2,x,h=>by
  simp only[List.zipWith,Aen] at h;rcases h with rfl|h
  ·have:=h1 a O;have:=h2 b O;omega
  exact NC l m (λx e=>h1 x (by simp[e])) (λx e=>h2 x (by simp[e])) x h
theorem ND(l:List Nat)(c:Nat)(h:∀d∈l,d<=c):∀d∈psm l,d<=c+c:=
 NC _ _ (λx a=>h x (evN_mem l x a)) (λx a=>h x (odN_mem l x a))
def P0(w n:Nat):Nat:=Cv (2*w) (List.replicate n (2^w-1))
theorem AaR(w:Nat)(l:List Nat)(h:l.length%2=0)(c:∀d∈l,d<2^w):Cv w l/2^w&&&P0 w (l.length/2)=Cv (2*w) (GE l):=by
 cases l with
 | nil=>simp[Cv,GE]
 | cons a l=>
  rw[PZ (c a O),<-NB,<-JX a l h];have:=Ky w (l++[0]) (by simp at h ⊢;omega) (λd b=>by
   simp only[Aep,Aft] at b;rcases b with b|rfl
   ·exact c d (by simp[b])
   exact AgQ w)
  have e:(l++[0]).length=(a::l).length:=by simp
  rw[e] at this;exact this
theorem NE(w:Nat)(l:List Nat)(h:l.length%2=0)(a:∀d∈l,d<2^w):(Cv w l/2^w&&&P0 w (l.length/2))+(Cv w l&&&P0 w (l.length/2))=Cv (2*w) (psm l):=by
 rw[AaR w l h a,show Cv w l&&&P0 w (l.length/2)=Cv (2*w) (evN l) from Ky w l h a,AgS,Ls _ _ _ (by rw[Lt,Lu])];rfl
theorem Kz(w:Nat):∀(l:List Nat),(∀d∈l,d<2^w)->Cv w l<2^(w*l.length)
 | [],_=>by simp[Cv]
 | a::l,h=>by
  have:=Kz w l (λd b=>h d (by simp[b]));have c:=h a O;simp only[Cv,Aeg];rw[show w*(l.length+1)=w+w*l.length by rw[Ago];omega,Nat.pow_add];have:2^w*(Cv w l+1)<=2^w*2^(w*l.length):=Ags _ this;rw[Ago] at this;omega
def Lz(x:BitVec 64):BitVec 64:=
 let a:=(x>>>1&&&6148914691236517205#64)+(x&&&6148914691236517205#64);let b:=(a>>>2&&&3689348814741910323#64)+(a&&&3689348814741910323#64);let c:=(b>>>4+b)&&&1085102592571150095#64;let d:=c+c>>>8;let e:=d+d>>>16
 e+e>>>32
theorem AaS{b:BitVec 64}(k:R.length=16)(j:∀d∈R,d<=4)(o:b.toNat=Cv 4 R):((b>>>4+b)&&&1085102592571150095#64).toNat=Cv 8 (psm R):=by
 rw[Agf,AgI,Af9,o,Af7]
 cases R with
 | nil=>simp at k
 | cons a R=>
  have p:=j a O;rw[PZ U,<-NB,Ls _ _ _ O];have e:∀d∈List.zipWith (·+·) (R++[0]) (a::R),d<2^4:=λd h=>by
   have:=NC (c:=4) (d:=4) _ _ (λx i=>by
    simp only[Aep,Aft] at i;rcases i with i|rfl
    ·exact j x (by simp[i])
    omega) j d h
   omega
  have f:(List.zipWith (·+·) (R++[0]) (a::R)).length=16:=by simp at k ⊢;omega
  have g:=Kz 4 _ e;rw[f] at g;rw[AfA g];have m:=Ky 4 _ (by rw[f]) e;rw[f,show Cv (2*4) (List.replicate (16/2) (2^4-1))=1085102592571150095 by decide+kernel] at m;rw[show (1085102592571150095#64).toNat=1085102592571150095 from Z,m];have n:∀(l l':List Nat),evN (List.zipWith (·+·) l l')=List.zipWith (·+·) (evN l) (evN l'):=λl=>by
   induction l using evN.induct with
   | case1 a b l ih=>
    intro l'
    match l' with
    | []=>simp[evN]
    | [_]=>simp[evN]
    | x::y::l'=>simp only[List.zipWith,evN,ih l']
   | case2 l h=>
    intro l'
    match l,l' with
    | [],_=>simp[evN]
    | [_],[]=>simp[evN]
    | [_],_::_=>simp[evN]
    | a::b::l,_=>exact absurd Z (h a b l)
  rw[n,JX a R (by rw[k]),psm];congr 1;exact List.zipWith_comm_of_comm (λx y=>AgS x y)
theorem LA(c:BitVec 64)(k p lo hi b:Nat)(hp:2^k=p)(d:c.toNat=n)(g:n=lo+p*hi)(a:lo<p)(i:n<=b)(f:hi<=b)(e:b<9223372036854775808):(c+c>>>k).toNat=n+hi:=by
 subst hp;have h:n/2^k=hi:=by rw[g,AgG _ _ (AgQ k),AgH a,AfM]
 rw[AgI,Af9,Af7,d,h];exact AfA U
theorem AaT(t K:Nat)(e:n=m)(h:m=t+256*K)(b:t<=64)(a:K<=20000000000000000):n<9223372036854775808/\n%128=t:=by omega
theorem AaU(j h g f e d b a:Nat)(l:j<=8)(s:h<=8)(m:g<=8)(q:f<=8)(r:e<=8)(p:d<=8)(n:b<=8)(o:a<=8)(c:BitVec 64)(i:c.toNat=j+256*h+65536*g+16777216*f+4294967296*e+1099511627776*d+281474976710656*b+72057594037927936*a):
  ((c+c>>>8)+(c+c>>>8)>>>16+((c+c>>>8)+(c+c>>>8)>>>16)>>>32).toNat<9223372036854775808/\((c+c>>>8)+(c+c>>>8)>>>16+((c+c>>>8)+(c+c>>>8)>>>16)>>>32).toNat%128=j+h+g+f+e+d+b+a:=by
 have e1:=LA c 8 256 j (h+256*g+65536*f+16777216*e+4294967296*d+1099511627776*b+281474976710656*a) 1000000000000000000 Z i U U U U (by decide);have e2:=LA (c+c>>>8) 16 65536 (j+h+256*(h+g)) (g+f+256*(f+e)+65536*(e+d)+16777216*(d+b)+4294967296*(b+a)+1099511627776*a) 2000000000000000000 (by decide) e1 U U U U (by decide);have k:=LA (c+c>>>8+(c+c>>>8)>>>16) 32 4294967296 (j+h+g+f+256*(h+g+f+e)+65536*(g+f+e+d)+16777216*(f+e+d+b)) (e+d+b+a+256*(d+b+a)+65536*(b+a)+16777216*a) 4000000000000000000 O e2 (by clear e1 e2 i;omega) (by clear e1 e2 i;omega) (by clear e1 e2 i;omega) (by clear e1 e2 i;omega) (by decide);refine AaT (j+h+g+f+e+d+b+a) ((h+g+f+e+d+b+a)+256*((g+f+e+d+b+a)+256*((f+e+d+b+a)+256*((e+d+b+a)+256*((d+b+a)+256*((b+a)+256*a)))))) k ?_ ?_ ?_
 ·clear e1 e2 k i;omega
 ·clear e1 e2 k i;omega
 clear e1 e2 k i;omega
theorem AaV{c:BitVec 64}(e:R.length=8)(a:∀d∈R,d<=8)(b:c.toNat=Cv 8 R):((c+c>>>8)+(c+c>>>8)>>>16+((c+c>>>8)+(c+c>>>8)>>>16)>>>32).toNat<9223372036854775808/\((c+c>>>8)+(c+c>>>8)>>>16+((c+c>>>8)+(c+c>>>8)>>>16)>>>32).toNat%128=R.sum:=by
 match R,e with
 | [m0,m1,m2,m3,m4,m5,m6,m7],_=>
  have:=AaU m0 m1 m2 m3 m4 m5 m6 m7 (a m0 O) (a m1 O) (a m2 O) (a m3 O) (a m4 O) (a m5 O) (a m6 O) (a m7 O) c (by rw[b];simp only[Cv];omega);refine ⟨this.1,this.2.trans ?_⟩;simp only[List.sum_cons,List.sum_nil];omega
theorem XS(l:List Nat)(i:l.length=64)(g:∀d∈l,d<=1)(x:BitVec 64)(p:x.toNat=Cv 1 l):(Lz x).toNat<9223372036854775808/\(Lz x).toNat%128=l.sum:=by
 have d1:∀d∈l,d<2^1:=λd h=>by have:=g d h;omega
 have e:(psm l).length=32:=by rw[Lw,i]
 have b:(psm (psm l)).length=16:=by rw[Lw,e]
 have o:(psm (psm (psm l))).length=8:=by rw[Lw,b]
 have f:=ND l 1 g;have c:=ND _ _ f;have q:=ND _ _ c;have t:=Jg l U;have j:=Jg (psm l) U;have k:=Jg (psm (psm l)) U;have e1:=NE 1 l U d1;have e2:=NE 2 (psm l) U (λd h=>by have:=f d h;omega);rw[i,show P0 1 (64/2)=6148914691236517205 by decide+kernel] at e1;rw[e,show P0 2 (32/2)=3689348814741910323 by decide+kernel] at e2;have t1:=Kz 2 (psm l) (λd h=>by have:=f d h;omega);have t2:=Kz 4 (psm (psm l)) (λd h=>by have:=c d h;omega);rw[e] at t1;rw[b] at t2;have r:((x>>>1&&&6148914691236517205#64)+(x&&&6148914691236517205#64)).toNat=Cv 2 (psm l):=by
  rw[AgI,Agf,Agf,Af9,p,Af7];rw[show (6148914691236517205#64).toNat=6148914691236517205 from Z,e1];exact AfA t1
 have m:∀a:BitVec 64,a.toNat=Cv 2 (psm l)->((a>>>2&&&3689348814741910323#64)+(a&&&3689348814741910323#64)).toNat=Cv 4 (psm (psm l)):=λa n=>by
  rw[AgI,Agf,Agf,Af9,n,Af7];rw[show (3689348814741910323#64).toNat=3689348814741910323 from Z,e2];exact AfA t2
 have s:=AaS b c (m _ r);have:=AaV o q s;rw[<-t,<-j,<-k];exact this
theorem JM:∀l:List Bool,(BitVec.ofBoolListLE l).toNat=Cv 1 (l.map Bool.toNat)
 | []=>rfl
 | b::l=>by
  have ih:=JM l;simp only[BitVec.ofBoolListLE,AeJ,Cv];rw[BitVec.toNat_concat,ih];omega
theorem P4(F:Nat->Bool)(a:Nat):∀n,((List.range n).map λj=>(F (a+j)).toNat).sum=cnt F a n
 | 0=>rfl
 | n+1=>by rw[Ag8,AeH,List.sum_append,P4 F a n];simp[cnt]
theorem LB(F:Nat->Bool)(k:Nat):(Lz (bw F k)).toNat<9223372036854775808/\(Lz (bw F k)).toNat%128=cnt F (64*k) 64:=by
 have:=XS ((List.range 64).map λj=>(F (64*k+j)).toNat) O (λd h=>by
  simp only[Aek] at h;obtain ⟨j,_,rfl⟩:=h;cases F (64*k+j)<;>simp) (bw F k) (by
   unfold bw;rw[BitVec.toNat_cast,JM,Afn];rfl)
 rw[P4] at this;exact this
section
def u64(b:BitVec 64):Value:=.int .u64 b.toNat
theorem SH(n:Nat)(h:n<18446744073709551616):IntKind.u64.wrap (n:Int)=n:=by
 simp[IntKind.wrap,IntKind.bits,IntKind.signed];omega
theorem Rs(b:BitVec 64):IntKind.u64.wrap (b.toNat:Int)=b.toNat:=SH _ b.isLt
theorem Gr(p:BitVec 64):BitVec.ofInt 64 (p.toNat:Int)=p:=by rw[Ag6];simp
section
variable{P:Program}{C:World->Prop}{o:Oper}{a:Act}{w z:World}{Γ:List Ai}{n:Nat}{ds:List Deferred}{L:List (Nat×Value)}{v:Value}{x y:Operand}{xt yt:TypeId}
theorem AdI(p q:BitVec 64):Op.intBits .or .u64 (p.toNat:Int) (q.toNat:Int)=pure (u64 (p|||q)):=by
 have e:Op.intBits .or .u64 (p.toNat:Int) (q.toNat:Int)=pure (.int .u64 (IntKind.u64.wrap ((BitVec.ofInt 64 (p.toNat:Int)|||BitVec.ofInt 64 (q.toNat:Int)).toNat:Int))):=rfl;rw[Gr,Gr,Rs] at e;exact e
theorem Ac0(p q:BitVec 64):Op.intBits .and .u64 (p.toNat:Int) (q.toNat:Int)=pure (u64 (p&&&q)):=by
 have e:Op.intBits .and .u64 (p.toNat:Int) (q.toNat:Int)=pure (.int .u64 (IntKind.u64.wrap ((BitVec.ofInt 64 (p.toNat:Int)&&&BitVec.ofInt 64 (q.toNat:Int)).toNat:Int))):=rfl;rw[Gr,Gr,Rs] at e;exact e
theorem AaW(p q:BitVec 64):Op.intBits .andNot .u64 (p.toNat:Int) (q.toNat:Int)=pure (u64 (p&&& ~~~q)):=by
 have e:Op.intBits .andNot .u64 (p.toNat:Int) (q.toNat:Int)=pure (.int .u64 (IntKind.u64.wrap ((BitVec.ofInt 64 (p.toNat:Int)&&& ~~~(BitVec.ofInt 64 (q.toNat:Int))).toNat:Int))):=rfl;rw[Gr,Gr,Rs] at e;exact e
theorem NF{p q:BitVec 64}(d:o.op=.binOp .or xt x y yt)(c:ev L x=some (u64 p))(f:ev L y=some (u64 q)):Au P C n ds L o (u64 (p|||q)):=λa b w _=>by
 have e:=AdI p q;simp only[execOp,d,b.ev c,b.ev f,u64];simp only[binOp,go_sem,e];rfl
theorem Ff{p q:BitVec 64}(d:o.op=.binOp .and xt x y yt)(c:ev L x=some (u64 p))(f:ev L y=some (u64 q)):Au P C n ds L o (u64 (p&&&q)):=λa b w _=>by
 have e:=Ac0 p q;simp only[execOp,d,b.ev c,b.ev f,u64];simp only[binOp,go_sem,e];rfl
theorem UC{p q:BitVec 64}(d:o.op=.binOp .andNot xt x y yt)(c:ev L x=some (u64 p))(f:ev L y=some (u64 q)):Au P C n ds L o (u64 (p&&& ~~~q)):=λa b w _=>by
 have e:=AaW p q;simp only[execOp,d,b.ev c,b.ev f,u64];simp only[binOp,go_sem,e];rfl
theorem HB{p q:BitVec 64}(d:o.op=.binOp .add xt x y yt)(c:ev L x=some (u64 p))(f:ev L y=some (u64 q)):Au P C n ds L o (u64 (p+q)):=λa b w _=>by
 simp only[execOp,d,b.ev c,b.ev f,u64];have e:IntKind.u64.wrap ((p.toNat:Int)+(q.toNat:Int))=((p+q).toNat:Int):=by
  rw[AgI];simp[IntKind.wrap,IntKind.bits,IntKind.signed]
 simp[go_sem,e]
theorem AaX{p q:BitVec 64}(d:o.op=.binOp .mul xt x y yt)(c:ev L x=some (u64 p))(f:ev L y=some (u64 q)):Au P C n ds L o (u64 (p*q)):=λa b w _=>by
 simp only[execOp,d,b.ev c,b.ev f,u64];have e:IntKind.u64.wrap ((p.toNat:Int)*(q.toNat:Int))=((p*q).toNat:Int):=by
  rw[BitVec.toNat_mul];simp[IntKind.wrap,IntKind.bits,IntKind.signed]
 simp[go_sem,e]
theorem AaY{p:BitVec 64}(b:o.op=.unOp .neg xt x)(a:ev L x=some (u64 p)):Au P C n ds L o (u64 (-p)):=by
 have:=Xb (P:=P) (C:=C) (n:=n) (ds:=ds) (L:=L) b a;have e:IntKind.u64.wrap (0-(p.toNat:Int))=((-p).toNat:Int):=by
  have:=p.isLt;rw[BitVec.toNat_neg];simp[IntKind.wrap,IntKind.bits,IntKind.signed];omega
 rw[e] at this;exact this
theorem Fv{p:BitVec 64}{k:IntKind}(f:o.op=.binOp .shr xt x y yt)(d:ev L x=some (u64 p))(g:ev L y=some (.int k q))(hq:q=m)(h:m<64):Au P C n ds L o (u64 (p>>>m)):=λa c w _=>by
 subst hq;simp only[execOp,f,c.ev d,c.ev g,u64];have e:¬((m:Int)<0):=by omega
 have b:min m 64=m:=by omega
 simp[go_sem,Op.shift,IntKind.bits,e,b,Ahr]
theorem NG{k:IntKind}(i:o.op=.binOp .shl xt x y yt)(g:ev L x=some (.int .u64 1))(j:ev L y=some (.int k q))(hq:q=m)(c:m<64):Au P C n ds L o (u64 (Eh m)):=λa d w _=>by
 subst hq;have h:¬((m:Int)<0):=by omega
 have b:min m 64=m:=by omega
 have e:Op.shift .shl .u64 1 k (m:Int)=pure (u64 (Eh m)):=by
  have f:(Eh m).toNat=2^m:=by unfold Eh;rw[BitVec.toNat_twoPow];exact AfA (Nat.pow_lt_pow_right U c)
  unfold Op.shift u64;rw[if_neg h,f];simp only[IntKind.bits,Ae4,b];rw[Int.one_mul,<-SH (2^m) (Nat.pow_lt_pow_right (m:=m) (n:=64) (a:=2) U c)];simp
 simp only[execOp,i,d.ev g,d.ev j];simp only[binOp,go_sem,e];rfl
theorem NH{p q:BitVec 64}(f:o.op=.binOp .eql xt x y yt){k:IntKind}(g:D8 P xt xt=some k)(e:ev L x=some (u64 p))(i:ev L y=some (u64 q)):Au P C n ds L o (.bool (decide (p=q))):=λa b w _=>by
 obtain ⟨d,j,c⟩:=FL g;simp only[execOp,f,b.ev e,b.ev i,u64];simp[c,go_sem];rw[Aew];simp;exact ⟨λh=>Ag1 U,λh=>by rw[h]⟩
theorem SI{p q:BitVec 64}(g:o.op=.binOp .neq xt x y yt){k:IntKind}(i:D8 P xt xt=some k)(f:ev L x=some (u64 p))(j:ev L y=some (u64 q)):Au P C n ds L o (.bool (decide (p≠q))):=λa b w _=>by
 obtain ⟨d,l,c⟩:=FL i;simp only[execOp,g,b.ev f,b.ev j,u64];simp[c,go_sem];rw[Aew];simp;exact ⟨λh e=>h (by rw[e]),λh e=>h (Ag1 U)⟩
theorem Ac1{p:BitVec 64}(a:o.op=.convert xt T x)(b:D8 P xt T=some .i64)(c:ev L x=some (u64 p))(hp:p.toNat<9223372036854775808):Au P C n ds L o (I p.toNat):=by
 have:=Hu (P:=P) (C:=C) (n:=n) (ds:=ds) (L:=L) a b c;rwa[AfL _ U] at this
theorem SJ{hi l:Operand}{n' q z:Nat}{k2 k3:IntKind}(u:o.op=.slice T x none (some hi) (some l))(v:Id P T=some (n',z))
  (y:ev L x=some (.pointer (some ⟨m,i,none⟩)))(j:ev L hi=some (.int k2 s))(k:ev L l=some (.int k3 p))(e2:s=(q:Int))(r:p=(q:Int))(hq:0<q)(g:q<=n'):Au P C n ds L o (.slice (some ⟨m,i,none⟩) q q):=λa c w _=>by
 obtain ⟨e,i0,h,f,hz⟩:=Ie v;subst e2;subst r;have g2:(0:Int)<=(q:Int)/\(q:Int)<=(n':Int):=by omega
 have t:(0:Int)<=(q:Int)/\(q:Int)<=(q:Int):=by omega
 have b:¬q=0:=by omega
 have d:0<=q:=by omega
 simp only[execOp,u,AeR,Afy,c.ev y,c.ev j,c.ev k];simp[Instr.sliceAt,Instr.slice,run_underlying h,Instr.sureAddr,Instr.sliceBounds,Instr.sliceBound,asIntOf,g2,t,sizeOf,typeInfo,f,hz,d,g,b,go_sem]<;>(try simp_all)
theorem UD{lo:Operand}{p z o' l' c':Nat}{k:IntKind}(f:o.op=.slice T x (some lo) none none)(h:Dn P T=some z)
  (l:ev L x=some (.slice (some ⟨m,j,none⟩) g r))(t:ev L lo=some (.int k s))(hi:s=(p:Int))(b:p<=g)(a:g<=r)
  (c:(if r=p then j else j+p*z)=o')(d:g-p=l')(u:r-p=c'):Au P C n ds L o (.slice (some ⟨m,o',none⟩) l' c'):=by
 have:=Jd (P:=P) (C:=C) (n:=n) (ds:=ds) (L:=L) (p:=p) (q:=g) f h l (.inr ⟨lo,k,s,Z,t,hi⟩) (.inl ⟨Z,Z⟩) b a;rw[d,u] at this;have e:(if r=p then (some ⟨m,j,none⟩:Option Addr) else (some ⟨m,j,none⟩:Option Addr).map (·.add (p*z)))=some ⟨m,o',none⟩:=by
  subst c;split
  ·rfl
  simp only[AeR,Ael];unfold Addr.add;split
  ·rename_i i;simp[i]
  rfl
 rwa[e] at this
theorem XT(f:o.op=.binOp .and xt x y yt)(d:ev L x=some (I p))(g:ev L y=some (I 127))(hp:0<=p/\p<9223372036854775808):Au P C n ds L o (I (p%128)):=λa c w _=>by
 obtain ⟨q,rfl⟩:=AfY hp.1;have e:Op.intBits .and .i64 (q:Int) 127=pure (I (IntKind.i64.wrap ((BitVec.ofInt 64 (q:Int)&&&BitVec.ofInt 64 127).toNat:Int))):=rfl;have e1:(BitVec.ofInt 64 (q:Int)&&&BitVec.ofInt 64 127).toNat=q%128:=by
  rw[Agf,show (BitVec.ofInt 64 127).toNat=2^7-1 from Z,Ag7,Ag6,BitVec.toNat_ofNat,AfA (a:=q) (b:=2^64) U]
 rw[e1,AfL _ U,show ((q%128:Nat):Int)=(q:Int)%128 from by omega] at e;simp only[execOp,f,c.ev d,c.ev g];simp only[binOp,go_sem,e];rfl
end
end
section
inductive Pt where
 | b (b:Nat) (cs:List Value) (ty:TypeId)
 | a (A:Ai)
def DP:List Pt->List Ai->List Ai
 | [],R=>R
 | .b b cs ty::G,R=>blk b cs ty::DP G R
 | .a A::G,R=>A::DP G R
class Rf(Γ:List Ai)(G:outParam (List Pt))(R:outParam (List Ai)):Prop where
 e:Γ=DP G R
instance rf0 {R:List Ai}:Rf R [] R:=⟨Z⟩
instance rf1 {A:Ai}{Γ R:List Ai}{G:List Pt}[h:Rf Γ G R]:Rf (A::Γ) (.a A::G) R:=⟨congrArg (A:: ·) h.e⟩
instance rf2 {b:Nat}{cs:List Value}{ty:TypeId}{Γ R:List Ai}{G:List Pt}[h:Rf Γ G R]:Rf (blk b cs ty::Γ) (.b b cs ty::G) R:=⟨congrArg (blk b cs ty:: ·) h.e⟩
instance rf3 {Γ R:List Ai}{G:List Pt}[h:Rf Γ G R]:Rf ([]++Γ) G R:=h
instance rf4 {A:Ai}{Γ Γ' R:List Ai}{G:List Pt}[h:Rf (Γ++Γ') G R]:Rf ((A::Γ)++Γ') (.a A::G) R:=⟨congrArg (A:: ·) h.e⟩
instance rf5 {b:Nat}{cs:List Value}{ty:TypeId}{Γ Γ' R:List Ai}{G:List Pt}[h:Rf (Γ++Γ') G R]:Rf ((blk b cs ty::Γ)++Γ') (.b b cs ty::G) R:=⟨congrArg (blk b cs ty:: ·) h.e⟩
theorem Dj{R:List Ai}:∀{G:List Pt} {j b:Nat} {cs:List Value} {ty:TypeId},G[j]?=some (.b b cs ty)->(DP G R)[j]?=some (blk b cs ty)
 | [],_,_,_,_,h=>by simp at h
 | .b b' cs' ty'::G,0,b,cs,ty,h=>by simp at h;obtain ⟨rfl,rfl,rfl⟩:=h;rfl
 | .a A::G,0,b,cs,ty,h=>by simp at h
 | .b b' cs' ty'::G,j+1,b,cs,ty,h=>by simpa [DP] using Dj (j:=j) (by simpa using h)
 | .a A::G,j+1,b,cs,ty,h=>by simpa [DP] using Dj (j:=j) (by simpa using h)
theorem JY{R:List Ai}:∀{G:List Pt} {j b:Nat} {cs:List Value} {ty:TypeId},j<G.length->(DP G R).set j (blk b cs ty)=DP (G.set j (.b b cs ty)) R
 | [],_,_,_,_,h=>by simp at h
 | .b b' cs' ty'::G,0,b,cs,ty,h=>rfl
 | .a A::G,0,b,cs,ty,h=>rfl
 | .b b' cs' ty'::G,j+1,b,cs,ty,h=>by simp[DP,JY (j:=j) (by simpa using h)]
 | .a A::G,j+1,b,cs,ty,h=>by simp[DP,JY (j:=j) (by simpa using h)]

inductive Kd where
 | fin
 | seq (c:Code) (k:Kd)
 | blk (i:Nat) (k:Kd)
inductive Pos where
 | c (c:Code) (k:Kd)
 | o (ops os:List Oper) (k:Kd)
 | n (k:Kd)
 | x (i:Nat) (k:Kd)
 | r
section
variable(P:Program)(N:Act->World->Prop)(X:Nat->Act->World->Prop)(R:Act->World->Prop)
def kQ:Kd->(Act->World->Prop)×(Nat->Act->World->Prop)
 | .fin=>(N,X)
 | .seq c k=>(λa w=>c.wp P (Qp (kQ k).1 (kQ k).2 R) a w,(kQ k).2)
 | .blk i k=>((kQ k).1,upd (kQ k).2 i (kQ k).1)
def BS:Pos->Act->World->Prop
 | .c c k=>c.wp P (Qp (kQ P N X R k).1 (kQ P N X R k).2 R)
 | .o ops os k=>wpList P ops.toArray (Qp (kQ P N X R k).1 (kQ P N X R k).2 R) os
 | .n k=>(kQ P N X R k).1
 | .x i k=>(kQ P N X R k).2 i
 | .r=>R
end
def Xh(L:List (Nat×Value))(k:Kd):Code->Option Pos
 | .seq x y=>some (.c x (.seq y k))
 | .skip=>some (.n k)
 | .ret=>some .r
 | .exit i=>some (.x i k)
 | .block i c=>some (.c c (.blk i k))
 | .cond o x y=>match ev L o with
  | some (.bool true)=>some (.c x k)
  | some (.bool false)=>some (.c y k)
  | _=>none
 | .region _ ops false=>some (.o ops.toList ops.toList k)
 | _=>none
def Rt(L:List (Nat×Value)):Pos->Option Pos
 | .c c k=>Xh L k c
 | .n (.seq c k)=>some (.c c k)
 | .n (.blk _ k)=>some (.n k)
 | .x i (.seq _ k)=>some (.x i k)
 | .x i (.blk j k)=>bif Nat.beq i j then some (.n k) else some (.x i k)
 | .o _ [] k=>some (.n k)
 | _=>none
theorem pstep_ok{P:Program}{N R:Act->World->Prop}{X:Nat->Act->World->Prop}{n:Nat}{ds:List Deferred}{L:List (Nat×Value)}{w:World}{p p':Pos}(h:Rt L p=some p')(K:∀x,Fr n ds L x->BS P N X R p' x w):∀x,Fr n ds L x->BS P N X R p x w:=by
 unfold Rt at h;split at h
 ·rename_i c k
  unfold Xh at h;split at h
  ·cases h;exact AY K
  ·cases h;exact DG K
  ·cases h;exact D7 K
  ·cases h;exact Si K
  ·cases h;exact FK K
  ·split at h
   ·rename_i a;cases h;exact Sj a K
   ·rename_i a;cases h;exact EA a K
   cases h
  ·rename_i id ops;cases h
   have:=AI (id:=id) (ops:=ops.toList) (P:=P) (N:=(kQ P N X R k).1) (X:=(kQ P N X R k).2) (R:=R) K;simp only[Array.toArray_toList] at this;exact this
  cases h
 ·cases h;exact K
 ·cases h;exact K
 ·cases h;exact K
 ·rename_i i j k
  cases hb:Nat.beq i j with
  | true=>rw[hb] at h;cases h;rw[AfK hb];exact IG K
  | false=>rw[hb] at h;cases h;exact AcP hb K
 ·cases h;exact K
 cases h

def FF:Option Prop->Prop
 | none=>True
 | some p=>p
def cj:Option Prop->Option Prop->Option Prop
 | none,q=>q
 | some p,none=>some p
 | some p,some q=>some (p/\q)
theorem Il{p q:Option Prop}(h:FF (cj p q)):FF p/\FF q:=by
 cases p<;>cases q<;>simp[cj,FF] at h ⊢ <;>exact h

def G3{α β:Type}:List α->(List α->β)->β
 | [],k=>k []
 | x::xs,k=>G3 xs λys=>k (x::ys)
theorem E5{α β:Type}:∀(l:List α) (k:List α->β),G3 l k=k l
 | [],_=>rfl
 | x::xs,k=>E5 xs λys=>k (x::ys)
def SK{β:Type}(v:Value)(k:Value->β):β:=match v with
 | .bool b=>k (.bool b)
 | .int i n=>k (.int i n)
 | .pointer a=>k (.pointer a)
 | .slice a l c=>k (.slice a l c)
 | .map r=>k (.map r)
 | .agg cs=>k (.agg cs)
 | v=>k v
theorem SL{β:Type}(v:Value)(k:Value->β):SK v k=k v:=by cases v<;>rfl
def Jh{β:Type}:List Value->(List Value->β)->β
 | [],k=>k []
 | x::xs,k=>SK x λy=>Jh xs λys=>k (y::ys)
theorem KA{β:Type}:∀(l:List Value) (k:List Value->β),Jh l k=k l
 | [],_=>rfl
 | x::xs,k=>by rw[Jh,SL,KA xs]
structure OvR where
 v:Value
 hs:List Nat
 zs:List Int
 ok:Bool
 a:List (Nat×Nat)
 ob:Option Prop
def icp(b:BinOp)(p q:Int):Option Prop:=match b with
 | .lss=>some (p<q)
 | .leq=>some (p<=q)
 | .gtr=>some (q<p)
 | .geq=>some (q<=p)
 | .eql=>some (p=q)
 | .neq=>some (p≠q)
 | _=>none
theorem SM{b:BinOp}{p q:Int}{a:Prop}(h:icp b p q=some a):(a->icmp b p q=some (.bool true))/\(¬a->icmp b p q=some (.bool false)):=by
 unfold icp at h;split at h<;>first|cases h|skip
 all_goals (constructor<;>intro hp<;>simp only[icmp,Ael,Value.bool.injEq]<;>first|exact decide_eq_true hp|exact decide_eq_false hp)
def iar(b:BinOp)(p q r:Int):Option Prop:=match b with
 | .add=>some (p+q=r/\ -9223372036854775808<=r/\r<=9223372036854775807)
 | .sub=>some (p-q=r/\ -9223372036854775808<=r/\r<=9223372036854775807)
 | .mul=>some (p*q=r/\ -9223372036854775808<=r/\r<=9223372036854775807)
 | .quo=>some (0<=p/\0<q/\p/q=r/\p<=9223372036854775807)
 | .rem=>some (0<=p/\q≠0/\p%q=r)
 | _=>none
def i64:IntKind->Bool
 | .i64=>true
 | _=>false
theorem SN{k:IntKind}(h:i64 k=true):k=.i64:=by cases k<;>first|rfl|cases h
def UE(P:Program)(b:BinOp)(xt:TypeId)(u v:Value)(hs:List Nat)(zs:List Int):Option OvR:=match u,v with
 | .int k p,.int k' q=>match icp b p q with
  | some pr=>match hs with
   | 0::hs=>match icmp b p q with
    | some c=>some ⟨c,hs,zs,Mq k k',[],none⟩
    | none=>none
   | 1::hs=>some ⟨.bool true,hs,zs,Mq k k',[],some pr⟩
   | 2::hs=>some ⟨.bool false,hs,zs,Mq k k',[],some (¬pr)⟩
   | 3::hs=>match icmp b p q with
    | some (.bool c)=>some ⟨.bool true,hs,zs,c&&Mq k k',[],none⟩
    | _=>none
   | 4::hs=>match icmp b p q with
    | some (.bool c)=>some ⟨.bool false,hs,zs,!c&&Mq k k',[],none⟩
    | _=>none
   | _=>none
  | none=>match zs with
   | r::zs=>match iar b p q r with
    | some pr=>some ⟨.int .i64 r,hs,zs,i64 k&&i64 k',[],some pr⟩
    | none=>none
   | []=>none
 | .pointer (some _),.pointer none=>match b with
  | .eql=>some ⟨.bool false,hs,zs,F1 P xt,[],none⟩
  | .neq=>some ⟨.bool true,hs,zs,F1 P xt,[],none⟩
  | _=>none
 | .pointer none,.pointer none=>match b with
  | .eql=>some ⟨.bool true,hs,zs,F1 P xt,[],none⟩
  | .neq=>some ⟨.bool false,hs,zs,F1 P xt,[],none⟩
  | _=>none
 | _,_=>none
def SO:Option Nat->Nat->Bool
 | some x,z=>Nat.beq x z
 | none,_=>false
theorem KB{x:Option Nat}{z:Nat}(h:SO x z=true):x=some z:=by
 cases x with
 | none=>cases h
 | some y=>rw[AfK (n:=y) (m:=z) h]
def UF:Option (Nat×Nat)->Nat->Nat->Bool
 | some x,l,z=>Nat.beq x.1 l&&Nat.beq x.2 z
 | none,_,_=>false
theorem XU{x:Option (Nat×Nat)}{z:Nat}(h:UF x m z=true):x=some (m,z):=by
 cases x with
 | none=>cases h
 | some y=>
  simp only[UF,AeC] at h;rw[<-AfK h.1,<-AfK h.2]
def UG(P:Program)(G:List Pt)(L:List (Nat×Value))(hs:List Nat)(zs:List Int):Op->Option OvR
 | .move x=>match ev L x with|some v=>some ⟨v,hs,zs,true,[],none⟩|none=>none
 | .assign x=>match ev L x with|some v=>some ⟨v,hs,zs,true,[],none⟩|none=>none
 | .pick c x y=>match ev L c with
  | some (.bool true)=>(match ev L x with|some v=>some ⟨v,hs,zs,true,[],none⟩|none=>none)
  | some (.bool false)=>(match ev L y with|some v=>some ⟨v,hs,zs,true,[],none⟩|none=>none)
  | _=>none
 | .extract x i=>match ev L x with
  | some (.tuple vs)=>(match vs.toList[i]? with|some v=>some ⟨v,hs,zs,true,[],none⟩|none=>none)
  | _=>none
 | .nilCheck x=>match ev L x with
  | some (.pointer (some ad))=>some ⟨.pointer (some ad),hs,zs,true,[],none⟩
  | _=>none
 | .unOp b _ x=>match b with
  | .not=>(match ev L x with|some (.bool c)=>some ⟨.bool !c,hs,zs,true,[],none⟩|_=>none)
  | _=>none
 | .binOp b xt x y _=>match ev L x with
  | some u=>(match ev L y with|some v=>UE P b xt u v hs zs|none=>none)
  | none=>none
 | .fieldAddr s x f=>match hs with
  | r::hs=>(match ev L x with
   | some (.pointer (some ⟨b,p,none⟩))=>some ⟨.pointer (some ⟨b,r,none⟩),hs,zs,noq (Ek P s f) p r,[],none⟩
   | _=>none)
  | []=>none
 | .load t x=>match hs with
  | j::0::hs=>(match ev L x with
   | some (.pointer (some ⟨b,p,none⟩))=>(match G[j]? with
    | some (.b b' cs _)=>(match cs[p]? with
     | some v=>some ⟨v,hs,zs,Ge P t,[(b,b')],none⟩
     | none=>none)
    | _=>none)
   | _=>none)
  | j::m::hs=>(match ev L x with
   | some (.pointer (some ⟨b,p,none⟩))=>(match G[j]? with
    | some (.b b' cs _)=>G3 ((cs.drop p).take m) λvs=>some ⟨.agg vs.toArray,hs,zs,SO (If P t) m&&Nat.beq vs.length m,[(b,b')],none⟩
    | _=>none)
   | _=>none)
  | _=>none
 | .indexAddr t x y=>match ev L x with
  | some (.slice (some ⟨b,p,none⟩) l _)=>(match ev L y with
   | some (.int _ i)=>(match hs with
    | z::j::r::hs=>some ⟨.pointer (some ⟨b,r,none⟩),hs,zs,SO (Dn P t) z,[],some (i=(j:Int)/\j<l/\p+j*z=r)⟩
    | _=>none)
   | _=>none)
  | some (.pointer (some ⟨b,p,none⟩))=>(match ev L y with
   | some (.int _ i)=>(match hs with
    | l::z::j::r::hs=>some ⟨.pointer (some ⟨b,r,none⟩),hs,zs,UF (Id P t) l z,[],some (i=(j:Int)/\j<l/\p+j*z=r)⟩
    | _=>none)
   | _=>none)
  | _=>none
 | .call ⟨.builtin .len,⟨[x]⟩,⟨[t]⟩⟩=>match ev L x with
  | some (.slice _ l _)=>some ⟨.int .i64 l,hs,zs,(Dn P t).isSome,[],none⟩
  | _=>none
 | .build t ⟨ps⟩=>match (evs L (ps.map (·.2))).map (List.zip (ps.map (·.1))) with
  | some us=>match P.built t us with
   | some cs=>Jh cs.toList λcs=>some ⟨.agg cs.toArray,hs,zs,true,[],none⟩
   | none=>none
  | none=>none
 | _=>none
section
variable{P:Program}{G:List Pt}{L:List (Nat×Value)}{n:Nat}{ds:List Deferred}{w:World}{C:World->Prop}{o:Oper}{hs:List Nat}{zs:List Int}{q:OvR}
theorem XV{b:BinOp}{yt:TypeId}{y:Operand}{v:Value}(f:o.op=.binOp b T x y yt)(a:ev L x=some u)(d:ev L y=some v)(h:UE P b T u v hs zs=some q)(e:q.ok=true)(hq:FF q.ob):Au P C n ds L o q.v:=by
 have i:∀{k:IntKind} {p r:Int} {c:Value},ev L x=some (.int k p)->ev L y=some (.int k r)->icmp b p r=some c->Au P C n ds L o c:=by
  intro k p r c a d l;unfold icmp at l;split at l<;>first|(cases l;first|exact Rj f a d|exact W5 f a d|exact W6 f a d|exact W7 f a d|exact W8 f a d|exact Xa f a d)|cases l
 unfold UE at h;split at h
 ·rename_i k p s r
  split at h
  ·rename_i m g
   split at h
   ·split at h
    ·rename_i j;cases h;obtain rfl:=Hy e;exact i a d j
    cases h
   ·cases h;obtain rfl:=Hy e;exact i a d ((SM g).1 hq)
   ·cases h;obtain rfl:=Hy e;exact i a d ((SM g).2 hq)
   ·split at h
    ·rename_i c j;cases h;simp only[AeC] at e;obtain rfl:=Hy e.2;rw[e.1] at j;exact i a d j
    cases h
   ·split at h
    ·rename_i c j;cases h;simp only[AeC,Bool.not_eq_true'] at e;obtain rfl:=Hy e.2;rw[e.1] at j;exact i a d j
    cases h
   cases h
  split at h
  ·split at h
   ·rename_i m g
    cases h
    simp only[AeC] at e;obtain rfl:=SN e.1;obtain rfl:=SN e.2;unfold iar at g;split at g<;>first|cases g|skip
    ·exact C3 f a d hq.1 hq.2
    ·exact Hs f a d hq.1 hq.2
    ·exact Ht f a d hq.1 hq.2
    ·exact Ln f a d hq.1 hq.2.1 hq.2.2.1 hq.2.2.2
    exact Lo f a d hq.1 hq.2.1 hq.2.2
   cases h
  cases h
 ·split at h
  ·cases h;exact Nu f e a d
  ·cases h;exact Uv f e a d
  cases h
 ·split at h
  ·cases h;exact Uw f e a d
  ·cases h;exact Ux f e a d
  cases h
 cases h
theorem oval_ok(hM:∀w,C w->∀(j b:Nat) (cs:List Value) (ty:TypeId),G[j]?=some (Pt.b b cs ty)->Blk b cs ty w)(h:UG P G L hs zs o.op=some q)(e:q.ok=true)(ha:B4 q.a)(hq:FF q.ob):Au P C n ds L o q.v:=by
 unfold UG at h;split at h
 ·rename_i d
  split at h
  ·rename_i c;cases h;exact Cj d c
  cases h
 ·rename_i d
  split at h
  ·rename_i c;cases h;exact Bl d c
  cases h
 ·rename_i d
  split at h
  ·rename_i hc
   split at h
   ·rename_i c;cases h;exact Nl d hc c
   cases h
  ·rename_i hc
   split at h
   ·rename_i c;cases h;exact Nm d hc c
   cases h
  cases h
 ·rename_i d
  split at h
  ·rename_i vs c
   split at h
   ·rename_i m;cases h
    exact Fe (vs:=vs.toList) d (by simpa using c) m
   cases h
  cases h
 ·rename_i d
  split at h
  ·rename_i c;cases h;exact Kv d c
  cases h
 ·rename_i d
  split at h
  ·split at h
   ·rename_i c;cases h;exact Kt d c
   cases h
  cases h
 ·rename_i b xt x y _ d
  split at h
  ·rename_i u c
   split at h
   ·rename_i v g;exact XV d c g h e hq
   cases h
  cases h
 ·rename_i s x f d
  split at h
  ·split at h
   ·rename_i b p c
    cases h
    dsimp only at e
    cases i:Ek P s f with
    | none=>rw[i] at e;cases e
    | some k=>
     rw[i] at e;exact DS d i c (AfK e)
   cases h
  cases h
 ·rename_i t x d
  split at h
  ·split at h
   ·rename_i b p c
    split at h
    ·rename_i b' cs ty he
     split at h
     ·rename_i v m
      cases h
      have e1:b=b':=ha.1;exact Bg d c e (λw r=>by rw[e1];exact (hM w r _ _ _ _ he).cel p m)
     cases h
    cases h
   cases h
  ·split at h
   ·rename_i b p c
    split at h
    ·rename_i b' cs ty he
     rw[E5] at h;cases h;have e1:b=b':=ha.1;simp only[AeC] at e;have hl:=AfK e.2;refine BU d c (by rw[KB e.1,hl]) (λw r=>?_);rw[e1];exact (hM w r _ _ _ _ he).part p _ _ Z
    cases h
   cases h
  cases h
 ·rename_i t x y d
  split at h
  ·rename_i b p l _ c
   split at h
   ·rename_i g
    split at h
    ·cases h
     exact CI d (KB e) c g hq.1 hq.2.1 hq.2.2
    cases h
   cases h
  ·rename_i b p c
   split at h
   ·rename_i g
    split at h
    ·cases h
     exact JQ d (XU e) c g hq.1 hq.2.1 hq.2.2
    cases h
   cases h
  cases h
 ·rename_i x t d
  split at h
  ·rename_i l _ c
   cases h
   dsimp only at e
   cases hz:Dn P t with
   | none=>rw[hz] at e;cases e
   | some z=>exact Fs d hz c
  cases h
 ·rename_i t ps d
  split at h
  ·rename_i us m
   split at h
   ·rename_i cs i
    rw[KA] at h;cases h;exact Bc (parts:=ps) d m (by simpa using i)
   cases h
  cases h
 cases h
end

def IK:Value->List Value
 | .agg cs=>cs.toList
 | v=>[v]
theorem P5(v:Value):v.cells=(IK v).toArray:=by cases v<;>simp[IK,Value.cells]
def JZ:List Value->Nat->List Value->List Value
 | cs,_,[]=>cs
 | [],_,_::_=>[]
 | _::cs,0,v::vs=>v::JZ cs 0 vs
 | c::cs,p+1,v::vs=>c::JZ cs p (v::vs)
theorem LD:∀(cs:List Value) (p:Nat) (vs:List Value),p+vs.length<=cs.length->cs.take p++vs++cs.drop (p+vs.length)=JZ cs p vs
 | cs,p,[],h=>by simp[JZ]
 | [],p,v::vs,h=>by simp at h
 | c::cs,0,v::vs,h=>by
  have:=LD cs 0 vs (by simp at h ⊢;omega);simp only[AfE,AeQ,AfM] at this;simp[JZ,this]
 | c::cs,p+1,v::vs,h=>by
  have:=LD cs p (v::vs) (by simp at h ⊢;omega);simp only[JZ,Ae5,AfB];rw[<-this];simp only[Aeg,AfB];rw[show p+1+(vs.length+1)=(p+(vs.length+1))+1 from by omega,Ae3]
structure OtR where
 G:List Pt
 hs:List Nat
 ok:Bool
 a:List (Nat×Nat)
def ost(P:Program)(G:List Pt)(L:List (Nat×Value))(hs:List Nat):Op->Option OtR
 | .store t x y=>match hs with
  | j::hs=>(match ev L x with
   | some (.pointer (some ⟨b,p,none⟩))=>(match ev L y with
    | some v=>(match G[j]? with
     | some (.b b' cs ty)=>G3 (JZ cs p (IK v)) λcs'=>G3 (G.set j (.b b' cs' ty)) λG=>some ⟨G,hs,(SO ((P.info? t).map (·.size)) (IK v).length&&Nat.ble (p+(IK v).length) cs.length)&&(IK v).all (·.oneCell'),[(b,b')]⟩
     | _=>none)
    | none=>none)
   | _=>none)
  | []=>none
 | _=>none
structure Mo(wr:Bool)(S:List Pt->World->Prop):Prop where
 ld:∀{G:List Pt} {w:World} {j b:Nat} {cs:List Value} {ty:TypeId},S G w->G[j]?=some (.b b cs ty)->Blk b cs ty w
 st:wr=true->∀{G:List Pt} {w w':World} {j b:Nat} {cs cs':List Value} {ty:TypeId},S G w->G[j]?=some (.b b cs ty)->w'.os=w.os->w'.tape=w.tape->w'.output=w.output->Blk b cs' ty w'->(∀k:Nat,k≠b->w'.heap[k]?=w.heap[k]?)->S (G.set j (.b b cs' ty)) w'
section
variable{P:Program}{G:List Pt}{L:List (Nat×Value)}{n:Nat}{ds:List Deferred}{o:Oper}{hs:List Nat}{zs:List Int}{S:List Pt->World->Prop}{wr:Bool}
theorem Aa2(j:Mo true S){q:OtR}(h:ost P G L hs o.op=some q)(l:q.ok=true)(s:B4 q.a){w:World}(i:S G w):DH P n ds L o w (λf=>S q.G f):=by
 unfold ost at h;split at h
 ·rename_i t x y z
  split at h
  ·split at h
   ·rename_i b p hx
    split at h
    ·rename_i v hy
     split at h
     ·rename_i b' cs ty g
      rw[E5,E5] at h;cases h;have e:b=b':=s.1;subst e;simp only[AeC] at l;obtain ⟨⟨r,d⟩,h3⟩:=l;have d:p+(IK v).length<=cs.length:=Nat.le_of_ble_eq_true d;intro a u;obtain ⟨f,hr,m,c,_⟩:=PQ (w:=w) z hx hy (P5 v) (by simpa using h3) (KB r) (j.ld i g) d (LD cs p _ d) a u;refine ⟨f,hr,j.st Z i g c.os c.tape c.output m (λk hk=>?_)⟩;rcases Aeq k w.heap.size with q|q
      ·exact c.block k q hk
      rw[Ae0 q,Ae0 U]
     cases h
    cases h
   cases h
  cases h
 cases h

structure OsR where
 L:List (Nat×Value)
 G:List Pt
 hs:List Nat
 zs:List Int
 ok:Bool
 a:List (Nat×Nat)
 ob:Option Prop
def ostep(P:Program)(wr:Bool)(n:Nat)(ops:List Oper)(o:Oper)(hs:List Nat)(zs:List Int)(L:List (Nat×Value))(G:List Pt):Option OsR:=match o.dst with
 | some d=>(match BM ops L o.guard with
  | true=>(match UG P G L hs zs o.op with
   | some ⟨v,hs,zs,ok,a,ob⟩=>some ⟨(d,v)::L,G,hs,zs,Nat.blt d n&&ok,a,ob⟩
   | none=>none)
  | false=>(match EW ops L o.guard with
   | true=>some ⟨(d,undef)::L,G,hs,zs,Nat.blt d n,[],none⟩
   | false=>none))
 | none=>(match BM ops L o.guard with
  | true=>(match wr with
   | true=>(match ost P G L hs o.op with
    | some ⟨G,hs,ok,a⟩=>some ⟨L,G,hs,zs,ok,a,none⟩
    | none=>none)
   | false=>none)
  | false=>(match EW ops L o.guard with
   | true=>some ⟨L,G,hs,zs,true,[],none⟩
   | false=>none))
theorem UH(m:Mo wr S){Q:Exit->Act->World->Prop}{ops l:List Oper}{q:OsR}(h:ostep P wr n ops o hs zs L G=some q)(f:q.ok=true)(k:B4 q.a)(hq:FF q.ob)(K:∀w,S q.G w->∀x,Fr n ds q.L x->wpList P ops.toArray Q l x w):∀w,S G w->∀x,Fr n ds L x->wpList P ops.toArray Q (o::l) x w:=by
 intro w b;unfold ostep at h;split at h
 ·rename_i d c
  split at h
  ·rename_i i
   split at h
   ·rename_i g
    cases h
    simp only[AeC] at f;exact s_do i c f.1 (oval_ok (λr p _ _ _ _ e=>by subst p;exact m.ld b e) g f.2 k hq) (K w b)
   cases h
  split at h
  ·rename_i j;cases h;exact Sn j c f (K w b)
  cases h
 rename_i c;split at h
 ·rename_i i
  split at h
  ·split at h
   ·rename_i g
    cases h
    exact F0 i c (Aa2 m g f k b) K
   cases h
  cases h
 split at h
 ·rename_i j;cases h;exact XG j c (K w b)
 cases h
def Xi:Pos->Option (List Oper×Oper×List Oper×Kd)
 | .o ops (o::os) k=>some (ops,o,os,k)
 | _=>none
theorem SP{p:Pos}{ops a:List Oper}{o:Oper}{k:Kd}(h:Xi p=some (ops,o,a,k)):p=.o ops (o::a) k:=by
 unfold Xi at h;split at h<;>cases h;rfl
structure GsR where
 L:List (Nat×Value)
 G:List Pt
 p:Pos
 ok:Bool
 a:List (Nat×Nat)
 ob:Option Prop
def go(P:Program)(wr:Bool)(n:Nat):Nat->List Nat->List Int->List (Nat×Value)->List Pt->Pos->Bool->List (Nat×Nat)->Option Prop->Option GsR
 | 0,_,_,L,G,p,ok,a,ob=>some ⟨L,G,p,ok,a,ob⟩
 | k+1,hs,zs,L,G,p,ok,a,ob=>match Xi p with
  | some (ops,o,os,kk)=>(match ostep P wr n ops o hs zs L G with
   | some ⟨L,G,hs,zs,ok',a',ob'⟩=>go P wr n k hs zs L G (.o ops os kk) (ok'&&ok) (a'++a) (cj ob' ob)
   | none=>none)
  | none=>(match Rt L p with
   | some p=>go P wr n k hs zs L G p ok a ob
   | none=>none)
theorem XW:∀{k:Nat} {hs:List Nat} {zs:List Int} {L:List (Nat×Value)} {G:List Pt} {p:Pos} {c:Bool} {a:List (Nat×Nat)} {ob:Option Prop} {q:GsR},go P wr n k hs zs L G p c a ob=some q->q.ok=true->B4 q.a->FF q.ob->c=true/\B4 a/\FF ob:=by
 intro k
 induction k with
 | zero=>intro hs zs L G p c a ob q h d b hq;simp only[go,Ael] at h;subst h;exact ⟨d,b,hq⟩
 | succ k ih=>
  intro hs zs L G p c a ob q h d b hq;simp only[go] at h;split at h
  ·split at h
   ·obtain ⟨e,f,g⟩:=ih h d b hq
    simp only[AeC] at e;exact ⟨e.2,(Co f).2,(Il g).2⟩
   cases h
  split at h
  ·exact ih h d b hq
  cases h
theorem Im{N R:Act->World->Prop}{X:Nat->Act->World->Prop}(l:Mo wr S):∀(k:Nat) {hs:List Nat} {zs:List Int} {L:List (Nat×Value)} {G:List Pt} {p:Pos} {d:Bool} {a:List (Nat×Nat)} {ob:Option Prop} {q:GsR},go P wr n k hs zs L G p d a ob=some q->q.ok=true->B4 q.a->FF q.ob->(∀w,S q.G w->∀x,Fr n ds q.L x->BS P N X R q.p x w)->∀w,S G w->∀x,Fr n ds L x->BS P N X R p x w:=by
 intro k
 induction k with
 | zero=>intro hs zs L G p d a ob q h c b hq K;simp only[go,Ael] at h;subst h;exact K
 | succ k ih=>
  intro hs zs L G p d a ob q h c b hq K;simp only[go] at h;split at h
  ·rename_i i
   obtain rfl:=SP i;split at h
   ·rename_i j
    obtain ⟨e,g,m⟩:=XW h c b hq;simp only[AeC] at e;exact UH l j e.1 (Co g).1 (Il m).1 (ih h c b hq K)
   cases h
  split at h
  ·rename_i hp
   intro w f;exact pstep_ok hp (ih h c b hq K w f)
  cases h
end

section
variable{P:Program}{G:List Pt}{L:List (Nat×Value)}{n:Nat}{ds:List Deferred}{o:Oper}{hs:List Nat}{zs:List Int}
theorem LE{C:World->Prop}{ops:List Oper}{q:OsR}(m:∀w,C w->∀(j b:Nat) (cs:List Value) (ty:TypeId),G[j]?=some (Pt.b b cs ty)->Blk b cs ty w){d:Nat}(f:o.dst=some d)(h:ostep P false n ops o hs zs L G=some q)(e:q.ok=true)(g:B4 q.a)(hq:FF q.ob):
  ∃v,q.L=(d,v)::L/\Nat.blt d n=true/\((BM ops L o.guard=true/\Au P C n ds L o v)\/(EW ops L o.guard=true/\v=undef)):=by
 unfold ostep at h;split at h
 ·rename_i p c
  rw[f] at c;cases c;split at h
  ·rename_i k
   split at h
   ·rename_i i
    cases h
    simp only[AeC] at e;exact ⟨_,Z,e.1,.inl ⟨k,oval_ok m i e.2 g hq⟩⟩
   cases h
  split at h
  ·rename_i l;cases h;exact ⟨_,Z,e,.inr ⟨l,Z⟩⟩
  cases h
 rename_i c;rw[f] at c;cases c
structure QrR where
 L:List (Nat×Value)
 os:List Oper
 ok:Bool
 a:List (Nat×Nat)
 ob:Option Prop
def Eo(P:Program)(G:List Pt)(ops:List Oper)(n:Nat):Nat->List Nat->List Int->List (Nat×Value)->List Oper->Bool->List (Nat×Nat)->Option Prop->Option QrR
 | 0,_,_,L,os,ok,a,ob=>some ⟨L,os,ok,a,ob⟩
 | _+1,_,_,_,[],_,_,_=>none
 | k+1,hs,zs,L,o::os,ok,a,ob=>match o.dst with
  | some _=>(match ostep P false n ops o hs zs L G with
   | some ⟨L,_,hs,zs,ok',a',ob'⟩=>Eo P G ops n k hs zs L os (ok'&&ok) (a'++a) (cj ob' ob)
   | none=>none)
  | none=>none
theorem Mt{ops:List Oper}:∀{k:Nat} {hs:List Nat} {zs:List Int} {L:List (Nat×Value)} {b:List Oper} {c:Bool} {a:List (Nat×Nat)} {ob:Option Prop} {q:QrR},Eo P G ops n k hs zs L b c a ob=some q->q.ok=true->B4 q.a->FF q.ob->c=true/\B4 a/\FF ob:=by
 intro k
 induction k with
 | zero=>intro hs zs L b c a ob q h e d hq;simp only[Eo,Ael] at h;subst h;exact ⟨e,d,hq⟩
 | succ k ih=>
  intro hs zs L b c a ob q h e d hq
  cases b with
  | nil=>simp[Eo] at h
  | cons o b=>
   simp only[Eo] at h;split at h
   ·split at h
    ·obtain ⟨f,g,i⟩:=ih h e d hq
     simp only[AeC] at f;exact ⟨f.2,(Co g).2,(Il i).2⟩
    cases h
   cases h
theorem Xj{ops:List Oper}{C:World->Prop}{Q:Act->Prop}(u:∀w,C w->∀(j b:Nat) (cs:List Value) (ty:TypeId),G[j]?=some (Pt.b b cs ty)->Blk b cs ty w):∀(k:Nat) {hs:List Nat} {zs:List Int} {L:List (Nat×Value)} {c:List Oper} {i:Bool} {a:List (Nat×Nat)} {ob:Option Prop} {q:QrR},Eo P G ops n k hs zs L c i a ob=some q->q.ok=true->B4 q.a->FF q.ob->(∀x,Fr n ds q.L x->wpQuiet P ops.toArray C Q q.os x)->∀x,Fr n ds L x->wpQuiet P ops.toArray C Q c x:=by
 intro k
 induction k with
 | zero=>intro hs zs L c i a ob q h p g hq K;simp only[Eo,Ael] at h;subst h;exact K
 | succ k ih=>
  intro hs zs L c i a ob q h p g hq K
  cases c with
  | nil=>simp[Eo] at h
  | cons o c=>
   simp only[Eo] at h;split at h
   ·rename_i d l
    split at h
    ·rename_i z
     obtain ⟨r,y,h3⟩:=Mt h p g hq;simp only[AeC] at r;obtain ⟨v,e,f,t⟩:=LE (ds:=ds) u l z r.1 (Co y).1 (Il h3).1;dsimp only at e;subst e;have K':=ih h p g hq K;rcases t with ⟨s,m⟩|⟨hk,rfl⟩
     ·exact AL s l f m K'
     exact Sr hk l f K'
    cases h
   cases h
theorem Xk{ops:List Oper}{w:World}{Q:Act->Prop}(u:∀(j b:Nat) (cs:List Value) (ty:TypeId),G[j]?=some (Pt.b b cs ty)->Blk b cs ty w):∀(k:Nat) {hs:List Nat} {zs:List Int} {L:List (Nat×Value)} {c:List Oper} {i:Bool} {a:List (Nat×Nat)} {ob:Option Prop} {q:QrR},Eo P G ops n k hs zs L c i a ob=some q->q.ok=true->B4 q.a->FF q.ob->(∀x,Fr n ds q.L x->wpStill P ops.toArray w Q q.os x)->∀x,Fr n ds L x->wpStill P ops.toArray w Q c x:=by
 intro k
 induction k with
 | zero=>intro hs zs L c i a ob q h p g hq K;simp only[Eo,Ael] at h;subst h;exact K
 | succ k ih=>
  intro hs zs L c i a ob q h p g hq K
  cases c with
  | nil=>simp[Eo] at h
  | cons o c=>
   simp only[Eo] at h;split at h
   ·rename_i d l
    split at h
    ·rename_i z
     obtain ⟨r,y,h3⟩:=Mt h p g hq;simp only[AeC] at r;obtain ⟨v,e,f,t⟩:=LE (C:=(· =w)) (ds:=ds) (λw' e=>by subst e;exact u) l z r.1 (Co y).1 (Il h3).1;dsimp only at e;subst e;have K':=ih h p g hq K;rcases t with ⟨s,m⟩|⟨hk,rfl⟩
     ·exact B9 s l f m K'
     exact Sw hk l f K'
    cases h
   cases h
structure ArR where
 L:List (Nat×Value)
 li:Array Bool
 ok:Bool
 a:List (Nat×Nat)
 ob:Option Prop
def arun(P:Program)(G:List Pt)(ops:List Oper)(n:Nat)(g:Nat->Bool):List Nat->List Nat->List Int->List (Nat×Value)->Array Bool->Bool->List (Nat×Nat)->Option Prop->Option ArR
 | [],_,_,L,li,ok,a,ob=>some ⟨L,li,ok,a,ob⟩
 | i::is,hs,zs,L,li,ok,a,ob=>match ops[i]? with
  | some o=>(match o.dst with
   | some _=>(match ostep P false n ops o hs zs L G with
    | some ⟨L,_,hs,zs,ok',a',ob'⟩=>arun P G ops n g is hs zs L (li.setIfInBounds i true) ((ok'&&(g i&&(Region.noSelect ops.toArray&&(Region.free .any ops.toArray li i&&(Region.ready .any ops.toArray li).contains i))))&&ok) (a'++a) (cj ob' ob)
    | none=>none)
   | none=>none)
  | none=>none
theorem SQ{ops:List Oper}{g:Nat->Bool}:∀{c hs:List Nat} {zs:List Int} {L:List (Nat×Value)} {e:Array Bool} {b:Bool} {a:List (Nat×Nat)} {ob:Option Prop} {q:ArR},arun P G ops n g c hs zs L e b a ob=some q->q.ok=true->B4 q.a->FF q.ob->b=true/\B4 a/\FF ob:=by
 intro c
 induction c with
 | nil=>intro hs zs L e b a ob q h f d hq;simp only[arun,Ael] at h;subst h;exact ⟨f,d,hq⟩
 | cons i c ih=>
  intro hs zs L e b a ob q h f d hq;simp only[arun] at h;split at h
  ·split at h
   ·split at h
    ·obtain ⟨j,k,l⟩:=ih h f d hq
     simp only[AeC] at j;exact ⟨j.2,(Co k).2,(Il l).2⟩
    cases h
   cases h
  cases h
theorem Xl{ops:List Oper}{N R:Act->World->Prop}{X:Nat->Act->World->Prop}{S:World->Prop}{w:World}(hM:∀w,S w->∀(j b:Nat) (cs:List Value) (ty:TypeId),G[j]?=some (Pt.b b cs ty)->Blk b cs ty w)(u:S w):∀(f:List Nat) {hs:List Nat} {zs:List Int} {L:List (Nat×Value)} {k:Array Bool} {m:Bool} {a:List (Nat×Nat)} {ob:Option Prop} {q:ArR} {fuel:Nat},arun P G ops n (λ_=>true) f hs zs L k m a ob=some q->q.ok=true->B4 q.a->FF q.ob->
  (∀x,Fr n ds q.L x->wpAnyH P .any ops.toArray (Qp N X R) S fuel q.li x w)->∀x,Fr n ds L x->wpAnyH P .any ops.toArray (Qp N X R) S (fuel+f.length) k x w:=by
 intro f
 induction f with
 | nil=>intro hs zs L k m a ob q fuel h s l hq K;simp only[arun,Ael] at h;subst h;exact K
 | cons i f ih=>
  intro hs zs L k m a ob q fuel h s l hq K;simp only[arun] at h;split at h
  ·rename_i o t
   split at h
   ·rename_i d p
    split at h
    ·rename_i hv
     obtain ⟨c,h2,h3⟩:=SQ h s l hq;simp only[AeC] at c;obtain ⟨v,e,g,z⟩:=LE (ds:=ds) hM p hv c.1.1 (Co h2).1 (Il h3).1;dsimp only at e;subst e;have K':=ih h s l hq K;rcases z with ⟨y,r⟩|⟨hk,rfl⟩
     ·exact BN (fuel:=fuel+f.length) i t c.1.2.2.1 c.1.2.2.2.1 c.1.2.2.2.2 y p g r u K'
     exact Sx (fuel:=fuel+f.length) i t c.1.2.2.1 c.1.2.2.2.1 c.1.2.2.2.2 hk p g u K'
    cases h
   cases h
  cases h
section
variable{ops:List Oper}{L':List (Nat×Value)}{ok':Bool}{a':List (Nat×Nat)}{ob:Prop}{z w:World}{Γ F:List Ai}
theorem DE(h:(ok',a'.map Prod.fst)=(true,a'.map Prod.snd)):ok'=true/\B4 a':=⟨congrArg Prod.fst h,Dv (congrArg Prod.snd h)⟩
theorem GF{Q:Act->Prop}(k:Nat)(hs:List Nat)(zs:List Int)[e:Rf Γ G F]{b a:List Oper}(h:Eo P G ops n k hs zs L b true [] none=some ⟨L',a,ok',a',none⟩)(c:(ok',a'.map Prod.fst)=(true,a'.map Prod.snd))(K:∀x,Fr n ds L' x->wpQuiet P ops.toArray (Sep z Γ) Q a x):∀x,Fr n ds L x->wpQuiet P ops.toArray (Sep z Γ) Q b x:=
 Xj (λ_ H _ _ _ _ q=>(show Sep z (DP G F) _ from e.e▸H).blk _ (Dj q)) k h (DE c).1 (DE c).2 trivial K
theorem Mu{Q:Act->Prop}(k:Nat)(hs:List Nat)(zs:List Int)(H:Sep z Γ w)[e:Rf Γ G F]{b a:List Oper}(h:Eo P G ops n k hs zs L b true [] none=some ⟨L',a,ok',a',none⟩)(c:(ok',a'.map Prod.fst)=(true,a'.map Prod.snd))(K:∀x,Fr n ds L' x->wpStill P ops.toArray w Q a x):∀x,Fr n ds L x->wpStill P ops.toArray w Q b x:=
 Xk (λ_ _ _ _ q=>(show Sep z (DP G F) _ from e.e▸H).blk _ (Dj q)) k h (DE c).1 (DE c).2 trivial K
theorem AT{N R:Act->World->Prop}{X:Nat->Act->World->Prop}(b hs:List Nat)(zs:List Int)(H:Sep z Γ w)[e:Rf Γ G F]{c a:Array Bool}(h:arun P G ops n (λ_=>true) b hs zs L c true [] none=some ⟨L',a,ok',a',none⟩)(d:(ok',a'.map Prod.fst)=(true,a'.map Prod.snd))(f:m+b.length=i)(K:∀x,Fr n ds L' x->wpAnyH P .any ops.toArray (Qp N X R) (Sep z Γ) m a x w):∀x,Fr n ds L x->wpAnyH P .any ops.toArray (Qp N X R) (Sep z Γ) i c x w:=
 f▸Xl (S:=Sep z Γ) (λ_ H _ _ _ _ q=>(show Sep z (DP G F) _ from e.e▸H).blk _ (Dj q)) H b h (DE d).1 (DE d).2 trivial K
theorem G4{Q:Act->Prop}(k:Nat)(hs:List Nat)(zs:List Int)[e:Rf Γ G F]{b a:List Oper}(h:Eo P G ops n k hs zs L b true [] none=some ⟨L',a,ok',a',some ob⟩)(c:(ok',a'.map Prod.fst)=(true,a'.map Prod.snd))(hq:ob)(K:∀x,Fr n ds L' x->wpQuiet P ops.toArray (Sep z Γ) Q a x):∀x,Fr n ds L x->wpQuiet P ops.toArray (Sep z Γ) Q b x:=
 Xj (λ_ H _ _ _ _ q=>(show Sep z (DP G F) _ from e.e▸H).blk _ (Dj q)) k h (DE c).1 (DE c).2 hq K
theorem EQ{Q:Act->Prop}(k:Nat)(hs:List Nat)(zs:List Int)(H:Sep z Γ w)[e:Rf Γ G F]{b a:List Oper}(h:Eo P G ops n k hs zs L b true [] none=some ⟨L',a,ok',a',some ob⟩)(c:(ok',a'.map Prod.fst)=(true,a'.map Prod.snd))(hq:ob)(K:∀x,Fr n ds L' x->wpStill P ops.toArray w Q a x):∀x,Fr n ds L x->wpStill P ops.toArray w Q b x:=
 Xk (λ_ _ _ _ q=>(show Sep z (DP G F) _ from e.e▸H).blk _ (Dj q)) k h (DE c).1 (DE c).2 hq K
theorem HD{N R:Act->World->Prop}{X:Nat->Act->World->Prop}(b hs:List Nat)(zs:List Int)(H:Sep z Γ w)[e:Rf Γ G F]{c a:Array Bool}(h:arun P G ops n (λ_=>true) b hs zs L c true [] none=some ⟨L',a,ok',a',some ob⟩)(d:(ok',a'.map Prod.fst)=(true,a'.map Prod.snd))(hq:ob)(f:m+b.length=i)(K:∀x,Fr n ds L' x->wpAnyH P .any ops.toArray (Qp N X R) (Sep z Γ) m a x w):∀x,Fr n ds L x->wpAnyH P .any ops.toArray (Qp N X R) (Sep z Γ) i c x w:=
 f▸Xl (S:=Sep z Γ) (λ_ H _ _ _ _ q=>(show Sep z (DP G F) _ from e.e▸H).blk _ (Dj q)) H b h (DE d).1 (DE d).2 hq K
end
end

structure FiR where
 L:List (Nat×Value)
 G:List Pt
 p:Pos
 a:List Nat
 b:List Nat
 ob:Option Prop
def fin:Option GsR->Option FiR
 | some ⟨L,G,p,true,a,ob⟩=>some ⟨L,G,p,a.map Prod.fst,a.map Prod.snd,ob⟩
 | _=>none
def Nf{β:Type}:List Pt->List Ai->(List Ai->β)->β
 | [],R,k=>k R
 | .b b cs ty::G,R,k=>Nf G R λΓ=>k (blk b cs ty::Γ)
 | .a A::G,R,k=>Nf G R λΓ=>k (A::Γ)
theorem UI{β:Type}{R:List Ai}(G:List Pt):∀(k:List Ai->β),Nf G R k=k (DP G R):=by
 induction G with
 | nil=>intro k;rfl
 | cons x G ih=>intro k;cases x<;>exact ih _
structure FwR where
 L:List (Nat×Value)
 Γ:List Ai
 p:Pos
 a:List Nat
 b:List Nat
 ob:Option Prop
def SR(F:List Ai):Option GsR->Option FwR
 | some ⟨L,G,p,true,a,ob⟩=>Nf G F λΓ=>some ⟨L,Γ,p,a.map Prod.fst,a.map Prod.snd,ob⟩
 | _=>none
theorem NI{F Γ:List Ai}{q:Option GsR}{L:List (Nat×Value)}{p:Pos}{al:List Nat}{ob:Option Prop}(h:SR F q=some ⟨L,Γ,p,al,al,ob⟩):∃a G,q=some ⟨L,G,p,true,a,ob⟩/\B4 a/\DP G F=Γ:=by
 unfold SR at h;split at h
 ·rename_i a _
  rw[UI] at h;simp only[Ael,FwR.mk.injEq] at h;obtain ⟨rfl,d,rfl,b,c,rfl⟩:=h;exact ⟨_,_,Z,Dv (b.trans c.symm),d⟩
 cases h
theorem KC{q:Option GsR}{L:List (Nat×Value)}{G:List Pt}{p:Pos}{al:List Nat}{ob:Option Prop}(h:fin q=some ⟨L,G,p,al,al,ob⟩):∃a,q=some ⟨L,G,p,true,a,ob⟩/\B4 a:=by
 unfold fin at h;split at h
 ·rename_i a _
  simp only[Ael,FiR.mk.injEq] at h;obtain ⟨rfl,rfl,rfl,b,c,rfl⟩:=h;exact ⟨_,Z,Dv (b.trans c.symm)⟩
 cases h
section
variable{P:Program}{N R:Act->World->Prop}{X:Nat->Act->World->Prop}{n:Nat}{ds:List Deferred}{L L':List (Nat×Value)}{w z:World}{p p':Pos}{al:List Nat}{G G':List Pt}{Γ F:List Ai}
theorem Aa3(w:World):Mo false (λG w'=>G=[]/\w'=w):=⟨λh e=>by rw[h.1] at e;simp at e,λh=>by cases h⟩
theorem Aa4(z:World)(F:List Ai)(w:World):Mo false (λG w'=>Sep z (DP G F) w'/\w'=w):=⟨λH e=>H.1.blk _ (Dj e),λh=>by cases h⟩
theorem UJ(z:World)(F:List Ai):Mo true (λG w=>Sep z (DP G F) w):=⟨λH e=>H.blk _ (Dj e),λ_ {G w k j b cs a ty} H e d f i c h=>by
 have:=H.write j (Dj e) d f i c h;have g:j<G.length:=(Aeb.1 e).1;exact (JY (R:=F) (b:=b) (cs:=a) (ty:=ty) g)▸this⟩
theorem Z0(k:Nat)(hs:List Nat)(h:fin (go P false n k hs [] L [] p true [] none)=some ⟨L',[],p',[],[],none⟩)(K:∀x,Fr n ds L' x->BS P N X R p' x w):∀x,Fr n ds L x->BS P N X R p x w:=by
 obtain ⟨a,h,c⟩:=KC h;exact Im (Aa3 w) k h Z c trivial (λ_ b=>b.2▸K) w ⟨Z,Z⟩
theorem Zc(k:Nat)(h:fin (go P false n k [] [] L [] p true [] none)=some ⟨L',[],p',[],[],none⟩)(K:∀x,Fr n ds L' x->BS P N X R p' x w):∀x,Fr n ds L x->BS P N X R p x w:=Z0 k [] h K
theorem Z1(k:Nat)(hs:List Nat)(zs:List Int){ob:Prop}(h:fin (go P false n k hs zs L [] p true [] none)=some ⟨L',[],p',[],[],some ob⟩)(hq:ob)(K:∀x,Fr n ds L' x->BS P N X R p' x w):∀x,Fr n ds L x->BS P N X R p x w:=by
 obtain ⟨a,h,c⟩:=KC h;exact Im (Aa3 w) k h Z c hq (λ_ b=>b.2▸K) w ⟨Z,Z⟩
theorem Z2(k:Nat)(hs:List Nat)(H:Sep z Γ w)[e:Rf Γ G F](h:fin (go P false n k hs [] L G p true [] none)=some ⟨L',G',p',al,al,none⟩)(K:∀x,Fr n ds L' x->BS P N X R p' x w):∀x,Fr n ds L x->BS P N X R p x w:=by
 obtain ⟨a,h,c⟩:=KC h;exact Im (Aa4 z F w) k h Z c trivial (λ_ b=>b.2▸K) w ⟨e.e▸H,Z⟩
theorem Z3(k:Nat)(hs:List Nat)(zs:List Int)(H:Sep z Γ w)[e:Rf Γ G F]{ob:Prop}(h:fin (go P false n k hs zs L G p true [] none)=some ⟨L',G',p',al,al,some ob⟩)(hq:ob)(K:∀x,Fr n ds L' x->BS P N X R p' x w):∀x,Fr n ds L x->BS P N X R p x w:=by
 obtain ⟨a,h,c⟩:=KC h;exact Im (Aa4 z F w) k h Z c hq (λ_ b=>b.2▸K) w ⟨e.e▸H,Z⟩
theorem Z4(k:Nat)(hs:List Nat)(H:Sep z Γ w)[e:Rf Γ G F]{Γ':List Ai}(h:SR F (go P true n k hs [] L G p true [] none)=some ⟨L',Γ',p',al,al,none⟩)(K:∀w,Sep z Γ' w->∀x,Fr n ds L' x->BS P N X R p' x w):∀x,Fr n ds L x->BS P N X R p x w:=by
 obtain ⟨a,G',c,b,rfl⟩:=NI h;exact Im (UJ z F) k c Z b trivial K w (e.e▸H)
theorem Z5(k:Nat)(hs:List Nat)(zs:List Int)(H:Sep z Γ w)[e:Rf Γ G F]{Γ':List Ai}{ob:Prop}(h:SR F (go P true n k hs zs L G p true [] none)=some ⟨L',Γ',p',al,al,some ob⟩)(hq:ob)(K:∀w,Sep z Γ' w->∀x,Fr n ds L' x->BS P N X R p' x w):∀x,Fr n ds L x->BS P N X R p x w:=by
 obtain ⟨a,G',c,b,rfl⟩:=NI h;exact Im (UJ z F) k c Z b hq K w (e.e▸H)
end

section
variable{P:Program}{N R:Act->World->Prop}{X:Nat->Act->World->Prop}{n d:Nat}{ds:List Deferred}{L:List (Nat×Value)}{w z:World}{k:Kd}{ops rest:List Oper}{o:Oper}{v:Value}
theorem Ae{f:FuncId}{d:Func}{c:Code}{R:Value->World->Prop}(g:P.funcs[f]?=some d)(i:d.body=some c)(e:d.ntmps=n)(b:Nat.ble V.length n=true)
  (h:∀a,Fr n [] (first 0 V) a->BS P (Gc P d R) ID (Gc P d R) (.c c .fin) a w):Calls P f V.toArray w (Ret R):=enter g i n e b h
theorem gf(K:∀x,Fr n ds L x->N x w):∀x,Fr n ds L x->BS P N X R (.n .fin) x w:=K
theorem gx{a R':Act->World->Prop}(K:∀x,Fr n ds L x->BS P N X R (.x i k) x w):∀x,Fr n ds L x->BS P a (kQ P N X R k).2 R' (.x i .fin) x w:=K
theorem gn(K:∀x,Fr n ds L x->BS P N X R (.n k) x w):∀x,Fr n ds L x->(kQ P N X R k).1 x w:=K
theorem gw(K:∀x,Fr n ds L x->BS P N X R (.o ops rest k) x w):∀x,Fr n ds L x->wpList P ops.toArray (Qp (kQ P N X R k).1 (kQ P N X R k).2 R) rest x w:=K
theorem Ep{c:Operand}{x y:Code}(d:ev L c=some (.bool b))(f:b=true->∀a,Fr n ds L a->BS P N X R (.c x k) a w)(e:b=false->∀a,Fr n ds L a->BS P N X R (.c y k) a w):∀a,Fr n ds L a->BS P N X R (.c (.cond c x y) k) a w:=Sk d f e
theorem Af{c:Operand}{x y:Code}{p:Prop}[hp:Decidable p](b:ev L c=some (.bool (decide p)))(e:p->∀a,Fr n ds L a->BS P N X R (.c x k) a w)(d:¬p->∀a,Fr n ds L a->BS P N X R (.c y k) a w):∀a,Fr n ds L a->BS P N X R (.c (.cond c x y) k) a w:=Gq b e d
theorem Xm{x y:Code}(M:Act->World->Prop)(h:∀a,Fr n ds L a->BS P M (kQ P N X R k).2 R (.c x .fin) a w)(h':∀a w,M a w->BS P N X R (.c y k) a w):∀a,Fr n ds L a->BS P N X R (.c (.seq x y) k) a w:=AcO M h h'
theorem AB{c:Code}{σ:Type}(d:σ->List (Nat×Value))(G:σ->World->Prop)(m:σ->Nat)(e:σ)
  (h₀:∀a,Fr n ds L a->Fr n ds (d e) a)(g:G e w)
  (b:∀s w,G s w->∀a,Fr n ds (d s) a->BS P (λa' w'=>∃f,Fr n ds (d f) a'/\G f w'/\m f<m s) (kQ P N X R k).2 R (.c c .fin) a w):∀a,Fr n ds L a->BS P N X R (.c (.loop c) k) a w:=Sl d G m e h₀ g b
def IL(ops:List Oper)(L:List (Nat×Value))(n:Nat)(o:Oper):Option Nat:=match o.dst with
 | some d=>match BM ops L o.guard with
  | true=>bif Nat.blt d n then some d else none
  | false=>none
 | none=>none
theorem Ef(h:IL ops L n o=some d):BM ops L o.guard=true/\o.dst=some d/\Nat.blt d n=true:=by
 unfold IL at h;split at h
 ·rename_i c a
  split at h
  ·rename_i b
   cases hb:Nat.blt c n with
   | true=>rw[hb] at h;simp at h;subst h;exact ⟨b,a,hb⟩
   | false=>rw[hb] at h;cases h
  cases h
 cases h
theorem Ab(h:IL ops L n o=some d)(b:Au P (· =w) n ds L o v)(K:∀a',Fr n ds ((d,v)::L) a'->BS P N X R (.o ops rest k) a' w):∀a,Fr n ds L a->BS P N X R (.o ops (o::rest) k) a w:=s_do (Ef h).1 (Ef h).2.1 (Ef h).2.2 b K
theorem AR{Rr:Value->World->Prop}(h:IL ops L n o=some d)(c:Cy P n ds L o w Rr)(K:∀v b,Rr v b->∀a',Fr n ds ((d,v)::L) a'->BS P N X R (.o ops rest k) a' b):∀a,Fr n ds L a->BS P N X R (.o ops (o::rest) k) a w:=E3 (Ef h).1 (Ef h).2.1 (Ef h).2.2 c K
theorem KD{Rr:Value->World->Prop}(c:BM ops L o.guard=true)(d:o.dst=none)(h:Cy P n ds L o w Rr)(K:∀v b,Rr v b->∀a,Fr n ds L a->BS P N X R (.o ops rest k) a b):∀a,Fr n ds L a->BS P N X R (.o ops (o::rest) k) a w:=Xd c d h K
theorem Az{Rr:World->Prop}(c:BM ops L o.guard=true)(d:o.dst=none)(h:DH P n ds L o w Rr)(K:∀b,Rr b->∀a,Fr n ds L a->BS P N X R (.o ops rest k) a b):∀a,Fr n ds L a->BS P N X R (.o ops (o::rest) k) a w:=F0 c d h K
theorem Al{p:Prop}[Decidable p](t:Nat)(c:CC L t=some (.bool (decide p)))(d:p->∀a,Fr n ds ((t,.bool true)::L) a->BS P N X R (.o ops (o::rest) k) a w)(b:¬p->∀a,Fr n ds ((t,.bool false)::L) a->BS P N X R (.o ops (o::rest) k) a w):∀a,Fr n ds L a->BS P N X R (.o ops (o::rest) k) a w:=So t c d b
theorem FO(t:Nat)(d:CC L t=some (.bool b))(e:b=true->∀a,Fr n ds ((t,.bool true)::L) a->BS P N X R (.o ops (o::rest) k) a w)(c:b=false->∀a,Fr n ds ((t,.bool false)::L) a->BS P N X R (.o ops (o::rest) k) a w):∀a,Fr n ds L a->BS P N X R (.o ops (o::rest) k) a w:=Uq t d e c
variable{Γ pre R':List Ai}{post:Value->List Ai->Prop}{f:FuncId}{vs:List Value}
def Ng(ops:List Oper)(L:List (Nat×Value))(n:Nat)(o:Oper):Option (Nat×FuncId×List Value):=match IL ops L n o with
 | some d=>match o.op with
  | .call ⟨.value (.func f),⟨xs⟩,_⟩=>match evs L xs with
   | some vs=>some (d,f,vs)
   | none=>none
  | _=>none
 | none=>none
theorem UK(h:Ng ops L n o=some (d,f,vs)):IL ops L n o=some d/\∃xs tys,o.op=.call {callee:=.value (.func f),args:=(xs:List Operand).toArray,argTypes:=tys} /\evs L xs=some vs:=by
 unfold Ng at h;split at h
 ·rename_i g c
  split at h
  ·rename_i i xs tys b
   split at h
   ·rename_i e a
    simp only[Ael,Afx] at h;obtain ⟨rfl,rfl,rfl⟩:=h;exact ⟨c,xs,tys,b,a⟩
   cases h
  cases h
 cases h
theorem Aq(h:Ng ops L n o=some (d,f,vs))(j:∀w,(callFunc f vs.toArray).run P w=.ok (.enter f vs.toArray) w)(e:Cn P f vs pre post)(H:Sep z (pre++R') w)
  (K:∀v c Γ',post v Γ'->Sep z (Γ'++R') c->∀a',Fr n ds ((d,v)::L) a'->BS P N X R (.o ops rest k) a' c):∀a,Fr n ds L a->BS P N X R (.o ops (o::rest) k) a w:=by
 obtain ⟨b,xs,tys,i,g⟩:=UK h;exact Fu (Ef b).1 (Ef b).2.1 (Ef b).2.2 i g j e H Z K
theorem z_E_{G:List Ai}(h:Ng ops L n o=some (d,f,vs))(g:∀w,(callFunc f vs.toArray).run P w=.ok (.enter f vs.toArray) w)(c:Cn P f vs pre (λv Γ=>v=u/\Γ=G))(H:Sep z (pre++R') w)
  (K:∀b,Sep z (G++R') b->∀a',Fr n ds ((d,u)::L) a'->BS P N X R (.o ops rest k) a' b):∀a,Fr n ds L a->BS P N X R (.o ops (o::rest) k) a w:=
 Aq h g c H λv b Γ' e=>by obtain ⟨rfl,rfl⟩:=e;exact K b
def LF(L:List (Nat×Value)):List ResultVar->Option (List Value)
 | []=>some []
 | .tmp t::rs=>match CC L t with
  | some v=>match LF L rs with
   | some vs=>some (v::vs)
   | none=>none
  | none=>none
 | _::_=>none
theorem LG{L:List (Nat×Value)}:∀{rs:List ResultVar} {vs:List Value},LF L rs=some vs->EN P L w rs vs
 | [],vs,h=>by simp only[LF,Ael] at h;subst h;trivial
 | .tmp t::rs,vs,h=>by
  simp only[LF] at h;split at h
  ·rename_i v hv
   split at h
   ·rename_i us hu;cases h;exact ⟨hv,LG hu⟩
   cases h
  cases h
 | .cell _ _::_,_,h=>by simp[LF] at h
def Ru(L:List (Nat×Value))(rs:List ResultVar):Option Value:=match LF L rs with
 | some [v]=>some v
 | some vs=>some (.tuple vs.toArray)
 | none=>none
theorem P6{rs:List ResultVar}(h:Ru L rs=some v):∃vs,EN P L w rs vs/\GY vs=v:=by
 unfold Ru at h;split at h
 ·rename_i u a;cases h;exact ⟨_,LG a,Z⟩
 ·rename_i vs b a;cases h;exact ⟨_,LG a,by cases vs with
   | nil=>rfl
   | cons x xs=>cases xs with
    | nil=>exact (b x Z).elim
    | cons y ys=>rfl⟩
 cases h
theorem Zr{b:Func}{R:Value->World->Prop}(h:Ru L b.results.toList=some v)(q:R v w):∀a,Fr n [] L a->BS P N X (Gc P b R) .r a w:=by
 obtain ⟨vs,d,c⟩:=P6 (P:=P) (w:=w) h;exact Fq O vs d c q
theorem Zf{b:Func}{R':Act->World->Prop}{R:Value->World->Prop}(h:Ru L b.results.toList=some v)(q:R v w):∀a,Fr n [] L a->BS P (Gc P b R) X R' (.n .fin) a w:=by
 obtain ⟨vs,c,d⟩:=P6 (P:=P) (w:=w) h;exact Fq O vs c d q

structure RmR where
 vs:List Value
 ok:Bool
 a:List (Nat×Nat)
def Ip(P:Program)(L:List (Nat×Value))(G:List Pt):List Nat->List ResultVar->Option RmR
 | _,[]=>some ⟨[],true,[]⟩
 | hs,.tmp t::rs=>match CC L t with
  | some v=>match Ip P L G hs rs with
   | some ⟨vs,ok,a⟩=>some ⟨v::vs,ok,a⟩
   | none=>none
  | none=>none
 | j::m::hs,.cell t ty::rs=>match CC L t with
  | some (.pointer (some ⟨b,p,none⟩))=>match G[j]? with
   | some (.b b' cs _)=>match Ip P L G hs rs with
    | some ⟨us,ok,a⟩=>G3 ((cs.drop p).take m) λvs=>some ⟨.agg vs.toArray::us,SO (If P ty) vs.length&&ok,(b,b')::a⟩
    | none=>none
   | _=>none
  | _=>none
 | _,_=>none
theorem LH{G:List Pt}(c:∀(j b:Nat) (cs:List Value) (ty:TypeId),G[j]?=some (Pt.b b cs ty)->Blk b cs ty w):∀{rs:List ResultVar} {hs:List Nat} {q:RmR},Ip P L G hs rs=some q->q.ok=true->B4 q.a->EN P L w rs q.vs
 | [],hs,q,h,_,_=>by simp only[Ip,Ael] at h;subst h;trivial
 | .tmp t::rs,hs,q,h,hb,ha=>by
  simp only[Ip] at h;split at h
  ·rename_i v hv
   split at h
   ·rename_i hu;cases h;exact ⟨hv,LH c hu hb ha⟩
   cases h
  cases h
 | .cell t ty::rs,j::m::hs,q,h,hb,ha=>by
  simp only[Ip] at h;split at h
  ·rename_i b p hv
   split at h
   ·rename_i b' cs ty' hG
    split at h
    ·rename_i hu
     rw[E5] at h;cases h;simp only[AeC] at hb;have e:b=b':=ha.1;subst e;exact ⟨⟨b,p,hv,Pv (KB hb.1) (c _ _ _ _ hG) (by rw[Aex,List.take_eq_take_iff];simp)⟩,LH c hu hb.2 ha.2⟩
    cases h
   cases h
  cases h
 | .cell t ty::rs,[],q,h,_,_=>by simp[Ip] at h
 | .cell t ty::rs,[_],q,h,_,_=>by simp[Ip] at h
structure RvR where
 v:Value
 a:List Nat
 b:List Nat
def UL:Option RmR->Option RvR
 | some ⟨[v],true,a⟩=>some ⟨v,a.map Prod.fst,a.map Prod.snd⟩
 | some ⟨vs,true,a⟩=>some ⟨.tuple vs.toArray,a.map Prod.fst,a.map Prod.snd⟩
 | _=>none
theorem XX{q:Option RmR}{al:List Nat}(h:UL q=some ⟨v,al,al⟩):∃vs a,q=some ⟨vs,true,a⟩/\B4 a/\GY vs=v:=by
 unfold UL at h;split at h
 ·simp only[Ael,RvR.mk.injEq] at h
  obtain ⟨rfl,b,c⟩:=h;exact ⟨_,_,Z,Dv (b.trans c.symm),Z⟩
 ·rename_i vs a d
  simp only[Ael,RvR.mk.injEq] at h;obtain ⟨rfl,b,c⟩:=h;refine ⟨_,_,Z,Dv (b.trans c.symm),?_⟩
  cases vs with
  | nil=>rfl
  | cons x xs=>cases xs with
   | nil=>exact (d x Z).elim
   | cons y ys=>rfl
 cases h
theorem Zl(hs:List Nat){G:List Pt}{F:List Ai}{al:List Nat}(H:Sep z Γ w)[e:Rf Γ G F]{b:Func}{R:Value->World->Prop}(h:UL (Ip P L G hs b.results.toList)=some ⟨v,al,al⟩)(q:R v w):∀a,Fr n [] L a->BS P N X (Gc P b R) .r a w:=by
 obtain ⟨vs,a,c,d,f⟩:=XX h;have H:Sep z (DP G F) w:=e.e▸H;exact Fq O vs (LH (λ_ _ _ _ e=>H.blk _ (Dj e)) c Z d) f q
structure AlR where
 L:List (Nat×Value)
 Γ:List Ai
 ops:List Oper
 os:List Oper
 k:Kd
 d:Nat
 zs:List Value
 e:TypeId
 ob:Option Prop
 a:List Nat
 b:List Nat
def alc(P:Program)(n:Nat):Option FwR->Option AlR
 | some ⟨L,G,p,a,b,ob⟩=>match Xi p with
  | some (ops,o,os,k)=>match IL ops L n o with
   | some d=>match o.op with
    | .alloc e=>match zeroCells P e with
     | some zs=>G3 zs.toList λzs=>some ⟨L,G,ops,os,k,d,zs,e,ob,a,b⟩
     | none=>none
    | .box e x=>match ev L x with
     | some v=>G3 (IK v) λzs=>some ⟨L,G,ops,os,k,d,zs,e,ob,a,b⟩
     | none=>none
    | _=>none
   | none=>none
  | none=>none
 | none=>none
theorem Aa6{q:Option FwR}{L':List (Nat×Value)}{G':List Ai}{j:List Oper}{zs:List Value}{ob:Option Prop}{al:List Nat}(h:alc P n q=some ⟨L',G',ops,j,k,d,zs,T,ob,al,al⟩)(K:∀b w,Sep z (blk b zs T::G') w->∀x,Fr n ds ((d,Y b)::L') x->BS P N X R (.o ops j k) x w):
  ∃p',q=some ⟨L',G',p',al,al,ob⟩/\∀w,Sep z G' w->∀x,Fr n ds L' x->BS P N X R p' x w:=by
 unfold alc at h;split at h
 ·rename_i L1 G1 p a b u
  split at h
  ·rename_i l o m k1 t
   obtain rfl:=SP t;split at h
   ·rename_i d1 i
    split at h
    ·rename_i e1 f
     split at h
     ·rename_i e s
      rw[E5] at h;simp only[Ael,AlR.mk.injEq] at h;obtain ⟨rfl,rfl,rfl,rfl,rfl,rfl,rfl,rfl,rfl,rfl,rfl⟩:=h;refine ⟨_,Z,λw H=>AR i (Cb H f (zs:=e.toList) (by simpa using s)) ?_⟩;rintro _ c ⟨b,rfl,g⟩;exact K b c g
     cases h
    ·rename_i e1 v f
     split at h
     ·rename_i y r
      rw[E5] at h;simp only[Ael,AlR.mk.injEq] at h;obtain ⟨rfl,rfl,rfl,rfl,rfl,rfl,rfl,rfl,rfl,rfl,rfl⟩:=h;refine ⟨_,Z,λw H=>AR i (G0 H f r (P5 _)) ?_⟩;rintro _ c ⟨b,rfl,g⟩;exact K b c g
     cases h
    cases h
   cases h
  cases h
 cases h
theorem Za(m:Nat)(hs:List Nat){L':List (Nat×Value)}{G:List Pt}{G':List Ai}{p:Pos}{c:List Oper}{zs:List Value}{al:List Nat}{F:List Ai}(H:Sep z Γ w)[r:Rf Γ G F](h:alc P n (SR F (go P true n m hs [] L G p true [] none))=some ⟨L',G',ops,c,k,d,zs,T,none,al,al⟩)
  (K:∀b w,Sep z (blk b zs T::G') w->∀x,Fr n ds ((d,Y b)::L') x->BS P N X R (.o ops c k) x w):∀x,Fr n ds L x->BS P N X R p x w:=by
 obtain ⟨p',f,i⟩:=Aa6 h K;obtain ⟨a,G1,j,g,rfl⟩:=NI f;exact Im (UJ z F) m j Z g trivial i w (r.e▸H)
theorem gr(K:∀x,Fr n ds L x->R x w):∀x,Fr n ds L x->BS P N X R .r x w:=K
end
end
structure Sup where
 gen:Int
 epoch:Int
 pages:Int
 start:Int
 len:Int
 head:Int
 seq:Int
def Sup.list(s:Sup):List Int:=[s.gen,s.epoch,s.pages,s.start,s.len,s.head,s.seq]
def Sup.cells(s:Sup):List Value:=[.int .i64 s.gen,.int .i64 s.epoch,.int .i64 s.pages,.int .i64 s.start,.int .i64 s.len,.int .i64 s.head,.int .i64 s.seq]
def Sup.Ok(s:Sup)(n:Int):Prop:=(∀x∈s.list,0<=x/\x<=1099511627776)/\16<=s.pages/\s.pages<=1024/\2+s.pages<=s.start/\64<=s.len/\s.start<=n-s.len/\s.len<=n/\s.head<s.len
instance(s:Sup)(n:Int):Decidable (s.Ok n):=by unfold Sup.Ok;exact inferInstance
theorem Sup.get{s:Sup}{n:Int}(h:s.Ok n):(0<=s.gen/\s.gen<=1099511627776)/\(0<=s.epoch/\s.epoch<=1099511627776)/\(0<=s.pages/\s.pages<=1099511627776)/\(0<=s.start/\s.start<=1099511627776)/\(0<=s.len/\s.len<=1099511627776)/\(0<=s.head/\s.head<=1099511627776)/\(0<=s.seq/\s.seq<=1099511627776):=by
 have:=h.1;simpa [Sup.list] using this

structure Dsk where
 n:Nat
 dur:Nat->List UInt8
 ver:Nat->List (List UInt8)
 f1:Int
 f2:Int
 f3:Int
 cut:Bool
 left:Int
def Dsk.cont(D:Dsk)(i:Nat):List UInt8:=(D.ver i).getLast?.getD (D.dur i)
def Bf(f:Int):Int:=if f=0 then 0 else f-1
structure Ent where
 key:Nat
 v:Value
 pvs:List Value
 ps:List (List UInt8)
 born:Nat
def Ent.ie(e:Ent):IE:=((e.key:Int),e.v,e.born)
def Ent.row(e:Ent):Ai:=grow 46 1 e.v e.pvs.length e.pvs
def Ent.Ok(hq:Hp)(e:Ent):Prop:=e.pvs.length=e.ps.length/\e.ps≠[]/\∀(j:Nat) (pv:Value) (p:List UInt8),e.pvs[j]?=some pv->e.ps[j]?=some p->p.length=256/\rdH 1 pv 256 (p.map u8) hq
def poolA(hq:Hp):Ai:=λh=>CJ hq h
structure Dsk.Ok(D:Dsk):Prop where
 n1:1<=D.n
 n2:D.n<=4096
 dur:∀i,i<D.n->(D.dur i).length=256
 ver:∀i,i<D.n->∀p∈D.ver i,p.length=256
 f1:0<=D.f1/\D.f1<=1099511627776
 f2:0<=D.f2/\D.f2<=1099511627776
 f3:0<=D.f3/\D.f3<=1099511627776
 left:0<=D.left/\D.left<=1099511627776
structure Dsk.In(D:Dsk)(bs:List UInt8)(es:List Ent)(clk:Nat)(hq:Hp):Prop where
 len:bs.length=D.n*256
 own:∀i,i<D.n->(bs.drop (i*256)).take 256=D.dur i
 ent:∀e∈es,e.key<D.n/\e.ps=D.ver e.key/\e.Ok hq
 all:∀i,i<D.n->D.ver i≠[]->∃e∈es,e.key=i
 nodup:(es.map Ent.key).Nodup
 born:(es.map Ent.born).Nodup
 clk:∀e∈es,e.born<clk
def EY(pd bd m:Nat)(D:Dsk)(f0:Int)(bs:List UInt8)(es:List Ent)(clk:Nat)(hq:Hp):List Ai:=
  [blk pd [.slice (some ⟨bd,0,none⟩) (D.n*256) (D.n*256),.map (some m),.int .i64 f0,.int .i64 D.f1,.int .i64 D.f2,.int .i64 D.f3,.bool D.cut,.int .i64 D.left] 98,
   blk bd (bs.map u8) 5,AH m (es.map Ent.ie) clk,poolA hq,seps (es.map Ent.row)]
def diskA(pd:Nat)(D:Dsk):Ai:=λh=>∃(bd m:Nat) (f0:Int) (bs:List UInt8) (es:List Ent) (clk:Nat) (hq:Hp),(D.Ok/\D.In bs es clk hq)/\seps (EY pd bd m D f0 bs es clk hq) h
theorem diskA.ok{pd:Nat}{D:Dsk}(a:diskA pd D h):D.Ok:=by
 obtain ⟨_,_,_,_,_,_,_,hp,_⟩:=a;exact hp.1
structure DskX where
 bd:Nat
 m:Nat
 f0:Int
 bs:List UInt8
 es:List Ent
 clk:Nat
 hq:Hp
theorem Sep.disk{w:World}{pd:Nat}{D:Dsk}(H:Sep z (diskA pd D::Γ) w):∃bd m f0 bs es clk hq,D.Ok/\D.In bs es clk hq/\Sep z (EY pd bd m D f0 bs es clk hq++Γ) w:=by
 obtain ⟨x,⟨b,c⟩,H⟩:=H.into (σ:=DskX) (p:=λx=>D.Ok/\D.In x.bs x.es x.clk x.hq) (As:=λx=>EY pd x.bd x.m D x.f0 x.bs x.es x.clk x.hq)
  (λh a=>by obtain ⟨bd,m,f0,bs,es,clk,hq,hp,hs⟩:=a;exact ⟨⟨bd,m,f0,bs,es,clk,hq⟩,hp,hs⟩)
 exact ⟨_,_,_,_,_,_,_,b,c,H⟩
theorem Sep.toDisk{w:World}{pd bd:Nat}{D:Dsk}{f0:Int}{bs:List UInt8}{es:List Ent}{clk:Nat}{hq:Hp}(H:Sep z (EY pd bd m D f0 bs es clk hq++Γ) w)(b:D.Ok)(c:D.In bs es clk hq):Sep z (diskA pd D::Γ) w:=
 H.shut.mono 0 Z (λh a=>⟨_,_,_,_,_,_,_,⟨b,c⟩,a⟩)
theorem get_ent:∀(es:List Ent) (k:Nat),(es.map Ent.key).Nodup->(CO (es.map Ent.ie) (k:Int)=none/\∀e∈es,e.key≠k)\/∃(i:Nat) (e:Ent),es[i]?=some e/\e.key=k/\CO (es.map Ent.ie) (k:Int)=some e.v
 | [],k,_=>.inl ⟨Z,λe h=>by cases h⟩
 | e::es,k,hn=>by
  simp only[AeJ,Afi] at hn;simp only[AeJ,CO,Ent.ie];by_cases q:(k:Int)=(e.key:Int)
  ·exact .inr ⟨0,e,Z,by omega,by rw[if_pos q]⟩
  rw[if_neg q];rcases get_ent es k hn.2 with ⟨h1,h2⟩|⟨i,e',h1,h2,h3⟩
  ·exact .inl ⟨h1,λe' h=>by
    rcases Aen.1 h with rfl|h
    ·intro q';exact q (by rw[q'])
    exact h2 e' h⟩
  exact .inr ⟨i+1,e',by simpa using h1,h2,h3⟩
theorem Rd.at{sz:Nat}{a:Option Addr}{c:Nat}{xs:List Value}{w:World}(r:Rd sz (.slice a n c) n xs w)(h:xs[j]?=some u):At a j u w:=by
 obtain ⟨b,c',e,_,_,_,d⟩:=r;cases e;exact d j u h
theorem FP(hs:seps Γ h)(hi:Γ[i]?=some A):∃h',A h'/\CJ h' h:=by
 obtain ⟨own,a⟩:=hs;exact ⟨_,a i A hi,λk o e=>(El e).2⟩
theorem Aa7{D:Dsk}{es:List Ent}{hq:Hp}(f:D.In B es m hq)(x:g<D.n):
  ∃v a,(CO (es.map Ent.ie) (g:Int)).getD (.slice none 0 0)=v/\a.length=(D.ver g).length/\(∀h,seps (es.map Ent.row) h->rdH 1 v a.length a h)/\
   (∀(j:Nat) (b:Value) (p:List UInt8),a[j]?=some b->(D.ver g)[j]?=some p->∀h,poolA hq h->rdH 1 b 256 (p.map u8) h):=by
 rcases get_ent es g f.nodup with ⟨l,s⟩|⟨i,e,hi,k,l⟩
 ·have t:D.ver g=[]:=by
   cases hvk:D.ver g with
   | nil=>rfl
   | cons p ps=>
    obtain ⟨e,k,d⟩:=f.all g x (by rw[hvk];simp);exact absurd d (s e k)
  exact ⟨.slice none 0 0,[],by simp[l],by rw[t];rfl,λh _=>rdH.nil 1 h,λj b p h=>by simp at h⟩
 obtain ⟨_,o,y,z,r⟩:=f.ent e (Aec hi);subst k;refine ⟨e.v,e.pvs,by simp[l],y.trans (congrArg _ o),λh hs=>?_,λj b p w hp h u=>((r j b p w (by rw[o];exact hp)).2).le u⟩;obtain ⟨h',q,c⟩:=FP hs (i:=i) (A:=e.row) (by rw[Aeo,hi];rfl);exact (grow.rd q).le c
def IM(D:Dsk)(k:Nat):Nat->List UInt8
 | 0=>D.dur k
 | _+1=>D.cont k
theorem J0{D:Dsk}(h:D.ver n=[]):D.cont n=D.dur n:=by simp[Dsk.cont,h]
theorem Mv{D:Dsk}(a:n=(D.ver m).length)(h:(D.ver m)[n-1]?=some B):D.cont m=B:=by
 subst a;simp[Dsk.cont,List.getLast?_eq_getElem?,h]
theorem Dsk.In.f{D:Dsk}{bs:List UInt8}{es:List Ent}{clk:Nat}{hq:Hp}(h:D.In bs es clk hq)(a b c:Int)(d:Bool)(e:Int):Dsk.In {D with f1:=a,f2:=b,f3:=c,cut:=d,left:=e} bs es clk hq:=
 ⟨h.len,h.own,h.ent,h.all,h.nodup,h.born,h.clk⟩
theorem Dsk.Ok.f{D:Dsk}(h:D.Ok){a b c e:Int}{d:Bool}(j:0<=a/\a<=1099511627776)(k:0<=b/\b<=1099511627776)(g:0<=c/\c<=1099511627776)(i:0<=e/\e<=1099511627776):Dsk.Ok {D with f1:=a,f2:=b,f3:=c,cut:=d,left:=e} :=
 ⟨h.n1,h.n2,h.dur,h.ver,j,k,g,i⟩
theorem Fg(h:0<=t/\t<=1099511627776):0<=Bf t/\Bf t<=1099511627776:=by unfold Bf;split<;>omega
theorem Dsk.cont_len{D:Dsk}(h:D.Ok)(hi:i<D.n):(D.cont i).length=256:=by
 unfold Dsk.cont
 cases hl:(D.ver i).getLast? with
 | none=>exact h.dur i hi
 | some p=>exact h.ver i hi p (List.mem_of_getLast? hl)
variable{D:Dsk}
abbrev stB(ps pd pt:Nat)(x:Sup)(lp:Value)(md:Nat)(un:Bool)(mo:Value):Ai:=blk ps [.pointer (some ⟨pd,0,none⟩),.pointer (some ⟨pt,0,none⟩),.int .i64 x.gen,.int .i64 x.epoch,.int .i64 x.pages,.int .i64 x.start,.int .i64 x.len,.int .i64 x.head,.int .i64 x.seq,lp,.map (some md),.bool un,mo] 136
abbrev lgB(pl pd pt:Nat)(s:Sup)(a q u:Int)(b nu:Bool):Ai:=blk pl [.pointer (some ⟨pd,0,none⟩),.pointer (some ⟨pt,0,none⟩),.int .i64 s.gen,.int .i64 s.epoch,.int .i64 s.pages,.int .i64 s.start,.int .i64 s.len,.int .i64 s.head,.int .i64 s.seq,.int .i64 a,.int .i64 q,.int .i64 u,.bool b,.bool nu] 244
theorem BQ:Elt prog 40 (.agg #[I 0,I 0,I 0,.slice none 0 0]) 4 48:=Elt.mk J Z U U
theorem A4:Elt prog 90 (.agg #[I 0,Ck []]) 2 24:=Elt.mk J Z U U
theorem CK:Elt prog 5 (u8 0) 1 1:=Elt.mk J Z U U
theorem Ch:Elt prog 77 (.agg #[I 0,I 0,I 0,I 0,I 0,I 0]) 6 48:=Elt.mk J Z U U
theorem BA:Elt prog 3 (I 0) 1 8:=Elt.mk J Z U U
theorem FG:Elt prog 262 (.agg #[I 0,I 0]) 2 16:=Elt.mk J Z U U
theorem Fw:Elt prog 159 (.agg #[I 0,.slice none 0 0]) 2 32:=Elt.mk J Z U U
theorem DA:Elt prog 161 (.agg #[I 0,I 0,.slice none 0 0]) 3 40:=Elt.mk J Z U U
theorem KE:Elt prog 46 (.slice none 0 0) 1 24:=Elt.mk J Z U U
theorem CX:Cn prog 99 [I t,I s] [] (λv Γ=>v=.bool (decide (0<=t/\t<=s))/\Γ=[]):=by
 intro z R w H;refine Ae func99 Z ntmps99 Z (Z0 10 [0] Z (Al 7 Z (λa=>?_) (λa=>?_)))
 ·refine Z0 8 [0] Z (Zr Z ?_);exact ⟨_,⟨congrArg Value.bool (by rw[Aew];simp<;>omega),Z⟩,H⟩
 refine Zc 8 Z (Zr Z ?_);exact ⟨_,⟨congrArg Value.bool (by rw[Aew];simp<;>omega),Z⟩,H⟩
theorem KF(pd bd m N:Nat)(f0 b c d lf:Int)(a:Bool)(hN:N<=9223372036854775807):Cn prog 90 [Y pd] [blk pd [.slice (some ⟨bd,0,none⟩) N N,.map (some m),I f0,I b,I c,I d,.bool a,I lf] 98] (λv Γ=>v=I ((N:Int)/256)/\Γ=[blk pd [.slice (some ⟨bd,0,none⟩) N N,.map (some m),I f0,I b,I c,I d,.bool a,I lf] 98]):=by
 intro z R w H;refine Ae func90 Z ntmps90 Z (Z3 17 [0,0,0] [(N:Int)/256] H Z U (Zr Z ?_));exact ⟨_,⟨Z,Z⟩,H⟩
theorem P7{lf:Int}{x k:Int}(hN:j<=9223372036854775807):Cn prog 147 [Y n,I x,I k] [blk n [.slice (some ⟨i,0,none⟩) j j,.map (some m),I t,I s,I p,I q,.bool b,I lf] 98] (λv Γ=>v=.bool (decide (0<=x/\0<k/\x<(j:Int)/256/\k<=(j:Int)/256-x))/\Γ=[blk n [.slice (some ⟨i,0,none⟩) j j,.map (some m),I t,I s,I p,I q,.bool b,I lf] 98]):=by
 intro z R w H;refine Ae func147 Z ntmps147 Z (Z0 10 [0] Z (Al 9 Z (λa=>?_) (λa=>?_)))
 ·refine Z0 4 [0] Z (Al 13 Z (λc=>?_) (λc=>?_))
  ·refine Zc 2 Z (z_E_ Z (call90 _) (KF _ _ _ _ _ _ _ _ _ _ U) H ?_);intro w H;refine Z0 3 [0] Z (Al 19 Z (λd=>?_) (λd=>?_))
   ·refine Zc 2 Z (z_E_ Z (call90 _) (KF _ _ _ _ _ _ _ _ _ _ U) H ?_);intro w H;refine Z1 8 [0] [((j:Int)/256)-x] Z U (Zr Z ?_);exact ⟨_,⟨congrArg Value.bool (by first|(rw[eq_comm,decide_eq_false_iff_not];omega)|(rw[Aew];simp<;>omega)),Z⟩,H⟩
   refine Zc 11 Z (Zr Z ?_);exact ⟨_,⟨congrArg Value.bool (by first|(rw[eq_comm,decide_eq_false_iff_not];omega)|(rw[Aew];simp<;>omega)),Z⟩,H⟩
  refine Zc 17 Z (Zr Z ?_);exact ⟨_,⟨congrArg Value.bool (by first|(rw[eq_comm,decide_eq_false_iff_not];omega)|(rw[Aew];simp<;>omega)),Z⟩,H⟩
 refine Zc 21 Z (Zr Z ?_);exact ⟨_,⟨congrArg Value.bool (by first|(rw[eq_comm,decide_eq_false_iff_not];omega)|(rw[Aew];simp<;>omega)),Z⟩,H⟩
theorem SS{lf:Int}:Cn prog 149 [Y n] [blk n [.slice (some ⟨i,0,none⟩) j j,.map (some m),I t,I s,I p,I q,.bool b,I lf] 98] (λv Γ=>v=.bool (b&&decide (lf=0))/\Γ=[blk n [.slice (some ⟨i,0,none⟩) j j,.map (some m),I t,I s,I p,I q,.bool b,I lf] 98]):=by
 intro z R w H;refine Ae func149 Z ntmps149 Z (Z2 12 [6,0,0] H Z (FO 7 Z (λa=>?_) (λa=>?_)))
 ·refine Z2 10 [7,0,0,0] H Z (Zr Z ?_);exact ⟨_,⟨congrArg Value.bool (by simp_all),Z⟩,H⟩
 refine Zc 10 Z (Zr Z ?_);exact ⟨_,⟨congrArg Value.bool (by simp_all),Z⟩,H⟩
theorem UM{lf:Int}(c:0<=s/\s<=9223372036854775807):Cn prog 148 [Y n,I 1] [blk n [.slice (some ⟨i,0,none⟩) j j,.map (some m),I t,I s,I p,I q,.bool b,I lf] 98] (λv Γ=>v=.bool (decide (s=1))/\Γ=[blk n [.slice (some ⟨i,0,none⟩) j j,.map (some m),I t,I (if s=0 then 0 else s-1),I p,I q,.bool b,I lf] 98]):=by
 intro z R w H;refine Ae func148 Z ntmps148 Z (Z3 17 [2,4,1,1,3,0,0,0] [] H Z U (Af Z (λd=>?_) (λd=>?_)))
 ·refine Zc 6 Z (Zr Z ?_);exact ⟨[blk n [.slice (some ⟨i,0,none⟩) j j,.map (some m),I t,I s,I p,I q,.bool b,I lf] 98],⟨congrArg Value.bool (by first|(rw[Aew];simp<;>omega)|(simp_all<;>omega)),by simp_all⟩,H⟩
 refine Zc 3 Z (BH 10 J J (AZ H λw a=>?_));have H:=a.l1;refine EQ 10 [2,4,1,1,3,0,0,2,4,1,1,3] [s-1] H Z J U (CF (gw (Z5 16 [0,2,4,1,1,3,0,0,0] [] H Z U ?_)));intro w H;refine Zr Z ?_;exact ⟨[blk n [.slice (some ⟨i,0,none⟩) j j,.map (some m),I t,I (s-1),I p,I q,.bool b,I lf] 98],⟨congrArg Value.bool (by first|(rw[Aew];simp<;>omega)|(simp_all<;>omega)),by simp_all⟩,H⟩
theorem UN{lf:Int}(a:0<=p/\p<=9223372036854775807):Cn prog 148 [Y n,I 2] [blk n [.slice (some ⟨i,0,none⟩) j j,.map (some m),I t,I s,I p,I q,.bool b,I lf] 98] (λv Γ=>v=.bool (decide (p=1))/\Γ=[blk n [.slice (some ⟨i,0,none⟩) j j,.map (some m),I t,I s,I (if p=0 then 0 else p-1),I q,.bool b,I lf] 98]):=by
 intro z R w H;refine Ae func148 Z ntmps148 Z (Z3 17 [2,4,1,2,4,0,0,0] [] H Z U (Af Z (λd=>?_) (λd=>?_)))
 ·refine Zc 6 Z (Zr Z ?_);exact ⟨[blk n [.slice (some ⟨i,0,none⟩) j j,.map (some m),I t,I s,I p,I q,.bool b,I lf] 98],⟨congrArg Value.bool (by first|(rw[Aew];simp<;>omega)|(simp_all<;>omega)),by simp_all⟩,H⟩
 refine Zc 3 Z (BH 10 J J (AZ H λw c=>?_));have H:=c.l1;refine EQ 10 [2,4,1,2,4,0,0,2,4,1,2,4] [p-1] H Z J U (CF (gw (Z5 16 [0,2,4,1,2,4,0,0,0] [] H Z U ?_)));intro w H;refine Zr Z ?_;exact ⟨[blk n [.slice (some ⟨i,0,none⟩) j j,.map (some m),I t,I s,I (p-1),I q,.bool b,I lf] 98],⟨congrArg Value.bool (by first|(rw[Aew];simp<;>omega)|(simp_all<;>omega)),by simp_all⟩,H⟩
theorem UO{lf:Int}(c:0<=q/\q<=9223372036854775807):Cn prog 148 [Y n,I 3] [blk n [.slice (some ⟨i,0,none⟩) j j,.map (some m),I t,I s,I p,I q,.bool b,I lf] 98] (λv Γ=>v=.bool (decide (q=1))/\Γ=[blk n [.slice (some ⟨i,0,none⟩) j j,.map (some m),I t,I s,I p,I (if q=0 then 0 else q-1),.bool b,I lf] 98]):=by
 intro z R w H;refine Ae func148 Z ntmps148 Z (Z3 17 [2,4,1,3,5,0,0,0] [] H Z U (Af Z (λd=>?_) (λd=>?_)))
 ·refine Zc 6 Z (Zr Z ?_);exact ⟨[blk n [.slice (some ⟨i,0,none⟩) j j,.map (some m),I t,I s,I p,I q,.bool b,I lf] 98],⟨congrArg Value.bool (by first|(rw[Aew];simp<;>omega)|(simp_all<;>omega)),by simp_all⟩,H⟩
 refine Zc 3 Z (BH 10 J J (AZ H λw a=>?_));have H:=a.l1;refine EQ 10 [2,4,1,3,5,0,0,2,4,1,3,5] [q-1] H Z J U (CF (gw (Z5 16 [0,2,4,1,3,5,0,0,0] [] H Z U ?_)));intro w H;refine Zr Z ?_;exact ⟨[blk n [.slice (some ⟨i,0,none⟩) j j,.map (some m),I t,I s,I p,I (q-1),.bool b,I lf] 98],⟨congrArg Value.bool (by first|(rw[Aew];simp<;>omega)|(simp_all<;>omega)),by simp_all⟩,H⟩
theorem Xn{a c lf:Int}(i:Nat)(hN:e<=9223372036854775807)(hi:(i+1)*256<=e):Cn prog 152 [Y n,I (i:Int)] [blk n [.slice (some ⟨j,0,none⟩) e e,.map (some m),I t,I s,I a,I c,.bool b,I lf] 98] (λv Γ=>v=.slice (some ⟨j,i*256,none⟩) 256 (e-i*256)/\Γ=[blk n [.slice (some ⟨j,0,none⟩) e e,.map (some m),I t,I s,I a,I c,.bool b,I lf] 98]):=by
 intro z R w H;refine Ae func152 Z ntmps152 Z (Z3 16 [0,0,0] [(i:Int)*256,(i:Int)+1,((i:Int)+1)*256] H Z U (Ab Z (BL Z (z:=1) (p:=(i*256)) (q:=((i+1)*256)) (o':=i*256) (l':=256) (c':=e-i*256) J Z (.inr ⟨_,_,_,Z,Z,U⟩) (.inr ⟨_,_,_,Z,Z,U⟩) U U U U U U) (Zc 4 Z (Zr Z ?_))));exact ⟨_,⟨Z,Z⟩,H⟩
section
abbrev FX(ro:Option Nat):Fence:= {Fence.wide with round:=ro}
def RW(P:Program)(ro:Option Nat)(c:Code)(Q:Exit->Act->World->Prop)(a:Act)(w:World):Prop:=c.wpIn (FX ro) 0 P Q a w
section
variable{P:Program}{ro:Option Nat}{N R:Act->World->Prop}{X:Nat->Act->World->Prop}{a:Act}{w:World}{n:Nat}{ds:List Deferred}{L:List (Nat×Value)}
theorem CS{x y:Code}(h:∀a,Fr n ds L a->RW P ro x (Qp (λa w=>RW P ro y (Qp N X R) a w) X R) a w):∀a,Fr n ds L a->RW P ro (Code.seq x y) (Qp N X R) a w:=λa b=>
 wpIn_seq (wpIn_mono (h a b) λe a w q=>by cases e<;>exact q)
theorem Gs(h:∀a,Fr n ds L a->N a w):∀a,Fr n ds L a->RW P ro Code.skip (Qp N X R) a w:=λa b=>wpIn_skip (h a b)
theorem LI(h:∀a,Fr n ds L a->X m a w):∀a,Fr n ds L a->RW P ro (Code.exit m) (Qp N X R) a w:=λa b=>wpIn_exit (h a b)
theorem D9{c:Code}(h:∀a,Fr n ds L a->RW P ro c (Qp N (upd X m N) R) a w):∀a,Fr n ds L a->RW P ro (Code.block m c) (Qp N X R) a w:=λa b=>
 wpIn_block (wpIn_mono (h a b) λe a w q=>by cases e<;>exact q)
theorem XY{c:Operand}{x y:Code}(d:ev L c=some (.bool true))(h:∀a,Fr n ds L a->RW P ro x (Qp N X R) a w):∀a,Fr n ds L a->RW P ro (Code.cond c x y) (Qp N X R) a w:=λa b=>wpIn_cond_true (b.ev d) (h a b)
theorem Iq{c:Operand}{x y:Code}(d:ev L c=some (.bool false))(h:∀a,Fr n ds L a->RW P ro y (Qp N X R) a w):∀a,Fr n ds L a->RW P ro (Code.cond c x y) (Qp N X R) a w:=λa b=>wpIn_cond_false (b.ev d) (h a b)
theorem Ji{c:Operand}{x y:Code}(d:ev L c=some (.bool b))(f:b=true->∀a,Fr n ds L a->RW P ro x (Qp N X R) a w)(e:b=false->∀a,Fr n ds L a->RW P ro y (Qp N X R) a w):∀a,Fr n ds L a->RW P ro (Code.cond c x y) (Qp N X R) a w:=by
 cases b with
 | true=>exact XY d (f Z)
 | false=>exact Iq d (e Z)
theorem Aa8{c:Operand}{x y:Code}{p:Prop}[hp:Decidable p](b:ev L c=some (.bool (decide p)))(e:p->∀a,Fr n ds L a->RW P ro x (Qp N X R) a w)(d:¬p->∀a,Fr n ds L a->RW P ro y (Qp N X R) a w):∀a,Fr n ds L a->RW P ro (Code.cond c x y) (Qp N X R) a w:=
 Ji b (λh=>e (of_decide_eq_true h)) (λh=>d (of_decide_eq_false h))
theorem LJ{c:Code}{σ:Type}(i:σ->List (Nat×Value))(G:σ->World->Prop)(m:σ->Nat)(r:σ)
  (h₀:∀a,Fr n ds L a->Fr n ds (i r) a)(g₀:G r w)
  (g:∀s w,G s w->∀a,Fr n ds (i s) a->RW P ro c (Qp (λa' h=>∃y,Fr n ds (i y) a'/\G y h/\m y<m s) X R) a w):∀a,Fr n ds L a->RW P ro (Code.loop c) (Qp N X R) a w:=by
 intro a hF b k cs q hb t;have key:∀n' s a w,m s=n'->Fr n ds (i s) a->G s w->
   ∃e a' h,Qp N X R e a' h/\ArrivesIn (Machine.fenced P (FX ro)) P (lone (b.atR a (.code c:: .inLoop c::k)) cs w) b k cs e a' h:=by
  intro n'
  induction n' using Nat.strongRecOn with
  | _ n' ih=>
   intro s a w hn hI hG;obtain ⟨e,o,j,hq,d⟩:=g s w hG a hI b (.inLoop c::k) cs q hb t
   cases e with
   | normal=>
    obtain ⟨s₁,p,z,u⟩:=hq;obtain ⟨e₂,a₂,w₂,v,f⟩:=ih (m s₁) (hn▸u) s₁ o j Z p z;exact ⟨e₂,a₂,w₂,v,.of_steps (StepsIn.trans d (.one (fenced_calm hb t Z) stepR_inLoop)) f⟩
   | exit id=>exact ⟨.exit id,o,j,hq,.pass (x:=.inLoop c) Z (λ_ _=>.inl O) d⟩
   | ret=>exact ⟨.ret,o,j,hq,.pass (x:=.inLoop c) Z (λ_ _=>.inl O) d⟩
   | goto l=>exact hq.elim
   | panic ch=>exact hq.elim
   | outgrown=>exact hq.elim
 obtain ⟨e,a',h,hq,d⟩:=key _ r a w Z (h₀ a hF) g₀;exact ⟨e,a',h,hq,.of_steps (.one (fenced_calm hb t Z) stepR_loop) d⟩

def De(o:Oper):Bool:=match o.op with| .defer _=>false|_=>true
theorem Rv{o:Oper}(h:De o=true):∀c,o.op≠ .defer c:=λc e=>by rw[De,e] at h;cases h
theorem NJ(o:Oper)(h:De o=true)(ρ:Operand->Value):Oper.semAt ro ρ o=execOp ρ o:=by
 cases ro with
 | none=>rfl
 | some l=>exact Oper.semAt_some l ρ o (Rv h)
theorem UP{f:FuncId}{args:Array Value}{E:Ending->World->Prop}(h:Calls P f args w E):CallsIn (FX ro) m P f args w E:=callsIn_wide.2 h
theorem XZ{a:String}{args:Array Value}(h:Rows P a args w K):RowsIn (FX ro) m P a args w K:=λc cs _=>
 let ⟨v,w',r,s⟩:=h c cs;⟨v,w',r,stepsIn_wide.2 s⟩
theorem P8{o:Oper}(c:De o=true){K:Act->World->Prop}(h:o.wp P a w K (Qp N X R)):o.wpIn (FX ro) 0 P a w K (Qp N X R):=by
 refine ⟨λ_ _=>trivial,?_⟩;rw[show (FX ro).round=ro from Z,NJ o c];unfold Oper.wp at h
 cases hr:(execOp a.eval o).run P w with
 | ok x w'=>
  rw[hr] at h;cases x<;>simp only[Oper.upon,Oper.uponIn] at h ⊢ <;>first
   | exact h
   | exact h.elim
   | exact ⟨λq=>(by cases q),UP (Agu h λe b q=>by cases e<;>exact q)⟩
   | exact ⟨λq=>(by cases q),XZ h⟩
 | halt x w'=>
  rw[hr] at h;cases x<;>simp only[Oper.upon,Oper.uponIn] at h ⊢ <;>first
   | exact h
   | exact h.elim
theorem ST{Q:Exit->Act->World->Prop}{N R:Act->World->Prop}{X:Nat->Act->World->Prop}(b:Q=Qp N X R):¬LetsOut Q:=by
 subst b;rintro ⟨a,w,h⟩;exact h
theorem LK{ops:Array Oper}:∀(l:List Oper) (a:Act) (w:World),l.all De=true->wpList P ops (Qp N X R) l a w->wpListIn (FX ro) 0 P ops (Qp N X R) l a w
 | [],_,_,_,h=>h
 | o::rest,a,w,hd,h=>by
  simp only[List.all_cons,AeC] at hd;unfold wpList at h;unfold wpListIn;split
  ·rename_i hw
   rw[if_pos hw] at h;rcases h with h|⟨_,h⟩
   ·exact Oper.wpIn_mono (λa w q=>LK rest a w hd.2 q) (P8 hd.1 h)
   exact absurd h (ST Z)
  rename_i hw;rw[if_neg hw] at h;exact ⟨λ_ _=>trivial,LK rest _ _ hd.2 h⟩
theorem Ce{id:Nat}{ops:List Oper}(h:∀a,Fr n ds L a->wpList P ops.toArray (Qp N X R) ops a w)(c:ops.all De=true:=by rfl):∀a,Fr n ds L a->RW P ro (Code.region id ops.toArray false) (Qp N X R) a w:=λa b=>
 wpIn_region_lit (LK ops a w c (h a b))
theorem Ac2{ops:Array Oper}(d:ops.toList.all De=true){K:Act->World->Prop}(h:wpOp P ops (Qp N X R) i K a w):wpOpIn (FX ro) 0 P ops (Qp N X R) i K a w:=by
 unfold wpOp at h;unfold wpOpIn;split
 ·rename_i e;rw[e] at h;exact h
 rename_i o e;rw[e] at h;simp only at h;have c:De o=true:=Af2.1 d o (by
  have:=Array.mem_of_getElem? e;simpa using this)
 split
 ·rename_i b
  rw[if_pos b] at h;rcases h with h|⟨_,h⟩
  ·exact P8 c h
  exact absurd h (ST Z)
 rename_i b;rw[if_neg b] at h;exact ⟨λ_ _=>trivial,h⟩
theorem NK{ops:Array Oper}(hd:ops.toList.all De=true):∀(fuel:Nat) (listed:Array Bool) (a:Act) (w:World),wpAny P .any ops (Qp N X R) fuel listed a w->wpAnyIn (FX ro) 0 P .any ops (Qp N X R) fuel listed a w
 | 0,_,_,_,h=>h
 | fuel+1,_,_,_,h=>⟨h.1,λi hi=>wpOpIn_mono (λa w q=>NK hd fuel _ a w q) (Ac2 hd (h.2 i hi))⟩
theorem IN{id:Nat}{ops:List Oper}(S:World->Prop)(k:Nat)(c:ops.length=k)(e:P.follows .mixedOrders=true)
  (h:∀b,Ext No w b->b.heap.size=w.heap.size->∀a,Fr n ds L a->GB P ops (Qp N X R) S k (Array.replicate k false) a b)(f:ops.all De=true:=by rfl):∀a,Fr n ds L a->RW P ro (Code.region id ops.toArray true) (Qp N X R) a w:=λa d=>
 wpIn_region_any e (NK (by simpa using f) _ _ _ _ (Ih (S:=S) _ _ _ _ (by have:=h _ (Ext.drawn No w) Z a d (Dc.start _ _) (by simp[c]);simpa [c] using this)))
theorem SU{id:Nat}{ops:List Oper}(C:World->Prop)(g:P.follows .mixedOrders=true)(f:Region.lexB .any ops.toArray=true)(e:C w.drew)
  (h:∀a,Fr n ds L a->wpQuiet P ops.toArray C (λa'=>∀b,C b->N a' b) ops a)(j:ops.all De=true:=by rfl):∀a,Fr n ds L a->RW P ro (Code.region id ops.toArray true) (Qp N X R) a w:=λa i=>by
 refine wpIn_region_any g (NK (by simpa using j) _ _ _ _ ?_);have c:=f;simp only[Region.lexB,AeC] at c;refine wpAny_of_quiet (C:=C) (Q:=λa'=>∀b,C b->N a' b) (λ_ b d h=>h b d) _ _ _ _ e ?_;have:=wpAnyQ_lex (C:=C) (md:=.any) c.1 ops.toArray.toList 0 (Array.replicate ops.toArray.size false) a O (by simpa using c.2) (h a i);simpa using this

section steps
variable{ops:List Oper}{Q:Exit->Act->World->Prop}{rest:List Oper}{o:Oper}{d:Nat}{v:Value}
theorem J1(h:∀a,Fr n ds L a->wpListIn (FX ro) 0 P ops.toArray (Qp N X R) ops a w):∀a,Fr n ds L a->RW P ro (Code.region m ops.toArray false) (Qp N X R) a w:=λa b=>wpIn_region_lit (h a b)
theorem Rw(h:∀a,Fr n ds L a->N a w):∀a,Fr n ds L a->wpListIn (FX ro) 0 P ops.toArray (Qp N X R) [] a w:=h
theorem Eq(g:BM ops L o.guard=true)(h:o.dst=some d)(e:Nat.blt d n=true)(b:Au P (· =w) n ds L o v)(K:∀a',Fr n ds ((d,v)::L) a'->wpListIn (FX ro) 0 P ops.toArray Q rest a' w)(c:De o=true:=by rfl):∀a,Fr n ds L a->wpListIn (FX ro) 0 P ops.toArray Q (o::rest) a w:=by
 intro a f;unfold wpListIn;rw[if_pos (wantL_ok f g)];refine ⟨λ_ _=>trivial,?_⟩;rw[show (FX ro).round=ro from Z,NJ o c,b a f w Z,Oper.uponIn_value,h];exact K _ (f.put d v e)
theorem LL{l:Nat}{x:Operand}{args:List Operand}{vs:List Value}{tys:Array TypeId}{E:Ending->World->Prop}(u:BM ops L o.guard=true)(hd:o.dst=some d)(p:Nat.blt d n=true)
  (s:o.op=.call {callee:=.value x,args:=args.toArray,argTypes:=tys})(z:ev L x=some (.func (.yield l) #[] #[]))(g:evs L args=some vs)(k:YieldAt (FX none) 0 P l vs.toArray w E)
  (t:∀e i,E e i->∃v,e=.returned v/\∀a',Fr n ds ((d,v)::L) a'->wpListIn (FX ro) 0 P ops.toArray Q rest a' i):∀a,Fr n ds L a->wpListIn (FX ro) 0 P ops.toArray Q (o::rest) a w:=by
 intro a j;obtain ⟨r,f,b,c,k,y⟩:=k;have m:De o=true:=by rw[De,s]
 unfold wpListIn;rw[if_pos (wantL_ok j u)];refine ⟨λ_ _=>trivial,?_⟩;have e1:=j.evs g;have e2:=j.ev z;have h:(execOp a.eval o).run P w=.ok (.round l r f b c) w:=by
  unfold execOp;simp only[s,resolve,e2,Deferred.ofValue,invoke];simp only[go_sem,AeW,e1,AeQ,AeV,k];simpa using k
 rw[show (FX ro).round=ro from Z,NJ o m,h,Oper.uponIn_round];refine ⟨λq=>(by cases q),RoundIn.mono (show RoundIn (FX ro) 0 P l r f b c w E from y) λe i q=>?_⟩;obtain ⟨v,rfl,hK⟩:=t e i q;simp only[hd];exact hK _ (j.put d v p)
end steps
end

def It(P:Program)(gf:FuncId)(lb:List Value)(pre:List Ai)(vs:List (List Value)):Prop:=
 ∀(z:World) (l:Nat) (J_:Nat->List Ai),(∀i v,vs[i]?=some v->∀w,Sep z (pre++J_ i) w->YieldAt (FX none) 0 P l v.toArray w (λe w'=>e=.returned (.bool true)/\Sep z (pre++J_ (i+1)) w'))->
  ∀w,Sep z (pre++J_ 0) w->CallsIn (FX none) 0 P gf (#[Value.func (.yield l) #[] #[]]++lb.toArray) w (λe w'=>(∃v,e=.returned v)/\Sep z (pre++J_ vs.length) w')
theorem J2{P:Program}{gf:FuncId}{d:Func}{c:Code}{args:List Value}{w:World}{T:World->Prop}(i:P.funcs[gf]?=some d)(j:d.body=some c)(f:d.results= #[])(n:Nat)(g:d.ntmps=n)(b:Nat.ble args.length n=true)
  (h:∀a,Fr n [] (first 0 args) a->RW P none c (Qp (λa w=>a.defers=[]/\T w) ID (λa w=>a.defers=[]/\T w)) a w):CallsIn (FX none) 0 P gf args.toArray w (λe w'=>(∃v,e=.returned v)/\T w'):=by
 refine callsIn_of_wp i j trivial (wpIn_mono (h _ (by rw[g];exact Fr.start args n (by simpa using b))) λe a w q=>?_) Z
 cases e with
 | normal=>exact ⟨q.1,.tuple #[],by simp[results,f,go_sem],⟨_,Z⟩,q.2⟩
 | ret=>exact ⟨q.1,.tuple #[],by simp[results,f,go_sem],⟨_,Z⟩,q.2⟩
 | exit id=>exact q.elim
 | goto l=>exact q.elim
 | panic ch=>exact q.elim
 | outgrown=>exact q.elim
def mark(D:Nat):Deferred:= {target:=.collected D,args:= #[]}
def B5(st:LoopState)(fn:FuncId)(tmps:Array Value)(t:Nat)(assign body:Code)(D:Nat):Obj:=.loop {state:=st,pending:=none,fn,tmps,params:= #[t],assign,body,defers:=D}
theorem Sep.setObj{w:World}(i:Nat){b:Nat}{o:Obj}(o':Obj)(H:Sep z Γ w)(c:Γ[i]?=some (YtemljpjnhjnncaaGreatDoor.bk b o)):Sep z (Γ.set i (YtemljpjnhjnncaaGreatDoor.bk b o')) (w.putObj b o'):=by
 have e:=H.bk i c;have a:b<w.heap.size:=(Ae1.1 e).1;exact H.write i c Z Z Z (World.putObj_heap_same a) (λk d=>World.putObj_heap_other d)
theorem X0{P:Program}{N R:Act->World->Prop}{X:Nat->Act->World->Prop}{w:World}{n:Nat}{ds:List Deferred}{L:List (Nat×Value)}{g:Operand}{assign body:Code}{gf:FuncId}{vs:List Value}
  (J_:Nat->List Ai)(hg:ev L g=some (.func (.func gf) #[] V.toArray))(eg:∀args w,(callFunc gf args).run P w=.ok (.enter gf args) w)(ht:Nat.blt m n=true)(t:It P gf V Γ (vs.map λv=>[v]))(H:Sep z (J_ 0++Γ) w)
  (c:∀(ro:Option Nat) (i:Nat) (v:Value),vs[i]?=some v->∀w a,Fr n [] ((m,v)::L) a->
   RW P ro assign (Qp (λa1 w1=>w1=w/\∀(F:List Ai) (w:World),Sep z (J_ i++(Γ++F)) w->RW P ro body (Qp (λ_ s=>Sep z (J_ (i+1)++(Γ++F)) s) ID (λ_ _=>False)) a1 w) ID (λ_ _=>False)) a w)
  (K:∀D w',Sep z (YtemljpjnhjnncaaGreatDoor.bk D (.deferred (some []))::(J_ vs.length++Γ)) w'->∀a,Fr n (mark D::ds) L a->N a w'):
  ∀a,Fr n ds L a->(Code.rangeFunc g #[m] assign body).wp P (Qp N X R) a w:=by
 intro a p;refine (wpIn_wide (n:=0)).1 ?_;refine wpIn_rangeFunc ?_;intro fn _;have y:Fence.wide.round=none:=rfl;rw[y];obtain ⟨W1,j⟩:∃W1,(w.alloc (.deferred (some []))).alloc (B5 .ready fn a.tmps m assign body w.heap.size)=W1:=⟨_,Z⟩;obtain ⟨D,hD⟩:∃D,D=w.heap.size:=⟨_,Z⟩;obtain ⟨T,hT⟩:∃T:List Ai,T=[YtemljpjnhjnncaaGreatDoor.bk D (.deferred (some [])),YtemljpjnhjnncaaGreatDoor.bk (D+1) (B5 .ready fn a.tmps m assign body D)]:=⟨_,Z⟩;have H1:Sep z (Γ++(T++J_ 0)) W1:=by
  have h1:=H.new (b:=w.heap.size) (o:=.deferred (some [])) (Du w (.deferred (some []))) (Aei _) (by show (w.heap.push _)[w.heap.size]?=_;simp);have h2:=h1.new (b:=w.heap.size+1) (o:=B5 .ready fn a.tmps m assign body w.heap.size) (Du _ (B5 .ready fn a.tmps m assign body w.heap.size)) O (by
   show ((w.heap.push _).push _)[w.heap.size+1]?=_;rw[Ahb,if_pos O])
  have h3:Sep z (YtemljpjnhjnncaaGreatDoor.bk (w.heap.size+1) (B5 .ready fn a.tmps m assign body w.heap.size)::YtemljpjnhjnncaaGreatDoor.bk w.heap.size (.deferred (some []))::(J_ 0++Γ)) W1:=j▸h2;have h4:=(h3.pick 2 [1,0] Z);have h5:Sep z (T++(J_ 0++Γ)) W1:=by rw[hT,hD];exact h4
  exact (Sep.swap (As:=T++J_ 0) (Bs:=Γ) (by rw[Aeh];exact h5))
 refine ⟨w.heap.size+1,[mark w.heap.size],W1,{target:=.fn (.func gf) V.toArray,args:= #[.func (.yield (w.heap.size+1)) #[] #[]]},W1,gf,#[.func (.yield (w.heap.size+1)) #[] #[]]++V.toArray,W1,?_,?_,λ_ _=>trivial,?_,λq=>(by cases q),?_⟩
 ·rw[<-j];exact run_enterLoop_outer _ _ _ _ _
 ·simp only[resolve,p.ev hg]
  simp[go_sem]
 ·simp[invoke,go_sem,eg]
 rw[<-hD] at j ⊢;have d:∀{i:Nat} {w:World},Sep z (Γ++(T++J_ i)) w->Sep z (YtemljpjnhjnncaaGreatDoor.bk D (.deferred (some []))::YtemljpjnhjnncaaGreatDoor.bk (D+1) (B5 .ready fn a.tmps m assign body D)::(J_ i++Γ)) w:=λh=>by
  have:=h.swap;rw[Aeh,hT] at this;exact this
 have k:∀(i:Nat) (w:World),Sep z (YtemljpjnhjnncaaGreatDoor.bk D (.deferred (some []))::YtemljpjnhjnncaaGreatDoor.bk (D+1) (B5 .ready fn a.tmps m assign body D)::(J_ i++Γ)) w->Sep z (Γ++(T++J_ i)) w:=λi w h=>by
  have h':Sep z (T++(J_ i++Γ)) w:=by rw[hT];exact h
  exact (Sep.swap (As:=T++J_ i) (Bs:=Γ) (by rw[Aeh];exact h'))
 have key:=t z (D+1) (λi=>T++J_ i) ?_ W1 H1
 ·refine CallsIn.mono (show CallsIn Fence.wide 0 P gf _ W1 _ from key) ?_
  rintro e w2 ⟨⟨v,rfl⟩,H2⟩;simp only[Aef] at H2;have H2:=d H2;refine ⟨none,_,run_endLoop (H2.bk 1 Z) O,?_⟩;refine K D _ ?_ _ ⟨p.size,by show [mark D]++a.defers=_;rw[p.defers];rfl,p.get⟩;have H3:=H2.setObj 1 (.loop {state:=.exhausted,pending:=none,fn,tmps:=a.tmps,params:= #[m],assign,body,defers:=D}) Z;exact H3.pick 2 [0] Z
 intro i v hv w2 H2;rw[Aeo] at hv;obtain ⟨u,hu,rfl⟩:=Agx.1 hv;have H2:=d H2;have hy:=run_yield (P:=P) (args:=[u].toArray) (H2.bk 1 Z) O;refine ⟨fn,_,assign,body,hy,?_⟩;refine roundIn_of_wpIn (F:=FX none) trivial ?_;have a0:Fr n [] ((m,u)::L) {tmps:=(((#[m]:Array Tmp).zip [u].toArray).foldl (λtmps (x:Tmp×Value)=>tmps.setIfInBounds x.1 x.2) a.tmps),defers:=[]} :=by
  have h0:Fr n [] L {tmps:=a.tmps,defers:=[]} :=⟨p.size,Z,p.get⟩;have:=h0.put m u ht;simpa [Act.put] using this
 have hr:=c (some (D+1)) i u hu w2 _ a0;refine wpIn_mono (show assign.wpIn ((FX none).inRound (D+1)) 0 P _ _ w2 from hr) ?_;intro e a1 w1 q
 cases e with
 | normal=>
  obtain ⟨rfl,f⟩:=q;refine ⟨_,run_beginRound (H2.bk 1 Z) Z,?_⟩;have H3:=H2.setObj 1 (B5 .busy fn a.tmps m assign body D) Z;have H4:Sep z ([YtemljpjnhjnncaaGreatDoor.bk D (.deferred (some [])),YtemljpjnhjnncaaGreatDoor.bk (D+1) (B5 .busy fn a.tmps m assign body D)]++(J_ i++Γ)) _:=H3;have H5:=H4.swap;rw[Aeh] at H5;refine wpIn_mono (show body.wpIn ((FX none).inRound (D+1)) 0 P _ _ _ from f _ _ H5) ?_;intro e a3 s r
  cases e with
  | normal=>
   have H6:Sep z (J_ (i+1)++(Γ++[YtemljpjnhjnncaaGreatDoor.bk D (.deferred (some [])),YtemljpjnhjnncaaGreatDoor.bk (D+1) (B5 .busy fn a.tmps m assign body D)])) s:=r;rw[<-Aeh] at H6;have H7:Sep z (YtemljpjnhjnncaaGreatDoor.bk D (.deferred (some []))::YtemljpjnhjnncaaGreatDoor.bk (D+1) (B5 .busy fn a.tmps m assign body D)::(J_ (i+1)++Γ)) s:=H6.swap;refine ⟨_,_,run_endRound none (H7.bk 1 Z),Z,k _ _ ?_⟩;exact H7.setObj 1 (B5 .ready fn a.tmps m assign body D) Z
  | exit id=>exact r.elim
  | ret=>exact r.elim
  | goto l=>exact r.elim
  | panic ch=>exact r.elim
  | outgrown=>exact r.elim
 | exit id=>exact q.elim
 | ret=>exact q.elim
 | goto l=>exact q.elim
 | panic ch=>exact q.elim
 | outgrown=>exact q.elim

def KG(P:Program)(fn:Func)(R:Value->World->Prop)(a:Act)(w:World):Prop:=
 (a.defers=[]/\∃v,(results fn a.tmps).run P w=.ok v w/\R v w)\/∃D w',a.defers=[mark D]/\(Instr.takeDeferred D).run P w=.ok [] w'/\∃v,(results fn a.tmps).run P w'=.ok v w'/\R v w'
theorem NL{P:Program}{f:FuncId}{b:Func}{c:Code}{w:World}{R:Value->World->Prop}(p:P.funcs[f]?=some b)(r:b.body=some c)(n:Nat)(o:b.ntmps=n)(d:Nat.ble V.length n=true)
  (h:∀a,Fr n [] (first 0 V) a->c.wp P (Qp (KG P b R) ID (KG P b R)) a w):Calls P f V.toArray w (Ret R):=by
 refine (callsIn_wide (n:=0)).1 (callsIn_of_wp_marks p r trivial (wpIn_mono ((wpIn_wide (n:=0)).2 (h _ (by rw[o];exact Fr.start V n (by simpa using d)))) λe a w q=>?_) Z);have fin:KG P b R a w->LeavesInM Fence.wide 0 P b a.tmps (Ret R) a.defers .returning w:=λq=>by
  rcases q with ⟨j,v,i,g⟩|⟨D,k,j,m,v,i,g⟩
  ·rw[j];exact ⟨v,i,g⟩
  rw[j];exact ⟨by simp,.inl ⟨D,k,Z,m,v,i,g⟩⟩
 cases e with
 | normal=>exact fin q
 | ret=>exact fin q
 | exit id=>exact q.elim
 | goto l=>exact q.elim
 | panic ch=>exact q.elim
 | outgrown=>exact q.elim
theorem NM{P:Program}{b:Func}{R:Value->World->Prop}{n:Nat}{L:List (Nat×Value)}{w:World}{rs:List ResultVar}(f:b.results=rs.toArray)(vs:List Value)(c:EN P L w rs vs){v:Value}(d:GY vs=v)(h:R v w):∀a,Fr n [] L a->KG P b R a w:=λa e=>.inl (Fq f vs c d h a e)
theorem NN{P:Program}{b:Func}{R:Value->World->Prop}{n:Nat}{L:List (Nat×Value)}{w:World}(H:Sep z (YtemljpjnhjnncaaGreatDoor.bk m (.deferred (some []))::Γ) w){rs:List ResultVar}(d:b.results=rs.toArray)(vs:List Value)(e:∀w,EN P L w rs vs){v:Value}(f:GY vs=v)(h:∀w,Sep z Γ w->R v w):∀a,Fr n [mark m] L a->KG P b R a w:=λa c=>
 .inr ⟨m,w.putObj m (.deferred none),c.defers,run_takeDeferred (H.bk 0 Z),v,by rw[<-f];exact Hi c d (e _),h _ ((H.setObj 0 (.deferred none) Z).pick 1 [] Z)⟩
end
section
def GG(r m clk:Nat)(seen:List Nat):Ai:=bk r (.mapIter (some m) clk seen.toArray clk)
def Cl(l:List IE)(seen:List Nat):List IE:=l.filter λp=> !seen.contains p.2.2
theorem C7{l:List IE}{p:IE}(h:p∈Cl l R):p∈l/\p.2.2∉R:=by
 simpa [Cl] using h
theorem SV(l:List IE)(seen:List Nat):(l.map Cu).toArray.filter (λe=> !seen.toArray.contains e.born)=((Cl l seen).map Cu).toArray:=by
 simp[Cl,Agj,Function.comp_def];rfl
theorem EB{l:List IE}{p:IE}(h:p∈Cl l R):(Cl l (R++[p.2.2])).length<(Cl l R).length:=by
 obtain ⟨c,b⟩:=C7 h;unfold Cl;refine filter_lt _ _ (λx a=>?_) p ?_ ?_ l c
 ·simp only[List.contains_eq_mem,Aep,Bool.not_eq_true',decide_eq_false_iff_not,not_or] at a ⊢;exact a.1
 ·simpa using b
 simp
def SW:Option IE->Value
 | none=>.tuple #[.bool false]
 | some p=>.tuple #[.bool true,.int .i64 p.1,p.2.1]
def JN(seen:List Nat):Option IE->List Nat
 | none=>seen
 | some p=>seen++[p.2.2]
def nxP(l:List IE)(seen:List Nat):Option IE->Prop
 | none=>Cl l seen=[]
 | some p=>p∈Cl l seen
section
variable{P:Program}{C:World->Prop}{o:Oper}{w z:World}{Γ:List Ai}{n:Nat}{ds:List Deferred}{L:List (Nat×Value)}{x y:Operand}
theorem Px{l:List IE}(o:w.heap[r]?=some (.mapIter (some m) i R.toArray i))(hm:w.heap[m]?=some (.map (l.map Cu).toArray i))(c:∀p∈l,p.2.2<i)(ty:TypeId):
  ∃q:Option IE,nxP l R q/\∃a:World,(a=w\/a=w.drew)/\(Instr.next (Y r) false ty).run P w=.ok (SW q) {a with heap:=a.heap.setIfInBounds r (.mapIter (some m) i (JN R q).toArray i)} :=by
 have a0:r<w.heap.size:=(Ae1.1 o).1;have hE:∀x∈(l.map Cu).toArray.toList,x.born<i:=λx d=>by
  simp only[Aek] at d;obtain ⟨p,hp,rfl⟩:=d;exact c p hp
 simp only[Instr.next,getObj,Aev,Sem.run,o,hm,Result.andThen,next_test_false R.toArray _ i i hE (Aei _),Afs,if_false];rw[SV];have b:∀p∈Cl l R,p.2.2<i:=λp hp=>c p (C7 hp).1;generalize hG:Cl l R=G at b;have e1:((G.map Cu).toArray).filter (λx=>decide (x.born<i))=(G.map Cu).toArray:=Array.filter_eq_self.2 (λx d=>by
  simp only[List.mem_toArray,Aek] at d;obtain ⟨p,hp,rfl⟩:=d;exact decide_eq_true (b p hp))
 have e2:((G.map Cu).toArray).filter (λx=>decide (x.born>=i))= #[]:=by
  rw[Array.filter_eq_empty_iff];intro x d;simp only[List.mem_toArray,Aek] at d;obtain ⟨p,hp,rfl⟩:=d;have:=b p hp;simp[Cu];omega
 simp only[e1,e2,Array.append_empty];have h:∀u:World,u.heap=w.heap->({u with heap:=u.heap.setIfInBounds r (.mapIter (some m) i R.toArray i)} :World)=u:=λu hu=>by
  have:u.heap.setIfInBounds r (.mapIter (some m) i R.toArray i)=u.heap:=by
   rw[hu];apply Array.ext_getElem?;intro k;rw[Array.getElem?_setIfInBounds];split
   ·rename_i e;subst e;exact o.symm
   rfl
  rw[this]
 cases G with
 | nil=>
  refine ⟨none,hG,w,.inl Z,?_⟩;show _=Result.ok _ ({w with heap:=w.heap.setIfInBounds r (.mapIter (some m) i R.toArray i)} :World);rw[h w Z];simp[choose,Sem.run,Question.forced,SW]
 | cons p0 G=>
  have s:((((p0::G).map Cu).toArray).isEmpty)=false:=by simp[Array.isEmpty]
  simp only[s,Afs,if_false,Array.empty_append,Array.size_map];generalize hK:(p0::G)=K at hG;have y:0<K.length:=by rw[<-hK];simp
  have t:∃(j:Nat) (a:World),j<K.length/\(a=w\/a=w.drew)/\(choose (Question.mapNext ((K.map Cu).toArray).size)).run P w=.ok j a:=by
   by_cases hf:((K.map Cu).toArray).size<=1
   ·exact ⟨0,w,by omega,.inl Z,by simp only[choose,Sem.run,Question.forced,hf,decide_true,if_true]⟩
   rw[List.size_toArray,Aef] at hf ⊢;exact ⟨(Question.mapNext K.length).cut (w.tape w.drawn (Question.mapNext K.length)),w.drew,Nat.mod_lt _ y,.inr Z,by
    simp only[choose,Sem.run,Question.forced,decide_eq_true_eq,hf,if_false,Afs];rfl⟩
  obtain ⟨j,a,hj,n,f⟩:=t;have z:a.heap=w.heap:=by rcases n with rfl|rfl<;>rfl
  refine ⟨some K[j],by show K[j]∈Cl l R;rw[hG];exact AfO hj,a,n,?_⟩;have g:∀o':Obj,(setObj r o').run P a=.ok () {a with heap:=a.heap.setIfInBounds r o'} :=λo'=>by
   simp[setObj,Sem.run,z,o]
  have v:((K.map Cu).toArray)[j]?=some (Cu K[j]):=by simp[hj]
  simp only[f,Array.getElem?_map,v,AeR,Aev,g,Result.andThen];simp[SW,JN,Cu,Sem.run]
theorem HE(j:Nat){e:TypeId}{l:List IE}(H:Sep z Γ w)(c:Γ[j]?=some (AH m l i))(f:o.op=.range T x)(g:EO P T=some e)(k:ev L x=some (.map (some m))):
  Cy P n ds L o w (λv w'=>∃r,v=Y r/\Sep z (GG r m i []::Γ) w'):=λa d=>by
 obtain ⟨h,p,b,q⟩:=D4 g;refine ⟨_,_,?_,w.heap.size,Z,H.new (Du w (.mapIter (some m) i #[] i)) (Aei _) (by show (w.heap.push _)[w.heap.size]?=_;simp)⟩;simp only[execOp,f,d.ev k,Aev,run_range_map w T h e m _ i b (H.bk j c),Aer,AeA];rfl
theorem IP(i j:Nat){l:List IE}(H:Sep z Γ w)(hi:Γ[i]?=some (GG r m e R))(hj:Γ[j]?=some (AH m l e))(u:o.op=.next x false)(y:ev L x=some (Y r))(d:∀p∈l,p.2.2<e):
  Cy P n ds L o w (λv w'=>∃q:Option IE,v=SW q/\nxP l R q/\Sep z (Γ.set i (GG r m e (JN R q))) w'):=λa t=>by
 have s:=H.bk i hi;obtain ⟨q,hq,b,g,f⟩:=Px (P:=P) s (H.bk j hj) d o.type;have h:r<w.heap.size:=(Ae1.1 s).1;have c:b.heap=w.heap/\b.os=w.os/\b.tape=w.tape/\b.output=w.output:=by rcases g with rfl|rfl<;>exact ⟨Z,Z,Z,Z⟩
 refine ⟨_,{b with heap:=b.heap.setIfInBounds r (.mapIter (some m) e (JN R q).toArray e)},?_,q,Z,hq,H.write i hi c.2.1 c.2.2.1 c.2.2.2 (o':=.mapIter (some m) e (JN R q).toArray e) (by show (b.heap.setIfInBounds r _)[r]?=_;rw[c.1];simp[h]) (λk hk=>by show (b.heap.setIfInBounds r _)[k]?=_;rw[c.1];rw[AfP (AfS hk)])⟩;simp only[execOp,u,t.ev y,Aev,f,Aer,AeA]
theorem KH{q:Option IE}(b:o.op=.extract x 0)(a:ev L x=some (SW q)):Au P C n ds L o (.bool q.isSome):=by
 cases q with
 | none=>exact Fe b a Z
 | some p=>exact Fe b a Z
theorem HF{l:List IE}{p:IE}(h:o.op=.entry x)(e:ev L x=some (Y r))(b:∀w,C w->w.heap[r]?=some (.mapIter (some m) i (R++[p.2.2]).toArray i)/\w.heap[m]?=some (.map (l.map Cu).toArray i))(hp:p∈l)(d:(l.map (·.2.2)).Nodup):
  Au P C n ds L o (.tuple #[I p.1,p.2.1]):=λa f w c=>by
 obtain ⟨j,k⟩:=b w c;have g:((l.map Cu).toArray).find? (λx=>x.born==p.2.2)=some (Cu p):=by
  rw[<-Array.find?_toList];exact find_born (Cu p) _ (by simpa [Function.comp_def,Cu] using d) (Aez hp)
 simp only[execOp,h,f.ev e,Instr.entry,getObj,Aev,Sem.run,j,k,Result.andThen,<-List.push_toArray,Array.back?_push,bne_self_eq_false,Afs,if_false,g];rfl
theorem Jj(i:Nat){t e:TypeId}{m clk:Nat}{l:List IE}(H:Sep z Γ w)(hi:Γ[i]?=some (AH m l clk))(h:o.op=.call {callee:=.builtin .clear,args:= #[x],argTypes:= #[t]})(j:EO P t=some e)(k:ev L x=some (.map (some m))):
  Cy P n ds L o w (λv w'=>v=.tuple #[]/\Sep z (Γ.set i (AH m [] clk)) w'):=λa g=>by
 obtain ⟨r,s,f,p⟩:=D4 j;have b:w.heap[m]?=some (.map (l.map Cu).toArray clk):=H.bk i hi;have d:m<w.heap.size:=(Ae1.1 b).1;have c:(Builtin.clear_ #[t] o.type #[.map (some m)]).run P w=.ok (.tuple #[]) {w with heap:=w.heap.setIfInBounds m (.map #[] clk)} :=by
  simp[Builtin.clear_,run_underlying f,getObj,setObj,Sem.run,b]
 refine ⟨_,{w with heap:=w.heap.setIfInBounds m (.map #[] clk)},?_,Z,H.write i hi Z Z Z (by show (w.heap.setIfInBounds m (.map #[] clk))[m]?=_;simp[d]) (λq hq=>by show (w.heap.setIfInBounds m _)[q]?=_;rw[AfP (AfS hq)])⟩;simp only[execOp,h,resolve,invoke,builtin,Aev,AeA,Aer,AeW,AeJ,Afz,g.ev k,c]
end
def Xo(P:Program)(gf:FuncId)(lb:List Value)(pre:List Ai){σ:Type}(stp:σ->Value->σ->Prop)(s0:σ)(fin:σ->Prop):Prop:=
 ∀(z:World) (l:Nat) (J_:σ->List Ai),(∀s v s' F,stp s v s'->∀w,Sep z (pre++(F++J_ s)) w->YieldAt (FX none) 0 P l #[v] w (λe w'=>e=.returned (.bool true)/\Sep z (pre++(F++J_ s')) w'))->
  ∀w,Sep z (pre++J_ s0) w->CallsIn (FX none) 0 P gf (#[Value.func (.yield l) #[] #[]]++lb.toArray) w (λe w'=>(∃v,e=.returned v)/\∃s,fin s/\Sep z (pre++J_ s) w')
theorem NO{P:Program}{R:Act->World->Prop}{X:Nat->Act->World->Prop}{z w:World}{n:Nat}{ds:List Deferred}{L:List (Nat×Value)}{g:Operand}{assign body:Code}{gf:FuncId}{pre:List Ai}{σ:Type}{stp:σ->Value->σ->Prop}{t:σ}{fin:σ->Prop}
  (J_:σ->List Ai)(hg:ev L g=some (.func (.func gf) #[] V.toArray))(eg:∀args w,(callFunc gf args).run P w=.ok (.enter gf args) w)(ht:Nat.blt m n=true)(a0:Xo P gf V pre stp t fin)(H:Sep z (J_ t++pre) w)
  (c:∀(ro:Option Nat) (i:σ) (v:Value) (f:σ),stp i v f->∀w a,Fr n [] ((m,v)::L) a->
   RW P ro assign (Qp (λa1 w1=>w1=w/\∀(F:List Ai) (w:World),Sep z (J_ i++(pre++F)) w->RW P ro body (Qp (λ_ w3=>Sep z (J_ f++(pre++F)) w3) ID (λ_ _=>False)) a1 w) ID (λ_ _=>False)) a w)
  (K:∀D w' s,fin s->Sep z (YtemljpjnhjnncaaGreatDoor.bk D (.deferred (some []))::(J_ s++pre)) w'->∀a,Fr n (mark D::ds) L a->N a w'):
  ∀a,Fr n ds L a->(Code.rangeFunc g #[m] assign body).wp P (Qp N X R) a w:=by
 intro a r;refine (wpIn_wide (n:=0)).1 ?_;refine wpIn_rangeFunc ?_;intro fn _;have a2:Fence.wide.round=none:=rfl;rw[a2];obtain ⟨W1,p⟩:∃W1,(w.alloc (.deferred (some []))).alloc (B5 .ready fn a.tmps m assign body w.heap.size)=W1:=⟨_,Z⟩;obtain ⟨D,hD⟩:∃D,D=w.heap.size:=⟨_,Z⟩;obtain ⟨T,hT⟩:∃T:List Ai,T=[YtemljpjnhjnncaaGreatDoor.bk D (.deferred (some [])),YtemljpjnhjnncaaGreatDoor.bk (D+1) (B5 .ready fn a.tmps m assign body D)]:=⟨_,Z⟩;have H1:Sep z (pre++(T++J_ t)) W1:=by
  have h1:=H.new (b:=w.heap.size) (o:=.deferred (some [])) (Du w (.deferred (some []))) (Aei _) (by show (w.heap.push _)[w.heap.size]?=_;simp);have h2:=h1.new (b:=w.heap.size+1) (o:=B5 .ready fn a.tmps m assign body w.heap.size) (Du _ (B5 .ready fn a.tmps m assign body w.heap.size)) O (by
   show ((w.heap.push _).push _)[w.heap.size+1]?=_;rw[Ahb,if_pos O])
  have h3:Sep z (YtemljpjnhjnncaaGreatDoor.bk (w.heap.size+1) (B5 .ready fn a.tmps m assign body w.heap.size)::YtemljpjnhjnncaaGreatDoor.bk w.heap.size (.deferred (some []))::(J_ t++pre)) W1:=p▸h2;have h4:=(h3.pick 2 [1,0] Z);have h5:Sep z (T++(J_ t++pre)) W1:=by rw[hT,hD];exact h4
  exact (Sep.swap (As:=T++J_ t) (Bs:=pre) (by rw[Aeh];exact h5))
 refine ⟨w.heap.size+1,[mark w.heap.size],W1,{target:=.fn (.func gf) V.toArray,args:= #[.func (.yield (w.heap.size+1)) #[] #[]]},W1,gf,#[.func (.yield (w.heap.size+1)) #[] #[]]++V.toArray,W1,?_,?_,λ_ _=>trivial,?_,λq=>(by cases q),?_⟩
 ·rw[<-p];exact run_enterLoop_outer _ _ _ _ _
 ·simp only[resolve,r.ev hg]
  simp[go_sem]
 ·simp[invoke,go_sem,eg]
 rw[<-hD] at p ⊢;have d:∀{G:List Ai} {i:σ} {w:World},Sep z (G++(T++J_ i)) w->Sep z (YtemljpjnhjnncaaGreatDoor.bk D (.deferred (some []))::YtemljpjnhjnncaaGreatDoor.bk (D+1) (B5 .ready fn a.tmps m assign body D)::(J_ i++G)) w:=λh=>by
  have:=h.swap;rw[Aeh,hT] at this;exact this
 have j:∀(G:List Ai) (i:σ) (w:World),Sep z (YtemljpjnhjnncaaGreatDoor.bk D (.deferred (some []))::YtemljpjnhjnncaaGreatDoor.bk (D+1) (B5 .ready fn a.tmps m assign body D)::(J_ i++G)) w->Sep z (G++(T++J_ i)) w:=λG i w h=>by
  have h':Sep z (T++(J_ i++G)) w:=by rw[hT];exact h
  exact (Sep.swap (As:=T++J_ i) (Bs:=G) (by rw[Aeh];exact h'))
 have key:=a0 z (D+1) (λi=>T++J_ i) ?_ W1 H1
 ·refine CallsIn.mono (show CallsIn Fence.wide 0 P gf _ W1 _ from key) ?_
  rintro e w2 ⟨⟨v,rfl⟩,s,hs,H2⟩;have H2:=d H2;refine ⟨none,_,run_endLoop (H2.bk 1 Z) O,?_⟩;refine K D _ s hs ?_ _ ⟨r.size,by show [mark D]++a.defers=_;rw[r.defers];rfl,r.get⟩;have H3:=H2.setObj 1 (.loop {state:=.exhausted,pending:=none,fn,tmps:=a.tmps,params:= #[m],assign,body,defers:=D}) Z;exact H3.pick 2 [0] Z
 intro i u f F hu w2 H2;rw[<-Aeh] at H2;have H2:=d H2;have hy:=run_yield (P:=P) (args:=[u].toArray) (H2.bk 1 Z) O;refine ⟨fn,_,assign,body,hy,?_⟩;refine roundIn_of_wpIn (F:=FX none) trivial ?_;have a4:Fr n [] ((m,u)::L) {tmps:=(((#[m]:Array Tmp).zip [u].toArray).foldl (λtmps (x:Tmp×Value)=>tmps.setIfInBounds x.1 x.2) a.tmps),defers:=[]} :=by
  have h0:Fr n [] L {tmps:=a.tmps,defers:=[]} :=⟨r.size,Z,r.get⟩;have:=h0.put m u ht;simpa [Act.put] using this
 have hr:=c (some (D+1)) i u f hu w2 _ a4;refine wpIn_mono (show assign.wpIn ((FX none).inRound (D+1)) 0 P _ _ w2 from hr) ?_;intro e a1 w1 q
 cases e with
 | normal=>
  obtain ⟨rfl,k⟩:=q;refine ⟨_,run_beginRound (H2.bk 1 Z) Z,?_⟩;have H3:=H2.setObj 1 (B5 .busy fn a.tmps m assign body D) Z;have H4:Sep z ([YtemljpjnhjnncaaGreatDoor.bk D (.deferred (some [])),YtemljpjnhjnncaaGreatDoor.bk (D+1) (B5 .busy fn a.tmps m assign body D)]++(J_ i++(pre++F))) _:=H3;have H5:=H4.swap;rw[Aeh,Aeh] at H5;refine wpIn_mono (show body.wpIn ((FX none).inRound (D+1)) 0 P _ _ _ from k _ _ H5) ?_;intro e a3 w3 y
  cases e with
  | normal=>
   have H6:Sep z (J_ f++(pre++(F++[YtemljpjnhjnncaaGreatDoor.bk D (.deferred (some [])),YtemljpjnhjnncaaGreatDoor.bk (D+1) (B5 .busy fn a.tmps m assign body D)]))) w3:=y;rw[<-Aeh pre,<-Aeh (J_ f)] at H6;have H7:Sep z (YtemljpjnhjnncaaGreatDoor.bk D (.deferred (some []))::YtemljpjnhjnncaaGreatDoor.bk (D+1) (B5 .busy fn a.tmps m assign body D)::(J_ f++(pre++F))) w3:=H6.swap;refine ⟨_,_,run_endRound none (H7.bk 1 Z),Z,?_⟩;rw[<-Aeh];refine j _ _ _ ?_;exact H7.setObj 1 (B5 .ready fn a.tmps m assign body D) Z
  | exit id=>exact y.elim
  | ret=>exact y.elim
  | goto l=>exact y.elim
  | panic ch=>exact y.elim
  | outgrown=>exact y.elim
 | exit id=>exact q.elim
 | ret=>exact q.elim
 | goto l=>exact q.elim
 | panic ch=>exact q.elim
 | outgrown=>exact q.elim
theorem UQ{P:Program}{R:Act->World->Prop}{X:Nat->Act->World->Prop}{z w:World}{n:Nat}{ds:List Deferred}{L:List (Nat×Value)}{g:Operand}{b f:Code}{gf:FuncId}{pre:List Ai}{σ:Type}{stp:σ->Value->σ->Prop}{p:σ}{fin:σ->Prop}
  (J_:σ->List Ai)(y:ev L g=some (.func (.func gf) #[] V.toArray))(u:∀args w,(callFunc gf args).run P w=.ok (.enter gf args) w)(x:Nat.blt m n=true)(k:Xo P gf V pre stp p fin)(H:Sep z (J_ p++pre) w)
  (d:∀(ro:Option Nat) (i:σ) (v:Value) (j:σ),stp i v j->∀w a,Fr n [] ((m,v)::L) a->
   RW P ro b (Qp (λa1 r=>r=w/\∀(F:List Ai) (w:World),Sep z (J_ i++F) w->RW P ro f (Qp (λ_ w3=>Sep z (J_ j++F) w3) ID (λ_ _=>False)) a1 w) ID (λ_ _=>False)) a w)
  (K:∀D o s,fin s->Sep z (YtemljpjnhjnncaaGreatDoor.bk D (.deferred (some []))::(J_ s++pre)) o->∀a,Fr n (mark D::ds) L a->N a o):
  ∀a,Fr n ds L a->(Code.rangeFunc g #[m] b f).wp P (Qp N X R) a w:=
 NO J_ y u x k H (λro i v j h w a t=>by
  refine wpIn_mono (d ro i v j h w a t) ?_;intro e a1 r q
  cases e with
  | normal=>exact ⟨q.1,λF w hs=>q.2 _ w hs⟩
  | exit id=>exact q.elim
  | ret=>exact q.elim
  | goto l=>exact q.elim
  | panic c=>exact q.elim
  | outgrown=>exact q.elim) K
end
end Go.Proofs.YtemljpjnhjnncaaGreatDoor
