/-
  Steps to: VolumesRefused No condition.
-/
import Derived.Test.YtkblhjdljaoghaaGreatDoorCards
import Derived.Test.YtkblhjdljaoghaaGreatDoorTie
import Derived.WalkKit
import Derived.WalkSpells
import Derived.Deep.Quiet
import Derived.KernelRfl
import Derived.IntWalk
import Derived.Maps.AppendAt
import Derived.Laws.AppendOwnNone
import Derived.Laws.CopyRow
import Derived.StillTail
import Derived.Deep.RegionHeld
import Derived.Laws.IdiomStrings
import Derived.Laws.BytesArg
import Derived.Laws.OwnMore
import Derived.Lib.Strings
import Derived.ArgAppend
import Derived.Test.YtkblhjdljaoghaaGreatDoorRows
import Derived.RangeFuncLeaves
import Derived.RangeFuncRecord
import Derived.RangeFuncCalls
import Derived.RangeFuncSeq
import Derived.OrdersIn
import Derived.TacticsIn
import Derived.Laws.IdiomRangeMap
import Derived.Defers
import Derived.Laws.LoneSync
import Derived.LoopN
import Derived.Lib.TrailingZeros
import Derived.Test.YtkblhjdljaoghaaGreatDoorProg
import Derived.Shelf.Sort.Plain
import Derived.Shelf.Slices.In.SortNone
import Derived.Shelf.Small.Bits
import Derived.DataReads
import Derived.ProofKit
import Derived.OpenShut
import Derived.Lib.SmallJoins
import Derived.Deep.DeepHandedRow
import Derived.Lib.LaidTab
set_option maxRecDepth 100000
set_option linter.unusedSimpArgs false
set_option linter.unusedVariables false
open Go.Proofs.Tryz
namespace Go.Proofs.YtkblhjdljaoghaaGreatDoor
open Go.RowKit
variable{n m i j e g r:Nat}{t s p q:Int}{V:List Value}{B S:List UInt8}{T:TypeId}{L:List (Nat×Value)}{v u y:Value}{z:World}{l:List Int}{R:List Nat}{N:Act->World->Prop}{b c:Bool}{x:Operand}{o:List Oper}{K:Value->World->Prop}{C:Nat->Nat}{P:Program}{F:Nat->Bool}{a:Act}
section
theorem Z{α : Sort _}{a : α}: a=a := rfl
theorem U {p : Prop} (h : p := by omega) : p := h
theorem J {p : Prop} (h : p := by kernel_rfl) : p := h
theorem O {p : Prop} (h : p := by simp) : p := h
abbrev Aee:=@List.getElem?_eq_some_iff
abbrev Aef:=@List.getElem?_eq_getElem
abbrev Aeg:=@List.mem_of_getElem?
abbrev Aeh:=@List.length_append
abbrev Aei:=@List.length_map
abbrev Aej:=@List.length_cons
abbrev Aek:=@List.append_assoc
abbrev Ael:=@Nat.le_refl
abbrev Aem:=@List.take_of_length_le
abbrev Aen:=@List.mem_map
abbrev Aeo:=@Option.some.injEq
abbrev Aep:=@List.getElem?_append_left
abbrev Aeq:=@List.mem_cons
abbrev Aer:=@List.getElem?_map
abbrev Aes:=@List.mem_append
abbrev Aet:=@Result.andThen_ok
abbrev Aeu:=@Nat.lt_or_ge
abbrev Aev:=@List.getElem?_append_right
abbrev Aew:=@List.take_append_of_le_length
abbrev Aex:=@Sem.run_bind
abbrev Aey:=@List.drop_zero
abbrev Aez:=@Bool.eq_iff_iff
abbrev AeA:=@List.length_take
abbrev AeB:=@List.getElem?_cons_succ
abbrev AeC:=@Sem.run_pure
abbrev AeD:=@List.mem_map_of_mem
abbrev AeE:=@List.length_nil
abbrev AeF:=@Bool.and_eq_true
abbrev AeG:=@List.take_take
abbrev AeH:=@Nat.min_eq_left
abbrev AeI:=@List.take_left'
abbrev AeJ:=@List.flatMap_cons
abbrev AeK:=@List.map_append
abbrev AeL:=@List.getElem?_eq_none
abbrev AeM:=@List.map_cons
abbrev AeN:=@List.drop_of_length_le
abbrev AeO:=@List.take_append_drop
abbrev AeP:=@List.length_drop
abbrev AeQ:=@List.take_add_one
abbrev AeR:=@Nat.zero_le
abbrev AeS:=@Nat.mul_one
abbrev AeT:=@List.nil_append
abbrev AeU:=@List.getElem?_cons_zero
abbrev AeV:=@Option.map_some
abbrev AeW:=@List.drop_append_of_le_length
abbrev AeX:=@List.length_set
abbrev AeY:=@List.append_nil
abbrev AeZ:=@List.map_toArray
abbrev Ae0:=@List.getElem?_take
abbrev Ae1:=@List.mem_iff_getElem?
abbrev Ae2:=@List.drop_eq_getElem_cons
abbrev Ae3:=@Array.getElem?_eq_none
abbrev Ae4:=@Array.getElem?_eq_some_iff
abbrev Ae5:=@List.getElem?_of_mem
abbrev Ae6:=@List.drop_succ_cons
abbrev Ae7:=@Int.toNat_natCast
abbrev Ae8:=@List.take_succ_cons
abbrev Ae9:=@List.drop_append
abbrev Afa:=@List.take_length
abbrev Afb:=@Option.isSome_iff_exists
abbrev Afc:=@List.nodup_append
abbrev Afd:=@List.set_eq_take_append_cons_drop
abbrev Afe:=@List.mem_filter
abbrev Aff:=@List.count_cons
abbrev Afg:=@Classical.byContradiction
abbrev Afh:=@List.getElem?_toArray
abbrev Afi:=@List.mem_of_mem_take
abbrev Afj:=@List.perm_middle
abbrev Afk:=@List.nodup_cons
abbrev Afl:=@List.length_replicate
abbrev Afm:=@List.Perm.cons
abbrev Afn:=@List.getElem?_drop
abbrev Afo:=@Int.le_refl
abbrev Afp:=@List.map_map
abbrev Afq:=@List.getElem?_set
abbrev Afr:=@List.map_take
abbrev Afs:=@List.ext_getElem?
abbrev Aft:=@List.count_append
abbrev Afu:=@Bool.false_eq_true
abbrev Afv:=@List.mem_singleton
abbrev Afw:=@List.mem_of_mem_drop
abbrev Afx:=@List.pairwise_iff_getElem
abbrev Afy:=@List.getElem?_set_self
abbrev Afz:=@List.Perm.append_right
abbrev AfA:=@Option.map_none
abbrev AfB:=@List.map_nil
abbrev AfC:=@Nat.mod_eq_of_lt
abbrev AfD:=@List.cons_append
abbrev AfE:=@List.map_congr_left
abbrev AfF:=@List.perm_iff_count
abbrev AfG:=@Prod.mk.injEq
abbrev AfH:=@List.take_zero
abbrev AfI:=@List.exists_cons_of_ne_nil
abbrev AfJ:=@Nat.mul_le_mul_right
abbrev AfK:=@List.length_zip
abbrev AfL:=@Nat.lt_trichotomy
abbrev AfM:=@List.pairwise_map
abbrev AfN:=@Nat.eq_of_beq_eq_true
abbrev AfO:=@IntWalk.i64_in
abbrev AfP:=@Nat.zero_add
abbrev AfQ:=@List.filter_append
abbrev AfR:=@List.getElem_mem
abbrev AfS:=@Array.getElem?_setIfInBounds_ne
abbrev AfT:=@List.mem_range
abbrev AfU:=@List.drop_left'
abbrev AfV:=@Ne.symm
abbrev AfW:=@List.length_filter_le
abbrev AfX:=@List.map_drop
abbrev AfY:=@List.drop_take
abbrev AfZ:=@List.Perm.swap
abbrev Af0:=@Int.eq_ofNat_of_zero_le
abbrev Af1:=@List.set_append
abbrev Af2:=@List.toList_toArray
abbrev Af3:=@List.flatMap_append
abbrev Af4:=@List.all_eq_true
abbrev Af5:=@List.mem_replicate
abbrev Af6:=@Int.emod_lt_of_pos
abbrev Af7:=@List.perm_append_comm
abbrev Af8:=@List.set_getElem_self
abbrev Af9:=@Nat.shiftRight_eq_div_pow
abbrev Aga:=@List.replicate_append_replicate
abbrev Agb:=@BitVec.toNat_ushiftRight
abbrev Agc:=@List.getElem?_set_ne
abbrev Agd:=@List.mem_iff_getElem
abbrev Age:=@Option.some.inj
abbrev Agf:=@Nat.add_assoc
abbrev Agg:=@Nat.add_sub_cancel_left
abbrev Agh:=@List.length_eq_zero_iff
abbrev Agi:=@BitVec.toNat_and
abbrev Agj:=@List.mem_flatMap
abbrev Agk:=@List.getElem?_eraseIdx
abbrev Agl:=@Nat.le_of_eq
abbrev Agm:=@List.filter_map
abbrev Agn:=@Int.emod_nonneg
abbrev Ago:=@Int.emod_eq_of_lt
abbrev Agp:=@List.mem_append_left
abbrev Agq:=@List.mem_cons_of_mem
abbrev Agr:=@Nat.mul_add
abbrev Ags:=@DataW.trod_int
abbrev Agt:=@Array.setIfInBounds_comm
abbrev Agu:=@Nat.le_trans
abbrev Agv:=@Nat.mul_le_mul_left
abbrev Agw:=@List.filter_eq_self
abbrev Agx:=@Calls.mono
abbrev Agy:=@List.count_pos_iff
abbrev Agz:=@Nat.ne_of_beq_eq_false
abbrev AgA:=@Option.map_eq_some_iff
abbrev AgB:=@List.eq_nil_of_length_eq_zero
abbrev AgC:=@List.flatten_cons
abbrev AgD:=@List.foldl_append
abbrev AgE:=@Array.getElem?_modify
abbrev AgF:=@List.mem_append_right
abbrev AgG:=@Nat.sub_self
abbrev AgH:=@Region.noSelect_spec
abbrev AgI:=@Nat.add_mul_div_left
abbrev AgJ:=@Nat.div_eq_of_lt
abbrev AgK:=@BitVec.toNat_add
abbrev AgL:=@Decidable.of_not_not
abbrev AgM:=@List.drop_replicate
abbrev AgN:=@Function.comp_apply
abbrev AgO:=@Oper.upon_value
abbrev AgP:=@Oper.upon_enter
abbrev AgQ:=@Array.getElem?_eq_getElem
abbrev AgR:=@Nat.add_mul_mod_self_left
abbrev AgS:=@Nat.two_pow_pos
abbrev AgT:=@Bool.false_ne_true
abbrev AgU:=@Nat.add_comm
abbrev AgV:=@Nat.eq_zero_or_pos
abbrev AgW:=@Int.le_of_lt
abbrev AgX:=@List.set_set
abbrev AgY:=@Option.bind_some
abbrev AgZ:=@Region.free_spec
abbrev Ag0:=@List.ext_getElem
abbrev Ag1:=@List.take_append
abbrev Ag2:=@List.getElem_set
abbrev Ag3:=@BitVec.getLsbD_twoPow
abbrev Ag4:=@BitVec.eq_of_toNat_eq
abbrev Ag5:=@List.cons.injEq
abbrev Ag6:=@Nat.sub_zero
abbrev Ag7:=@Nat.add_zero
abbrev Ag8:=@UInt8.toNat_inj
abbrev Ag9:=@BitVec.ofInt_natCast
abbrev Aha:=@Nat.and_two_pow_sub_one_eq_mod
abbrev Ahb:=@List.range_succ
abbrev Ahc:=@List.mem_eraseIdx_iff_getElem?
abbrev Ahd:=@Nat.pow_le_pow_right
abbrev Ahe:=@Array.getElem?_push
abbrev Ahf:=@List.length_pos_iff
abbrev Ahg:=@List.Perm.refl
abbrev Ahh:=@List.perm_append_comm_assoc
abbrev Ahi:=@List.map_replicate
abbrev Ahj:=@List.find?_eq_none
abbrev Ahk:=@Int.tmod_lt_of_pos
abbrev Ahl:=@List.take_length_add_append
abbrev Ahm:=@List.drop_length_add_append
abbrev Ahn:=@Array.getElem?_append_left
abbrev Aho:=@Addr.mk.injEq
abbrev Ahp:=@Array.any_eq_true
abbrev Ahq:=@Array.getElem_mem
abbrev Ahr:=@Decidable.not_not
abbrev Ahs:=@Int.emod_add_emod
abbrev Aht:=@List.filter_congr
abbrev Ahu:=@Int.shiftRight_eq_div_pow
abbrev Ahv:=@List.mem_take_iff_getElem
abbrev Ahw:=@List.mem_or_eq_of_mem_set
abbrev Ahx:=@Iff.rfl
abbrev Ahy:=@List.any_eq_true
abbrev Ahz:=@UInt32.toNat_inj
abbrev AhA:=@List.getElem_map
abbrev AhB:=@List.map_set
abbrev AhC:=@Nat.pow_succ
abbrev AhD:=@Nat.mul_comm
abbrev AhE:=@List.flatMap_nil
abbrev AhF:=@List.filter_cons
abbrev AhG:=@Nat.mul_eq_zero
abbrev AhH:=@Int.tmod_nonneg
abbrev AhI:=@Nat.add_mul
abbrev AhJ:=@List.drop_drop
abbrev I(x:Int):Value:=.int .i64 x
abbrev Y (b:Nat):Value:=.pointer (some ⟨b,0,none⟩)
def CD:List (Nat×Value)->Nat->Option Value
 | [],_=>none
 | (t,v)::l,k=>bif Nat.beq t k then some v else CD l k
theorem AaD(h:m≠i):Nat.beq m i=false:=by
 cases hb:Nat.beq m i with
 | false=>rfl
 | true=>exact absurd (AfN hb) h
structure Fr(n:Nat)(ds:List Deferred)(L:List (Nat×Value))(a:Act):Prop where
 size:a.tmps.size=n
 defers:a.defers=ds
 get:∀t v,CD L t=some v->a.tmps[t]?=some v
theorem Fr.put{n:Nat}{ds:List Deferred}{L:List (Nat×Value)}{a:Act}(h:Fr n ds L a)(d:Nat)(v:Value)(f:Nat.blt d n=true):Fr n ds ((d,v)::L) (a.put (some d) v):=by
 have c:d<n:=by simpa using f
 refine ⟨by simp[Act.put,h.size],by simp[Act.put,h.defers],λt u b=>?_⟩;simp only[CD] at b;by_cases e:d=t
 ·subst e
  have:Nat.beq d d=true:=by simp
  rw[this] at b;simp only[cond_true,Aeo] at b;subst b;simp[Act.put,h.size,c]
 rw[AaD e] at b;simp only[cond_false] at b;simp[Act.put,AfS e,h.get t u b]
theorem Fr.nil{n:Nat}{ds:List Deferred}{L:List (Nat×Value)}{a:Act}(h:Fr n ds L a):Fr n ds [] a:=⟨h.size,h.defers,λt v b=>by simp[CD] at b⟩
theorem Fr.cons{n:Nat}{ds:List Deferred}{L L':List (Nat×Value)}{a:Act}(h:Fr n ds L a)(h':Fr n ds L' a)(t:Nat)(v u:Value)(b:CD L t=some u)(e:u=v):Fr n ds ((t,v)::L') a:=by
 refine ⟨h.size,h.defers,λs x hs=>?_⟩;simp only[CD] at hs
 cases hb:Nat.beq t s with
 | true=>rw[hb] at hs;simp at hb;subst hb;simp at hs;subst hs;subst e;exact h.get t u b
 | false=>rw[hb] at hs;exact h'.get s x (by simpa using hs)
theorem Fr.co{n:Nat}{ds:List Deferred}{L L':List (Nat×Value)}{a:Act}{t:Nat}(h:Fr n ds L a)(b:CD L t=some u)(e:u=v)(h':Fr n ds L' a):Fr n ds ((t,v)::L') a:=h.cons h' t v u b e
theorem Fr.all{n:Nat}{ds:List Deferred}{L:List (Nat×Value)}{a:Act}(h:Fr n ds L a):∀{L':List (Nat×Value)},L'.map (λe=>CD L e.1)=L'.map (λe=>some e.2)->Fr n ds L' a
 | [],_=>h.nil
 | e::L',q=>by
  simp only[AeM,Ag5] at q;exact h.cons (h.all q.2) e.1 e.2 e.2 q.1 Z
theorem Fr.cz{n:Nat}{ds:List Deferred}{L L':List (Nat×Value)}{a:Act}{t:Nat}{v u:Value}(h:Fr n ds L a)(b:CD L t=some u:=by exact Z)(e:u=v:=by go_num)(q:L'.map (λe=>CD L e.1)=L'.map (λe=>some e.2):=by exact Z):Fr n ds ((t,v)::L') a:=h.co b e (h.all q)
theorem fr_z {n:Nat} {ds:List Deferred} {L L':List (Nat×Value)} {t:Nat} {v u:Value} (b:CD L t=some u:=by exact Z) (e:u=v:=by go_num) (q:L'.map (λe=>CD L e.1)=L'.map (λe=>some e.2):=by exact Z):∀a,Fr n ds L a->Fr n ds ((t,v)::L') a:=λ_ h=>h.co b e (h.all q)
theorem Fr.upd{n:Nat}{ds:List Deferred}{L:List (Nat×Value)}{a:Act}(h:Fr n ds L a)(t:Nat)(b:CD L t=some u)(e:u=v):Fr n ds ((t,v)::L) a:=h.cons h t v u b e
def ev(L:List (Nat×Value)):Operand->Option Value
 | .tmp t=>CD L t
 | .const v=>some v
 | .global g=>some (.pointer (some ⟨g,0,none⟩))
 | .func f=>some (.func (.func f) #[] #[])
theorem Fr.ev{n:Nat}{ds:List Deferred}{L:List (Nat×Value)}{a:Act}(h:Fr n ds L a){x:Operand}{v:Value}(b:ev L x=some v):a.eval x=v:=by
 cases x with
 | tmp t=>simp only[YtkblhjdljaoghaaGreatDoor.ev] at b;simp[Act.eval,h.get t v b]
 | const u=>simp only[YtkblhjdljaoghaaGreatDoor.ev,Aeo] at b;simp[Act.eval,b]
 | global g=>simp only[YtkblhjdljaoghaaGreatDoor.ev,Aeo] at b;simp[Act.eval,b]
 | func f=>simp only[YtkblhjdljaoghaaGreatDoor.ev,Aeo] at b;simp[Act.eval,b]
def evs(L:List (Nat×Value)):List Operand->Option (List Value)
 | []=>some []
 | x::xs=>match YtkblhjdljaoghaaGreatDoor.ev L x,evs L xs with
  | some v,some vs=>some (v::vs)
  | _,_=>none
theorem Fr.evs{n:Nat}{ds:List Deferred}{L:List (Nat×Value)}{a:Act}(h:Fr n ds L a):∀{xs:List Operand} {vs:List Value},evs L xs=some vs->xs.map a.eval=vs
 | [],vs,e=>by simp only[YtkblhjdljaoghaaGreatDoor.evs,Aeo] at e;subst e;rfl
 | x::xs,vs,e=>by
  simp only[YtkblhjdljaoghaaGreatDoor.evs] at e
  cases h1:YtkblhjdljaoghaaGreatDoor.ev L x with
  | none=>rw[h1] at e;cases e
  | some v=>
   cases h2:YtkblhjdljaoghaaGreatDoor.evs L xs with
   | none=>rw[h1,h2] at e;cases e
   | some us=>
    rw[h1,h2] at e;simp only[Aeo] at e;subst e;simp[h.ev h1,h.evs h2]
def first:Nat->List Value->List (Nat×Value)
 | _,[]=>[]
 | k,v::vs=>(k,v)::first (k+1) vs
theorem Kx:∀(vs:List Value) (k t:Nat) (v:Value),CD (first k vs) t=some v->k<=t/\vs[t-k]?=some v
 | [],_,_,_,h=>by simp[first,CD] at h
 | u::us,k,t,v,h=>by
  simp only[first,CD] at h
  cases hb:Nat.beq k t with
  | true=>rw[hb] at h;simp at hb h;subst hb;subst h;simp
  | false=>
   rw[hb] at h;have:=Kx us (k+1) t v (by simpa using h);refine ⟨by omega,?_⟩;rw[show t-k=(t-(k+1))+1 from by omega];simpa using this.2
theorem Fr.start(args:List Value)(n:Nat)(h:args.length<=n):Fr n [] (first 0 args) {tmps:=args.toArray++Array.replicate (n-args.toArray.size) undef,defers:=[]} :=by
 refine ⟨by simp;omega,Z,λt v b=>?_⟩;have:=(Kx args 0 t v b).2;simp only[Ag6] at this;have a:t<args.length:=by
  rcases Aeu t args.length with h|h
  ·exact h
  rw[AeL h] at this;cases this
 rw[Ahn (by simpa using a)];simpa using this

def Qp(N:Act->World->Prop)(X:Nat->Act->World->Prop)(R:Act->World->Prop):Exit->Act->World->Prop
 | .normal,a,w=>N a w
 | .exit id,a,w=>X id a w
 | .ret,a,w=>R a w
 | _,_,_=>False
def IJ:Nat->Act->World->Prop:=λ_ _ _=>False
def upd(X:Nat->Act->World->Prop)(id:Nat)(N:Act->World->Prop):Nat->Act->World->Prop:=λj a w=>if j=id then N a w else X j a w
section
variable{P:Program}{N R:Act->World->Prop}{X:Nat->Act->World->Prop}{a:Act}{w:World}
theorem AaE{c:Code}{d R':Act->World->Prop}{b:Nat->Act->World->Prop}(h:c.wp P (Qp N X R) a w)(hN:∀a w,N a w->d a w)(g:∀i a w,X i a w->b i a w)(f:∀a w,R a w->R' a w):c.wp P (Qp d b R') a w:=
 wp_mono h λe a w q=>by cases e<;>first|exact hN _ _ q|exact g _ _ _ q|exact f _ _ q|exact q
theorem W6{x y:Code}(h:x.wp P (Qp (λa w=>y.wp P (Qp N X R) a w) X R) a w):(Code.seq x y).wp P (Qp N X R) a w:=
 wp_seq (wp_mono h λe a w q=>by cases e<;>exact q)
theorem AcN{x y:Code}(M:Act->World->Prop)(h:x.wp P (Qp M X R) a w)(h':∀a w,M a w->y.wp P (Qp N X R) a w):(Code.seq x y).wp P (Qp N X R) a w:=
 W6 (AaE h h' (λ_ _ _ q=>q) (λ_ _ q=>q))
theorem AaF(h:N a w):Code.skip.wp P (Qp N X R) a w:=wp_skip h
theorem AaG(h:X m a w):(Code.exit m).wp P (Qp N X R) a w:=wp_exit h
theorem AcO(h:R a w):Code.ret.wp P (Qp N X R) a w:=wp_ret h
theorem XH{c:Code}(h:c.wp P (Qp N (upd X m N) R) a w):(Code.block m c).wp P (Qp N X R) a w:=
 wp_block (wp_mono h λe a w q=>by
  cases e<;>exact q)
theorem AaH(h:N a w):upd X m N m a w:=by simp only[upd,if_true];exact h
theorem AcP{M:Act->World->Prop}(b:Nat.beq j m=false)(h:X j a w):upd X m M j a w:=by
 have:j≠m:=Agz b;simp only[upd,if_neg this];exact h
theorem Sd{n:Nat}{ds:List Deferred}{L:List (Nat×Value)}(d:Fr n ds L a){c:Operand}{x y:Code}(b:ev L c=some (.bool true))(h:x.wp P (Qp N X R) a w):(Code.cond c x y).wp P (Qp N X R) a w:=wp_cond_true (d.ev b) h
theorem PM{n:Nat}{ds:List Deferred}{L:List (Nat×Value)}(d:Fr n ds L a){c:Operand}{x y:Code}(b:ev L c=some (.bool false))(h:y.wp P (Qp N X R) a w):(Code.cond c x y).wp P (Qp N X R) a w:=wp_cond_false (d.ev b) h
theorem Se{n:Nat}{ds:List Deferred}{L:List (Nat×Value)}(e:Fr n ds L a){c:Operand}{x y:Code}(d:ev L c=some (.bool b))(f:b=true->x.wp P (Qp N X R) a w)(g:b=false->y.wp P (Qp N X R) a w):(Code.cond c x y).wp P (Qp N X R) a w:=by
 cases b with
 | true=>exact Sd e d (f Z)
 | false=>exact PM e d (g Z)
theorem AcQ{n:Nat}{ds:List Deferred}{L:List (Nat×Value)}(d:Fr n ds L a){c:Operand}{x y:Code}{p:Prop}[hp:Decidable p](b:ev L c=some (.bool (decide p)))(e:p->x.wp P (Qp N X R) a w)(f:¬p->y.wp P (Qp N X R) a w):(Code.cond c x y).wp P (Qp N X R) a w:=
 Se d b (λh=>e (of_decide_eq_true h)) (λh=>f (of_decide_eq_false h))

section framed
variable{n:Nat}{ds:List Deferred}{L:List (Nat×Value)}
theorem A6{x y:Code}(h:∀a,Fr n ds L a->x.wp P (Qp (λa w=>y.wp P (Qp N X R) a w) X R) a w):∀a,Fr n ds L a->(Code.seq x y).wp P (Qp N X R) a w:=λa b=>W6 (h a b)
theorem AcR{x y:Code}(M:Act->World->Prop)(h:∀a,Fr n ds L a->x.wp P (Qp M X R) a w)(h':∀a w,M a w->y.wp P (Qp N X R) a w):∀a,Fr n ds L a->(Code.seq x y).wp P (Qp N X R) a w:=λa b=>AcN M (h a b) h'
theorem DH(h:∀a,Fr n ds L a->N a w):∀a,Fr n ds L a->Code.skip.wp P (Qp N X R) a w:=λa b=>AaF (h a b)
theorem Sf(h:∀a,Fr n ds L a->X m a w):∀a,Fr n ds L a->(Code.exit m).wp P (Qp N X R) a w:=λa b=>AaG (h a b)
theorem D8(h:∀a,Fr n ds L a->R a w):∀a,Fr n ds L a->Code.ret.wp P (Qp N X R) a w:=λa b=>AcO (h a b)
theorem FL{c:Code}(h:∀a,Fr n ds L a->c.wp P (Qp N (upd X m N) R) a w):∀a,Fr n ds L a->(Code.block m c).wp P (Qp N X R) a w:=λa b=>XH (h a b)
theorem IL(h:∀a,Fr n ds L a->N a w):∀a,Fr n ds L a->upd X m N m a w:=λa b=>AaH (h a b)
theorem AcS{M:Act->World->Prop}(b:Nat.beq j m=false)(h:∀a,Fr n ds L a->X j a w):∀a,Fr n ds L a->upd X m M j a w:=λa c=>AcP b (h a c)
theorem Sg{c:Operand}{x y:Code}(d:ev L c=some (.bool true))(h:∀a,Fr n ds L a->x.wp P (Qp N X R) a w):∀a,Fr n ds L a->(Code.cond c x y).wp P (Qp N X R) a w:=λa b=>Sd b d (h a b)
theorem EB{c:Operand}{x y:Code}(d:ev L c=some (.bool false))(h:∀a,Fr n ds L a->y.wp P (Qp N X R) a w):∀a,Fr n ds L a->(Code.cond c x y).wp P (Qp N X R) a w:=λa b=>PM b d (h a b)
theorem Sh{c:Operand}{x y:Code}(e:ev L c=some (.bool b))(f:b=true->∀a,Fr n ds L a->x.wp P (Qp N X R) a w)(g:b=false->∀a,Fr n ds L a->y.wp P (Qp N X R) a w):∀a,Fr n ds L a->(Code.cond c x y).wp P (Qp N X R) a w:=
 λa d=>Se d e (λh=>f h a d) (λh=>g h a d)
theorem Gu{c:Operand}{x y:Code}{p:Prop}[hp:Decidable p](d:ev L c=some (.bool (decide p)))(e:p->∀a,Fr n ds L a->x.wp P (Qp N X R) a w)(f:¬p->∀a,Fr n ds L a->y.wp P (Qp N X R) a w):∀a,Fr n ds L a->(Code.cond c x y).wp P (Qp N X R) a w:=
 λa b=>AcQ b d (λh=>e h a b) (λh=>f h a b)
end framed
theorem Si{n:Nat}{ds:List Deferred}{L:List (Nat×Value)}{c:Code}{σ:Type}(i:σ->List (Nat×Value))(G:σ->World->Prop)(m:σ->Nat)(q:σ)
  (h₀:∀a,Fr n ds L a->Fr n ds (i q) a)(g₀:G q w)
  (g:∀s w,G s w->∀a,Fr n ds (i s) a->c.wp P (Qp (λa' h=>∃j,Fr n ds (i j) a'/\G j h/\m j<m s) X R) a w):∀a,Fr n ds L a->(Code.loop c).wp P (Qp N X R) a w:=by
 intro a hF b k cs;have key:∀n' s a w,m s=n'->Fr n ds (i s) a->G s w->
   ∃e a' h,Qp N X R e a' h/\Arrives P (lone (b.at a (.code c:: .inLoop c::k)) cs w) b k cs e a' h:=by
  intro n'
  induction n' using Nat.strongRecOn with
  | _ n' ih=>
   intro s a w z hI hG;obtain ⟨e,v,r,hq,d⟩:=g s w hG a hI b (.inLoop c::k) cs
   cases e with
   | normal=>
    obtain ⟨y,p,u,o⟩:=hq;obtain ⟨e₂,a₂,w₂,t,f⟩:=ih (m y) (z▸o) y v r Z p u;exact ⟨e₂,a₂,w₂,t,.of_steps (Steps.trans d (.one step_inLoop)) f⟩
   | exit id=>exact ⟨.exit id,v,r,hq,.pass (x:=.inLoop c) Z (λ_ _=>.inl O) d⟩
   | ret=>exact ⟨.ret,v,r,hq,.pass (x:=.inLoop c) Z (λ_ _=>.inl O) d⟩
   | goto l=>exact hq.elim
   | panic ch=>exact hq.elim
   | outgrown=>exact hq.elim
 obtain ⟨e,a',h,hq,d⟩:=key _ q a w Z (h₀ a hF) g₀;exact ⟨e,a',h,hq,.of_steps (.one step_loop) d⟩
end
def Ret(R:Value->World->Prop):Ending->World->Prop
 | .returned v,w=>R v w
 | _,_=>False
theorem Ret.mono{P:Program}{f:FuncId}{args:Array Value}{w:World}{R R':Value->World->Prop}(h:Calls P f args w (Ret R))(b:∀v a,R v a->R' v a):Calls P f args w (Ret R'):=
 Agx h λe a q=>by cases e<;>first|exact b _ _ q|exact q
def Gh(P:Program)(fn:Func)(R:Value->World->Prop)(a:Act)(w:World):Prop:=
 a.defers=[]/\∃v,(results fn a.tmps).run P w=.ok v w/\R v w
theorem enter{P:Program}{f:FuncId}{b:Func}{c:Code}{w:World}{R:Value->World->Prop}(o:P.funcs[f]?=some b)(k:b.body=some c)(n:Nat)(m:b.ntmps=n)(d:Nat.ble V.length n=true)
  (h:∀a,Fr n [] (first 0 V) a->c.wp P (Qp (Gh P b R) IJ (Gh P b R)) a w):Calls P f V.toArray w (Ret R):=by
 refine calls_of_wp o k (wp_mono (h _ (by rw[m];exact Fr.start V n (by simpa using d))) λe a w q=>?_)
 cases e with
 | normal=>obtain ⟨j,v,i,g⟩:=q;exact ⟨j,v,i,g⟩
 | ret=>obtain ⟨j,v,i,g⟩:=q;exact ⟨j,v,i,g⟩
 | exit id=>exact q.elim
 | goto l=>exact q.elim
 | panic ch=>exact q.elim
 | outgrown=>exact q.elim
def AaI(P:Program)(L:List (Nat×Value))(w:World):ResultVar->Value->Prop
 | .tmp t,v=>CD L t=some v
 | .cell t ty,v=>∃b p,CD L t=some (.pointer (some ⟨b,p,none⟩))/\(loadVar ty ⟨b,p,none⟩).run P w=.ok v w
def EO(P:Program)(L:List (Nat×Value))(w:World):List ResultVar->List Value->Prop
 | [],[]=>True
 | r::rs,v::vs=>AaI P L w r v/\EO P L w rs vs
 | _,_=>False
theorem Ky{P:Program}{n:Nat}{ds:List Deferred}{L:List (Nat×Value)}{a:Act}{w:World}(d:Fr n ds L a):∀(rs:List ResultVar) (vs:List Value),EO P L w rs vs->
  (rs.mapM (λx=>match x with
   | ResultVar.tmp t=>(Pure.pure (a.tmps.getD t undef):Sem Value)
   | ResultVar.cell p t=>do loadVar t (<-asAddr (a.tmps.getD p undef)))).run P w=.ok vs w
 | [],[],_=>by simp[go_sem]
 | [],_::_,h=>h.elim
 | _::_,[],h=>h.elim
 | r::rs,v::vs,h=>by
  have ih:=Ky d rs vs h.2;have c:=h.1
  cases r with
  | tmp t=>
   simp only[AaI] at c;simp only[List.mapM_cons,Aex,AeC,Aet,ih];simp[Array.getD,d.get t v c];have:=d.get t v c;rw[Ae4] at this;obtain ⟨f,l⟩:=this;simp[f,l]
  | cell t ty=>
   obtain ⟨b,p,i,g⟩:=c;have k:=d.get t _ i;have e:a.tmps.getD t undef=.pointer (some ⟨b,p,none⟩):=by simp[k]
   have j:(asAddr (a.tmps.getD t undef)).run P w=.ok ⟨b,p,none⟩ w:=by rw[e];rfl
   simp only[List.mapM_cons,Aex,AeC,Aet,j,g,ih]
def G6:List Value->Value
 | [v]=>v
 | vs=>.tuple vs.toArray
theorem Hr{P:Program}{b:Func}{n:Nat}{ds:List Deferred}{L:List (Nat×Value)}{a:Act}{w:World}(e:Fr n ds L a){rs:List ResultVar}(g:b.results=rs.toArray)(d:EO P L w rs V):(results b a.tmps).run P w=.ok (G6 V) w:=by
 have c:=Ky e rs V d;have f:(List.toArray<$> (rs.mapM (λx=>match x with
   | ResultVar.tmp t=>(Pure.pure (a.tmps.getD t undef):Sem Value)
   | ResultVar.cell p t=>do loadVar t (<-asAddr (a.tmps.getD p undef))))).run P w=.ok V.toArray w:=by
  show (Sem.bind _ _).run P w=_;have:=Aex (P:=P) (w:=w) (rs.mapM (λx=>match x with
   | ResultVar.tmp t=>(Pure.pure (a.tmps.getD t undef):Sem Value)
   | ResultVar.cell p t=>do loadVar t (<-asAddr (a.tmps.getD p undef)))) (λx=>(Pure.pure x.toArray:Sem (Array Value)))
  refine this.trans ?_;rw[c];rfl
 unfold results;rw[g,List.mapM_toArray,Aex]
 erw [f]
 simp only[Aet,AeC]
 cases V with
 | nil=>rfl
 | cons x xs=>cases xs with
  | nil=>rfl
  | cons y ys=>simp[G6]
theorem Ft{P:Program}{c:Func}{R:Value->World->Prop}{n:Nat}{L:List (Nat×Value)}{w:World}{rs:List ResultVar}(e:c.results=rs.toArray)(vs:List Value)(d:EO P L w rs vs)(f:G6 vs=v)(h:R v w):∀a,Fr n [] L a->Gh P c R a w:=λa b=>
 ⟨b.defers,v,by rw[<-f];exact Hr b e d,h⟩
theorem AcT{P:Program}{b:Func}{R:Value->World->Prop}{n:Nat}{L:List (Nat×Value)}{a:Act}{w:World}(c:Fr n [] L a)(d:b.results= #[])(h:R (.tuple #[]) w):Gh P b R a w:=
 ⟨c.defers,_,by simp[results,d,go_sem],h⟩
theorem dn0{P:Program}{b:Func}{R:Value->World->Prop}{n:Nat}{L:List (Nat×Value)}{w:World}(d:b.results= #[])(h:R (.tuple #[]) w):∀a,Fr n [] L a->Gh P b R a w:=λ_ c=>AcT c d h
end
section
structure Ext(F:Nat->Prop)(w w':World):Prop where
 os:w'.os=w.os
 tape:w'.tape=w.tape
 output:w'.output=w.output
 size:w.heap.size<=w'.heap.size
 block:∀k,k<w.heap.size->¬F k->w'.heap[k]?=w.heap[k]?
def No:Nat->Prop:=λ_=>False
theorem Ext.refl(F:Nat->Prop)(w:World):Ext F w w:=⟨Z,Z,Z,Ael _,λ_ _ _=>rfl⟩
theorem Ext.mono{F b:Nat->Prop}{w:World}(h:Ext F w z)(c:∀k,k<w.heap.size->F k->b k):Ext b w z:=
 ⟨h.os,h.tape,h.output,h.size,λk a d=>h.block k a (λq=>d (c k a q))⟩
theorem Ext.below{w:World}(h:Ext No w z):Below w.heap.size w z:=⟨h.os,h.tape,h.output,h.size,λk a=>h.block k a (λq=>q)⟩
theorem Ext.of_grown{w:World}{a:Option Nat}(h:w.grownBy z a):Ext (λk=>some k=a) w z:=⟨h.os,h.tape,h.output,h.size,λk b c=>h.block k b c⟩
theorem Ext.drawn(F:Nat->Prop)(w:World):Ext F w {w with drawn:=w.drawn+1} :=⟨Z,Z,Z,Ael _,λ_ _ _=>rfl⟩
def Blk(b:Nat)(cs:List Value)(ty:TypeId)(w:World):Prop:=w.heap[b]?=some (.cells cs.toArray ty (0,0))
def FG(b o:Nat)(v:Value)(w:World):Prop:=w.cell? ⟨b,o,none⟩=some v
theorem Sj{w:World}{o:Obj}(h:w.heap[m]?=some o):m<w.heap.size:=by
 rcases Aeu m w.heap.size with h'|h'
 ·exact h'
 rw[Ae3 h'] at h;cases h
theorem Blk.lt{b:Nat}{cs:List Value}{ty:TypeId}{w:World}(h:Blk b cs ty w):b<w.heap.size:=Sj h
theorem Blk.cel{b:Nat}{cs:List Value}{ty:TypeId}{w:World}(h:Blk b cs ty w)(o:Nat){v:Value}(a:cs[o]?=some v):FG b o v w:=by
 unfold FG World.cell?;have h':w.heap[b]?=some (.cells cs.toArray ty (0,0)):=h;simp[h',a]
theorem Blk.free{b:Nat}{cs:List Value}{ty:TypeId}{w:World}(h:Blk b cs ty w)(o:Nat):w.frozen? ⟨b,o,none⟩=false:=by
 unfold World.frozen?;have h':w.heap[b]?=some (.cells cs.toArray ty (0,0)):=h;simp[h']
def AdC(P:Program)(C:World->Prop)(o:Oper)(a:Act)(v:Value):Prop:=∀w,C w->(execOp a.eval o).run P w=.ok (.value v) w
def Av(P:Program)(C:World->Prop)(n:Nat)(ds:List Deferred)(L:List (Nat×Value))(o:Oper)(v:Value):Prop:=∀a,Fr n ds L a->AdC P C o a v
def AdD(P:Program)(o:Oper)(a:Act)(w:World)(R:Value->World->Prop):Prop:=∃v w',(execOp a.eval o).run P w=.ok (.value v) w'/\R v w'
def AdE(P:Program)(o:Oper)(a:Act)(w:World)(R:World->Prop):Prop:=∃w',(execOp a.eval o).run P w=.ok .skip w'/\R w'
def CA(P:Program)(n:Nat)(ds:List Deferred)(L:List (Nat×Value))(o:Oper)(w:World)(R:Value->World->Prop):Prop:=∀a,Fr n ds L a->AdD P o a w R
def DI(P:Program)(n:Nat)(ds:List Deferred)(L:List (Nat×Value))(o:Oper)(w:World)(R:World->Prop):Prop:=∀a,Fr n ds L a->AdE P o a w R
def BN(ops:List Oper)(L:List (Nat×Value)):Option (Nat×Bool)->Bool
 | none=>true
 | some (j,b)=>match (ops[j]?).bind (·.dst) with
  | some t=>match CD L t with
   | some (.bool c)=>(match c,b with|true,true=>true|false,false=>true|_,_=>false)
   | _=>false
  | none=>false
def EX(ops:List Oper)(L:List (Nat×Value)):Option (Nat×Bool)->Bool
 | none=>false
 | some (j,b)=>match (ops[j]?).bind (·.dst) with
  | some t=>match CD L t with
   | some (.bool c)=>(match c,b with|true,false=>true|false,true=>true|_,_=>false)
   | some (.tuple _)=>true
   | _=>false
  | none=>false
theorem wantL_ok{ops:List Oper}{L:List (Nat×Value)}{n:Nat}{ds:List Deferred}{a:Act}{o:Oper}(e:Fr n ds L a)(h:BN ops L o.guard=true):Region.wanted o (yielded ops.toArray a.tmps)=true:=by
 unfold Region.wanted
 cases hg:o.guard with
 | none=>rfl
 | some g=>
  obtain ⟨j,b⟩:=g;rw[hg] at h;simp only[BN] at h;simp only[yielded,Afh]
  cases ht:(ops[j]?).bind (·.dst) with
  | none=>rw[ht] at h;cases h
  | some t=>
   rw[ht] at h;simp only at h
   cases hl:CD L t with
   | none=>rw[hl] at h;cases h
   | some v=>
    rw[hl] at h;have d:=e.get t v hl;cases v<;>simp at h;rename_i c;simp only[AgY,d];cases c<;>cases b<;>simp at h ⊢
theorem skipL_ok{ops:List Oper}{L:List (Nat×Value)}{n:Nat}{ds:List Deferred}{a:Act}{o:Oper}(e:Fr n ds L a)(h:EX ops L o.guard=true):Region.wanted o (yielded ops.toArray a.tmps)=false:=by
 unfold Region.wanted
 cases hg:o.guard with
 | none=>rw[hg] at h;cases h
 | some g=>
  obtain ⟨j,b⟩:=g;rw[hg] at h;simp only[EX] at h;simp only[yielded,Afh]
  cases ht:(ops[j]?).bind (·.dst) with
  | none=>rw[ht] at h;cases h
  | some t=>
   rw[ht] at h;simp only at h
   cases hl:CD L t with
   | none=>rw[hl] at h;cases h
   | some v=>
    rw[hl] at h;have d:=e.get t v hl;simp only[AgY,d];cases v<;>simp at h ⊢;rename_i c;cases c<;>cases b<;>simp at h ⊢
section steps
variable{P:Program}{ops:List Oper}{Q:Exit->Act->World->Prop}{a:Act}{w:World}{rest:List Oper}{o:Oper}{n d:Nat}{ds:List Deferred}{L:List (Nat×Value)}{v:Value}
theorem AB{p:World->Prop}{w:World}(h:p w):∀a,a=w->p a:=λa e=>by subst e;exact h
theorem s_do(f:BN ops L o.guard=true)(g:o.dst=some d)(e:Nat.blt d n=true)(c:Av P (· =w) n ds L o v)(K:∀a',Fr n ds ((d,v)::L) a'->wpList P ops.toArray Q rest a' w):∀a,Fr n ds L a->wpList P ops.toArray Q (o::rest) a w:=by
 intro a b;unfold wpList;rw[if_pos (wantL_ok b f)];left;unfold Oper.wp;rw[c a b w Z,AgO,g];exact K _ (b.put d v e)
theorem Sk(f:EX ops L o.guard=true)(e:o.dst=some d)(b:Nat.blt d n=true)(K:∀a',Fr n ds ((d,undef)::L) a'->wpList P ops.toArray Q rest a' w):∀a,Fr n ds L a->wpList P ops.toArray Q (o::rest) a w:=by
 intro a c;unfold wpList;rw[if_neg (by rw[skipL_ok c f];exact AgT),e];exact K _ (c.put d undef b)
theorem XI(d:EX ops L o.guard=true)(c:o.dst=none)(K:∀a,Fr n ds L a->wpList P ops.toArray Q rest a w):∀a,Fr n ds L a->wpList P ops.toArray Q (o::rest) a w:=by
 intro a b;unfold wpList;rw[if_neg (by rw[skipL_ok b d];exact AgT),c];exact K a b
theorem E4{R:Value->World->Prop}(f:BN ops L o.guard=true)(j:o.dst=some d)(c:Nat.blt d n=true)(h:CA P n ds L o w R)(K:∀v b,R v b->∀a',Fr n ds ((d,v)::L) a'->wpList P ops.toArray Q rest a' b):∀a,Fr n ds L a->wpList P ops.toArray Q (o::rest) a w:=by
 intro a e;obtain ⟨v,b,i,g⟩:=h a e;unfold wpList;rw[if_pos (wantL_ok e f)];left;unfold Oper.wp;rw[i,AgO,j];exact K v b g _ (e.put d v c)
theorem F2{R:World->Prop}(d:BN ops L o.guard=true)(g:o.dst=none)(h:DI P n ds L o w R)(K:∀b,R b->∀a,Fr n ds L a->wpList P ops.toArray Q rest a b):∀a,Fr n ds L a->wpList P ops.toArray Q (o::rest) a w:=by
 intro a c;obtain ⟨b,f,e⟩:=h a c;unfold wpList;rw[if_pos (wantL_ok c d)];left;unfold Oper.wp;rw[f,Oper.upon_skip,g];exact K b e a c
theorem Sl{p:Prop}[Decidable p](t:Nat)(b:CD L t=some (.bool (decide p)))(e:p->∀a,Fr n ds ((t,.bool true)::L) a->wpList P ops.toArray Q (o::rest) a w)(d:¬p->∀a,Fr n ds ((t,.bool false)::L) a->wpList P ops.toArray Q (o::rest) a w):∀a,Fr n ds L a->wpList P ops.toArray Q (o::rest) a w:=by
 intro a c;by_cases h:p
 ·exact e h a (c.upd t b (by simp[h]))
 exact d h a (c.upd t b (by simp[h]))
theorem Uq(t:Nat)(c:CD L t=some (.bool b))(f:b=true->∀a,Fr n ds ((t,.bool true)::L) a->wpList P ops.toArray Q (o::rest) a w)(e:b=false->∀a,Fr n ds ((t,.bool false)::L) a->wpList P ops.toArray Q (o::rest) a w):∀a,Fr n ds L a->wpList P ops.toArray Q (o::rest) a w:=by
 intro a d
 cases b with
 | true=>exact f Z a (d.upd t c Z)
 | false=>exact e Z a (d.upd t c Z)
theorem AT{R:Act->World->Prop}{X:Nat->Act->World->Prop}(h:∀a,Fr n ds L a->N a w):∀a,Fr n ds L a->wpList P ops.toArray (Qp N X R) [] a w:=h
theorem AK{id:Nat}{R:Act->World->Prop}{X:Nat->Act->World->Prop}(h:∀a,Fr n ds L a->wpList P ops.toArray (Qp N X R) ops a w):∀a,Fr n ds L a->(Code.region id ops.toArray false).wp P (Qp N X R) a w:=λa b=>wp_region_lit (h a b)
theorem Sm{R:Value->World->Prop}{f:FuncId}{args:List Operand}{vs:List Value}{tys:Array TypeId}(p:BN ops L o.guard=true)(m:o.dst=some d)(j:Nat.blt d n=true)
  (r:o.op=.call {callee:=.value (.func f),args:=args.toArray,argTypes:=tys})(b:evs L args=some vs)(l:∀w,(callFunc f vs.toArray).run P w=.ok (.enter f vs.toArray) w)(h:Calls P f vs.toArray w (Ret R))
  (K:∀v i,R v i->∀a',Fr n ds ((d,v)::L) a'->wpList P ops.toArray Q rest a' i):∀a,Fr n ds L a->wpList P ops.toArray Q (o::rest) a w:=by
 intro a k;unfold wpList;rw[if_pos (wantL_ok k p)];left;have g:(execOp a.eval o).run P w=.ok (.enter f vs.toArray) w:=by
  unfold execOp;have e:=k.evs b;simp only[r,resolve,Act.eval,Deferred.ofValue,invoke];simp only[go_sem,AeZ,e,AeT,AeY,l];simpa using l w
 unfold Oper.wp;rw[g,AgP];exact Agx h λe i q=>by
  cases e with
  | returned v=>simp only[m];exact K v i q _ (k.put d v j)
  | panicked c=>exact q.elim
  | outgrown=>exact q.elim
end steps

section quiet
variable{P:Program}{ops:List Oper}{C:World->Prop}{Q:Act->Prop}{a:Act}{rest:List Oper}{o:Oper}{n d:Nat}{ds:List Deferred}{L:List (Nat×Value)}{v:Value}
theorem AM(g:BN ops L o.guard=true)(i:o.dst=some d)(e:Nat.blt d n=true)(c:Av P C n ds L o v)(K:∀a',Fr n ds ((d,v)::L) a'->wpQuiet P ops.toArray C Q rest a'):∀a,Fr n ds L a->wpQuiet P ops.toArray C Q (o::rest) a:=λa b=>
 wpQuiet_step λK' h=>by
  rw[if_pos (wantL_ok b g)];refine ⟨v,λw f=>?_,h _ ?_⟩
  ·unfold Oper.quietAt;rw[c a b w f];exact ⟨Z,Z⟩
  rw[i];exact K _ (b.put d v e)
theorem Sn(e:EX ops L o.guard=true)(g:o.dst=some d)(b:Nat.blt d n=true)(K:∀a',Fr n ds ((d,undef)::L) a'->wpQuiet P ops.toArray C Q rest a'):∀a,Fr n ds L a->wpQuiet P ops.toArray C Q (o::rest) a:=λa c=>
 wpQuiet_step λK' f=>by
  rw[if_neg (by rw[skipL_ok c e];exact AgT)];exact f _ (by rw[g];exact K _ (c.put d undef b))
theorem B8{p:Prop}[Decidable p](t:Nat)(b:CD L t=some (.bool (decide p)))(e:p->∀a,Fr n ds ((t,.bool true)::L) a->wpQuiet P ops.toArray C Q (o::rest) a)(d:¬p->∀a,Fr n ds ((t,.bool false)::L) a->wpQuiet P ops.toArray C Q (o::rest) a):∀a,Fr n ds L a->wpQuiet P ops.toArray C Q (o::rest) a:=by
 intro a c;by_cases h:p
 ·exact e h a (c.upd t b (by simp[h]))
 exact d h a (c.upd t b (by simp[h]))
theorem Dn{f:FuncId}{args:List Operand}{vs:List Value}{tys:Array TypeId}(s:BN ops L o.guard=true)(r:o.dst=some d)(i:Nat.blt d n=true)
  (t:o.op=.call {callee:=.value (.func f),args:=args.toArray,argTypes:=tys})(b:evs L args=some vs)(k:∀w,(callFunc f vs.toArray).run P w=.ok (.enter f vs.toArray) w)(h:∀w,C w->Calls P f vs.toArray w (Ret λu l=>u=v/\C l))
  (K:∀a',Fr n ds ((d,v)::L) a'->wpQuiet P ops.toArray C Q rest a'):∀a,Fr n ds L a->wpQuiet P ops.toArray C Q (o::rest) a:=λa j=>
 wpQuiet_step λK' p=>by
  rw[if_pos (wantL_ok j s)];refine ⟨v,λw m=>?_,p _ ?_⟩
  ·have g:(execOp a.eval o).run P w=.ok (.enter f vs.toArray) w:=by
    unfold execOp;have e:=j.evs b;simp only[t,resolve,Act.eval,Deferred.ofValue,invoke];simp only[go_sem,AeZ,e,AeT,AeY,k];simpa using k w
   unfold Oper.quietAt;rw[g];refine ⟨Z,Agx (h w m) λe l q=>?_⟩
   cases e with
   | returned u=>exact ⟨by rw[q.1],q.2⟩
   | panicked c=>exact q.elim
   | outgrown=>exact q.elim
  rw[r];exact K _ (j.put d v i)
theorem BB(h:∀b,C b->∀a,Fr n ds L a->N a b):∀a,Fr n ds L a->wpQuiet P ops.toArray C (λa'=>∀b,C b->N a' b) [] a:=λa d b c=>h b c a d
theorem Bu{R:Act->World->Prop}{X:Nat->Act->World->Prop}{w:World}(C:World->Prop)(f:P.follows .mixedOrders=true)(d:Region.lexB .any ops.toArray=true)(c:C w.drew)
  (h:∀a,Fr n ds L a->wpQuiet P ops.toArray C (λa'=>∀b,C b->N a' b) ops a):∀a,Fr n ds L a->(Code.region m ops.toArray true).wp P (Qp N X R) a w:=λa e=>
 wp_region_quiet (C:=C) f d c (h a e)
end quiet
end
section
section
variable{P:Program}{C:World->Prop}{o:Oper}{a:Act}{n:Nat}{ds:List Deferred}{L:List (Nat×Value)}{v:Value}
theorem Ck{x:Operand}(c:o.op=.move x)(b:ev L x=some v):Av P C n ds L o v:=λa d w _=>by
 simp only[execOp,c,d.ev b];rfl
theorem AQ{x:Operand}(c:o.op=.assign x)(b:ev L x=some v):Av P C n ds L o v:=λa d w _=>by
 simp only[execOp,c,d.ev b];rfl
theorem Nr{c x y:Operand}(e:o.op=.pick c x y)(d:ev L c=some (.bool true))(f:ev L x=some v):Av P C n ds L o v:=λa b w _=>by
 simp only[execOp,e,b.ev d,b.ev f];simp[go_sem]
theorem Ns{c x y:Operand}(e:o.op=.pick c x y)(d:ev L c=some (.bool false))(f:ev L y=some v):Av P C n ds L o v:=λa b w _=>by
 simp only[execOp,e,b.ev d,b.ev f];simp[go_sem]

def D9(P:Program)(s t:TypeId):Option IntKind:=match P.underlying s,P.underlying t with
 | some _,some (.int k)=>some k
 | _,_=>none
theorem FM{t:TypeId}{k:IntKind}(h:D9 P T t=some k):∃d,P.underlying T=some d/\P.underlying t=some (.int k):=by
 unfold D9 at h;split at h
 ·rename_i d c a b;simp only[Aeo] at h;subst h;exact ⟨d,a,b⟩
 cases h
def Do(P:Program)(t:TypeId):Option Nat:=match P.underlying t with
 | some (.slice e)=>(P.info? e).map (·.size)
 | _=>none
theorem Fe(h:Do P T=some m):∃e i,P.underlying T=some (.slice e)/\P.info? e=some i/\i.size=m:=by
 unfold Do at h;split at h
 ·rename_i e a
  cases hi:P.info? e with
  | none=>rw[hi] at h;cases h
  | some i=>rw[hi] at h;exact ⟨e,i,a,hi,by simpa using h⟩
 cases h
def Ih(P:Program)(t:TypeId):Option (Nat×Nat):=match P.underlying t with
 | some (.array l e)=>(P.info? e).map λi=>(l,i.size)
 | _=>none
theorem Ii(h:Ih P T=some (m,j)):∃e i,P.underlying T=some (.array m e)/\P.info? e=some i/\i.size=j:=by
 unfold Ih at h;split at h
 ·rename_i l' e a
  cases hi:P.info? e with
  | none=>rw[hi] at h;cases h
  | some i=>
   rw[hi] at h;simp only[AeV,Aeo,AfG] at h;obtain ⟨rfl,b⟩:=h;exact ⟨e,i,a,hi,b⟩
 cases h
def El(P:Program)(s:TypeId)(f:Nat):Option Nat:=match P.underlying s with
 | some (.struct fs)=>match fs[f]? with
  | some fd=>match P.info? fd.type with
   | some i=>bif Nat.beq i.size 0 then none else some fd.offset
   | none=>none
  | none=>none
 | _=>none
theorem Pu{k:Nat}(h:El P T m=some k):∃b a i,P.underlying T=some (.struct b)/\b[m]?=some a/\P.info? a.type=some i/\i.size≠0/\a.offset=k:=by
 unfold El at h;split at h
 ·rename_i b c
  split at h
  ·rename_i a e
   split at h
   ·rename_i i d
    cases hb:Nat.beq i.size 0 with
    | true=>rw[hb] at h;cases h
    | false=>
     rw[hb] at h;exact ⟨b,a,i,c,e,d,Agz hb,by simpa using h⟩
   cases h
  cases h
 cases h
def Ij(P:Program)(t:TypeId):Option Nat:=match P.underlying t with
 | some (.struct _)=>(P.info? t).map (·.size)
 | some (.array _ _)=>(P.info? t).map (·.size)
 | _=>none
theorem Nt(h:Ij P T=some m)(w:World):(isAgg T).run P w=.ok true w/\(sizeOf T).run P w=.ok m w:=by
 have key:∀d,P.underlying T=some d->((d matches .struct _)=true\/(d matches .array _ _)=true)->(P.info? T).map (·.size)=some m->(isAgg T).run P w=.ok true w/\(sizeOf T).run P w=.ok m w:=by
  intro d c a hs
  cases hi:P.info? T with
  | none=>rw[hi] at hs;cases hs
  | some i=>
   rw[hi] at hs;simp only[AeV,Aeo] at hs;refine ⟨?_,by simp[sizeOf,typeInfo,hi,go_sem,hs]⟩;unfold isAgg;simp only[run_underlying c,go_sem,Aex,Aet];rcases a with a|a<;>(cases d<;>simp at a ⊢)
 unfold Ij at h;split at h
 ·rename_i b;exact key _ b (.inl Z) h
 ·rename_i b;exact key _ b (.inr Z) h
 cases h

section ints
variable{x y:Operand}{xt yt:TypeId}{k:IntKind}{p q:Int}
theorem W7(e:o.op=.binOp .add xt x y yt)(d:ev L x=some (.int k p))(c:ev L y=some (.int k q)):Av P C n ds L o (.int k (k.wrap (p+q))):=λa b w _=>by
 simp only[execOp,e,b.ev d,b.ev c];simp[go_sem]
theorem AcU(e:o.op=.binOp .sub xt x y yt)(d:ev L x=some (.int k p))(c:ev L y=some (.int k q)):Av P C n ds L o (.int k (k.wrap (p-q))):=λa b w _=>by
 simp only[execOp,e,b.ev d,b.ev c];simp[go_sem]
theorem AcV(e:o.op=.binOp .mul xt x y yt)(d:ev L x=some (.int k p))(c:ev L y=some (.int k q)):Av P C n ds L o (.int k (k.wrap (p*q))):=λa b w _=>by
 simp only[execOp,e,b.ev d,b.ev c];simp[go_sem]
theorem AcW(c:o.op=.binOp .quo xt x y yt)(f:ev L x=some (.int k p))(e:ev L y=some (.int k q))(d:q≠0):Av P C n ds L o (.int k (k.wrap (p.tdiv q))):=λa b w _=>by
 simp only[execOp,c,b.ev f,b.ev e];simp[go_sem,d]
theorem Ra(c:o.op=.binOp .rem xt x y yt)(f:ev L x=some (.int k p))(e:ev L y=some (.int k q))(d:q≠0):Av P C n ds L o (.int k (p.tmod q)):=λa b w _=>by
 simp only[execOp,c,b.ev f,b.ev e];simp[go_sem,d]
theorem Rb(e:o.op=.binOp .lss xt x y yt)(d:ev L x=some (.int k p))(c:ev L y=some (.int k q)):Av P C n ds L o (.bool (decide (p<q))):=λa b w _=>by
 simp only[execOp,e,b.ev d,b.ev c];simp[go_sem]
theorem W8(e:o.op=.binOp .leq xt x y yt)(d:ev L x=some (.int k p))(c:ev L y=some (.int k q)):Av P C n ds L o (.bool (decide (p<=q))):=λa b w _=>by
 simp only[execOp,e,b.ev d,b.ev c];simp[go_sem]
theorem Xa(e:o.op=.binOp .gtr xt x y yt)(d:ev L x=some (.int k p))(c:ev L y=some (.int k q)):Av P C n ds L o (.bool (decide (q<p))):=λa b w _=>by
 simp only[execOp,e,b.ev d,b.ev c];simp[go_sem]
theorem Xb(e:o.op=.binOp .geq xt x y yt)(d:ev L x=some (.int k p))(c:ev L y=some (.int k q)):Av P C n ds L o (.bool (decide (q<=p))):=λa b w _=>by
 simp only[execOp,e,b.ev d,b.ev c];simp[go_sem]
theorem Xc(e:o.op=.binOp .eql xt x y yt)(d:ev L x=some (.int k p))(c:ev L y=some (.int k q)):Av P C n ds L o (.bool (decide (p=q))):=λa b w _=>by
 simp only[execOp,e,b.ev d,b.ev c];simp[go_sem];rw[Aez];simp
theorem Xd(e:o.op=.binOp .neq xt x y yt)(d:ev L x=some (.int k p))(c:ev L y=some (.int k q)):Av P C n ds L o (.bool (decide (p≠q))):=λa b w _=>by
 simp only[execOp,e,b.ev d,b.ev c];simp[go_sem];rw[Aez];simp
theorem C4(e:o.op=.binOp .add xt x y yt)(c:ev L x=some (I p))(b:ev L y=some (I q)){r:Int}(a:p+q=r)(d: -9223372036854775808<=r/\r<=9223372036854775807):Av P C n ds L o (I r):=by
 have:=W7 (P:=P) (C:=C) (n:=n) (ds:=ds) (L:=L) e c b;rwa[a,AfO _ d] at this
theorem Hy(e:o.op=.binOp .sub xt x y yt)(c:ev L x=some (I p))(b:ev L y=some (I q)){r:Int}(a:p-q=r)(d: -9223372036854775808<=r/\r<=9223372036854775807):Av P C n ds L o (I r):=by
 have:=AcU (P:=P) (C:=C) (n:=n) (ds:=ds) (L:=L) e c b;rwa[a,AfO _ d] at this
theorem Hz(e:o.op=.binOp .mul xt x y yt)(c:ev L x=some (I p))(b:ev L y=some (I q)){r:Int}(a:p*q=r)(d: -9223372036854775808<=r/\r<=9223372036854775807):Av P C n ds L o (I r):=by
 have:=AcV (P:=P) (C:=C) (n:=n) (ds:=ds) (L:=L) e c b;rwa[a,AfO _ d] at this
theorem Lt(b:o.op=.binOp .quo xt x y yt)(e:ev L x=some (I p))(d:ev L y=some (I q)){r:Int}(a:0<=p)(f:0<q)(c:p/q=r)(g:p<=9223372036854775807):Av P C n ds L o (I r):=by
 have:=AcW (P:=P) (C:=C) (n:=n) (ds:=ds) (L:=L) b e d U;rw[Int.tdiv_eq_ediv_of_nonneg a] at this;have h:0<=p/q:=Int.ediv_nonneg a U;have i:p/q<=p:=Int.ediv_le_self q a;rwa[c,AfO _ U] at this
theorem Lu(f:o.op=.binOp .rem xt x y yt)(e:ev L x=some (.int k p))(d:ev L y=some (.int k q)){r:Int}(c:0<=p)(a:q≠0)(b:p%q=r):Av P C n ds L o (.int k r):=by
 have:=Ra (P:=P) (C:=C) (n:=n) (ds:=ds) (L:=L) f e d a;rwa[Int.tmod_eq_emod_of_nonneg c,b] at this
theorem Xe(c:o.op=.unOp .neg xt x)(b:ev L x=some (.int k p)):Av P C n ds L o (.int k (k.wrap (0-p))):=λa d w _=>by
 simp only[execOp,c,d.ev b];simp[go_sem]
theorem PN(c:o.op=.unOp .neg xt x)(a:ev L x=some (I p)){r:Int}(d: -p=r)(b: -9223372036854775808<=r/\r<=9223372036854775807):Av P C n ds L o (I r):=by
 have:=Xe (P:=P) (C:=C) (n:=n) (ds:=ds) (L:=L) c a;rwa[show (0:Int)-p=r from by omega,AfO _ b] at this
theorem HA{c:IntKind}(e:o.op=.convert xt T x)(b:D9 P xt T=some c)(g:ev L x=some (.int k p)):Av P C n ds L o (.int c (c.wrap p)):=λa d w _=>by
 obtain ⟨h,f,b⟩:=FM b;simp only[execOp,e,d.ev g];simp[convert,run_underlying f,run_underlying b,go_sem]
theorem Ur{a:IntKind}(e:o.op=.convert xt T x)(b:D9 P xt T=some a)(d:ev L x=some (.int k p)){r:Int}(c:a.wrap p=r):Av P C n ds L o (.int a r):=by
 have:=HA (P:=P) (C:=C) (n:=n) (ds:=ds) (L:=L) e b d;rwa[c] at this
end ints

def Nu(P:Program)(t:TypeId):Bool:=match P.underlying t with|some .bool=>true|_=>false
theorem So(h:Nu P T=true):P.underlying T=some .bool:=by
 unfold Nu at h;split at h
 ·assumption
 cases h
theorem Kz{xt:TypeId}{x:Operand}(d:o.op=.unOp .not xt x)(e:ev L x=some (.bool b)):Av P C n ds L o (.bool !b):=λa c w _=>by
 simp only[execOp,d,c.ev e];simp[go_sem]
theorem AG{xt:TypeId}{x:Operand}(c:o.op=.unOp .not xt x){p:Prop}[Decidable p](d:ev L x=some (.bool (decide p))):Av P C n ds L o (.bool (decide (¬p))):=λa b w _=>by
 simp only[execOp,c,b.ev d];simp[go_sem]
theorem Nv{xt yt:TypeId}{x y:Operand}(f:o.op=.binOp .neq xt x y yt)(d:Nu P xt=true)(g:ev L x=some (.bool b))(h:ev L y=some (.bool c)):Av P C n ds L o (.bool (decide (b≠c))):=λa e w _=>by
 have d:=So d;simp only[execOp,f,e.ev g,e.ev h];simp[d,go_sem];cases b<;>cases c<;>rfl

def Gi(P:Program)(t:TypeId):Bool:=match P.underlying t with
 | some (.struct _)=>false
 | some (.array _ _)=>false
 | some _=>true
 | none=>false
theorem FN(h:Gi P T=true)(w:World):(isAgg T).run P w=.ok false w:=by
 unfold Gi at h;unfold isAgg
 cases hu:P.underlying T with
 | none=>rw[hu] at h;cases h
 | some d=>rw[hu] at h;simp[run_underlying hu,go_sem];cases d<;>simp at h ⊢
theorem Bn{x:Operand}{p:Nat}(e:o.op=.load T x)(f:ev L x=some (.pointer (some ⟨m,p,none⟩)))(g:Gi P T=true)(b:∀w,C w->FG m p v w):Av P C n ds L o v:=λa d w c=>by
 have:=b w c;unfold FG at this;simp only[execOp,e,d.ev f];simp[Instr.loadAt,Instr.sureAddr,loadVar,FN g,go_sem,this]
theorem BW{x:Operand}{p:Nat}{vs:List Value}(l:o.op=.load T x)(f:ev L x=some (.pointer (some ⟨m,p,none⟩)))
  (q:Ij P T=some vs.length)(h:∀w,C w->∀j u,vs[j]?=some u->FG m (p+j) u w):Av P C n ds L o (.agg vs.toArray):=λa k w i=>by
 have g:=run_loadCells_list (P:=P) w ⟨m,p,none⟩ vs (λj u r=>by
  have:=h w i j u r;have e:(Addr.add ⟨m,p,none⟩ j)=⟨m,p+j,none⟩:=by
   unfold Addr.add;split
   ·rename_i d;simp[d]
   rfl
  rw[e];exact this)
 obtain ⟨b,c⟩:=Nt q w;simp only[execOp,l,k.ev f,Instr.loadAt,Instr.sureAddr,loadVar,Aex,AeC,Aet,b,if_true,c,g]
theorem Blk.part{b:Nat}{cs:List Value}{ty:TypeId}{w:World}(h:Blk b cs ty w)(p k:Nat)(vs:List Value)(c:vs=(cs.drop p).take k):∀j u,vs[j]?=some u->FG b (p+j) u w:=λj u a=>by
 subst c;refine h.cel _ ?_;rw[Ae0] at a;split at a
 ·rw[Afn] at a;exact a
 cases a
def G7(P:Program)(t:TypeId):Bool:=match P.underlying t with|some .string=>true|_=>false
theorem GF(h:G7 P T=true):P.underlying T=some .string:=by
 unfold G7 at h;split at h
 ·assumption
 cases h

theorem F3{x:Operand}{t z:TypeId}{h:Option Addr}{l c:Nat}(g:o.op=.call {callee:=.builtin .len,args:= #[x],argTypes:= #[t]})(b:Do P t=some z)(d:ev L x=some (.slice h l c)):Av P C n ds L o (I l):=λa f w _=>by
 obtain ⟨e,i,b,_,_⟩:=Fe b;simp only[execOp,g,f.ev d,resolve,AeZ,AeM,AfB];simp[invoke,builtin,Builtin.len_,run_underlying b,goInt,go_sem]
theorem AaK{x:Operand}{t:TypeId}{s:ByteArray}(d:o.op=.call {callee:=.builtin .len,args:= #[x],argTypes:= #[t]})(b:G7 P t=true)(e:ev L x=some (.string s)):Av P C n ds L o (I s.size):=λa c w _=>by
 have b:=GF b;simp only[execOp,d,c.ev e,resolve,AeZ,AeM,AfB];simp[invoke,builtin,Builtin.len_,run_underlying b,goInt,go_sem]
theorem Nj{x y:Operand}{t u:TypeId}{k c:IntKind}{p q:Int}(d:o.op=.call {callee:=.builtin .max,args:= #[x,y],argTypes:= #[t,u]})(e:ev L x=some (.int k p))(f:ev L y=some (.int c q)):Av P C n ds L o (.int k (max p q)):=λa b w _=>by
 simp only[execOp,d,b.ev e,b.ev f,resolve,AeZ,AeM,AfB];simp[invoke,builtin,Builtin.max_,Builtin.max2,go_sem];omega
theorem KA{x y:Operand}{t u:TypeId}{k c:IntKind}{p q:Int}(d:o.op=.call {callee:=.builtin .min,args:= #[x,y],argTypes:= #[t,u]})(e:ev L x=some (.int k p))(f:ev L y=some (.int c q)):Av P C n ds L o (.int k (min p q)):=λa b w _=>by
 simp only[execOp,d,b.ev e,b.ev f,resolve,AeZ,AeM,AfB];simp[invoke,builtin,Builtin.min_,Builtin.min2,go_sem];omega
theorem DU{x:Operand}{p k:Nat}(g:o.op=.fieldAddr T x m)(hs:El P T m=some k)(b:ev L x=some (.pointer (some ⟨i,p,none⟩)))(l:p+k=r):Av P C n ds L o (.pointer (some ⟨i,r,none⟩)):=λa f w _=>by
 obtain ⟨t,c,j,hs,h,hi,d,s⟩:=Pu hs;have e:(Addr.add ⟨i,p,none⟩ c.offset)=⟨i,r,none⟩:=by
  unfold Addr.add;split
  ·rename_i q;simp only[Aho,true_and,and_true];omega
  simp only[Aho,true_and,and_true];omega
 simp only[execOp,g,f.ev b];simp[Instr.fieldAt,run_underlying hs,h,Instr.sureAddr,fieldPlace,sizeOf,typeInfo,hi,d,e,go_sem]
theorem CJ{x y:Operand}{p c z:Nat}{k:IntKind}(u:o.op=.indexAddr T x y)(d:Do P T=some z)
  (l:ev L x=some (.slice (some ⟨m,p,none⟩) g c))(v:ev L y=some (.int k s))(b:s=j)(q:j<g)(i:p+j*z=r):Av P C n ds L o (.pointer (some ⟨m,r,none⟩)):=λa f w _=>by
 obtain ⟨e,i0,d,hi,t⟩:=Fe d;subst b;have h:(0:Int)<=(j:Int)/\(j:Int)<(g:Int):=by omega
 simp only[execOp,u,f.ev l,f.ev v];simp[Instr.indexAt,run_underlying d,sizeOf,typeInfo,hi,t,h,q,i,go_sem,asIntOf]
def At(ao:Option Addr)(k:Nat)(v:Value)(w:World):Prop:=∃b p,ao=some ⟨b,p,none⟩/\FG b (p+k) v w
def GG(ao:Option Addr)(k:Nat):Value:=.pointer (ao.map λa=>⟨a.block,a.off+k,none⟩)
theorem Aj{x y:Operand}{d:Option Addr}{z:Nat}{k:IntKind}{w0:World}{q:Nat}(ho:o.op=.indexAddr T x y)(h:Do P T=some z)
  (v:ev L x=some (.slice d m g))(hy:ev L y=some (.int k s))(c:s=j)(hl:j<m)(f:At d q u w0)(t:j*z=r):Av P C n ds L o (GG d r):=λa i w _=>by
 obtain ⟨e,i0,h,hi,hz⟩:=Fe h;obtain ⟨b,p,rfl,_⟩:=f;subst c;have l:(0:Int)<=(j:Int)/\(j:Int)<(m:Int):=by omega
 simp only[execOp,ho,i.ev v,i.ev hy];simp[Instr.indexAt,run_underlying h,sizeOf,typeInfo,hi,hz,l,hl,t,GG,go_sem,asIntOf]
theorem Bi{x:Operand}{d:Option Addr}{p k q:Nat}(g:o.op=.fieldAddr T x m)(hs:El P T m=some k)(h:ev L x=some (GG d p))(c:At d q u z)(i:p+k=r):Av P C n ds L o (GG d r):=λa f w e=>by
 obtain ⟨b,p',rfl,_⟩:=c;have:=DU (P:=P) (C:=C) (r:=p'+r) g hs (show ev L x=some (.pointer (some ⟨b,p'+p,none⟩)) from h) U a f w e;simpa [GG] using this
theorem Ax{x:Operand}{c:Option Addr}{k:Nat}(i:o.op=.load T x)(j:ev L x=some (GG c k))(f:Gi P T=true)(d:∀w,C w->At c k v w):Av P C n ds L o v:=λa g w e=>by
 obtain ⟨b,p,rfl,h⟩:=d w e;exact Bn (P:=P) (C:=(· =w)) i j f (AB h) a g w Z
theorem Bt{x:Operand}{g:Option Addr}{k:Nat}{vs:List Value}(m:o.op=.load T x)(i:ev L x=some (GG g k))
  (q:Ij P T=some vs.length)(c:vs≠[])(d:∀w,C w->∀j u,vs[j]?=some u->At g (k+j) u w):Av P C n ds L o (.agg vs.toArray):=λa l w f=>by
 cases vs with
 | nil=>exact absurd Z c
 | cons u us=>
  obtain ⟨b,p,rfl,_⟩:=d w f 0 u Z;refine BW (P:=P) (C:=(· =w)) m i q (AB λj x r=>?_) a l w Z;obtain ⟨b',p',e,h⟩:=d w f j x r;simp only[Aeo,Aho,and_true] at e;obtain ⟨rfl,rfl⟩:=e;rw[Agf];exact h
theorem JV{x y:Operand}{p l z:Nat}{k:IntKind}(t:o.op=.indexAddr T x y)(c:Ih P T=some (l,z))
  (h:ev L x=some (.pointer (some ⟨m,p,none⟩)))(u:ev L y=some (.int k s))(b:s=j)(i:j<l)(g:p+j*z=r):Av P C n ds L o (.pointer (some ⟨m,r,none⟩)):=λa d w _=>by
 obtain ⟨e,v,c,hi,q⟩:=Ii c;subst b;have f:(0:Int)<=(j:Int)/\(j:Int)<(l:Int):=by omega
 simp only[execOp,t,d.ev h,d.ev u];simp[Instr.indexAt,run_underlying c,Instr.sureAddr,sizeOf,typeInfo,hi,q,f,i,g,go_sem,asIntOf]
theorem Ff{x:Operand}{vs:List Value}(c:o.op=.extract x i)(d:ev L x=some (.tuple vs.toArray))(hi:vs[i]?=some v):Av P C n ds L o v:=λa b w _=>by
 simp only[execOp,c,b.ev d];simp[Instr.extract,hi,go_sem]
theorem KB{x:Operand}{b:Addr}(d:o.op=.nilCheck x)(e:ev L x=some (.pointer (some b))):Av P C n ds L o (.pointer (some b)):=λa c w _=>by
 simp only[execOp,d,c.ev e];simp[go_sem]
theorem Ji{x:Operand}{lo hi:Option Operand}{z:Option Addr}{p q:Nat}(t:o.op=.slice T x lo hi none)(h:Do P T=some g)
  (r:ev L x=some (.slice z m j))(u:(lo=none/\p=0)\/∃y k i,lo=some y/\ev L y=some (.int k i)/\i=(p:Int))(v:(hi=none/\q=m)\/∃y k i,hi=some y/\ev L y=some (.int k i)/\i=(q:Int))(c:p<=q)(d:q<=j):
  Av P C n ds L o (.slice (if j=p then z else z.map (·.add (p*g))) (q-p) (j-p)):=λa f w _=>by
 obtain ⟨e,i0,h,b,s⟩:=Fe h;have h1:(0:Int)<=(p:Int)/\(p:Int)<=(q:Int):=by omega
 have h2:(0:Int)<=(q:Int)/\(q:Int)<=(j:Int):=by omega
 rcases u with ⟨rfl,rfl⟩|⟨y,k,i,rfl,hy,rfl⟩<;>rcases v with ⟨rfl,rfl⟩|⟨y',k',i',rfl,l,rfl⟩
 ·simp only[execOp,t,AeV,AfA,f.ev r];simp[Instr.sliceAt,Instr.slice,run_underlying h,Instr.sliceBounds,sizeOf,typeInfo,b,s,c,d,go_sem]<;>(try (intro;omega))
 ·simp only[execOp,t,AeV,AfA,f.ev r,f.ev l];simp[Instr.sliceAt,Instr.slice,run_underlying h,Instr.sliceBounds,Instr.sliceBound,asIntOf,h2,sizeOf,typeInfo,b,s,c,d,go_sem]<;>(try (intro;omega))
 ·simp only[execOp,t,AeV,AfA,f.ev r,f.ev hy];simp[Instr.sliceAt,Instr.slice,run_underlying h,Instr.sliceBounds,Instr.sliceBound,asIntOf,h1,sizeOf,typeInfo,b,s,c,d,go_sem]<;>(try (intro;omega))
 simp only[execOp,t,AeV,AfA,f.ev r,f.ev hy,f.ev l];simp[Instr.sliceAt,Instr.slice,run_underlying h,Instr.sliceBounds,Instr.sliceBound,asIntOf,h1,h2,sizeOf,typeInfo,b,s,c,d,go_sem]<;>(try (intro;omega))
end
end
section
def Elt(P:Program)(e:TypeId)(z:Value)(sz by_:Nat):Prop:=∃i,P.info? e=some i/\i.zero=some z/\i.size=sz/\i.bytes=by_/\z.cells.size=sz/\0<sz/\0<by_
theorem Elt.mk{P:Program}{e:TypeId}{z:Value}{sz by_:Nat}(h:(P.info? e).map (λi=>(i.zero,i.size,i.bytes))=some (some z,sz,by_))(a:z.cells.size=sz)(b:0<sz)(c:0<by_):Elt P e z sz by_:=by
 cases hi:P.info? e with
 | none=>rw[hi] at h;cases h
 | some i=>
  rw[hi] at h;simp only[AeV,Aeo,AfG] at h;exact ⟨i,hi,h.1,h.2.1,h.2.2,a,b,c⟩
def Rd(sz:Nat)(v:Value)(n:Nat)(xs:List Value)(w:World):Prop:=
 ∃ao c,v=.slice ao n c/\n<=c/\c<=9223372036854775807/\xs.length=n*sz/\∀j u,xs[j]?=some u->At ao j u w
def Xf(B:Nat)(e:TypeId)(sz:Nat)(v:Value)(n:Nat)(xs:List Value)(w:World):Prop:=w.ownsRow B e sz v n xs
theorem Rd.nil(sz:Nat)(w:World):Rd sz (.slice none 0 0) 0 [] w:=⟨none,0,Z,AeR _,by omega,by simp,λj u h=>by simp at h⟩
section
variable{P:Program}{o:Oper}{a:Act}{w:World}{n:Nat}{ds:List Deferred}{L:List (Nat×Value)}
def Nw(cs:List Value)(ty:TypeId)(w:World)(v:Value)(w':World):Prop:=∃b,v=.pointer (some ⟨b,0,none⟩)/\w.heap.size=b/\w'.heap.size=b+1/\Blk b cs ty w'/\Ext No w w'
def Sp(cs:List Value)(ty:TypeId)(len:Nat)(w:World)(v:Value)(w':World):Prop:=∃b,v=.slice (some ⟨b,0,none⟩) len len/\w.heap.size=b/\w'.heap.size=b+1/\Blk b cs ty w'/\Ext No w w'
theorem Dv(w:World)(o:Obj):Ext No w {w with heap:=w.heap.push o} :=⟨Z,Z,Z,by simp,λk a _=>by
 show (w.heap.push o)[k]?=_;rw[Ahe,if_neg U]⟩
theorem PO(w:World)(cs:List Value)(ty:TypeId):Nw cs ty w (.pointer (some ⟨w.heap.size,0,none⟩)) {w with heap:=w.heap.push (.cells cs.toArray ty)} :=
 ⟨_,Z,Z,by simp,by show (w.heap.push _)[w.heap.size]?=_;simp,Dv w _⟩
theorem XJ(w:World)(cs:List Value)(ty:TypeId)(a:Nat):Sp cs ty a w (.slice (some ⟨w.heap.size,0,none⟩) a a) {w with heap:=w.heap.push (.cells cs.toArray ty)} :=
 ⟨_,Z,Z,by simp,by show (w.heap.push _)[w.heap.size]?=_;simp,Dv w _⟩
def zeroCells(P:Program)(e:TypeId):Option (Array Value):=((P.info? e).bind (·.zero)).map Value.cells
theorem XK(c:o.op=.alloc T)(b:zeroCells P T=some V.toArray):CA P n ds L o w (Nw V T w):=by
 intro a d;refine ⟨_,_,?_,PO w V T⟩;unfold zeroCells at b
 cases hi:P.info? T with
 | none=>rw[hi] at b;cases b
 | some i0=>
  rw[hi] at b;simp only[AgY] at b
  cases hq:i0.zero with
  | none=>rw[hq] at b;cases b
  | some z=>
   rw[hq] at b;simp only[AeV,Aeo] at b;simp only[execOp,c];simp[Instr.alloc,zeroValue,typeInfo,hi,hq,newVar,newRow,newObj,go_sem,Sem.run];rw[<-b];rfl
theorem Pv{vs:List Value}{t:TypeId}(h:Ij P T=some vs.length)(c:Blk m V t w)(d:vs=(V.drop i).take vs.length):(loadVar T ⟨m,i,none⟩).run P w=.ok (.agg vs.toArray) w:=by
 have g:=run_loadCells_list (P:=P) w ⟨m,i,none⟩ vs (λj u k=>by
  have:=c.part i vs.length vs d j u k;have e:(Addr.add ⟨m,i,none⟩ j)=⟨m,i+j,none⟩:=by
   unfold Addr.add;split
   ·rename_i f;simp[f]
   rfl
  rw[e];exact this)
 obtain ⟨a,b⟩:=Nt h w;simp only[loadVar,Aex,AeC,Aet,a,if_true,b,g]
theorem AcX(d:o.op=.box T x)(c:ev L x=some v)(b:v.cells=V.toArray):CA P n ds L o w (Nw V T w):=by
 intro a e;refine ⟨_,_,?_,PO w V T⟩;simp only[execOp,d,e.ev c];simp[Instr.box,newVar,newRow,newObj,go_sem,Sem.run];rw[<-b];rfl
theorem Be{C:World->Prop}{parts:List (Nat×Operand)}{vs:List (Nat×Value)}{out:List Value}(c:o.op=.build T parts.toArray)
  (b:(evs L (parts.map (·.2))).map (List.zip (parts.map (·.1)))=some vs)(d:P.built T vs=some out.toArray):Av P C n ds L o (.agg out.toArray):=λa f w _=>by
 cases he:evs L (parts.map (·.2)) with
 | none=>rw[he] at b;cases b
 | some us=>
  rw[he] at b;simp only[AeV,Aeo] at b;have e:=f.evs he;have:(parts.map λx=>(x.1,a.eval x.2))=vs:=by
   rw[<-b,<-e,Afp];clear b he e d c
   induction parts with
   | nil=>rfl
   | cons x xs ih=>simp[ih]
  have g:=run_build (P:=P) w T vs.toArray out.toArray (by simpa using d);simp only[execOp,c,AeZ];rw[show (List.map (λx=>match x with|(i,x)=>(i,a.eval x)) parts)=vs from this];simp only[Aex,g,Aet,AeC]
theorem Ut{x y:Operand}{t e:TypeId}{z:Value}{sz by_ B k m:Nat}{v u:Value}{xs news:List Value}(ho:o.op=.call {callee:=.builtin .append,args:= #[x,y],argTypes:= #[t,t]})
  (ht:P.underlying t=some (.slice e))(hE:Elt P e z sz by_)(hx:ev L x=some v)(hy:ev L y=some u)(f:Xf B e sz v k xs w)(a2:Rd sz u m news w)(h1:∀c∈news,c.oneCell'=true)(hB:B<=w.heap.size)(a3:(k+m)*by_<=140737488355328):
  CA P n ds L o w λl w'=>Xf B e sz l (k+m) (xs++news) w'/\Ext (λi=>v.ownBlock=some i) w w'/\(l.ownBlock=v.ownBlock\/l.ownBlock=some w.heap.size):=by
 intro a hF;obtain ⟨i,hi,hz,hs,hb,a6,a7,a8⟩:=hE;obtain ⟨ao,c,rfl,b2,_,hl,a1⟩:=a2;have d:∀r w',(Builtin.append_ #[t,t] o.type #[v,.slice ao m c]).run P w=.ok r w'->(execOp a.eval o).run P w=.ok (.value r) w':=λr w' h=>by
  simp only[execOp,ho,resolve,invoke,builtin,Aex,AeC,Aet,AeZ,AeM,AfB,hF.ev hx,hF.ev hy,h]
 have a5:k+m<=maxLen:=by
  have:(k+m)*1<=(k+m)*by_:=Agv _ a8;unfold maxLen;omega
 have s:news=[]->∀l,l=v->Xf B e sz l (k+m) (xs++news) w/\Ext (λi=>v.ownBlock=some i) w w/\(l.ownBlock=v.ownBlock\/l.ownBlock=some w.heap.size):=by
  intro hn l a4;subst a4;have hm:m=0:=by
   rw[hn] at hl;simp only[AeE] at hl;rcases AhG.1 hl.symm with h|h<;>omega
  subst hm;rw[hn,AeY];exact ⟨f,Ext.refl _ _,.inl Z⟩
 cases ao with
 | none=>
  have hn:news=[]:=by
   cases news with
   | nil=>rfl
   | cons q qs=>obtain ⟨b,p,hh,_⟩:=a1 0 q Z;cases hh
  have hm:m=0:=by
   rw[hn] at hl;simp only[AeE] at hl;rcases AhG.1 hl.symm with h|h<;>omega
  subst hm;refine ⟨v,w,d _ _ ?_,s hn v Z⟩;rcases f.2 with ⟨rfl,rfl⟩|⟨g,b1,b0,rfl,_,_,a9,_⟩
  ·simp[Builtin.append_,run_underlying ht,sizeOf,typeInfo,hi,Builtin.lenOf,Builtin.firstCells]
  simp[Builtin.append_,run_underlying ht,sizeOf,typeInfo,hi,Builtin.lenOf,Builtin.firstCells,a9,storeCells]
 | some ad=>
  have a0:∀j q,news[j]?=some q->w.cell? (ad.add j)=some q:=λj q hj=>by
   obtain ⟨b,p,hh,hc⟩:=a1 j q hj;simp only[Aeo] at hh;subst hh;have e:(Addr.add ⟨b,p,none⟩ j)=⟨b,p+j,none⟩:=by
    unfold Addr.add;split
    ·rename_i h0;simp[h0]
    rfl
   rw[e];exact hc
  obtain ⟨l,w',hr,h2,h3,_,h5⟩:=run_append_own_at (P:=P) w B t o.type e i z sz by_ ht hi hz hs hb a6 a7 v k xs f ad m c news hl a0 h1 a5 a3 hB;exact ⟨l,w',d _ _ hr,h2,(Ext.of_grown h3).mono (λ_ _ q=>q.symm),h5⟩
theorem PP{y:Operand}{ty:TypeId}{vs:List Value}(p:o.op=.store T x y)(h:ev L x=some (.pointer (some ⟨m,j,none⟩)))(q:ev L y=some v)(g:v.cells=vs.toArray)(f:∀u∈vs,u.oneCell'=true)
  (hs:(P.info? T).map (·.size)=some vs.length)(d:Blk m V ty w)(hp:j+vs.length<=V.length){out:List Value}(c:V.take j++vs++V.drop (j+vs.length)=out):
  DI P n ds L o w λw'=>Blk m out ty w'/\Ext (· =m) w w'/\w'.heap.size=w.heap.size:=by
 intro a e;have b:=run_storeCells_at P m j ty vs 0 V.toArray w d (by simpa using hp) f;simp only[Ag7,Af2] at b;rw[c] at b;refine ⟨_,?_,setRow_heap w m _ _ ty (0,0) d,⟨Z,Z,Z,by simp,λk _ l=>setRow_other w m k _ l⟩,by simp⟩
 cases hq:P.info? T with
 | none=>rw[hq] at hs;cases hs
 | some i=>
  rw[hq] at hs;simp only[AeV,Aeo] at hs;simp only[execOp,p,e.ev h,e.ev q,Instr.storeAt,Instr.sureAddr,storeVar,sizeOf,typeInfo,Aex,AeC,Aet,g];simp[hq,hs,go_sem,b]
end
end
section
abbrev Hp:=Nat->Option Obj
abbrev Ai:=Hp->Prop
def Hp.part(h:Hp)(own:Nat->Nat)(i:Nat):Hp:=λk=>if own k=i then h k else none
def seps(Γ:List Ai):Ai:=λh=>∃own:Nat->Nat,∀(i:Nat) (A:Ai),Γ[i]?=some A->A (h.part own i)
def hp(w:World):Hp:=λk=>w.heap[k]?
structure Sep(z:World)(Γ:List Ai)(w:World):Prop where
 os:w.os=z.os
 tape:w.tape=z.tape
 output:w.output=z.output
 own:seps Γ (hp w)
def bk(b:Nat)(o:Obj):Ai:=λh=>h b=some o
def blk(b:Nat)(cs:List Value)(ty:TypeId):Ai:=bk b (.cells cs.toArray ty (0,0))
def base(z:World):Ai:=λh=>∀k,k<z.heap.size->h k=z.heap[k]?
def emp:Ai:=λ_=>True
theorem Dg{h h':Hp}{own':Nat->Nat}(e:∀k,C k=i↔own' k=j)(a:∀k,C k=i->h k=h' k):h.part C i=h'.part own' j:=by
 funext k;unfold Hp.part;by_cases q:C k=i
 ·rw[if_pos q,if_pos ((e k).1 q),a k q]
 rw[if_neg q,if_neg (λb=>q ((e k).2 b))]
theorem Em{h:Hp}{o:Obj}(e:h.part C i n=some o):C n=i/\h n=some o:=by
 unfold Hp.part at e;split at e
 ·exact ⟨by assumption,e⟩
 cases e

def pos:List Nat->Nat->Option Nat
 | [],_=>none
 | x::xs,y=>if y=x then some 0 else (pos xs y).map (· +1)
theorem JX:∀(is:List Nat) (y j:Nat),pos is y=some j->is[j]?=some y
 | [],_,_,h=>by simp[pos] at h
 | x::xs,y,j,h=>by
  unfold pos at h;split at h
  ·rename_i e;simp at h;subst h;simp[e]
  cases hp:pos xs y with
  | none=>rw[hp] at h;cases h
  | some q=>rw[hp] at h;simp at h;subst h;simpa using JX xs y q hp
theorem AaL(h:pos R n=some j):j<R.length:=(Aee.1 (JX R n j h)).1
def Gj(n:Nat)(is:List Nat):Bool:=(List.range is.length).all λj=>match is[j]? with
 | some y=>Nat.blt y n&&(match pos is y with|some q=>Nat.beq q j|none=>false)
 | none=>false
theorem Sr(h:Gj n R=true)(j y:Nat)(e:R[j]?=some y):y<n/\pos R y=some j:=by
 unfold Gj at h;rw[Af4] at h;have:=h j (by have:=(Aee.1 e).1;simpa using this);rw[e] at this;simp only[AeF] at this;obtain ⟨b,a⟩:=this;refine ⟨by simpa using b,?_⟩
 cases hq:pos R y with
 | none=>rw[hq] at a;cases a
 | some q=>rw[hq] at a;simp at a;rw[a]
def DJ(Γ:List Ai):List Nat->List Ai
 | []=>[]
 | i::is=>(match Γ[i]? with|some A=>A|none=>emp)::DJ Γ is
theorem Mv(Γ:List Ai):∀(a:List Nat) (j:Nat) (A:Ai),(DJ Γ a)[j]?=some A->∃i,a[j]?=some i/\(Γ[i]?=some A\/A=emp)
 | [],_,_,h=>by simp[DJ] at h
 | i::a,0,A,h=>by
  simp only[DJ,AeU,Aeo] at h;refine ⟨i,Z,?_⟩
  cases hi:Γ[i]? with
  | none=>rw[hi] at h;exact .inr h.symm
  | some B=>rw[hi] at h;exact .inl (congrArg some h)
 | i::a,j+1,A,h=>by
  simp only[DJ,AeB] at h;obtain ⟨q,hq,hA⟩:=Mv Γ a j A h;exact ⟨q,by simpa using hq,hA⟩
theorem picks_len(Γ:List Ai):∀is:List Nat,(DJ Γ is).length=is.length
 | []=>rfl
 | _::is=>by simp[DJ,picks_len Γ is]
theorem Mw{Γ:List Ai}{h:Hp}(hs:seps Γ h)(n:Nat)(a:List Nat)(g:Gj n a=true):seps (DJ Γ a++Γ.drop n) h:=by
 obtain ⟨own,c⟩:=hs;refine ⟨λk=>if own k<n then (match pos a (own k) with|some j=>j|none=>a.length+Γ.length) else a.length+(own k-n),λj A b=>?_⟩;rcases Aeu j a.length with l|l
 ·rw[Aep (by rw[picks_len];exact l)] at b
  obtain ⟨i,hi,b⟩:=Mv Γ a j A b;obtain ⟨f,d⟩:=Sr g j i hi;rcases b with b|rfl
  ·have:=c i A b
   rw[Dg (h':=h) (own':=λk=>if own k<n then (match pos a (own k) with|some j=>j|none=>a.length+Γ.length) else a.length+(own k-n)) (j:=j) (λk=>?_) (λ_ _=>rfl)] at this
   ·exact this
   constructor
   ·intro e;subst e;simp[f,d]
   intro e;split at e
   ·cases hp:pos a (own k) with
    | none=>rw[hp] at e;simp at e;omega
    | some q=>rw[hp] at e;simp at e;subst e;have:=JX _ _ _ hp;rw[hi] at this;simpa using this.symm
   omega
  trivial
 rw[Aev (by rw[picks_len];exact l),picks_len,Afn] at b;have:=c _ A b;have m:=(Aee.1 b).1;rw[Dg (h':=h) (own':=λk=>if own k<n then (match pos a (own k) with|some j=>j|none=>a.length+Γ.length) else a.length+(own k-n)) (j:=j) (λk=>?_) (λ_ _=>rfl)] at this
 ·exact this
 constructor
 ·intro e;rw[if_neg U];omega
 intro e;split at e
 ·cases hp:pos a (own k) with
  | none=>rw[hp] at e;simp at e;omega
  | some q=>rw[hp] at e;simp at e;have:=AaL hp;omega
 omega
theorem IM{As Γ:List Ai}{h:Hp}(hs:seps (seps As::Γ) h):seps (As++Γ) h:=by
 obtain ⟨own,b⟩:=hs;obtain ⟨a,g⟩:=b 0 _ Z;refine ⟨λk=>if own k=0 then (if a k<As.length then a k else As.length+Γ.length) else As.length+(own k-1),λj A c=>?_⟩;rcases Aeu j As.length with d|d
 ·rw[Aep d] at c
  have:=g j A c;have e:(h.part own 0).part a j=h.part (λk=>if own k=0 then (if a k<As.length then a k else As.length+Γ.length) else As.length+(own k-1)) j:=by
   funext k;unfold Hp.part;dsimp only;by_cases q:own k=0
   ·by_cases q':a k=j
    ·simp[q,q',d]
    have:¬(if a k<As.length then a k else As.length+Γ.length)=j:=by split<;>omega
    simp[q,q',this]
   have:¬As.length+(own k-1)=j:=by omega
   simp[q,this]
  rwa[e] at this
 rw[Aev d] at c;have f:=(Aee.1 c).1;have:=b (j-As.length+1) A (by simpa using c);rw[Dg (h':=h) (own':=λk=>if own k=0 then (if a k<As.length then a k else As.length+Γ.length) else As.length+(own k-1)) (j:=j) (λk=>?_) (λ_ _=>rfl)] at this
 ·exact this
 constructor
 ·intro e;rw[if_neg U];omega
 intro e;split at e
 ·split at e<;>omega
 omega
theorem Mx{As Γ:List Ai}{h:Hp}(hs:seps (As++Γ) h):seps (seps As::Γ) h:=by
 obtain ⟨own,a⟩:=hs;refine ⟨λk=>if own k<As.length then 0 else own k-As.length+1,λj A c=>?_⟩
 cases j with
 | zero=>
  simp only[AeU,Aeo] at c;subst c;refine ⟨own,λi A hi=>?_⟩;have b:=(Aee.1 hi).1;have:=a i A (by rw[Aep b];exact hi);have e:h.part own i=(h.part (λk=>if own k<As.length then 0 else own k-As.length+1) 0).part own i:=by
   funext k;unfold Hp.part;dsimp only;by_cases q:own k=i
   ·simp[q,b]
   simp[q]
  rwa[e] at this
 | succ j=>
  simp only[AeB] at c;have:=a (As.length+j) A (by rw[Aev U];simpa using c);rw[Dg (h':=h) (own':=λk=>if own k<As.length then 0 else own k-As.length+1) (j:=j+1) (λk=>?_) (λ_ _=>rfl)] at this
  ·exact this
  constructor
  ·intro e;rw[if_neg U];omega
  intro e;split at e<;>omega
theorem D4{As Bs:List Ai}{h:Hp}(hs:seps (As++Bs) h):seps (Bs++As) h:=by
 obtain ⟨own,a⟩:=hs;refine ⟨λk=>if own k<As.length then own k+Bs.length else if own k<As.length+Bs.length then own k-As.length else own k,λj A b=>?_⟩;rcases Aeu j Bs.length with d|d
 ·rw[Aep d] at b
  have:=a (As.length+j) A (by rw[Aev U];simpa using b);rw[Dg (h':=h) (own':=λk=>if own k<As.length then own k+Bs.length else if own k<As.length+Bs.length then own k-As.length else own k) (j:=j) (λk=>?_) (λ_ _=>rfl)] at this
  ·exact this
  constructor
  ·intro e;rw[if_neg U,if_pos U];omega
  intro e;split at e
  ·omega
  split at e<;>omega
 rw[Aev d] at b;have c:=(Aee.1 b).1;have:=a (j-Bs.length) A (by rw[Aep c];exact b);rw[Dg (h':=h) (own':=λk=>if own k<As.length then own k+Bs.length else if own k<As.length+Bs.length then own k-As.length else own k) (j:=j) (λk=>?_) (λ_ _=>rfl)] at this
 ·exact this
 constructor
 ·intro e;rw[if_pos U];omega
 intro e;split at e
 ·omega
 split at e<;>omega
theorem XL{Γ:List Ai}{h:Hp}(hs:seps Γ h)(i:Nat){A:Ai}(d:Γ[i]?=some A){σ:Type}{B:σ->Ai}(f:∀h',(∀k o,h' k=some o->h k=some o)->A h'->∃x,B x h'):∃x,seps (Γ.set i (B x)) h:=by
 obtain ⟨own,a⟩:=hs;obtain ⟨x,c⟩:=f _ (λk o e=>(Em e).2) (a i A d);refine ⟨x,own,λj C b=>?_⟩;rw[Afq] at b;split at b
 ·rename_i e;subst e
  split at b
  ·cases b;exact c
  cases b
 exact a j C b

section
variable{z w:World}{Γ:List Ai}
theorem Sep.same{a:World}(H:Sep z Γ w)(b:a.os=w.os)(c:a.tape=w.tape)(e:a.output=w.output)(d:∀k:Nat,a.heap[k]?=w.heap[k]?):Sep z Γ a:=
 ⟨b.trans H.os,c.trans H.tape,e.trans H.output,(show hp a=hp w from funext d)▸H.own⟩
theorem Sep.drew(H:Sep z Γ w):Sep z Γ w.drew:=H.same Z Z Z λ_=>rfl
theorem Sep.pick(n:Nat)(a:List Nat)(H:Sep z Γ w)(b:Gj n a=true):Sep z (DJ Γ a++Γ.drop n) w:=⟨H.os,H.tape,H.output,Mw H.own n a b⟩
theorem Sep.perm(n:Nat)(a:List Nat){Γ':List Ai}(H:Sep z Γ w)(b:Gj n a=true)(e:DJ Γ a++Γ.drop n=Γ'):Sep z Γ' w:=e▸H.pick n a b
theorem Sep.opened{As:List Ai}(H:Sep z (seps As::Γ) w):Sep z (As++Γ) w:=⟨H.os,H.tape,H.output,IM H.own⟩
theorem Sep.shut{As:List Ai}(H:Sep z (As++Γ) w):Sep z (seps As::Γ) w:=⟨H.os,H.tape,H.output,Mx H.own⟩
theorem Sep.swap{As Bs:List Ai}(H:Sep z (As++Bs) w):Sep z (Bs++As) w:=⟨H.os,H.tape,H.output,D4 H.own⟩
theorem Sep.front{As Bs:List Ai}(H:Sep z (As++Bs) w):Sep z As w:=by
 have b:=H.swap;have:seps As (hp w):=by
  obtain ⟨own,d⟩:=b.own;refine ⟨λk=>if own k<Bs.length then As.length else own k-Bs.length,λj A a=>?_⟩;have c:=(Aee.1 a).1;have:=d (Bs.length+j) A (by rw[Aev U];simpa using a);rwa[Dg (h':=hp w) (own':=λk=>if own k<Bs.length then As.length else own k-Bs.length) (j:=j) (λk=>⟨λe=>by rw[if_neg U];omega,λe=>by split at e<;>omega⟩) (λ_ _=>rfl)] at this
 exact ⟨H.os,H.tape,H.output,this⟩
theorem Sep.ex(i:Nat){A:Ai}{σ:Type}{B:σ->Ai}(H:Sep z Γ w)(c:Γ[i]?=some A)(a:∀h,A h->∃x,B x h):∃x,Sep z (Γ.set i (B x)) w:=by
 obtain ⟨x,b⟩:=XL H.own i c (λh _ q=>a h q);exact ⟨x,H.os,H.tape,H.output,b⟩
theorem Sep.mono(i:Nat){A B:Ai}(H:Sep z Γ w)(c:Γ[i]?=some A)(a:∀h,A h->B h):Sep z (Γ.set i B) w:=by
 obtain ⟨_,b⟩:=H.ex i (σ:=Unit) (B:=λ_=>B) c (λh q=>⟨(),a h q⟩);exact b
theorem Sep.exAt(i:Nat){A:Ai}{σ:Type}{p:σ->Prop}{B:σ->Ai}(H:Sep z Γ w)(e:Γ[i]?=some A)(b:∀h,A h->∃x,p x/\B x h):∃x,p x/\Sep z (Γ.set i (B x)) w:=by
 obtain ⟨⟨x,hp⟩,d⟩:=H.ex i (σ:= {x:σ // p x}) (B:=λx=>B x.1) e (λh q=>by obtain ⟨x,a,c⟩:=b h q;exact ⟨⟨x,a⟩,c⟩);exact ⟨x,hp,d⟩
theorem Sep.into{σ:Type}{A:Ai}{p:σ->Prop}{As:σ->List Ai}(H:Sep z (A::Γ) w)(d:∀h,A h->∃x,p x/\seps (As x) h):∃x,p x/\Sep z (As x++Γ) w:=by
 obtain ⟨⟨x,hp⟩,c⟩:=H.ex 0 (σ:= {x:σ // p x}) (B:=λx=>seps (As x.1)) Z (λh q=>by obtain ⟨x,a,b⟩:=d h q;exact ⟨⟨x,a⟩,b⟩);exact ⟨x,hp,c.opened⟩
theorem Sep.made(n:Nat){A:Ai}(H:Sep z Γ w)(a:∀h,seps (Γ.take n) h->A h):Sep z (A::Γ.drop n) w:=by
 have:Sep z (Γ.take n++Γ.drop n) w:=by rw[AeO];exact H
 exact this.shut.mono 0 Z a
theorem Sep.get(i:Nat){A:Ai}(H:Sep z Γ w)(b:Γ[i]?=some A):∃h,A h/\∀k o,h k=some o->w.heap[k]?=some o:=by
 obtain ⟨own,a⟩:=H.own;exact ⟨_,a i A b,λk o e=>(Em e).2⟩
theorem Sep.bk(i:Nat){b:Nat}{o:Obj}(H:Sep z Γ w)(d:Γ[i]?=some (bk b o)):w.heap[b]?=some o:=by
 obtain ⟨h,a,c⟩:=H.get i d;exact c _ _ a
theorem Sep.blk(i:Nat){b:Nat}{cs:List Value}{ty:TypeId}(H:Sep z Γ w)(a:Γ[i]?=some (blk b cs ty)):Blk b cs ty w:=H.bk i a
theorem Sep.cel(i:Nat){b:Nat}{cs:List Value}{ty:TypeId}(H:Sep z Γ w)(c:Γ[i]?=some (YtkblhjdljaoghaaGreatDoor.blk b cs ty))(o:Nat){v:Value}(a:cs[o]?=some v):FG b o v w:=(H.blk i c).cel o a
theorem Sep.write(i:Nat){b:Nat}{o o':Obj}{c:World}(H:Sep z Γ w)(p:Γ[i]?=some (YtkblhjdljaoghaaGreatDoor.bk b o))(h:c.os=w.os)(m:c.tape=w.tape)(n:c.output=w.output)
  (l:c.heap[b]?=some o')(s:∀k,k≠b->c.heap[k]?=w.heap[k]?):Sep z (Γ.set i (YtkblhjdljaoghaaGreatDoor.bk b o')) c:=by
 refine ⟨h.trans H.os,m.trans H.tape,n.trans H.output,?_⟩;obtain ⟨own,a⟩:=H.own;have f:=(Em (a i _ p)).1;refine ⟨own,λj C d=>?_⟩;rw[Afq] at d;split at d
 ·rename_i e;subst e
  split at d
  ·cases d
   unfold YtkblhjdljaoghaaGreatDoor.bk Hp.part hp;rw[if_pos f,l]
  cases d
 rename_i e;have:=a j C d;have r:(hp w).part own j=(hp c).part own j:=Dg (λ_=>Ahx) (λk g=>(s k (λq=>e (by rw[<-g,q,f]))).symm);rwa[r] at this
theorem Sep.grow{A:Ai}{a:World}(H:Sep z Γ w)(x:Ext No w a)(d:A (λk=>if k<w.heap.size then none else a.heap[k]?)):Sep z (A::Γ) a:=by
 refine ⟨x.os.trans H.os,x.tape.trans H.tape,x.output.trans H.output,?_⟩;obtain ⟨own,b⟩:=H.own;refine ⟨λk=>if k<w.heap.size then own k+1 else 0,λj C c=>?_⟩
 cases j with
 | zero=>
  simp only[AeU,Aeo] at c;subst c;have e:(hp a).part (λk=>if k<w.heap.size then own k+1 else 0) 0=λk=>if k<w.heap.size then none else a.heap[k]? :=by
   funext k;unfold Hp.part hp;dsimp only;by_cases q:k<w.heap.size
   ·simp[q]
   simp[q]
  rw[e];exact d
 | succ j=>
  simp only[AeB] at c;have:=b j C c;have e:(hp a).part (λk=>if k<w.heap.size then own k+1 else 0) (j+1)=(hp w).part own j:=by
   funext k;unfold Hp.part hp;dsimp only;by_cases q:k<w.heap.size
   ·simp only[q,if_true,Nat.add_right_cancel_iff]
    by_cases q':own k=j
    ·simp only[q',if_true];exact x.block k q (λr=>r)
    simp[q']
   have:w.heap[k]?=none:=Ae3 U;simp[q,this]
  rwa[e]
theorem Sep.ext0{a:World}(H:Sep z Γ w)(x:Ext No w a):Sep z Γ a:=by
 have:=H.grow (A:=emp) x trivial;have:=this.perm 1 [] (Γ':=Γ) Z Z;exact this
theorem A4{K:World->Prop}(H:Sep z Γ w)(h:∀w,Sep z Γ w->K w):∀a,Ext No w a->a.heap.size=w.heap.size->K a:=λa x _=>h a (H.ext0 x)
theorem Sep.new{b:Nat}{o:Obj}{a:World}(H:Sep z Γ w)(x:Ext No w a)(d:w.heap.size<=b)(c:a.heap[b]?=some o):Sep z (YtkblhjdljaoghaaGreatDoor.bk b o::Γ) a:=
 H.grow x (show (if b<w.heap.size then none else a.heap[b]?)=some o by rw[if_neg U];exact c)
theorem Sep.done(i:Nat)(H:Sep z Γ w)(d:Γ[i]?=some (base z)):Ext No z w:=by
 obtain ⟨h,b,c⟩:=H.get i d;have key:∀k,k<z.heap.size->w.heap[k]?=z.heap[k]? :=λk a=>by
  have e:z.heap[k]?=some z.heap[k]:=AgQ a;rw[e];exact c k _ ((b k a).trans e)
 refine ⟨H.os,H.tape,H.output,?_,λk a _=>key k a⟩;rcases Aeu w.heap.size z.heap.size with q|q
 ·have:=key w.heap.size q
  rw[Ae3 (Ael _),AgQ q] at this;cases this
 exact q
end

section
variable{z w:World}{Γ:List Ai}{a0 a1 a2 a3 a4 a5 a6 a7 a8 a9 a10 a11 a12 a13 a14 a15 a16 a17 a18 a19 a20 a21 a22 a23 a24 a25 a26:Ai}
theorem Sep.l1(H:Sep z (a0::Γ) w):Sep z (a0::Γ) w:=H
theorem Sep.l2(H:Sep z (a0::a1::Γ) w):Sep z (a0::a1::Γ) w:=H
theorem Sep.l3(H:Sep z (a0::a1::a2::Γ) w):Sep z (a0::a1::a2::Γ) w:=H
theorem Sep.l4(H:Sep z (a0::a1::a2::a3::Γ) w):Sep z (a0::a1::a2::a3::Γ) w:=H
theorem Sep.l5(H:Sep z (a0::a1::a2::a3::a4::Γ) w):Sep z (a0::a1::a2::a3::a4::Γ) w:=H
theorem Sep.l6(H:Sep z (a0::a1::a2::a3::a4::a5::Γ) w):Sep z (a0::a1::a2::a3::a4::a5::Γ) w:=H
theorem Sep.l7(H:Sep z (a0::a1::a2::a3::a4::a5::a6::Γ) w):Sep z (a0::a1::a2::a3::a4::a5::a6::Γ) w:=H
theorem Sep.l8(H:Sep z (a0::a1::a2::a3::a4::a5::a6::a7::Γ) w):Sep z (a0::a1::a2::a3::a4::a5::a6::a7::Γ) w:=H
theorem Sep.l9(H:Sep z (a0::a1::a2::a3::a4::a5::a6::a7::a8::Γ) w):Sep z (a0::a1::a2::a3::a4::a5::a6::a7::a8::Γ) w:=H
theorem Sep.l10(H:Sep z (a0::a1::a2::a3::a4::a5::a6::a7::a8::a9::Γ) w):Sep z (a0::a1::a2::a3::a4::a5::a6::a7::a8::a9::Γ) w:=H
theorem Sep.l11(H:Sep z (a0::a1::a2::a3::a4::a5::a6::a7::a8::a9::a10::Γ) w):Sep z (a0::a1::a2::a3::a4::a5::a6::a7::a8::a9::a10::Γ) w:=H
theorem Sep.l12(H:Sep z (a0::a1::a2::a3::a4::a5::a6::a7::a8::a9::a10::a11::Γ) w):Sep z (a0::a1::a2::a3::a4::a5::a6::a7::a8::a9::a10::a11::Γ) w:=H
theorem Sep.l13(H:Sep z (a0::a1::a2::a3::a4::a5::a6::a7::a8::a9::a10::a11::a12::Γ) w):Sep z (a0::a1::a2::a3::a4::a5::a6::a7::a8::a9::a10::a11::a12::Γ) w:=H
theorem Sep.l14(H:Sep z (a0::a1::a2::a3::a4::a5::a6::a7::a8::a9::a10::a11::a12::a13::Γ) w):Sep z (a0::a1::a2::a3::a4::a5::a6::a7::a8::a9::a10::a11::a12::a13::Γ) w:=H
theorem Sep.l15(H:Sep z (a0::a1::a2::a3::a4::a5::a6::a7::a8::a9::a10::a11::a12::a13::a14::Γ) w):Sep z (a0::a1::a2::a3::a4::a5::a6::a7::a8::a9::a10::a11::a12::a13::a14::Γ) w:=H
theorem Sep.l16(H:Sep z (a0::a1::a2::a3::a4::a5::a6::a7::a8::a9::a10::a11::a12::a13::a14::a15::Γ) w):Sep z (a0::a1::a2::a3::a4::a5::a6::a7::a8::a9::a10::a11::a12::a13::a14::a15::Γ) w:=H
theorem Sep.l17(H:Sep z (a0::a1::a2::a3::a4::a5::a6::a7::a8::a9::a10::a11::a12::a13::a14::a15::a16::Γ) w):Sep z (a0::a1::a2::a3::a4::a5::a6::a7::a8::a9::a10::a11::a12::a13::a14::a15::a16::Γ) w:=H
theorem Sep.l19(H:Sep z (a0::a1::a2::a3::a4::a5::a6::a7::a8::a9::a10::a11::a12::a13::a14::a15::a16::a17::a18::Γ) w):Sep z (a0::a1::a2::a3::a4::a5::a6::a7::a8::a9::a10::a11::a12::a13::a14::a15::a16::a17::a18::Γ) w:=H
theorem Sep.f1(H:Sep z (a0::a1::Γ) w):Sep z (a1::a0::Γ) w:=H.pick 2 [1,0] Z
theorem Sep.f2(H:Sep z (a0::a1::a2::Γ) w):Sep z (a2::a0::a1::Γ) w:=H.pick 3 [2,0,1] Z
theorem Sep.f3(H:Sep z (a0::a1::a2::a3::Γ) w):Sep z (a3::a0::a1::a2::Γ) w:=H.pick 4 [3,0,1,2] Z
theorem Sep.f4(H:Sep z (a0::a1::a2::a3::a4::Γ) w):Sep z (a4::a0::a1::a2::a3::Γ) w:=H.pick 5 [4,0,1,2,3] Z
theorem Sep.f5(H:Sep z (a0::a1::a2::a3::a4::a5::Γ) w):Sep z (a5::a0::a1::a2::a3::a4::Γ) w:=H.pick 6 [5,0,1,2,3,4] Z
theorem Sep.f6(H:Sep z (a0::a1::a2::a3::a4::a5::a6::Γ) w):Sep z (a6::a0::a1::a2::a3::a4::a5::Γ) w:=H.pick 7 [6,0,1,2,3,4,5] Z
theorem Sep.f7(H:Sep z (a0::a1::a2::a3::a4::a5::a6::a7::Γ) w):Sep z (a7::a0::a1::a2::a3::a4::a5::a6::Γ) w:=H.pick 8 [7,0,1,2,3,4,5,6] Z
theorem Sep.f8(H:Sep z (a0::a1::a2::a3::a4::a5::a6::a7::a8::Γ) w):Sep z (a8::a0::a1::a2::a3::a4::a5::a6::a7::Γ) w:=H.pick 9 [8,0,1,2,3,4,5,6,7] Z
theorem Sep.f9(H:Sep z (a0::a1::a2::a3::a4::a5::a6::a7::a8::a9::Γ) w):Sep z (a9::a0::a1::a2::a3::a4::a5::a6::a7::a8::Γ) w:=H.pick 10 [9,0,1,2,3,4,5,6,7,8] Z
theorem Sep.f10(H:Sep z (a0::a1::a2::a3::a4::a5::a6::a7::a8::a9::a10::Γ) w):Sep z (a10::a0::a1::a2::a3::a4::a5::a6::a7::a8::a9::Γ) w:=H.pick 11 [10,0,1,2,3,4,5,6,7,8,9] Z
theorem Sep.f11(H:Sep z (a0::a1::a2::a3::a4::a5::a6::a7::a8::a9::a10::a11::Γ) w):Sep z (a11::a0::a1::a2::a3::a4::a5::a6::a7::a8::a9::a10::Γ) w:=H.pick 12 [11,0,1,2,3,4,5,6,7,8,9,10] Z
theorem Sep.f12(H:Sep z (a0::a1::a2::a3::a4::a5::a6::a7::a8::a9::a10::a11::a12::Γ) w):Sep z (a12::a0::a1::a2::a3::a4::a5::a6::a7::a8::a9::a10::a11::Γ) w:=H.pick 13 [12,0,1,2,3,4,5,6,7,8,9,10,11] Z
theorem Sep.f13(H:Sep z (a0::a1::a2::a3::a4::a5::a6::a7::a8::a9::a10::a11::a12::a13::Γ) w):Sep z (a13::a0::a1::a2::a3::a4::a5::a6::a7::a8::a9::a10::a11::a12::Γ) w:=H.pick 14 [13,0,1,2,3,4,5,6,7,8,9,10,11,12] Z
theorem Sep.f14(H:Sep z (a0::a1::a2::a3::a4::a5::a6::a7::a8::a9::a10::a11::a12::a13::a14::Γ) w):Sep z (a14::a0::a1::a2::a3::a4::a5::a6::a7::a8::a9::a10::a11::a12::a13::Γ) w:=H.pick 15 [14,0,1,2,3,4,5,6,7,8,9,10,11,12,13] Z
theorem Sep.l0(H:Sep z Γ w):Sep z Γ w:=H
theorem Sep.d(H:Sep z (a0::Γ) w):Sep z Γ w:=H.pick 1 [] Z
end

def Cn(P:Program)(f:FuncId)(args:List Value)(pre:List Ai)(post:Value->List Ai->Prop):Prop:=
 ∀z R w,Sep z (pre++R) w->Calls P f args.toArray w (Ret λv w'=>∃Γ',post v Γ'/\Sep z (Γ'++R) w')
abbrev Ak:=Cn prog
theorem Cn.mono{P:Program}{f:FuncId}{args:List Value}{pre:List Ai}{post a:Value->List Ai->Prop}(h:Cn P f args pre post)(hp:∀v Γ,post v Γ->a v Γ):Cn P f args pre a:=
 λz R w H=>Ret.mono (h z R w H) λ_ _ ⟨Γ',q,b⟩=>⟨Γ',hp _ _ q,b⟩
theorem AD{ds:List Deferred}{K:Act->Prop}(t:Nat)(c:CD L t=some u)(e:u=v)(h:∀a,Fr n ds ((t,v)::L) a->K a):∀a,Fr n ds L a->K a:=λa b=>h a (b.upd t c e)
theorem AdF{ds:List Deferred}{K:Act->Prop}(t:Nat){p:Prop}{b:Decidable p}(c:CD L t=some (.bool (@decide p b)))(e: @decide p b=false)(h:∀a,Fr n ds ((t,.bool false)::L) a->K a):∀a,Fr n ds L a->K a:=AD t c (congrArg _ e) h
end
variable{Γ:List Ai}{h:Hp}{A:Ai}
section
section more
variable{P:Program}{o:Oper}{a:Act}{w:World}{n:Nat}{ds:List Deferred}{L:List (Nat×Value)}
theorem Nx{e:TypeId}{parts:List (Nat×Operand)}{vs:List (Nat×Value)}(l:o.op=.buildSlice T m parts.toArray)(ht:P.underlying T=some (.slice e))(q:Elt P e u j g)
  (b:(evs L (parts.map (·.2))).map (List.zip (parts.map (·.1)))=some vs)(t:m*j<=16777216)(hl:0<m)(p:Instr.fill (λi=>some (i*j,j)) ((Array.range (m*j)).map (u.cells[· % u.cells.size]!)) vs=some V.toArray):CA P n ds L o w (Sp V e m w):=by
 intro a z;obtain ⟨i,hi,y,hs,hb,s,v,a0⟩:=q;refine ⟨_,_,?_,XJ w V e m⟩
 cases he:evs L (parts.map (·.2)) with
 | none=>rw[he] at b;cases b
 | some us=>
  rw[he] at b;simp only[AeV,Aeo] at b;have e2:=z.evs he;have:(parts.map λx=>(x.1,a.eval x.2))=vs:=by
   rw[<-b,<-e2,Afp];clear b he e2 p l
   induction parts with
   | nil=>rfl
   | cons x xs ih=>simp[ih]
  simp only[execOp,l,AeZ];rw[show (List.map (λx=>match x with|(i,x)=>(i,a.eval x)) parts)=vs from this];have f:m*j≠0:=by
   intro r;rcases AhG.1 r with h|h<;>omega
  have c:¬m*j > 2^24:=by omega
  have d:∀w,(zeroValue e).run P w=.ok u w:=λw=>by simp[zeroValue,typeInfo,hi,y,go_sem]
  have k:∀w,(sizeOf e).run P w=.ok j w:=λw=>by simp[sizeOf,typeInfo,hi,hs,go_sem]
  simp only[Instr.buildSlice,Aex,run_underlying ht,Aet,k,if_neg c,AeC,if_neg f,d,p,newRow,newObj,Sem.run]
end more
section tail
variable{P:Program}{ops:List Oper}{Q:Act->Prop}{a:Act}{w:World}{rest:List Oper}{o:Oper}{n d:Nat}{ds:List Deferred}{L:List (Nat×Value)}{v:Value}
theorem Cd(f:BN ops L o.guard=true)(h:o.dst=some d)(e:Nat.blt d n=true)(c:Av P (· =w) n ds L o v)(K:∀a',Fr n ds ((d,v)::L) a'->wpStill P ops.toArray w Q rest a'):∀a,Fr n ds L a->wpStill P ops.toArray w Q (o::rest) a:=λa b=>
 wpStill_step λK' g=>by
  rw[if_pos (wantL_ok b f)];unfold Oper.still;rw[c a b w Z,Oper.stillUpon_value,h];exact g _ (K _ (b.put d v e))
theorem Ss(e:EX ops L o.guard=true)(g:o.dst=some d)(b:Nat.blt d n=true)(K:∀a',Fr n ds ((d,undef)::L) a'->wpStill P ops.toArray w Q rest a'):∀a,Fr n ds L a->wpStill P ops.toArray w Q (o::rest) a:=λa c=>
 wpStill_step λK' f=>by
  rw[if_neg (by rw[skipL_ok c e];exact AgT),g];exact f _ (K _ (c.put d undef b))
theorem CG(h:∀a,Fr n ds L a->Q a):∀a,Fr n ds L a->wpStill P ops.toArray w Q [] a:=h
theorem BJ{N R:Act->World->Prop}{X:Nat->Act->World->Prop}(k:Nat)(e:P.follows .mixedOrders=true)(c:Region.lexTailB .any ops.toArray k=true)
  (h:∀b,Ext No w b->b.heap.size=w.heap.size->∀a,Fr n ds L a->wpStill P ops.toArray b (λa'=>wpList P ops.toArray (Qp N X R) (ops.drop k) a' b) (ops.take k) a):∀a,Fr n ds L a->(Code.region m ops.toArray true).wp P (Qp N X R) a w:=λa d=>
 wp_region_still_tail k e c (h _ (Ext.drawn No w) Z a d)
end tail
section held
variable{P:Program}{ops:List Oper}{N R:Act->World->Prop}{X:Nat->Act->World->Prop}{S:World->Prop}{a:Act}{w:World}{fuel:Nat}{listed:Array Bool}{n d i:Nat}{ds:List Deferred}{L:List (Nat×Value)}{v:Value}{o:Oper}
theorem AS(S:World->Prop)(k:Nat)(c:ops.length=k)(e:P.follows .mixedOrders=true)
  (h:∀b,Ext No w b->b.heap.size=w.heap.size->∀a,Fr n ds L a->wpAnyH P .any ops.toArray (Qp N X R) S k (Array.replicate k false) a b):∀a,Fr n ds L a->(Code.region m ops.toArray true).wp P (Qp N X R) a w:=λa d=>
 wp_region_held (S:=S) e (by have:=h _ (Ext.drawn No w) Z a d;simpa [c] using this)
theorem BQ(i:Nat)(hi:ops[i]?=some o)(hs:Region.noSelect ops.toArray=true)(m:Region.free .any ops.toArray listed i=true)(f:(Region.ready .any ops.toArray listed).contains i=true)
  (j:BN ops L o.guard=true)(g:o.dst=some d)(b:Nat.blt d n=true)(c:Av P S n ds L o v)(k:S w)
  (K:∀a',Fr n ds ((d,v)::L) a'->wpAnyH P .any ops.toArray (Qp N X R) S fuel (listed.setIfInBounds i true) a' w):∀a,Fr n ds L a->wpAnyH P .any ops.toArray (Qp N X R) S (fuel+1) listed a w:=λa e=>
 wpAnyH_take (i:=i) (oi:=o) (v:=v) (by simpa using hi) hs m f (λ_ _ _ h=>h.elim) (.inl ⟨wantL_ok e j,λl h=>c a e l h⟩) k (by rw[g];exact K _ (e.put d v b))
theorem Su(i:Nat)(hi:ops[i]?=some o)(hs:Region.noSelect ops.toArray=true)(j:Region.free .any ops.toArray listed i=true)(f:(Region.ready .any ops.toArray listed).contains i=true)
  (e:EX ops L o.guard=true)(k:o.dst=some d)(b:Nat.blt d n=true)(g:S w)
  (K:∀a',Fr n ds ((d,undef)::L) a'->wpAnyH P .any ops.toArray (Qp N X R) S fuel (listed.setIfInBounds i true) a' w):∀a,Fr n ds L a->wpAnyH P .any ops.toArray (Qp N X R) S (fuel+1) listed a w:=λa c=>
 wpAnyH_take (i:=i) (oi:=o) (v:=undef) (by simpa using hi) hs j f (λ_ _ _ h=>h.elim) (.inr ⟨skipL_ok c e,Z⟩) g (by rw[k];exact K _ (c.put d undef b))
theorem AE(rs:List Nat)(d:Region.ready .any ops.toArray listed=rs)(b:rs≠[])
  (h:∀i∈rs,∀a,Fr n ds L a->wpOp P ops.toArray (Qp N X R) i (λa' w'=>S w'/\wpAnyH P .any ops.toArray (Qp N X R) S fuel (listed.setIfInBounds i true) a' w') a w):∀a,Fr n ds L a->wpAnyH P .any ops.toArray (Qp N X R) S (fuel+1) listed a w:=λa c=>
 wpAnyH_all d b (λi hi=>h i hi a c)
theorem Al{p:Nat->Prop}{i:Nat}(h:p i):∀j∈[i],p j:=λj a=>by simp at a;subst a;exact h
theorem JY{p:Nat->Prop}{i:Nat}(h:p i)(h':p m):∀j∈[i,m],p j:=λj a=>by
 simp at a;rcases a with rfl|rfl
 ·exact h
 exact h'
theorem a_done{fuel:Nat}(b:Region.ready .any ops.toArray listed=[])(h:∀a,Fr n ds L a->N a w):∀a,Fr n ds L a->wpAnyH P .any ops.toArray (Qp N X R) S fuel listed a w:=λa c=>wpAnyH_done b (h a c) _
theorem Az{Z_:Act->World->Prop}(b:S w)(h:∀a,Fr n ds L a->Z_ a w):∀a,Fr n ds L a->S w/\Z_ a w:=λa c=>⟨b,h a c⟩
theorem BU{K:Act->World->Prop}{Rr:Value->World->Prop}(hi:ops[i]?=some o)(f:BN ops L o.guard=true)(l:o.dst=some d)(c:Nat.blt d n=true)(h:CA P n ds L o w Rr)(k:∀v b,Rr v b->∀a',Fr n ds ((d,v)::L) a'->K a' b):∀a,Fr n ds L a->wpOp P ops.toArray (Qp N X R) i K a w:=by
 intro a e;obtain ⟨v,b,j,g⟩:=h a e;unfold wpOp;rw[Afh,hi];simp only;rw[if_pos (wantL_ok e f)];left;unfold Oper.wp;rw[j,AgO,l];exact k v b g _ (e.put d v c)
theorem Bl{K:Act->World->Prop}{Rr:World->Prop}(hi:ops[i]?=some o)(d:BN ops L o.guard=true)(j:o.dst=none)(h:DI P n ds L o w Rr)(g:∀b,Rr b->∀a,Fr n ds L a->K a b):∀a,Fr n ds L a->wpOp P ops.toArray (Qp N X R) i K a w:=by
 intro a c;obtain ⟨b,f,e⟩:=h a c;unfold wpOp;rw[Afh,hi];simp only;rw[if_pos (wantL_ok c d)];left;unfold Oper.wp;rw[f,Oper.upon_skip,j];exact g b e a c
theorem Sv{K:Act->World->Prop}{Rr:Value->World->Prop}{f:FuncId}{args:List Operand}{vs:List Value}{tys:Array TypeId}(hi:ops[i]?=some o)(s:BN ops L o.guard=true)(r:o.dst=some d)(k:Nat.blt d n=true)
  (t:o.op=.call {callee:=.value (.func f),args:=args.toArray,argTypes:=tys})(b:evs L args=some vs)(m:∀w,(callFunc f vs.toArray).run P w=.ok (.enter f vs.toArray) w)(h:Calls P f vs.toArray w (Ret Rr))
  (p:∀v j,Rr v j->∀a',Fr n ds ((d,v)::L) a'->K a' j):∀a,Fr n ds L a->wpOp P ops.toArray (Qp N X R) i K a w:=by
 intro a l;have g:(execOp a.eval o).run P w=.ok (.enter f vs.toArray) w:=by
  unfold execOp;have e:=l.evs b;simp only[t,resolve,Act.eval,Deferred.ofValue,invoke];simp only[go_sem,AeZ,e,AeT,AeY,m];simpa using m w
 unfold wpOp;rw[Afh,hi];simp only;rw[if_pos (wantL_ok l s)];left;unfold Oper.wp;rw[g,AgP];exact Agx h λe j q=>by
  cases e with
  | returned v=>simp only[r];exact p v j q _ (l.put d v k)
  | panicked c=>exact q.elim
  | outgrown=>exact q.elim
end held

section last
variable{P:Program}{ops:Array Oper}{Q:Exit->Act->World->Prop}{S:World->Prop}
def Dc(ops:Array Oper)(listed:Array Bool):Prop:=∀k o,ops[k]?=some o->listed.getD k true=true->k<listed.size->∀e∈o.after,Region.binds .any e=true->listed.getD e.on false=true
theorem Dc.start(ops:Array Oper)(k:Nat):Dc ops (Array.replicate k false):=λj o _ h a=>by
 simp at a;simp[Array.getD,a] at h
theorem Dc.next{listed:Array Bool}{i:Nat}(h:Dc ops listed)(hi:i∈Region.ready .any ops listed):Dc ops (listed.setIfInBounds i true):=λk o g d l e j f=>by
 have a:k<listed.size:=by simpa using l
 by_cases hki:k=i
 ·subst hki
  obtain ⟨_,o',c,b⟩:=mem_ready.1 hi;rw[g] at c;cases c;have:=b e j f;by_cases hei:e.on=k
  ·rw[hei];simp[a]
  rw[getD_set_ne false (AfV hei)];exact this
 rw[getD_set_ne true (AfV hki)] at d;have:=h k o g d a e j f;by_cases hei:e.on=i
 ·rw[hei]
  rcases Aeu i listed.size with h'|h'
  ·simp[h']
  rw[hei] at this;simp[Ae3 h'] at this
 rw[getD_set_ne false (AfV hei)];exact this
def Ik(ops:Array Oper):Bool:=(List.range (ops.size-1)).all λk=>(List.range ops.size).any λj=>k<j&&(match ops[j]? with|some o=>o.after.any λe=>Region.binds .any e&&e.on==k|none=>false)
theorem Re(h:Ik ops=true)(k:Nat)(d:k+1<ops.size):∃j o,k<j/\ops[j]?=some o/\∃e∈o.after,Region.binds .any e=true/\e.on=k:=by
 simp only[Ik,Af4,AfT] at h;have:=h k U;simp only[Ahy,AfT,AeF,decide_eq_true_eq] at this;obtain ⟨j,_,c,a⟩:=this
 cases ho:ops[j]? with
 | none=>rw[ho] at a;cases a
 | some o=>
  rw[ho] at a;simp only[Ahp] at a;obtain ⟨q,hq,b⟩:=a;simp only[AeF,beq_iff_eq] at b;exact ⟨j,o,c,ho,_,Ahq hq,b.1,b.2⟩
theorem Rg(h:Ik ops=true){listed:Array Bool}(p:Dc ops listed)(hs:listed.size=ops.size)(l:ops.size-1∈Region.ready .any ops listed):∀n k,ops.size-k<=n->k+1<ops.size->listed.getD k false=true:=by
 intro n
 induction n with
 | zero=>intro k q a;omega
 | succ n ih=>
  intro k q a;obtain ⟨j,o,r,f,e,i,g,c⟩:=Re h k a;have s:j<ops.size:=(Ae4.1 f).1;by_cases hjl:j=ops.size-1
  ·subst hjl
   obtain ⟨_,o',d,b⟩:=mem_ready.1 l;rw[f] at d;cases d;rw[<-c];exact b e i g
  have:=ih j U U;rw[<-c];exact p j o f (by
   have m:j<listed.size:=by omega
   simp[m] at this ⊢;exact this) U e i g
def HB(P:Program)(ops:Array Oper)(Q:Exit->Act->World->Prop)(S:World->Prop):Nat->Array Bool->Act->World->Prop
 | 0,listed,a,w=>Region.ready .any ops listed=[]/\Q .normal a w
 | fuel+1,listed,a,w=>
  (Region.ready .any ops listed=[]->Q .normal a w)/\
  ∀i∈Region.ready .any ops listed,wpOp P ops Q i (λa' w'=>(i≠ops.size-1->S w')/\HB P ops Q S fuel (listed.setIfInBounds i true) a' w') a w
theorem Il:∀(fuel:Nat) (listed:Array Bool) (a:Act) (w:World),HB P ops Q S fuel listed a w->wpAny P .any ops Q fuel listed a w
 | 0,_,_,_,h=>h
 | fuel+1,_,_,_,h=>⟨h.1,λi hi=>wpOp_mono (λa' w' h'=>Il fuel _ a' w' h'.2) (h.2 i hi)⟩
theorem Ny(r:Ik ops=true){i:Nat}{oi:Oper}{v:Value}(hi:ops[i]?=some oi)(a5:i≠ops.size-1)(l:∀(j:Nat) (o:Oper) cs b,ops[j]?=some o->o.op≠ .select cs b)
  (hQ:∀c a w,Q (.panic c) (a.put oi.dst v) w->Q (.panic c) a w):
  ∀(fuel:Nat) (listed:Array Bool) (a:Act) (w:World),Dc ops listed->listed.size=ops.size->
   (∀j n,ops[j]?=some n->j≠i->listed.getD j true=false->(∀e∈n.after,Region.binds .any e=true->e.on≠i)->oi.apart ops n=true)->
   i∈Region.ready .any ops listed->YieldsIf P ops S oi v a->S w->
   HB P ops Q S fuel (listed.setIfInBounds i true) (a.put oi.dst v) w->HB P ops Q S (fuel+1) listed a w:=by
 have a6:i<ops.size:=(Ae4.1 hi).1;intro fuel
 induction fuel with
 | zero=>
  intro listed a w hd s _ m hy y H;refine ⟨λh=>(by rw[h] at m;cases m),λj u=>?_⟩;by_cases hji:j=i
  ·subst hji;exact hy.wpOp hi y ⟨λ_=>y,H⟩
  have:=ready_mono u hji;rw[H.1] at this;cases this
 | succ fuel ih=>
  intro listed a w hd s d m hy y H;refine ⟨λh=>(by rw[h] at m;cases m),λj u=>?_⟩;by_cases hji:j=i
  ·subst hji;exact hy.wpOp hi y ⟨λ_=>y,H⟩
  have q:=H.2 j (ready_mono u hji);have z:j≠ops.size-1:=λe=>by
   subst e;have:=Rg r hd s u (ops.size-i) i (Ael _) U;have t:=(mem_ready.1 m).1;have hh:i<listed.size:=by omega
   simp[hh] at this t;rw[this] at t;cases t
  obtain ⟨g,n,p,a1⟩:=mem_ready.1 u;have a0:∀e∈n.after,Region.binds .any e=true->e.on≠i:=λe he hb a2=>by
   have q:=a1 e he hb;have t:=(mem_ready.1 m).1;rw[a2] at q;rcases Aeu i listed.size with h'|h'
   ·simp[h'] at t q;rw[t] at q;cases q
   simp[Ae3 h'] at q
  have h2:=wpOp_putIf p (d j n p hji g a0) (λcs b=>l i oi cs b hi) (λcs b=>l j n cs b p) hQ hy q;have f:∀k ok,ops[k]?=some ok->k≠i->(listed.setIfInBounds j true).getD k true=false->
    (∀e∈ok.after,Region.binds .any e=true->e.on≠i)->oi.apart ops ok=true:=λk ok hk a3 x a4=>by
   refine d k ok hk a3 ?_ a4;by_cases hjk:j=k
   ·subst hjk;exact g
   rw[getD_set_ne true hjk] at x;exact x
  refine wpOp_mono (λa' w' h3=>⟨λ_=>h3.2.1 z,ih (listed.setIfInBounds j true) a' w' (hd.next u) (by simpa using s) f (ready_mono m (AfV hji)) h3.1 (h3.2.1 z) ?_⟩) h2;rw[Agt _ _ hji];exact h3.2.2
theorem Pw{listed:Array Bool}{a:Act}{w:World}(hr:Region.ready .any ops listed=[])(h:Q .normal a w):∀fuel,HB P ops Q S fuel listed a w
 | 0=>⟨hr,h⟩
 | _+1=>⟨λ_=>h,by rw[hr];simp⟩
end last
section last2
variable{P:Program}{ops:List Oper}{N R:Act->World->Prop}{X:Nat->Act->World->Prop}{S:World->Prop}{a:Act}{w:World}{fuel:Nat}{listed:Array Bool}{n d i:Nat}{ds:List Deferred}{L:List (Nat×Value)}{v:Value}{o:Oper}
def GH(P:Program)(ops:List Oper)(Q:Exit->Act->World->Prop)(S:World->Prop)(fuel:Nat)(listed:Array Bool)(a:Act)(w:World):Prop:=Dc ops.toArray listed->listed.size=ops.length->HB P ops.toArray Q S fuel listed a w
theorem Bf(S:World->Prop)(k:Nat)(c:ops.length=k)(e:P.follows .mixedOrders=true)
  (h:∀b,Ext No w b->b.heap.size=w.heap.size->∀a,Fr n ds L a->GH P ops (Qp N X R) S k (Array.replicate k false) a b):∀a,Fr n ds L a->(Code.region m ops.toArray true).wp P (Qp N X R) a w:=λa d=>
 wp_region_any e (Il (S:=S) _ _ _ _ (by have:=h _ (Ext.drawn No w) Z a d (Dc.start _ _) (by simp[c]);simpa [c] using this))
theorem By(i:Nat)(b:Ik ops.toArray=true)(hi:ops[i]?=some o)(m:Nat.beq i (ops.length-1)=false)(hs:Region.noSelect ops.toArray=true)(u:Region.free .any ops.toArray listed i=true)(p:(Region.ready .any ops.toArray listed).contains i=true)
  (s:BN ops L o.guard=true)(r:o.dst=some d)(j:Nat.blt d n=true)(k:Av P S n ds L o v)(t:S w)
  (K:∀a',Fr n ds ((d,v)::L) a'->GH P ops (Qp N X R) S fuel (listed.setIfInBounds i true) a' w):∀a,Fr n ds L a->GH P ops (Qp N X R) S (fuel+1) listed a w:=λa l e f=>
 have g:ops.toArray[i]?=some o:=by simpa using hi
 have c:i∈Region.ready .any ops.toArray listed:=by simpa using p
 Ny b (i:=i) (oi:=o) (v:=v) g (by simpa using Agz m) (AgH hs) (λ_ _ _ h=>h.elim) fuel listed a w e (by simpa using f) (AgZ g u) c (.inl ⟨wantL_ok l s,λq h=>k a l q h⟩) t
  (by rw[r];exact K _ (l.put d v j) (e.next c) (by simpa using f))
theorem Ay(rs:List Nat)(g:Region.ready .any ops.toArray listed=rs)(c:rs≠[])
  (h:∀i∈rs,∀a,Fr n ds L a->wpOp P ops.toArray (Qp N X R) i (λa' f=>(i≠ops.length-1->S f)/\GH P ops (Qp N X R) S fuel (listed.setIfInBounds i true) a' f) a w):∀a,Fr n ds L a->GH P ops (Qp N X R) S (fuel+1) listed a w:=λa j d b=>
 ⟨λe=>absurd (g▸e) c,λi hi=>wpOp_mono (λa' f q=>⟨by simpa using q.1,q.2 (d.next hi) (by simpa using b)⟩) (h i (g▸hi) a j)⟩
theorem AV{fuel:Nat}(b:Region.ready .any ops.toArray listed=[])(h:∀a,Fr n ds L a->N a w):∀a,Fr n ds L a->GH P ops (Qp N X R) S fuel listed a w:=λa c _ _=>Pw b (h a c) _
theorem Ar{q:Prop}{Z_:Act->World->Prop}(b:q->S w)(h:∀a,Fr n ds L a->Z_ a w):∀a,Fr n ds L a->(q->S w)/\Z_ a w:=λa c=>⟨b,h a c⟩
end last2
end
section
def u8(b:UInt8):Value:=.int .u8 b.toNat
def u32(b:UInt32):Value:=.int .u32 b.toNat
def GI(x:Int):UInt8:=UInt8.ofNat (x%256).toNat
def Fu(x:Int):UInt32:=UInt32.ofNat (x%4294967296).toNat
theorem AcY(x:Int):IntKind.u8.wrap x=(GI x).toNat:=by
 simp[GI,IntKind.wrap,IntKind.bits,IntKind.signed];omega
theorem XM(x:Int):IntKind.u32.wrap x=(Fu x).toNat:=by
 simp[Fu,IntKind.wrap,IntKind.bits,IntKind.signed];omega
theorem AaM{b:UInt32}:Fu b.toNat=b:=by
 apply Ahz.1;have:=b.toNat_lt;simp[Fu];omega
theorem XN(x:Int):Value.int .u8 (IntKind.u8.wrap x)=u8 (GI x):=congrArg _ (AcY x)
theorem Uu(x:Int):Value.int .u32 (IntKind.u32.wrap x)=u32 (Fu x):=congrArg _ (XM x)
theorem AdZ{a b:UInt8}(h:u8 a=u8 b):a=b:=by
 simp only[u8,Value.int.injEq,true_and] at h;exact Ag8.1 U
section
variable{P:Program}{C:World->Prop}{o:Oper}{a:Act}{w z:World}{Γ:List Ai}{n:Nat}{ds:List Deferred}{L:List (Nat×Value)}{v:Value}{x y:Operand}{xt yt:TypeId}
theorem AaN{p q:UInt8}(c:o.op=.binOp .xor xt x y yt)(d:ev L x=some (u8 p))(e:ev L y=some (u8 q)):Av P C n ds L o (u8 (p ^^^ q)):=λa b w _=>by
 simp only[execOp,c,b.ev d,b.ev e,u8];simp[go_sem,Op.intBits,IntKind.wrap,IntKind.bits,IntKind.signed];have:=(p ^^^ q).toNat_lt;rw[<-UInt8.toNat_xor];show (((p ^^^ q).toNat:Int))%256=((p ^^^ q).toNat:Int);omega
theorem Sw{p q:UInt8}(e:o.op=.binOp .eql xt x y yt){k:IntKind}(i:D9 P xt xt=some k)(f:ev L x=some (u8 p))(g:ev L y=some (u8 q)):Av P C n ds L o (.bool (decide (p=q))):=λa b w _=>by
 obtain ⟨d,j,c⟩:=FM i;simp only[execOp,e,b.ev f,b.ev g,u8];simp[c,go_sem];rw[Aez];simp;exact ⟨λh=>Ag8.1 U,λh=>by rw[h]⟩
theorem AdX{p q:UInt32}(e:o.op=.binOp .eql xt x y yt){k:IntKind}(i:D9 P xt xt=some k)(f:ev L x=some (u32 p))(g:ev L y=some (u32 q)):Av P C n ds L o (.bool (decide (p=q))):=λa b w _=>by
 obtain ⟨d,j,c⟩:=FM i;simp only[execOp,e,b.ev f,b.ev g,u32];simp[c,go_sem];rw[Aez];simp;exact ⟨λh=>Ahz.1 U,λh=>by rw[h]⟩
theorem XO{p q:UInt32}(f:o.op=.binOp .neq xt x y yt){k:IntKind}(j:D9 P xt xt=some k)(g:ev L x=some (u32 p))(i:ev L y=some (u32 q)):Av P C n ds L o (.bool (decide (p≠q))):=λa b w _=>by
 obtain ⟨d,l,c⟩:=FM j;simp only[execOp,f,b.ev g,b.ev i,u32];simp[c,go_sem];rw[Aez];simp;exact ⟨λh e=>h (by rw[e]),λh e=>h (Ahz.1 U)⟩
theorem PQ{p q:UInt32}(c:o.op=.binOp .xor xt x y yt)(d:ev L x=some (u32 p))(e:ev L y=some (u32 q)):Av P C n ds L o (u32 (p ^^^ q)):=λa b w _=>by
 simp only[execOp,c,b.ev d,b.ev e,u32];simp[go_sem,Op.intBits,IntKind.wrap,IntKind.bits,IntKind.signed];have:=(p ^^^ q).toNat_lt;rw[<-UInt32.toNat_xor];show (((p ^^^ q).toNat:Int))%4294967296=((p ^^^ q).toNat:Int);omega
theorem XP{p q:UInt32}(c:o.op=.binOp .and xt x y yt)(d:ev L x=some (u32 p))(e:ev L y=some (u32 q)):Av P C n ds L o (u32 (p&&&q)):=λa b w _=>by
 simp only[execOp,c,b.ev d,b.ev e,u32];simp[go_sem,Op.intBits,IntKind.wrap,IntKind.bits,IntKind.signed];have:=(p&&&q).toNat_lt;rw[<-UInt32.toNat_and];show (((p&&&q).toNat:Int))%4294967296=((p&&&q).toNat:Int);omega
theorem XQ{p q:UInt32}(c:o.op=.binOp .mul xt x y yt)(d:ev L x=some (u32 p))(e:ev L y=some (u32 q)):Av P C n ds L o (u32 (p*q)):=λa b w _=>by
 simp only[execOp,c,b.ev d,b.ev e,u32];simp[go_sem,IntKind.wrap,IntKind.bits,IntKind.signed,UInt32.toNat_mul]
theorem HC{p:UInt32}{k:IntKind}{m:Int}{n':UInt32}(d:o.op=.binOp .shr xt x y yt)(f:ev L x=some (u32 p))(g:ev L y=some (.int k m))(h:0<=m/\m<32/\n'=UInt32.ofNat m.toNat):Av P C n ds L o (u32 (p>>>n')):=λa c w _=>by
 obtain ⟨e,l,rfl⟩:=h;obtain ⟨j,rfl⟩:=Af0 e;simp only[execOp,d,c.ev f,c.ev g,u32];have i:¬((j:Int)<0):=by omega
 have b:min j 32=j:=by omega
 simp[go_sem,Op.shift,IntKind.bits,i,b,UInt32.toNat_shiftRight];rw[Ahu];simp;rw[AfC U]
theorem PR{p:UInt32}(c:o.op=.unOp .xor xt x)(b:ev L x=some (u32 p)):Av P C n ds L o (u32 (4294967295 ^^^ p)):=λa d w _=>by
 simp only[execOp,c,d.ev b,u32];simp[go_sem,Op.intBits,IntKind.max,IntKind.wrap,IntKind.bits,IntKind.signed];have:=(4294967295 ^^^ p).toNat_lt;have e:(4294967295 ^^^ p).toNat=4294967295 ^^^ p.toNat:=UInt32.toNat_xor _ _;rw[<-e];show (((4294967295 ^^^ p).toNat:Int))%4294967296=((4294967295 ^^^ p).toNat:Int);omega

theorem Rh{k:IntKind}(b:o.op=.convert xt T x)(a:D9 P xt T=some .u8)(c:ev L x=some (.int k p)):Av P C n ds L o (u8 (GI p)):=by
 have:=HA (P:=P) (C:=C) (n:=n) (ds:=ds) (L:=L) b a c;rwa[XN] at this
theorem Sx{k:IntKind}(b:o.op=.convert xt T x)(a:D9 P xt T=some .u32)(c:ev L x=some (.int k p)):Av P C n ds L o (u32 (Fu p)):=by
 have:=HA (P:=P) (C:=C) (n:=n) (ds:=ds) (L:=L) b a c;rwa[Uu] at this
theorem Ri{p:UInt8}(c:o.op=.convert xt T x)(a:D9 P xt T=some .i64)(b:ev L x=some (u8 p)):Av P C n ds L o (I p.toNat):=by
 have:=HA (P:=P) (C:=C) (n:=n) (ds:=ds) (L:=L) c a b;have hp:=p.toNat_lt;rwa[AfO _ U] at this
theorem AaO{p:UInt32}(c:o.op=.convert xt T x)(a:D9 P xt T=some .i64)(b:ev L x=some (u32 p)):Av P C n ds L o (I p.toNat):=by
 have:=HA (P:=P) (C:=C) (n:=n) (ds:=ds) (L:=L) c a b;have hp:=p.toNat_lt;rwa[AfO _ U] at this
theorem HD{p:UInt32}(c:o.op=.convert xt T x)(a:D9 P xt T=some .u8)(b:ev L x=some (u32 p)):Av P C n ds L o (u8 p.toUInt8):=by
 have:=Rh (P:=P) (C:=C) (n:=n) (ds:=ds) (L:=L) c a b;have e:GI p.toNat=p.toUInt8:=by
  apply Ag8.1;simp[GI];omega
 rwa[e] at this
def F4(P:Program)(t:TypeId):Bool:=match P.underlying t with|some (.pointer _)=>true|_=>false
theorem Im(h:F4 P T=true):∃e,P.underlying T=some (.pointer e):=by
 unfold F4 at h;split at h
 ·exact ⟨_,by assumption⟩
 cases h
def Rj(P:Program)(t:TypeId):Bool:=match P.underlying t with|some (.slice _)=>true|_=>false
theorem PS(h:Rj P T=true):∃e,P.underlying T=some (.slice e):=by
 unfold Rj at h;split at h
 ·exact ⟨_,by assumption⟩
 cases h
theorem Nz{d:Addr}(f:o.op=.binOp .eql xt x y yt)(b:F4 P xt=true)(g:ev L x=some (.pointer (some d)))(h:ev L y=some (.pointer none)):Av P C n ds L o (.bool false):=λa c w _=>by
 obtain ⟨e,b⟩:=Im b;simp only[execOp,f,c.ev g,c.ev h];simp[b,go_sem]
theorem Uv{d:Addr}(f:o.op=.binOp .neq xt x y yt)(b:F4 P xt=true)(g:ev L x=some (.pointer (some d)))(h:ev L y=some (.pointer none)):Av P C n ds L o (.bool true):=λa c w _=>by
 obtain ⟨e,b⟩:=Im b;simp only[execOp,f,c.ev g,c.ev h];simp[b,go_sem]
theorem Uw(d:o.op=.binOp .eql xt x y yt)(b:F4 P xt=true)(f:ev L x=some (.pointer none))(g:ev L y=some (.pointer none)):Av P C n ds L o (.bool true):=λa c w _=>by
 obtain ⟨e,b⟩:=Im b;simp only[execOp,d,c.ev f,c.ev g];simp[b,go_sem]
theorem Ux(d:o.op=.binOp .neq xt x y yt)(b:F4 P xt=true)(f:ev L x=some (.pointer none))(g:ev L y=some (.pointer none)):Av P C n ds L o (.bool false):=λa c w _=>by
 obtain ⟨e,b⟩:=Im b;simp only[execOp,d,c.ev f,c.ev g];simp[b,go_sem]
theorem Io{d:Addr}(f:o.op=.binOp .eql xt x y yt)(b:Rj P xt=true)(g:ev L x=some (.slice (some d) m j))(h:ev L y=some (.slice none 0 0)):Av P C n ds L o (.bool false):=λa c w _=>by
 obtain ⟨e,b⟩:=PS b;simp only[execOp,f,c.ev g,c.ev h];simp[Lib.run_eql_slice_nil _ _ e _ _ _ _ _ b,go_sem]
theorem Uy(d:o.op=.binOp .eql xt x y yt)(b:Rj P xt=true)(f:ev L x=some (.slice none 0 0))(g:ev L y=some (.slice none 0 0)):Av P C n ds L o (.bool true):=λa c w _=>by
 obtain ⟨e,b⟩:=PS b;simp only[execOp,d,c.ev f,c.ev g];simp[Lib.run_eql_slice_nil _ _ e _ _ _ _ _ b,go_sem]
theorem C6{f:Fn}{bs cs:List Operand}{vs:List Value}(e:o.op=.makeFunc f bs.toArray cs.toArray)(d:evs L bs=some V)(c:evs L cs=some vs):Av P C n ds L o (.func f V.toArray vs.toArray):=λa b w _=>by
 have e1:=b.evs d;have e2:=b.evs c;simp only[execOp,e,AeZ,e1,e2];rfl

def NA(P:Program)(t:TypeId):Option (Nat×Nat):=match P.underlying t with
 | some (.pointer a)=>Ih P a
 | _=>none
theorem Sy{z:Nat}(h:NA P T=some (m,z)):∃a e i,P.underlying T=some (.pointer a)/\P.underlying a=some (.array m e)/\P.info? e=some i/\i.size=z:=by
 unfold NA at h;split at h
 ·rename_i a b
  obtain ⟨e,i,c,f,d⟩:=Ii h;exact ⟨a,e,i,b,c,f,d⟩
 cases h
theorem BM{lo hi:Option Operand}{p q z o' l' c':Nat}(w:o.op=.slice T x lo hi none)(s:Do P T=some z)
  (v:ev L x=some (.slice (some ⟨m,j,none⟩) g r))(b:(lo=none/\p=0)\/∃y k i,lo=some y/\ev L y=some (.int k i)/\i=(p:Int))(d:(hi=none/\q=g)\/∃y k i,hi=some y/\ev L y=some (.int k i)/\i=(q:Int))(c:p<=q)(f:q<=r)
  (l:j+p*z=o')(t:q-p=l')(h3:r-p=c')(a:p<r\/p*z=0):Av P C n ds L o (.slice (some ⟨m,o',none⟩) l' c'):=by
 have:=Ji (P:=P) (C:=C) (n:=n) (ds:=ds) (L:=L) w s v b d c f;rw[t,h3] at this;have e:(if r=p then (some ⟨m,j,none⟩:Option Addr) else (some ⟨m,j,none⟩:Option Addr).map (·.add (p*z)))=some ⟨m,o',none⟩:=by
  subst l;split
  ·rename_i h;rcases a with a|a
   ·omega
   simp[a]
  simp only[AeV,Aeo];unfold Addr.add;split
  ·rename_i u;simp[u]
  rfl
 rwa[e] at this
theorem AdG{lo hi:Option Operand}{q z o' l' c':Nat}(ho:o.op=.slice T x lo hi none)(ht:NA P T=some (g,z))
  (hx:ev L x=some (.pointer (some ⟨m,j,none⟩)))(a1:(lo=none/\r=0)\/∃y k i,lo=some y/\ev L y=some (.int k i)/\i=(r:Int))(a0:(hi=none/\q=g)\/∃y k i,hi=some y/\ev L y=some (.int k i)/\i=(q:Int))(b:r<=q)(l:q<=g)
  (h1:j+r*z=o')(h2:q-r=l')(u:g-r=c')(t:r<g\/r*z=0):Av P C n ds L o (.slice (some ⟨m,o',none⟩) l' c'):=λa p w _=>by
 obtain ⟨ar,e,i0,c,d,f,v⟩:=Sy ht;have g1:(0:Int)<=(r:Int)/\(r:Int)<=(q:Int):=by omega
 have g2:(0:Int)<=(q:Int)/\(q:Int)<=(g:Int):=by omega
 have key:((if g=r then (⟨m,j,none⟩:Addr) else (⟨m,j,none⟩:Addr).add (r*z)))=⟨m,o',none⟩:=by
  subst h1;split
  ·rename_i h;rcases t with t|t
   ·omega
   simp[t]
  unfold Addr.add;split
  ·rename_i h0;simp[h0]
  rfl
 rcases a1 with ⟨rfl,rfl⟩|⟨y,k,i,rfl,hy,rfl⟩<;>rcases a0 with ⟨rfl,rfl⟩|⟨y',k',i',rfl,s,rfl⟩
 ·simp only[execOp,ho,AeV,AfA,p.ev hx];simp[Instr.sliceAt,Instr.slice,run_underlying c,run_underlying d,Instr.sureAddr,Instr.sliceBounds,sizeOf,typeInfo,f,v,b,l,go_sem,key,h2,u]<;>(try simp_all)<;>(try omega)
 ·simp only[execOp,ho,AeV,AfA,p.ev hx,p.ev s];simp[Instr.sliceAt,Instr.slice,run_underlying c,run_underlying d,Instr.sureAddr,Instr.sliceBounds,Instr.sliceBound,asIntOf,g2,sizeOf,typeInfo,f,v,b,l,go_sem,key,h2,u]<;>(try simp_all)<;>(try omega)
 ·simp only[execOp,ho,AeV,AfA,p.ev hx,p.ev hy];simp[Instr.sliceAt,Instr.slice,run_underlying c,run_underlying d,Instr.sureAddr,Instr.sliceBounds,Instr.sliceBound,asIntOf,g1,sizeOf,typeInfo,f,v,b,l,go_sem,key,h2,u]<;>(try simp_all)<;>(try omega)
 simp only[execOp,ho,AeV,AfA,p.ev hx,p.ev hy,p.ev s];simp[Instr.sliceAt,Instr.slice,run_underlying c,run_underlying d,Instr.sureAddr,Instr.sliceBounds,Instr.sliceBound,asIntOf,g1,g2,sizeOf,typeInfo,f,v,b,l,go_sem,key,h2,u]<;>(try simp_all)<;>(try omega)
theorem GJ{lo hi:Option Operand}{n' p q z o' l' c':Nat}(u:o.op=.slice T x lo hi none)(ht:Ih P T=some (n',z))
  (hx:ev L x=some (.pointer (some ⟨m,j,none⟩)))(a1:(lo=none/\p=0)\/∃y k i,lo=some y/\ev L y=some (.int k i)/\i=(p:Int))(a0:(hi=none/\q=n')\/∃y k i,hi=some y/\ev L y=some (.int k i)/\i=(q:Int))(b:p<=q)(f:q<=n')
  (h1:j+p*z=o')(v:q-p=l')(s:n'-p=c')(r:p<n'\/p*z=0):Av P C n ds L o (.slice (some ⟨m,o',none⟩) l' c'):=λa g w _=>by
 obtain ⟨e,i0,c,d,t⟩:=Ii ht;have g1:(0:Int)<=(p:Int)/\(p:Int)<=(q:Int):=by omega
 have g2:(0:Int)<=(q:Int)/\(q:Int)<=(n':Int):=by omega
 have key:((if n'=p then (⟨m,j,none⟩:Addr) else (⟨m,j,none⟩:Addr).add (p*z)))=⟨m,o',none⟩:=by
  subst h1;split
  ·rename_i h;rcases r with r|r
   ·omega
   simp[r]
  unfold Addr.add;split
  ·rename_i h0;simp[h0]
  rfl
 rcases a1 with ⟨rfl,rfl⟩|⟨y,k,i,rfl,hy,rfl⟩<;>rcases a0 with ⟨rfl,rfl⟩|⟨y',k',i',rfl,l,rfl⟩
 ·simp only[execOp,u,AeV,AfA,g.ev hx];simp[Instr.sliceAt,Instr.slice,run_underlying c,Instr.sureAddr,Instr.sliceBounds,sizeOf,typeInfo,d,t,b,f,go_sem,key,v,s]<;>(try simp_all)<;>(try omega)
 ·simp only[execOp,u,AeV,AfA,g.ev hx,g.ev l];simp[Instr.sliceAt,Instr.slice,run_underlying c,Instr.sureAddr,Instr.sliceBounds,Instr.sliceBound,asIntOf,g2,sizeOf,typeInfo,d,t,b,f,go_sem,key,v,s]<;>(try simp_all)<;>(try omega)
 ·simp only[execOp,u,AeV,AfA,g.ev hx,g.ev hy];simp[Instr.sliceAt,Instr.slice,run_underlying c,Instr.sureAddr,Instr.sliceBounds,Instr.sliceBound,asIntOf,g1,sizeOf,typeInfo,d,t,b,f,go_sem,key,v,s]<;>(try simp_all)<;>(try omega)
 simp only[execOp,u,AeV,AfA,g.ev hx,g.ev hy,g.ev l];simp[Instr.sliceAt,Instr.slice,run_underlying c,Instr.sureAddr,Instr.sliceBounds,Instr.sliceBound,asIntOf,g1,g2,sizeOf,typeInfo,d,t,b,f,go_sem,key,v,s]<;>(try simp_all)<;>(try omega)

theorem Ce(H:Sep z Γ w){zs:List Value}(g:o.op=.alloc T)(e:zeroCells P T=some zs.toArray):CA P n ds L o w (λv c=>∃b,v=Y b/\Sep z (blk b zs T::Γ) c):=λa f=>by
 obtain ⟨v,c,h,b,rfl,hs,_,d,i⟩:=XK (w:=w) g e a f;exact ⟨_,c,h,b,Z,H.new i U d⟩
theorem G8(H:Sep z Γ w){cs:List Value}(h:o.op=.box T x)(c:ev L x=some v)(e:v.cells=cs.toArray):CA P n ds L o w (λv d=>∃b,v=Y b/\Sep z (blk b cs T::Γ) d):=λa g=>by
 obtain ⟨v,d,i,b,rfl,hs,_,f,c⟩:=AcX (P:=P) (w:=w) h c e a g;exact ⟨_,d,i,b,Z,H.new c U f⟩
theorem Am(i:Nat)(H:Sep z Γ w){ty:TypeId}{p:Nat}{vs:List Value}(hi:Γ[i]?=some (blk m V ty))(r:o.op=.store T x y)(b:ev L x=some (.pointer (some ⟨m,p,none⟩)))(s:ev L y=some v)(f:v.cells=vs.toArray)(e:∀u∈vs,u.oneCell'=true)
  (hs:(P.info? T).map (·.size)=some vs.length)(hp:p+vs.length<=V.length){out:List Value}(c:V.take p++vs++V.drop (p+vs.length)=out):
  DI P n ds L o w (λd=>Sep z (Γ.set i (blk m out ty)) d):=λa l=>by
 obtain ⟨d,g,j,b,_⟩:=PP r b s f e hs (H.blk i hi) hp c a l;refine ⟨d,g,H.write i hi b.os b.tape b.output j (λk h=>?_)⟩;rcases Aeu k w.heap.size with q|q
 ·exact b.block k q h
 rw[Ae3 q,Ae3 U]
theorem Ip(i:Nat)(H:Sep z Γ w){ty:TypeId}(hi:Γ[i]?=some (blk m (u::V) ty))(c:o.op=.store T x y)(d:ev L x=some (Y m))(e:ev L y=some v)(b:v.cells= #[v])(a:v.oneCell'=true)(hs:(P.info? T).map (·.size)=some 1):DI P n ds L o w (λw'=>Sep z (Γ.set i (blk m (v::V) ty)) w'):=
 Am i H hi c d e (vs:=[v]) b (by simp[a]) hs O Z
theorem Lw(i:Nat)(H:Sep z Γ w){ty:TypeId}{f:Value}(hi:Γ[i]?=some (blk m (u::f::V) ty))(c:o.op=.store T x y)(d:ev L x=some (.pointer (some ⟨m,1,none⟩)))(e:ev L y=some v)(b:v.cells= #[v])(a:v.oneCell'=true)(hs:(P.info? T).map (·.size)=some 1):DI P n ds L o w (λw'=>Sep z (Γ.set i (blk m (u::v::V) ty)) w'):=
 Am i H hi c d e (vs:=[v]) b (by simp[a]) hs O Z
theorem JZ(i:Nat)(H:Sep z Γ w){ty:TypeId}{a x2:Value}(hi:Γ[i]?=some (blk m (u::a::x2::V) ty))(d:o.op=.store T x y)(e:ev L x=some (.pointer (some ⟨m,2,none⟩)))(f:ev L y=some v)(c:v.cells= #[v])(b:v.oneCell'=true)(hs:(P.info? T).map (·.size)=some 1):DI P n ds L o w (λw'=>Sep z (Γ.set i (blk m (u::a::v::V) ty)) w'):=
 Am i H hi d e f (vs:=[v]) c (by simp[b]) hs O Z
theorem NB(i:Nat)(H:Sep z Γ w){ty:TypeId}{a x2 c:Value}(hi:Γ[i]?=some (blk m (u::a::x2::c::V) ty))(e:o.op=.store T x y)(f:ev L x=some (.pointer (some ⟨m,3,none⟩)))(g:ev L y=some v)(d:v.cells= #[v])(b:v.oneCell'=true)(hs:(P.info? T).map (·.size)=some 1):DI P n ds L o w (λw'=>Sep z (Γ.set i (blk m (u::a::x2::v::V) ty)) w'):=
 Am i H hi e f g (vs:=[v]) d (by simp[b]) hs O Z
theorem AdH(i:Nat)(H:Sep z Γ w){ty:TypeId}{b x2 a h:Value}(hi:Γ[i]?=some (blk m (u::b::x2::a::h::V) ty))(e:o.op=.store T x y)(f:ev L x=some (.pointer (some ⟨m,4,none⟩)))(g:ev L y=some v)(d:v.cells= #[v])(c:v.oneCell'=true)(hs:(P.info? T).map (·.size)=some 1):DI P n ds L o w (λw'=>Sep z (Γ.set i (blk m (u::b::x2::a::v::V) ty)) w'):=
 Am i H hi e f g (vs:=[v]) d (by simp[c]) hs O Z
theorem AdI(i:Nat)(H:Sep z Γ w){ty:TypeId}{d x2 a e c b h:Value}(hi:Γ[i]?=some (blk m (u::d::x2::a::e::c::b::h::V) ty))(k:o.op=.store T x y)(j:ev L x=some (.pointer (some ⟨m,7,none⟩)))(l:ev L y=some v)(g:v.cells= #[v])(f:v.oneCell'=true)(hs:(P.info? T).map (·.size)=some 1):DI P n ds L o w (λw'=>Sep z (Γ.set i (blk m (u::d::x2::a::e::c::b::v::V) ty)) w'):=
 Am i H hi k j l (vs:=[v]) g (by simp[f]) hs O Z
theorem AdJ(i:Nat)(H:Sep z Γ w){ty:TypeId}{f x2 c g e d b a j:Value}(hi:Γ[i]?=some (blk m (u::f::x2::c::g::e::d::b::a::j::V) ty))(p:o.op=.store T x y)(l:ev L x=some (.pointer (some ⟨m,9,none⟩)))(q:ev L y=some v)(k:v.cells= #[v])(h:v.oneCell'=true)(hs:(P.info? T).map (·.size)=some 1):DI P n ds L o w (λw'=>Sep z (Γ.set i (blk m (u::f::x2::c::g::e::d::b::a::v::V) ty)) w'):=
 Am i H hi p l q (vs:=[v]) k (by simp[h]) hs O Z
theorem AcZ(i:Nat)(H:Sep z Γ w){ty:TypeId}{j x2 f k h g e d c a b:Value}(hi:Γ[i]?=some (blk m (u::j::x2::f::k::h::g::e::d::c::a::b::V) ty))(r:o.op=.store T x y)(q:ev L x=some (.pointer (some ⟨m,11,none⟩)))(s:ev L y=some v)(p:v.cells= #[v])(l:v.oneCell'=true)(hs:(P.info? T).map (·.size)=some 1):DI P n ds L o w (λw'=>Sep z (Γ.set i (blk m (u::j::x2::f::k::h::g::e::d::c::a::v::V) ty)) w'):=
 Am i H hi r q s (vs:=[v]) p (by simp[l]) hs O Z
theorem Ac0(i:Nat)(H:Sep z Γ w){ty:TypeId}{k x2 g l j h f e d a b c:Value}(hi:Γ[i]?=some (blk m (u::k::x2::g::l::j::h::f::e::d::a::b::c::V) ty))(s:o.op=.store T x y)(r:ev L x=some (.pointer (some ⟨m,12,none⟩)))(t:ev L y=some v)(q:v.cells= #[v])(p:v.oneCell'=true)(hs:(P.info? T).map (·.size)=some 1):DI P n ds L o w (λw'=>Sep z (Γ.set i (blk m (u::k::x2::g::l::j::h::f::e::d::a::b::v::V) ty)) w'):=
 Am i H hi s r t (vs:=[v]) q (by simp[p]) hs O Z
end

section calls
variable{P:Program}{ops:List Oper}{Q:Exit->Act->World->Prop}{a:Act}{w z:World}{rest:List Oper}{o:Oper}{n d:Nat}{ds:List Deferred}{L:List (Nat×Value)}{v:Value}{Γ pre R':List Ai}{post:Value->List Ai->Prop}{f:FuncId}{args:List Operand}{vs:List Value}{tys:Array TypeId}
theorem Cn.or{B:Ai}(a:Cn P f vs (A::pre) post)(c:Cn P f vs (B::pre) post):Cn P f vs ((λh=>A h\/B h)::pre) post:=λz R w H=>by
 obtain ⟨b,H⟩:=H.ex 0 (σ:=Bool) (B:=λb=>bif b then A else B) Z (λh q=>by rcases q with q|q;exact ⟨true,q⟩;exact ⟨false,q⟩)
 cases b with
 | true=>exact a z R w H
 | false=>exact c z R w H
theorem Cn.at(c:Cn P f vs pre post)(H:Sep z Γ w)(k:Nat)(a:List Nat)(b:Gj k a=true)(e:DJ Γ a++Γ.drop k=pre++R'):Calls P f vs.toArray w (Ret λv w'=>∃Γ',post v Γ'/\Sep z (Γ'++R') w'):=
 c z R' w (H.perm k a b e)
theorem AdY(r:BN ops L o.guard=true)(l:o.dst=some d)(g:Nat.blt d n=true)(s:o.op=.call {callee:=.value (.func f),args:=args.toArray,argTypes:=tys})(b:evs L args=some vs)(j:∀w,(callFunc f vs.toArray).run P w=.ok (.enter f vs.toArray) w)
  (m:Cn P f vs pre post)(H:Sep z Γ w)(k:Nat)(h:List Nat)(i:Gj k h=true)(e:DJ Γ h++Γ.drop k=pre++R')
  (K:∀v c Γ',post v Γ'->Sep z (Γ'++R') c->∀a',Fr n ds ((d,v)::L) a'->wpList P ops.toArray Q rest a' c):∀a,Fr n ds L a->wpList P ops.toArray Q (o::rest) a w:=
 Sm r l g s b j (m.at H k h i e) λv c ⟨Γ',q,p⟩=>K v c Γ' q p
theorem Cn.use(a:Cn P f vs pre post)(H:Sep z (pre++R') w):Calls P f vs.toArray w (Ret λv w'=>∃Γ',post v Γ'/\Sep z (Γ'++R') w'):=a z R' w H
theorem Fv(l:BN ops L o.guard=true)(i:o.dst=some d)(g:Nat.blt d n=true)(m:o.op=.call {callee:=.value (.func f),args:=args.toArray,argTypes:=tys})(b:evs L args=some vs)(h:∀w,(callFunc f vs.toArray).run P w=.ok (.enter f vs.toArray) w)
  (j:Cn P f vs pre post)(H:Sep z Γ w)(e:Γ=pre++R')
  (K:∀v c Γ',post v Γ'->Sep z (Γ'++R') c->∀a',Fr n ds ((d,v)::L) a'->wpList P ops.toArray Q rest a' c):∀a,Fr n ds L a->wpList P ops.toArray Q (o::rest) a w:=
 Sm l i g m b h (j.use (e▸H)) λv c ⟨Γ',q,k⟩=>K v c Γ' q k
theorem cq(i:Cn P f vs pre post)(hq:∀u Γ',post u Γ'->u=v/\Γ'=pre)(k:Nat)(c a:List Nat)(d:Gj k c=true)(e:DJ Γ c++Γ.drop k=pre++R')(b:Gj k a=true)(h:DJ (pre++R') a++(pre++R').drop k=Γ):
  ∀w,Sep z Γ w->Calls P f vs.toArray w (Ret λu g=>u=v/\Sep z Γ g):=λw H=>
 Ret.mono (i.at H k c d e) λu g ⟨Γ',q,j⟩=>by
  obtain ⟨rfl,rfl⟩:=hq u Γ' q;exact ⟨Z,j.perm k a b h⟩
theorem Xg{Rr:Value->World->Prop}(d:BN ops L o.guard=true)(g:o.dst=none)(h:CA P n ds L o w Rr)(K:∀v b,Rr v b->∀a,Fr n ds L a->wpList P ops.toArray Q rest a b):∀a,Fr n ds L a->wpList P ops.toArray Q (o::rest) a w:=by
 intro a c;obtain ⟨v,b,f,e⟩:=h a c;unfold wpList;rw[if_pos (wantL_ok c d)];left;unfold Oper.wp;rw[f,AgO,g];exact K v b e a c
end calls
section callsH
variable{P:Program}{ops:List Oper}{N R:Act->World->Prop}{X:Nat->Act->World->Prop}{a:Act}{w z:World}{n d i:Nat}{ds:List Deferred}{L:List (Nat×Value)}{v:Value}{o:Oper}{Γ pre R':List Ai}{post:Value->List Ai->Prop}{f:FuncId}{args:List Operand}{vs:List Value}{tys:Array TypeId}{K:Act->World->Prop}
theorem PT(hi:ops[i]?=some o)(t:BN ops L o.guard=true)(p:o.dst=some d)(g:Nat.blt d n=true)(u:o.op=.call {callee:=.value (.func f),args:=args.toArray,argTypes:=tys})(b:evs L args=some vs)(l:∀w,(callFunc f vs.toArray).run P w=.ok (.enter f vs.toArray) w)
  (r:Cn P f vs pre post)(H:Sep z Γ w)(k:Nat)(h:List Nat)(j:Gj k h=true)(e:DJ Γ h++Γ.drop k=pre++R')
  (m:∀v c Γ',post v Γ'->Sep z (Γ'++R') c->∀a',Fr n ds ((d,v)::L) a'->K a' c):∀a,Fr n ds L a->wpOp P ops.toArray (Qp N X R) i K a w:=
 Sv hi t p g u b l (r.at H k h j e) λv c ⟨Γ',q,s⟩=>m v c Γ' q s
theorem Br(hi:ops[i]?=some o)(p:BN ops L o.guard=true)(k:o.dst=some d)(g:Nat.blt d n=true)(r:o.op=.call {callee:=.value (.func f),args:=args.toArray,argTypes:=tys})(b:evs L args=some vs)(h:∀w,(callFunc f vs.toArray).run P w=.ok (.enter f vs.toArray) w)
  (l:Cn P f vs pre post)(H:Sep z Γ w)(e:Γ=pre++R')
  (j:∀v c Γ',post v Γ'->Sep z (Γ'++R') c->∀a',Fr n ds ((d,v)::L) a'->K a' c):∀a,Fr n ds L a->wpOp P ops.toArray (Qp N X R) i K a w:=
 Sv hi p k g r b h (l.use (e▸H)) λv c ⟨Γ',q,m⟩=>j v c Γ' q m
theorem BV(hi:ops[i]?=some o)(e:BN ops L o.guard=true)(j:o.dst=some d)(b:Nat.blt d n=true)(c:Av P (· =w) n ds L o v)(g:∀a',Fr n ds ((d,v)::L) a'->K a' w):∀a,Fr n ds L a->wpOp P ops.toArray (Qp N X R) i K a w:=
 BU hi e j b (Rr:=λu h=>u=v/\h=w) (λa f=>⟨v,w,c a f w Z,Z,Z⟩) λ_ _ ⟨e1,e2⟩=>by subst e1;subst e2;exact g
theorem Ac1{Rr:Value->World->Prop}(hi:ops[i]?=some o)(d:BN ops L o.guard=true)(j:o.dst=none)(h:CA P n ds L o w Rr)(g:∀v b,Rr v b->∀a,Fr n ds L a->K a b):∀a,Fr n ds L a->wpOp P ops.toArray (Qp N X R) i K a w:=by
 intro a c;obtain ⟨v,b,f,e⟩:=h a c;unfold wpOp;rw[Afh,hi];simp only;rw[if_pos (wantL_ok c d)];left;unfold Oper.wp;rw[f,AgO,j];exact g v b e a c
end callsH
end
section
def My:IntKind->IntKind->Bool
 | .i64,.i64=>true
 | .u8,.u8=>true
 | .u32,.u32=>true
 | .u64,.u64=>true
 | .i32,.i32=>true
 | .u16,.u16=>true
 | _,_=>false
theorem HE{k a:IntKind}(h:My k a=true):k=a:=by unfold My at h;split at h<;>first|rfl|cases h
def icmp(b:BinOp)(p q:Int):Option Value:=match b with
 | .lss=>some (.bool (decide (p<q)))
 | .leq=>some (.bool (decide (p<=q)))
 | .gtr=>some (.bool (decide (q<p)))
 | .geq=>some (.bool (decide (q<=p)))
 | .eql=>some (.bool (decide (p=q)))
 | .neq=>some (.bool (decide (p≠q)))
 | _=>none
def noq(n:Option Nat)(p r:Nat):Bool:=match n with
 | some k=>Nat.beq (p+k) r
 | none=>false
abbrev Mm:=List (Nat×List Value×TypeId)
def MemL(w:World):Mm->Prop
 | []=>True
 | e::M=>Blk e.1 e.2.1 e.2.2 w/\MemL w M
theorem AH{w:World}:MemL w []:=trivial
theorem AN{w:World}{M:Mm}(h:Blk m V T w)(g:MemL w M):MemL w ((m,V,T)::M):=⟨h,g⟩
theorem MemL.get{w:World}:∀{M:Mm} {j:Nat} {e:Nat×List Value×TypeId},MemL w M->M[j]?=some e->Blk e.1 e.2.1 e.2.2 w
 | [],_,_,_,h=>by simp at h
 | _::_,0,_,g,h=>by simp at h;subst h;exact g.1
 | _::_,j+1,_,g,h=>MemL.get (j:=j) g.2 (by simpa using h)
structure Qv where
 v:Value
 hs:List Nat
 ok:Bool
 a:List (Nat×Nat)
def Rk(P:Program)(M:Mm)(L:List (Nat×Value))(hs:List Nat):Op->Option Qv
 | .move x=>match ev L x with|some v=>some ⟨v,hs,true,[]⟩|none=>none
 | .assign x=>match ev L x with|some v=>some ⟨v,hs,true,[]⟩|none=>none
 | .pick c x y=>match ev L c with
  | some (.bool true)=>(match ev L x with|some v=>some ⟨v,hs,true,[]⟩|none=>none)
  | some (.bool false)=>(match ev L y with|some v=>some ⟨v,hs,true,[]⟩|none=>none)
  | _=>none
 | .extract x i=>match ev L x with
  | some (.tuple vs)=>(match vs.toList[i]? with|some v=>some ⟨v,hs,true,[]⟩|none=>none)
  | _=>none
 | .nilCheck x=>match ev L x with
  | some (.pointer (some ad))=>some ⟨.pointer (some ad),hs,true,[]⟩
  | _=>none
 | .unOp b _ x=>match b with
  | .not=>(match ev L x with|some (.bool c)=>some ⟨.bool !c,hs,true,[]⟩|_=>none)
  | _=>none
 | .binOp b _ x y _=>match ev L x with
  | some (.int k p)=>(match ev L y with
   | some (.int k' q)=>(match icmp b p q with|some v=>some ⟨v,hs,My k k',[]⟩|none=>none)
   | _=>none)
  | _=>none
 | .fieldAddr s x f=>match hs with
  | r::hs=>(match ev L x with
   | some (.pointer (some ⟨b,p,none⟩))=>some ⟨.pointer (some ⟨b,r,none⟩),hs,noq (El P s f) p r,[]⟩
   | _=>none)
  | []=>none
 | .load t x=>match hs with
  | j::hs=>(match ev L x with
   | some (.pointer (some ⟨b,p,none⟩))=>(match M[j]? with
    | some e=>(match e.2.1[p]? with
     | some v=>some ⟨v,hs,Gi P t,[(b,e.1)]⟩
     | none=>none)
    | none=>none)
   | _=>none)
  | []=>none
 | _=>none
def B6:List (Nat×Nat)->Prop
 | []=>True
 | e::l=>e.1=e.2/\B6 l
theorem Cp:∀{l m:List (Nat×Nat)},B6 (l++m)->B6 l/\B6 m
 | [],_,h=>⟨trivial,h⟩
 | _::_,_,h=>⟨⟨h.1,(Cp h.2).1⟩,(Cp h.2).2⟩
section
variable{P:Program}{M:Mm}{L:List (Nat×Value)}{n:Nat}{ds:List Deferred}{w:World}
theorem HF{C:World->Prop}{o:Oper}{hs:List Nat}{q:Qv}(z:∀w,C w->MemL w M)(h:Rk P M L hs o.op=some q)(i:q.ok=true)(u:B6 q.a):Av P C n ds L o q.v:=by
 unfold Rk at h;split at h
 ·rename_i d
  split at h
  ·rename_i c;cases h;exact Ck d c
  cases h
 ·rename_i d
  split at h
  ·rename_i c;cases h;exact AQ d c
  cases h
 ·rename_i d
  split at h
  ·rename_i l
   split at h
   ·rename_i c;cases h;exact Nr d l c
   cases h
  ·rename_i l
   split at h
   ·rename_i c;cases h;exact Ns d l c
   cases h
  cases h
 ·rename_i d
  split at h
  ·rename_i vs c
   split at h
   ·rename_i g;cases h
    exact Ff (vs:=vs.toList) d (by simpa using c) g
   cases h
  cases h
 ·rename_i d
  split at h
  ·rename_i c;cases h;exact KB d c
  cases h
 ·rename_i d
  split at h
  ·split at h
   ·rename_i c;cases h;exact Kz d c
   cases h
  cases h
 ·rename_i b _ x y _ d
  split at h
  ·rename_i k p c
   split at h
   ·rename_i k' r j
    split at h
    ·rename_i v g
     cases h
     obtain rfl:=HE i;unfold icmp at g;split at g<;>first|(cases g;first|exact Rb d c j|exact W8 d c j|exact Xa d c j|exact Xb d c j|exact Xc d c j|exact Xd d c j)|cases g
    cases h
   cases h
  cases h
 ·rename_i s x f d
  split at h
  ·split at h
   ·rename_i b p c
    cases h
    dsimp only at i
    cases hf:El P s f with
    | none=>rw[hf] at i;cases i
    | some k=>
     rw[hf] at i;exact DU d hf c (AfN i)
   cases h
  cases h
 ·rename_i t x d
  split at h
  ·split at h
   ·rename_i b p c
    split at h
    ·rename_i e he
     split at h
     ·rename_i v g
      cases h
      have e1:b=e.1:=u.1;exact Bn d c i (λw m=>by rw[e1];exact ((z w m).get he).cel p g)
     cases h
    cases h
   cases h
  cases h
 cases h
structure Qs where
 L:List (Nat×Value)
 os:List Oper
 ok:Bool
 a:List (Nat×Nat)
def quiet(P:Program)(M:Mm)(ops:List Oper)(n:Nat):Nat->List Nat->Bool->List (Nat×Nat)->List (Nat×Value)->List Oper->Option Qs
 | 0,_,ok,a,L,os=>some ⟨L,os,ok,a⟩
 | _+1,_,_,_,_,[]=>none
 | k+1,hs,ok,a,L,o::os=>match o.dst with
  | none=>none
  | some d=>match Nat.blt d n with
   | false=>none
   | true=>match BN ops L o.guard with
    | true=>(match Rk P M L hs o.op with
     | some q=>quiet P M ops n k q.hs (q.ok&&ok) (q.a++a) ((d,q.v)::L) os
     | none=>none)
    | false=>(match EX ops L o.guard with
     | true=>quiet P M ops n k hs ok a ((d,undef)::L) os
     | false=>none)
theorem Iq{ops:List Oper}:∀{k:Nat} {hs:List Nat} {d:Bool} {a:List (Nat×Nat)} {L:List (Nat×Value)} {b:List Oper} {q:Qs},quiet P M ops n k hs d a L b=some q->q.ok=true->B6 q.a->d=true/\B6 a:=by
 intro k
 induction k with
 | zero=>intro hs d a L b q h c e;simp only[quiet,Aeo] at h;subst h;exact ⟨c,e⟩
 | succ k ih=>
  intro hs d a L b q h c e
  cases b with
  | nil=>simp[quiet] at h
  | cons o b=>
   simp only[quiet] at h;split at h
   ·cases h
   split at h
   ·cases h
   split at h
   ·split at h
    ·obtain ⟨f,g⟩:=ih h c e
     exact ⟨by simp at f;exact f.2,(Cp g).2⟩
    cases h
   split at h
   ·exact ih h c e
   cases h
theorem s_P{ops:List Oper}{Q:Exit->Act->World->Prop}(t:MemL w M):∀(k:Nat) (hs:List Nat) {j:Bool} {a:List (Nat×Nat)} {L L':List (Nat×Value)} {c b:List Oper} {ok':Bool} {a':List (Nat×Nat)},quiet P M ops n k hs j a L c=some ⟨L',b,ok',a'⟩->ok'=true->B6 a'->
  (∀x,Fr n ds L' x->wpList P ops.toArray Q b x w)->∀x,Fr n ds L x->wpList P ops.toArray Q c x w:=by
 intro k
 induction k with
 | zero=>
  intro hs j a L L' c b ok' a' h _ _ K;simp only[quiet,Aeo,Qs.mk.injEq] at h;obtain ⟨rfl,rfl,_,_⟩:=h;exact K
 | succ k ih=>
  intro hs j a L L' c b ok' a' h i g K
  cases c with
  | nil=>simp[quiet] at h
  | cons o c=>
   simp only[quiet] at h;split at h
   ·cases h
   rename_i d l;split at h
   ·cases h
   rename_i f;split at h
   ·rename_i s
    split at h
    ·rename_i q hq
     obtain ⟨m,r⟩:=Iq h i g;simp at m;exact s_do s l f (HF (λ_ e=>e▸t) hq m.1 (Cp r).1) (ih _ h i g K)
    cases h
   split at h
   ·rename_i p
    exact Sk p l f (ih _ h i g K)
   cases h
theorem Dw:∀{l:List (Nat×Nat)},l.map Prod.fst=l.map Prod.snd->B6 l
 | [],_=>trivial
 | _::_,h=>by
  simp only[AeM,Ag5] at h;exact ⟨h.1,Dw h.2⟩
theorem Gn{ops:List Oper}{Q:Exit->Act->World->Prop}(k:Nat)(hs:List Nat)(d:MemL w M){L L':List (Nat×Value)}{a:List Oper}{a':List (Nat×Nat)}(h:quiet P M ops n k hs true [] L o=some ⟨L',a,b,a'⟩)(c:b=true)(e:a'.map Prod.fst=a'.map Prod.snd)(K:∀x,Fr n ds L' x->wpList P ops.toArray Q a x w):∀x,Fr n ds L x->wpList P ops.toArray Q o x w:=s_P d k hs h c (Dw e) K
theorem Mz{ops:List Oper}{Q:Exit->Act->World->Prop}(k:Nat)(hs:List Nat){L L':List (Nat×Value)}{a:List Oper}(h:quiet P [] ops n k hs true [] L o=some ⟨L',a,b,[]⟩)(c:b=true)(K:∀x,Fr n ds L' x->wpList P ops.toArray Q a x w):∀x,Fr n ds L x->wpList P ops.toArray Q o x w:=s_P AH k hs h c trivial K
theorem B3{ops:List Oper}{Q:Exit->Act->World->Prop}(k:Nat){L L':List (Nat×Value)}{a:List Oper}(h:quiet P [] ops n k [] true [] L o=some ⟨L',a,b,[]⟩)(c:b=true)(K:∀x,Fr n ds L' x->wpList P ops.toArray Q a x w):∀x,Fr n ds L x->wpList P ops.toArray Q o x w:=s_P AH k [] h c trivial K

theorem q_P{ops:List Oper}{C:World->Prop}{Q:Act->Prop}(s:∀w,C w->MemL w M):∀(k:Nat) (hs:List Nat) {i:Bool} {a:List (Nat×Nat)} {L L':List (Nat×Value)} {c b:List Oper} {ok':Bool} {a':List (Nat×Nat)},quiet P M ops n k hs i a L c=some ⟨L',b,ok',a'⟩->ok'=true->B6 a'->
  (∀x,Fr n ds L' x->wpQuiet P ops.toArray C Q b x)->∀x,Fr n ds L x->wpQuiet P ops.toArray C Q c x:=by
 intro k
 induction k with
 | zero=>
  intro hs i a L L' c b ok' a' h _ _ K;simp only[quiet,Aeo,Qs.mk.injEq] at h;obtain ⟨rfl,rfl,_,_⟩:=h;exact K
 | succ k ih=>
  intro hs i a L L' c b ok' a' h g f K
  cases c with
  | nil=>simp[quiet] at h
  | cons o c=>
   simp only[quiet] at h;split at h
   ·cases h
   rename_i d j;split at h
   ·cases h
   rename_i e;split at h
   ·rename_i r
    split at h
    ·rename_i q hq
     obtain ⟨l,p⟩:=Iq h g f;simp at l;exact AM r j e (HF s hq l.1 (Cp p).1) (ih _ h g f K)
    cases h
   split at h
   ·rename_i m
    exact Sn m j e (ih _ h g f K)
   cases h
theorem DS{ops:List Oper}{C:World->Prop}{Q:Act->Prop}(k:Nat)(hs:List Nat)(d:∀w,C w->MemL w M){L L':List (Nat×Value)}{a:List Oper}{a':List (Nat×Nat)}(h:quiet P M ops n k hs true [] L o=some ⟨L',a,b,a'⟩)(c:b=true)(e:a'.map Prod.fst=a'.map Prod.snd)(K:∀x,Fr n ds L' x->wpQuiet P ops.toArray C Q a x):∀x,Fr n ds L x->wpQuiet P ops.toArray C Q o x:=q_P d k hs h c (Dw e) K
theorem BS{ops:List Oper}{C:World->Prop}{Q:Act->Prop}(k:Nat)(hs:List Nat){L L':List (Nat×Value)}{a:List Oper}(h:quiet P [] ops n k hs true [] L o=some ⟨L',a,b,[]⟩)(c:b=true)(K:∀x,Fr n ds L' x->wpQuiet P ops.toArray C Q a x):∀x,Fr n ds L x->wpQuiet P ops.toArray C Q o x:=q_P (λ_ _=>AH) k hs h c trivial K
theorem t_P{ops:List Oper}{Q:Act->Prop}(t:MemL w M):∀(k:Nat) (hs:List Nat) {j:Bool} {a:List (Nat×Nat)} {L L':List (Nat×Value)} {c b:List Oper} {ok':Bool} {a':List (Nat×Nat)},quiet P M ops n k hs j a L c=some ⟨L',b,ok',a'⟩->ok'=true->B6 a'->
  (∀x,Fr n ds L' x->wpStill P ops.toArray w Q b x)->∀x,Fr n ds L x->wpStill P ops.toArray w Q c x:=by
 intro k
 induction k with
 | zero=>
  intro hs j a L L' c b ok' a' h _ _ K;simp only[quiet,Aeo,Qs.mk.injEq] at h;obtain ⟨rfl,rfl,_,_⟩:=h;exact K
 | succ k ih=>
  intro hs j a L L' c b ok' a' h i g K
  cases c with
  | nil=>simp[quiet] at h
  | cons o c=>
   simp only[quiet] at h;split at h
   ·cases h
   rename_i d l;split at h
   ·cases h
   rename_i f;split at h
   ·rename_i s
    split at h
    ·rename_i q hq
     obtain ⟨m,r⟩:=Iq h i g;simp at m;exact Cd s l f (HF (λ_ e=>e▸t) hq m.1 (Cp r).1) (ih _ h i g K)
    cases h
   split at h
   ·rename_i p
    exact Ss p l f (ih _ h i g K)
   cases h
theorem PU{ops:List Oper}{Q:Act->Prop}(k:Nat)(hs:List Nat)(d:MemL w M){L L':List (Nat×Value)}{a:List Oper}{a':List (Nat×Nat)}(h:quiet P M ops n k hs true [] L o=some ⟨L',a,b,a'⟩)(c:b=true)(e:a'.map Prod.fst=a'.map Prod.snd)(K:∀x,Fr n ds L' x->wpStill P ops.toArray w Q a x):∀x,Fr n ds L x->wpStill P ops.toArray w Q o x:=t_P d k hs h c (Dw e) K
theorem PV{ops:List Oper}{Q:Act->Prop}(k:Nat)(hs:List Nat){L L':List (Nat×Value)}{a:List Oper}(h:quiet P [] ops n k hs true [] L o=some ⟨L',a,b,[]⟩)(c:b=true)(K:∀x,Fr n ds L' x->wpStill P ops.toArray w Q a x):∀x,Fr n ds L x->wpStill P ops.toArray w Q o x:=t_P AH k hs h c trivial K
structure Qa where
 L:List (Nat×Value)
 listed:Array Bool
 ok:Bool
 a:List (Nat×Nat)
def quietA(P:Program)(M:Mm)(ops:List Oper)(n:Nat)(g:Nat->Bool):List Nat->List Nat->Bool->List (Nat×Nat)->List (Nat×Value)->Array Bool->Option Qa
 | [],_,ok,a,L,li=>some ⟨L,li,ok,a⟩
 | i::is,hs,ok,a,L,li=>match ops[i]? with
  | none=>none
  | some o=>match o.dst with
   | none=>none
   | some d=>match Nat.blt d n with
    | false=>none
    | true=>match BN ops L o.guard with
     | true=>(match Rk P M L hs o.op with
      | some q=>quietA P M ops n g is q.hs (((q.ok&&g i)&&(Region.noSelect ops.toArray&&(Region.free .any ops.toArray li i&&(Region.ready .any ops.toArray li).contains i)))&&ok) (q.a++a) ((d,q.v)::L) (li.setIfInBounds i true)
      | none=>none)
     | false=>(match EX ops L o.guard with
      | true=>quietA P M ops n g is hs ((g i&&(Region.noSelect ops.toArray&&(Region.free .any ops.toArray li i&&(Region.ready .any ops.toArray li).contains i)))&&ok) a ((d,undef)::L) (li.setIfInBounds i true)
      | false=>none)
theorem F5{ops:List Oper}:∀{e hs:List Nat} {c:Bool} {a:List (Nat×Nat)} {L:List (Nat×Value)} {g:Array Bool} {q:Qa},quietA P M ops n F e hs c a L g=some q->q.ok=true->B6 q.a->c=true/\B6 a:=by
 intro e
 induction e with
 | nil=>intro hs c a L g q h b d;simp only[quietA,Aeo] at h;subst h;exact ⟨b,d⟩
 | cons i e ih=>
  intro hs c a L g q h b d;simp only[quietA] at h;split at h
  ·cases h
  split at h
  ·cases h
  split at h
  ·cases h
  split at h
  ·split at h
   ·obtain ⟨f,j⟩:=ih h b d
    exact ⟨(AeF _ _▸f).2,(Cp j).2⟩
   cases h
  split at h
  ·obtain ⟨f,j⟩:=ih h b d
   exact ⟨(AeF _ _▸f).2,j⟩
  cases h
section
variable{ops:List Oper}{N R:Act->World->Prop}{X:Nat->Act->World->Prop}{S:World->Prop}
theorem a_P(v:∀w,S w->MemL w M)(r:S w):∀(e hs:List Nat) {l:Bool} {a:List (Nat×Nat)} {L L':List (Nat×Value)} {g c:Array Bool} {ok':Bool} {a':List (Nat×Nat)} {fuel:Nat},quietA P M ops n (λ_=>true) e hs l a L g=some ⟨L',c,ok',a'⟩->ok'=true->B6 a'->
  (∀x,Fr n ds L' x->wpAnyH P .any ops.toArray (Qp N X R) S fuel c x w)->∀x,Fr n ds L x->wpAnyH P .any ops.toArray (Qp N X R) S (fuel+e.length) g x w:=by
 intro e
 induction e with
 | nil=>
  intro hs l a L L' g c ok' a' fuel h _ _ K;simp only[quietA,Aeo,Qa.mk.injEq] at h;obtain ⟨rfl,rfl,_,_⟩:=h;exact K
 | cons i e ih=>
  intro hs l a L L' g c ok' a' fuel h k j K;simp only[quietA] at h;split at h
  ·cases h
  rename_i o p;split at h
  ·cases h
  rename_i d m;split at h
  ·cases h
  rename_i f;split at h
  ·rename_i u
   split at h
   ·rename_i q hq
    obtain ⟨b,s⟩:=F5 h k j;simp only[AeF] at b;exact BQ (fuel:=fuel+e.length) i p b.1.2.1 b.1.2.2.1 b.1.2.2.2 u m f (HF v hq b.1.1.1 (Cp s).1) r (ih _ h k j K)
   cases h
  split at h
  ·rename_i t
   obtain ⟨b,s⟩:=F5 h k j;simp only[AeF] at b;exact Su (fuel:=fuel+e.length) i p b.1.2.1 b.1.2.2.1 b.1.2.2.2 t m f r (ih _ h k j K)
  cases h
theorem a_L(c hs:List Nat)(f:∀w,S w->MemL w M)(e:S w){L L':List (Nat×Value)}{d a:Array Bool}{a':List (Nat×Nat)}(h:quietA P M ops n (λ_=>true) c hs true [] L d=some ⟨L',a,b,a'⟩)(g:b=true)(j:a'.map Prod.fst=a'.map Prod.snd)(k:m+c.length=i)(K:∀x,Fr n ds L' x->wpAnyH P .any ops.toArray (Qp N X R) S m a x w):∀x,Fr n ds L x->wpAnyH P .any ops.toArray (Qp N X R) S i d x w:=k▸a_P f e c hs h g (Dw j) K
def Nk(ops:List Oper)(i:Nat):Bool:= !(Nat.beq i (ops.length-1))&&(match ops[i]? with|some o=>o.guard.isNone|none=>false)
theorem l_P(f:Ik ops.toArray=true)(z:∀w,S w->MemL w M)(y:S w):∀(j hs:List Nat) {s:Bool} {a:List (Nat×Nat)} {L L':List (Nat×Value)} {k b:Array Bool} {ok':Bool} {a':List (Nat×Nat)} {fuel:Nat},quietA P M ops n (Nk ops) j hs s a L k=some ⟨L',b,ok',a'⟩->ok'=true->B6 a'->
  (∀x,Fr n ds L' x->GH P ops (Qp N X R) S fuel b x w)->∀x,Fr n ds L x->GH P ops (Qp N X R) S (fuel+j.length) k x w:=by
 intro j
 induction j with
 | nil=>
  intro hs s a L L' k b ok' a' fuel h _ _ K;simp only[quietA,Aeo,Qa.mk.injEq] at h;obtain ⟨rfl,rfl,_,_⟩:=h;exact K
 | cons i j ih=>
  intro hs s a L L' k b ok' a' fuel h r m K;simp only[quietA] at h;split at h
  ·cases h
  rename_i o t;split at h
  ·cases h
  rename_i d v;split at h
  ·cases h
  rename_i p;split at h
  ·rename_i l
   split at h
   ·rename_i q hq
    obtain ⟨c,u⟩:=F5 h r m;simp only[AeF] at c;exact By (fuel:=fuel+j.length) i f t (by have:=c.1.1.2;unfold Nk at this;simp only[AeF] at this;simpa using this.1) c.1.2.1 c.1.2.2.1 c.1.2.2.2 l v p (HF z hq c.1.1.1 (Cp u).1) y (ih _ h r m K)
   cases h
  rename_i l;split at h
  ·obtain ⟨c,u⟩:=F5 h r m
   simp only[AeF] at c;exfalso;have e:=c.1.1;unfold Nk at e;rw[t] at e;simp only[AeF] at e
   cases hgd:o.guard with
   | none=>rw[hgd] at l;simp[BN] at l
   | some g=>have:=e.2;rw[hgd] at this;cases this
  cases h
theorem Bo(d hs:List Nat)(a:Ik ops.toArray=true)(g:∀w,S w->MemL w M)(f:S w){L L':List (Nat×Value)}{e c:Array Bool}{a':List (Nat×Nat)}(h:quietA P M ops n (Nk ops) d hs true [] L e=some ⟨L',c,b,a'⟩)(j:b=true)(k:a'.map Prod.fst=a'.map Prod.snd)(l:m+d.length=i)(K:∀x,Fr n ds L' x->GH P ops (Qp N X R) S m c x w):∀x,Fr n ds L x->GH P ops (Qp N X R) S i e x w:=l▸l_P a g f d hs h j (Dw k) K
end
end
end
section
def celH(h:Hp)(b o:Nat)(v:Value):Prop:=∃cs ty fr,h b=some (.cells cs ty fr)/\cs[o]?=some v
def CL(h h':Hp):Prop:=∀k o,h k=some o->h' k=some o
theorem celH.le{h':Hp}{b o:Nat}{v:Value}(c:celH h b o v)(s:CL h h'):celH h' b o v:=by
 obtain ⟨cs,ty,e,a,d⟩:=c;exact ⟨cs,ty,e,s _ _ a,d⟩
theorem celH.cel{b o:Nat}{v:Value}{w:World}(c:celH h b o v)(s:CL h (hp w)):FG b o v w:=by
 obtain ⟨cs,ty,f,d,e⟩:=c.le s;have a:w.heap[b]?=some (.cells cs ty f):=d;unfold FG World.cell?;simp[a,e]
def rdH(sz:Nat)(v:Value)(n:Nat)(xs:List Value)(h:Hp):Prop:=
 ∃ao c,v=.slice ao n c/\n<=c/\c<=9223372036854775807/\xs.length=n*sz/\∀(j:Nat) (u:Value),xs[j]?=some u->∃b p,ao=some ⟨b,p,none⟩/\celH h b (p+j) u
theorem rdH.le{sz:Nat}{v:Value}{n:Nat}{xs:List Value}{h h':Hp}(r:rdH sz v n xs h)(s:CL h h'):rdH sz v n xs h':=by
 obtain ⟨k,c,e,a,d,i,f⟩:=r;exact ⟨k,c,e,a,d,i,λj u l=>by obtain ⟨b,p,e,g⟩:=f j u l;exact ⟨b,p,e,g.le s⟩⟩
theorem rdH.rd{sz:Nat}{v:Value}{n:Nat}{xs:List Value}{w:World}(r:rdH sz v n xs h)(s:CL h (hp w)):Rd sz v n xs w:=by
 obtain ⟨k,c,e,a,d,i,f⟩:=r;exact ⟨k,c,e,a,d,i,λj u l=>by obtain ⟨b,p,e,g⟩:=f j u l;exact ⟨b,p,e,g.cel s⟩⟩
theorem rdH.small{sz:Nat}{v:Value}{n:Nat}{xs:List Value}(r:rdH sz v n xs h):n<=9223372036854775807:=by
 obtain ⟨d,c,e,a,b,_⟩:=r;omega
theorem rdH.nil(sz:Nat)(h:Hp):rdH sz (.slice none 0 0) 0 [] h:=⟨none,0,Z,Ael _,by omega,by simp,λj u a=>by simp at a⟩
theorem blk.celH{b:Nat}{cs:List Value}{ty:TypeId}{h:Hp}(c:blk b cs ty h)(o:Nat){v:Value}(a:cs[o]?=some v):celH h b o v:=⟨_,_,_,c,by simpa using a⟩
theorem blk.rd{b l c sz:Nat}{cs xs:List Value}{ty:TypeId}(f:blk b cs ty h)(d:l<=c)(e:c<=9223372036854775807)(i:m+l*sz<=cs.length)(g:(cs.drop m).take (l*sz)=xs):rdH sz (.slice (some ⟨b,m,none⟩) l c) l xs h:=by
 subst g;refine ⟨_,_,Z,d,e,by simp;omega,λj u a=>⟨b,m,Z,f.celH _ ?_⟩⟩;rw[Ae0] at a;split at a
 ·rw[Afn] at a;exact a
 cases a
section
variable{P:Program}{C:World->Prop}{o:Oper}{a:Act}{w z:World}{Γ:List Ai}{n:Nat}{ds:List Deferred}{L:List (Nat×Value)}{v:Value}{x y:Operand}{xt yt:TypeId}{A:Ai}
theorem Sep.get'(i:Nat)(H:Sep z Γ w)(a:Γ[i]?=some A):∃h,A h/\CL h (hp w):=H.get i a
def Lz:List Ai->Nat->Ai
 | [],_=>λ_=>True
 | a::_,0=>a
 | _::l,i+1=>Lz l i
theorem Xh:∀(Γ:List Ai) (i:Nat),Γ[i]?=none/\(∀h,Lz Γ i h)\/Γ[i]?=some (Lz Γ i)
 | [],_=>.inl ⟨Z,λ_=>trivial⟩
 | _::_,0=>.inr Z
 | _::l,i+1=>Xh l i
theorem Xi{Γ:List Ai}{z w:World}(i:Nat)(H:Sep z Γ w):∃h,Lz Γ i h/\CL h (hp w):=(Xh Γ i).elim (λq=>⟨_,q.2 _,λ_ _ e=>e⟩) (λq=>H.get' i q)
theorem Sep.rd(i:Nat)(H:Sep z Γ w)(d:Γ[i]?=some A){sz m:Nat}{u:Value}{xs:List Value}(c:∀h,A h->rdH sz u m xs h):Rd sz u m xs w:=by
 obtain ⟨h,a,b⟩:=H.get' i d;exact (c h a).rd b
theorem Sep.rv{Γ:List Ai}{z w:World}(i:Nat)(H:Sep z Γ w){sz:Nat}{xs:List Value}(r:∀{h},Lz Γ i h->rdH sz u m xs h):Rd sz u m xs w:=by
 obtain ⟨_,q,e⟩:=Xi i H;exact (r q).rd e
theorem Sep.cell(i:Nat)(H:Sep z Γ w)(e:Γ[i]?=some A){b p:Nat}(d:∀h,A h->celH h b p u):FG b p u w:=by
 obtain ⟨h,a,c⟩:=H.get' i e;exact (d h a).cel c
theorem Sep.says(i:Nat)(H:Sep z Γ w)(c:Γ[i]?=some A){p:Prop}(b:∀h,A h->p):p:=by
 obtain ⟨h,a,_⟩:=H.get' i c;exact b h a

theorem Sep.sy{Γ:List Ai}{z w:World}(i:Nat)(H:Sep z Γ w){p:Prop}(r:∀{h},Lz Γ i h->p):p:=by
 obtain ⟨_,q,_⟩:=Xi i H;exact r q
def grow(e:TypeId)(sz:Nat)(v:Value)(n:Nat)(xs:List Value):Ai:=λh=>xs.length=n*sz/\
 ((v=.slice none 0 0/\n=0)\/∃g cap cur,v=.slice (some ⟨g,0,none⟩) n cap/\h g=some (.cells cur e (0,0))/\n<=cap/\cap<=maxLen/\cur.size=cap*sz/\cur.toList.take (n*sz)=xs)
theorem grow.form{e:TypeId}{sz:Nat}{xs:List Value}(g:grow e sz u m xs h):(u=.slice none 0 0/\m=0)\/∃b c,u=.slice (some ⟨b,0,none⟩) m c/\m<=c:=by
 rcases g.2 with g|⟨b,c,a,f,_,d,_⟩
 ·exact .inl g
 exact .inr ⟨b,c,f,d⟩
theorem grow.len{e:TypeId}{sz:Nat}{xs:List Value}(g:grow e sz u m xs h):xs.length=m*sz:=g.1
theorem grow.nil(e:TypeId)(sz:Nat)(h:Hp):grow e sz (.slice none 0 0) 0 [] h:=⟨by simp,.inl ⟨Z,Z⟩⟩
theorem grow.rd{e:TypeId}{sz:Nat}{xs:List Value}(g:grow e sz u m xs h):rdH sz u m xs h:=by
 have d:=g.1;rcases g.2 with ⟨rfl,rfl⟩|⟨b,c,f,rfl,k,i,l,hs,n⟩
 ·have:xs=[]:=by simpa using d
  subst this;exact rdH.nil sz h
 refine ⟨_,c,Z,i,(by unfold maxLen at l;omega),d,λj u a=>⟨b,0,Z,_,_,_,k,?_⟩⟩;rw[<-n] at a;rw[Ae0] at a;split at a
 ·simpa using a
 cases a
theorem grow.own{e:TypeId}{sz:Nat}{xs:List Value}(g:grow e sz u m xs h)(s:CL h (hp w)):Xf 0 e sz u m xs w:=by
 refine ⟨g.1,?_⟩;rcases g.2 with g|⟨b,c,a,d,f,r⟩
 ·exact .inl g
 exact .inr ⟨b,c,a,d,AeR _,s _ _ f,r⟩
theorem Sep.void{B:Ai}(H:Sep z Γ w)(a:∀h,B h):Sep z (B::Γ) w:=H.grow (Ext.refl No w) (a _)
theorem Sep.nilg(H:Sep z Γ w)(e:TypeId)(sz:Nat):Sep z (YtkblhjdljaoghaaGreatDoor.grow e sz (.slice none 0 0) 0 []::Γ) w:=H.void λh=>grow.nil e sz h
theorem blk.grow{b k c sz:Nat}{cs xs:List Value}{ty:TypeId}{h:Hp}(f:blk b cs ty h)(a:k<=c)(g:c<=9223372036854775807)(e:cs.length=c*sz)(d:cs.take (k*sz)=xs):grow ty sz (.slice (some ⟨b,0,none⟩) k c) k xs h:=by
 refine ⟨?_,.inr ⟨b,c,cs.toArray,Z,f,a,(by unfold maxLen;omega),by simpa using e,by simpa using d⟩⟩;rw[<-d,AeA,e];exact AeH (AfJ _ a)
theorem AX(i:Nat){t e:TypeId}{zv:Value}{sz by_ k m:Nat}{u:Value}{xs news:List Value}(H:Sep z Γ w)(hi:Γ[i]?=some (grow e sz v k xs))(ho:o.op=.call {callee:=.builtin .append,args:= #[x,y],argTypes:= #[t,t]})
  (ht:P.underlying t=some (.slice e))(hE:Elt P e zv sz by_)(hx:ev L x=some v)(hy:ev L y=some u)(a0:Rd sz u m news w)(h1:∀c∈news,c.oneCell'=true)(a5:(k+m)*by_<=140737488355328):
  CA P n ds L o w (λv' w'=>Sep z (Γ.set i (grow e sz v' (k+m) (xs++news))) w'):=λa hF=>by
 obtain ⟨own,f⟩:=H.own;have hg:=f i _ hi;have p:CL ((hp w).part own i) (hp w):=λq o' e=>(Em e).2;have hO:=hg.own p;obtain ⟨v',w',hr,a1,d,a7⟩:=Ut (B:=0) ho ht hE hx hy hO a0 h1 (AeR _) a5 a hF;refine ⟨v',w',hr,d.os.trans H.os,d.tape.trans H.tape,d.output.trans H.output,λq=>if q<w.heap.size then own q else i,λj B l=>?_⟩;have a4:∀q,v.ownBlock=some q->own q=i:=λq hq=>by
  rcases hg.2 with ⟨rfl,_⟩|⟨b,a2,s,rfl,a8,_⟩
  ·simp[Value.ownBlock] at hq
  simp[Value.ownBlock] at hq;subst hq;exact (Em a8).1
 rw[Afq] at l;split at l
 ·rename_i e;subst e
  split at l
  ·cases l
   refine ⟨a1.1,?_⟩;rcases a1.2 with q|⟨g,a2,s,h,_,a9,r⟩
   ·exact .inl q
   refine .inr ⟨g,a2,s,h,?_,r⟩;unfold Hp.part hp;have b0:(if g<w.heap.size then own g else i)=i:=by
    split
    ·rename_i b1
     rcases a7 with q|q
     ·exact a4 g (by rw[<-q,h];rfl)
     rw[h] at q;simp[Value.ownBlock] at q;omega
    rfl
   rw[if_pos b0];exact a9
  cases l
 rename_i a3;have:=f j B l;have e:(hp w').part (λq=>if q<w.heap.size then own q else i) j=(hp w).part own j:=by
  funext q;unfold Hp.part hp;dsimp only;by_cases hq:q<w.heap.size
  ·simp only[hq,if_true]
   by_cases hqj:own q=j
   ·simp only[hqj,if_true]
    exact d.block q hq (λa6=>a3 ((a4 q a6).symm.trans hqj))
   simp[hqj]
  have:w.heap[q]?=none:=Ae3 U;simp[hq,this,a3]
 rwa[e]
theorem AP(H:Sep z Γ w){e:TypeId}{parts:List (Nat×Operand)}{vs:List (Nat×Value)}{out:List Value}(s:o.op=.buildSlice T m parts.toArray)(t:P.underlying T=some (.slice e))(f:Elt P e u j g)
  (h:(evs L (parts.map (·.2))).map (List.zip (parts.map (·.1)))=some vs)(c:m*j<=16777216)(p:0<m)(x:Instr.fill (λi=>some (i*j,j)) ((Array.range (m*j)).map (u.cells[· % u.cells.size]!)) vs=some out.toArray):
  CA P n ds L o w (λv d=>∃b,v=.slice (some ⟨b,0,none⟩) m m/\Sep z (blk b out e::Γ) d):=λa r=>by
 obtain ⟨v,d,k,b,rfl,hs,_,q,l⟩:=Nx (w:=w) s t f h c p x a r;exact ⟨_,d,k,b,Z,H.new l U q⟩
theorem EY(H:Sep z Γ w){e:TypeId}(g:o.op=.buildSlice T 0 #[])(l:P.underlying T=some (.slice e))(f:Elt P e u m j):
  CA P n ds L o w (λv w'=>∃b,v=.slice (some ⟨b,0,none⟩) 0 0/\Sep z (blk b [] e::Γ) w'):=λa r=>by
 obtain ⟨i,hi,p,hs,q,k,d,h⟩:=f;refine ⟨_,_,?_,w.heap.size,Z,H.new (Dv w (.cells #[] e)) (Ael _) (by show (w.heap.push _)[w.heap.size]?=_;simp)⟩;simp only[execOp,g,AeZ];have c:∀w,(sizeOf e).run P w=.ok m w:=λw=>by simp[sizeOf,typeInfo,hi,hs,go_sem]
 simp[Instr.buildSlice,run_underlying l,c,newRow,newObj,go_sem,Sem.run,Instr.fill]
end
end
section
def Cl(l:List UInt8):Value:=.string ⟨l.toArray⟩
def Rl(P:Program)(t:TypeId):Bool:=match P.underlying t with
 | some (.slice e)=>(match P.underlying e with|some (.int .u8)=>(match P.info? e with|some i=>Nat.beq i.size 1|none=>false)|_=>false)
 | _=>false
theorem PW{P:Program}(h:Rl P T=true):∃e i,P.underlying T=some (.slice e)/\P.underlying e=some (.int .u8)/\P.info? e=some i/\i.size=1:=by
 unfold Rl at h;split at h
 ·rename_i e a
  split at h
  ·rename_i b
   split at h
   ·rename_i i c;exact ⟨e,i,a,b,c,by simpa using h⟩
   cases h
  cases h
 cases h
section
variable{P:Program}{C:World->Prop}{o:Oper}{a:Act}{w z:World}{Γ:List Ai}{n:Nat}{ds:List Deferred}{L:List (Nat×Value)}{v:Value}{x y:Operand}{xt yt:TypeId}{A:Ai}

theorem Cq{l:List UInt8}(ho:o.op=.convert xt T x)(r:Rl P xt=true)(s:G7 P T=true)(y:ev L x=some u)(t:∀w,C w->Rd 1 u l.length (l.map u8) w):Av P C n ds L o (Cl l):=λa hF w hw=>by
 obtain ⟨e,i,f,m,_,_⟩:=PW r;have g:=GF s;obtain ⟨k,c,rfl,z,_,_,h⟩:=t w hw;have key:(convert xt T (.slice k l.length c)).run P w=.ok (Cl l) w:=by
  cases k with
  | none=>
   have:l=[]:=by
    cases l with
    | nil=>rfl
    | cons p q=>obtain ⟨b,p',e,_⟩:=h 0 (u8 p) O;cases e
   subst this;exact run_convert_bytes_nil _ xt e f m _ _ T g
  | some ad=>
   refine run_convert_bytes_back w xt T e ad c l f m g λj hj=>?_;obtain ⟨b,p,e2,d⟩:=h j (u8 l[j]) (by simp[hj]);simp only[Aeo] at e2;subst e2;have e3:(Addr.add ⟨b,p,none⟩ j)=⟨b,p+j,none⟩:=by
    unfold Addr.add;split
    ·rename_i v;simp[v]
    rfl
   rw[e3];exact d
 simp only[execOp,ho,hF.ev y,Aex,key,Aet,AeC]
theorem IN{l m:List UInt8}(d:o.op=.binOp .eql xt x y yt)(b:G7 P xt=true)(e:ev L x=some (Cl l))(f:ev L y=some (Cl m)):Av P C n ds L o (.bool (decide (l=m))):=λa c w _=>by
 have b:=GF b;simp only[execOp,d,c.ev e,c.ev f,Cl];simp[b,go_sem]
 first |(rw[Aez];simp;done)|skip
theorem KC{l m:List UInt8}(d:o.op=.binOp .neq xt x y yt)(b:G7 P xt=true)(e:ev L x=some (Cl l))(f:ev L y=some (Cl m)):Av P C n ds L o (.bool (decide (l≠m))):=λa c w _=>by
 have b:=GF b;simp only[execOp,d,c.ev e,c.ev f,Cl];simp[b,go_sem]
 first |(rw[Aez];simp;done)|skip
theorem UA{t:TypeId}{l:List UInt8}(c:o.op=.call {callee:=.builtin .len,args:= #[x],argTypes:= #[t]})(b:G7 P t=true)(a:ev L x=some (Cl l)):Av P C n ds L o (I l.length):=AaK c b a

theorem JP{sT ty:TypeId}{a dc:Nat}{t:TypeId}{news:List Value}(hd:∃e i,P.underlying T=some (.slice e)/\P.info? e=some i/\i.size=1)(b:(Rd 1 u m news w)\/(∃l,u=Cl l/\news=l.map u8/\m=l.length))(h1:∀c∈news,c.oneCell'=true)(hb:Blk g V t w)(hl:r+min m a<=V.length):
  ∃v,(Builtin.copy_ #[T,sT] ty #[.slice (some ⟨g,r,none⟩) a dc,u]).run P w=.ok (I (min m a:Nat)) v/\Blk g (V.take r++news.take (min m a)++V.drop (r+min m a)) t v/\Ext (· =g) w v/\v.heap.size=w.heap.size:=by
 obtain ⟨e,i,ht,hi,hs⟩:=hd;have a1:∀w,(sizeOf e).run P w=.ok 1 w:=λw=>by simp[sizeOf,typeInfo,hi,hs,go_sem]
 have d:(news.take (min m a)).length=min m a:=by
  have:news.length=m:=by
   rcases b with ⟨_,_,_,_,_,hl,_⟩|⟨l,_,rfl,rfl⟩
   ·simpa using hl
   simp
  rw[AeA,this];omega
 have f:=run_storeCells_at P g r t (news.take (min m a)) 0 V.toArray w hb (by rw[d];simpa using hl) (λc hc=>h1 c (Afi hc));rw[d] at f;simp only[Ag7,Af2] at f;refine ⟨_,?_,setRow_heap w g _ _ t (0,0) hb,⟨Z,Z,Z,by simp,λk _ hk=>setRow_other w g k _ hk⟩,by simp⟩;have s:(Builtin.lenOf u).run P w=.ok m w:=by
  rcases b with ⟨ao,c,rfl,_⟩|⟨l,rfl,rfl,rfl⟩
  ·rfl
  rfl
 have o:m.min a=min m a:=rfl;have z:(Builtin.firstCells 1 (min m a) u).run P w=.ok (news.take (min m a)).toArray w:=by
  rcases b with ⟨ao,c,rfl,a3,_,a2,h⟩|⟨l,rfl,rfl,rfl⟩
  ·cases ao with
   | none=>
    have hn:news=[]:=by
     cases news with
     | nil=>rfl
     | cons q qs=>obtain ⟨b',p',y,_⟩:=h 0 q Z;cases y
    subst hn;simp[Builtin.firstCells,AeC]
   | some ad=>
    have:=run_loadCells_list (P:=P) w ad (news.take (min m a)) (λj q x=>by
     have a0:news[j]?=some q:=by
      rw[Ae0] at x;split at x
      ·exact x
      cases x
     obtain ⟨b',p,y,n⟩:=h j q a0;simp only[Aeo] at y;subst y;have e3:(Addr.add ⟨b',p,none⟩ j)=⟨b',p+j,none⟩:=by
      unfold Addr.add;split
      ·rename_i h0;simp[h0]
      rfl
     rw[e3];exact n)
    rw[d] at this;simp only[Builtin.firstCells,AeS];exact this
  have e:((({data:=l.toArray} :ByteArray).extract 0 (min l.length a)).data.map λg=>Value.int .u8 g.toNat)=((l.map u8).take (min l.length a)).toArray:=by
   apply Array.ext';rw[Array.toList_map,Lib.extract_data];simp[u8,Afr];rfl
  simp only[Cl,Builtin.firstCells,AeC,e]
 simp only[Builtin.copy_,Afh,AeU,AeB,Aex,run_underlying ht,Aet,s,a1,o,z,f,AeC,goInt]
theorem F8(i:Nat){t st:TypeId}{b f p dc m:Nat}{s:TypeId}{cs news:List Value}{u:Value}(H:Sep z Γ w)(hi:Γ[i]?=some (blk b cs s))(ho:o.op=.call {callee:=.builtin .copy,args:= #[x,y],argTypes:= #[t,st]})(hd:Rl P t=true)(hx:ev L x=some (.slice (some ⟨b,f,none⟩) p dc))(hy:ev L y=some u)
  (h:(Rd 1 u m news w)\/(∃l,u=Cl l/\news=l.map u8/\m=l.length))(h1:∀c∈news,c.oneCell'=true)(hl:f+min m p<=cs.length){k:Nat}(hk:min m p=k){out:List Value}(j:cs.take f++news.take k++cs.drop (f+k)=out):
  CA P n ds L o w (λv r=>v=I k/\Sep z (Γ.set i (blk b out s)) r):=λa hF=>by
 obtain ⟨r,hr,hB,d,_⟩:=JP (P:=P) (sT:=st) (ty:=o.type) (dc:=dc) (by obtain ⟨e,i,ht,_,hi,hs⟩:=PW hd;exact ⟨e,i,ht,hi,hs⟩) h h1 (H.blk i hi) hl;rw[hk,j] at hB;rw[hk] at hr;refine ⟨_,r,?_,Z,H.write i hi d.os d.tape d.output hB (λq hq=>?_)⟩
 ·simp only[execOp,ho,resolve,invoke,builtin,Aex,AeC,Aet,AeZ,AeM,AfB,hF.ev hx,hF.ev hy,hr]
 rcases Aeu q w.heap.size with g|g
 ·exact d.block q g hq
 rw[Ae3 g,Ae3 U]
theorem XR(i:Nat){t st:TypeId}{b f p dc m:Nat}{ct:TypeId}{cs news:List Value}{u:Value}(H:Sep z Γ w)(hi:Γ[i]?=some (blk b cs ct))(ho:o.op=.call {callee:=.builtin .copy,args:= #[x,y],argTypes:= #[t,st]})(hd:Do P t=some 1)(hx:ev L x=some (.slice (some ⟨b,f,none⟩) p dc))(hy:ev L y=some u)
  (h:(Rd 1 u m news w)\/(∃l,u=Cl l/\news=l.map u8/\m=l.length))(s:∀c∈news,c.oneCell'=true)(hl:f+min m p<=cs.length){k:Nat}(hk:min m p=k){out:List Value}(j:cs.take f++news.take k++cs.drop (f+k)=out):
  CA P n ds L o w (λv r=>v=I k/\Sep z (Γ.set i (blk b out ct)) r):=λa hF=>by
 obtain ⟨r,hr,hB,d,_⟩:=JP (P:=P) (sT:=st) (ty:=o.type) (dc:=dc) (by obtain ⟨e,i0,s,h2,h3⟩:=Fe hd;exact ⟨e,i0,s,h2,h3⟩) h s (H.blk i hi) hl;rw[hk,j] at hB;rw[hk] at hr;refine ⟨_,r,?_,Z,H.write i hi d.os d.tape d.output hB (λq hq=>?_)⟩
 ·simp only[execOp,ho,resolve,invoke,builtin,Aex,AeC,Aet,AeZ,AeM,AfB,hF.ev hx,hF.ev hy,hr]
 rcases Aeu q w.heap.size with g|g
 ·exact d.block q g hq
 rw[Ae3 g,Ae3 U]
theorem En{e:TypeId}{k:Nat}(H:Sep z Γ w)(ho:o.op=.makeSlice T x y)(ht:P.underlying T=some (.slice e))(h:Elt P e u 1 m)(p:u.cells= #[u])(r:ev L x=some (I k))(hy:ev L y=some (I k))(hk:m*k<=140737488355328):
  CA P n ds L o w (λv w'=>∃b,v=.slice (some ⟨b,0,none⟩) k k/\Sep z (blk b (List.replicate k u) e::Γ) w'):=λa g=>by
 obtain ⟨i,hi,t,hs,l,q,s,d⟩:=h;have c:(i.bytes:Int)*(k:Int)<=281474976710656:=by
  rw[l,<-Int.natCast_mul];omega
 have f:=run_make (P:=P) (w:=w) T e i u ht hi t .i64 .i64 (k:Int) (k:Int) U (Afo _) c (by
  have:1*k<=m*k:=AfJ _ d;omega)
 have e1:madeCells u.cells (((k:Int)).toNat*i.size)=(List.replicate k u).toArray:=by
  apply Array.ext';simp only[madeCells,hs,p,Ae7,AeS];rw[Af2];apply Ag0
  ·simp
  intro j h1 h2;simp[Nat.mod_one]
 rw[e1] at f;refine ⟨_,_,?_,w.heap.size,Z,H.new (Dv w (.cells (List.replicate k u).toArray e)) (Ael _) (by show (w.heap.push _)[w.heap.size]?=_;simp)⟩;simp only[execOp,ho,g.ev r,g.ev hy,Aex,f,Aet,AeC,Ae7];rfl

abbrev IE:=Int×Value×Nat
def Cw(p:IE):MapEntry:=⟨.int .i64 p.1,p.2.1,p.2.2⟩
def AJ(m:Nat)(l:List IE)(clk:Nat):Ai:=bk m (.map (l.map Cw).toArray clk)
def fnd:List IE->Int->Nat->Option (Nat×Value)
 | [],_,_=>none
 | p::l,k,i=>if k=p.1 then some (i,p.2.1) else fnd l k (i+1)
def CQ:List IE->Int->Option Value
 | [],_=>none
 | p::l,k=>if k=p.1 then some p.2.1 else CQ l k
def CR(l:List IE)(k:Int):Bool:=(CQ l k).isSome
def updM:List IE->Int->Value->List IE
 | [],_,_=>[]
 | p::l,k,v=>if k=p.1 then (k,v,p.2.2)::l else p::updM l k v
def delM:List IE->Int->List IE
 | [],_=>[]
 | p::l,k=>if k=p.1 then l else p::delM l k
def E5(l:List IE)(k:Int)(v:Value)(clk:Nat):List IE:=if CR l k then updM l k v else l++[(k,v,clk)]
def putC(l:List IE)(k:Int)(clk:Nat):Nat:=if CR l k then clk else clk+1
theorem Jj(l:List IE)(k:Int):∀i,(fnd l k i).map (·.2)=CQ l k:=by
 induction l with
 | nil=>intro i;rfl
 | cons p l ih=>intro i;simp only[fnd,CQ];split<;>simp[ih]
theorem Sz{l:List IE}:∀i j u,fnd l t i=some (j,u)->i<=j:=by
 induction l with
 | nil=>intro i j u h;simp[fnd] at h
 | cons p l ih=>
  intro i j u h;simp only[fnd] at h;split at h
  ·simp at h;omega
  have:=ih _ _ _ h;omega
theorem XS(l:List IE)(k:Int)(v:Value):∀i j u,fnd l k i=some (j,u)->(l.map Cw).modify (j-i) (λe=> {e with key:=I k,val:=v})=(updM l k v).map Cw/\((l.map Cw)[j-i]?).map (·.key)=some (I k):=by
 induction l with
 | nil=>intro i j u h;simp[fnd] at h
 | cons p l ih=>
  intro i j u h;simp only[fnd] at h;simp only[updM];split at h
  ·rename_i e
   simp at h;obtain ⟨rfl,_⟩:=h;simp[e,Cw]
  rename_i e;have c:=Sz _ _ _ h;obtain ⟨a,b⟩:=ih _ _ _ h;obtain ⟨q,rfl⟩:∃q,j=i+1+q:=⟨j-(i+1),by omega⟩;rw[show i+1+q-(i+1)=q from by omega] at a b;rw[show i+1+q-i=q+1 from by omega];refine ⟨by simp[e,a],?_⟩;rw[AeM,AeB];exact b
theorem XT(l:List IE)(k:Int):∀i j u,fnd l k i=some (j,u)->(l.map Cw).eraseIdx (j-i)=(delM l k).map Cw/\j-i<l.length:=by
 induction l with
 | nil=>intro i j u h;simp[fnd] at h
 | cons p l ih=>
  intro i j u h;simp only[fnd] at h;simp only[delM];split at h
  ·rename_i e
   simp at h;obtain ⟨rfl,_⟩:=h;simp[e]
  rename_i e;have c:=Sz _ _ _ h;obtain ⟨a,b⟩:=ih _ _ _ h;obtain ⟨q,rfl⟩:∃q,j=i+1+q:=⟨j-(i+1),by omega⟩;rw[show i+1+q-(i+1)=q from by omega] at a b;rw[show i+1+q-i=q+1 from by omega];simp[e,a];omega
theorem NC(l:List IE)(k:Int)(h:CQ l k=none):delM l k=l:=by
 induction l with
 | nil=>rfl
 | cons p l ih=>
  simp only[CQ] at h;simp only[delM];split at h
  ·cases h
  rename_i e;rw[if_neg e,ih h]
def EP(P:Program)(t:TypeId):Option TypeId:=match P.underlying t with
 | some (.map k e)=>(match P.underlying k with|some (.int _)=>some e|_=>none)
 | _=>none
theorem D5{e:TypeId}(h:EP P T=some e):∃k a,P.underlying T=some (.map k e)/\P.underlying k=some (.int a):=by
 unfold EP at h;split at h
 ·rename_i k d b
  split at h
  ·rename_i a c;simp only[Aeo] at h;subst h;exact ⟨k,a,b,c⟩
  cases h
 cases h
theorem EQ{a:IntKind}(b:P.underlying T=some (.int a))(l:List IE)(k:Int)(w:World):(Instr.findKey T (I k) (l.map Cw)).run P w=.ok (fnd l k 0) w:=by
 have key:∀(l:List IE) (i:Nat),Instr.findNow (.int a) (I k) (l.map Cw) i=some (fnd l k i):=by
  intro l
  induction l with
  | nil=>intro i;rfl
  | cons p l ih=>
   intro i;simp only[AeM,Instr.findNow,Cw,Instr.sameNow,if_true,fnd];by_cases e:k=p.1
   ·simp[e]
   have:(k==p.1)=false:=by simpa using e
   rw[this,if_neg e];exact ih _
 simp only[Instr.findKey,Aex,run_underlying b,Aet,key,AeC]
theorem Eo{c:IntKind}(a:P.underlying T=some (.int c))(b:Bool)(k:Int)(w:World):(Instr.checkKey b 10000 T (I k)).run P w=.ok () w:=by
 unfold Instr.checkKey;simp only[Aex,run_underlying a,Aet,AeC]
theorem FO{e:TypeId}{l:List IE}{zv:Value}(t:o.op=.lookup T x y false)(z:EP P T=some e)(c:(P.info? e).bind (·.zero)=some zv)(k:ev L x=some (.map (some m)))(v:ev L y=some (I s))
  (p:∀w,C w->w.heap[m]?=some (.map (l.map Cw).toArray j)):Av P C n ds L o ((CQ l s).getD zv):=λa g w r=>by
 obtain ⟨kt,ik,h,f⟩:=D5 z;have d:(zeroValue e).run P w=.ok zv w:=by
  cases hi:P.info? e with
  | none=>rw[hi] at c;cases c
  | some i=>rw[hi] at c;simp[zeroValue,typeInfo,hi,show i.zero=some zv from c,go_sem]
 have u:(getObj m).run P w=.ok (.map (l.map Cw).toArray j) w:=by simp[getObj,Sem.run,p w r]
 have b:=Jj l s 0;simp only[execOp,t,g.ev k,g.ev v,Instr.lookup,Aex,run_underlying h,Aet,u,AeC,Eo f,Af2,EQ f]
 cases hf:fnd l s 0 with
 | none=>rw[hf] at b;rw[<-b];simp[d,Aex,AeC]
 | some q=>rw[hf] at b;rw[<-b];simp[AeC]
theorem DP(i:Nat){e:TypeId}{l:List IE}{y ko vo:Operand}(H:Sep z Γ w)(hi:Γ[i]?=some (AJ m l g))(ho:o.op=.mapUpdate T y ko vo)(ht:EP P T=some e)(hx:ev L y=some (.map (some m)))(hk:ev L ko=some (I s))(hv:ev L vo=some v):
  DI P n ds L o w (λw'=>Sep z (Γ.set i (AJ m (E5 l s v g) (putC l s g))) w'):=λa k=>by
 obtain ⟨kt,ik,h1,h2⟩:=D5 ht;have d:w.heap[m]?=some (.map (l.map Cw).toArray g):=H.bk i hi;have hg:(getObj m).run P w=.ok (.map (l.map Cw).toArray g) w:=by simp[getObj,Sem.run,d]
 have c:∀ob,(setObj m ob).run P w=.ok () {w with heap:=w.heap.setIfInBounds m ob} :=λob=>by simp[setObj,Sem.run,d]
 have p:m<w.heap.size:=(Ae4.1 d).1;have fin:∀ob,Sep z (Γ.set i (bk m ob)) {w with heap:=w.heap.setIfInBounds m ob} :=λob=>
  H.write i hi Z Z Z (by show (w.heap.setIfInBounds m ob)[m]?=_;simp[p]) (λq hq=>by show (w.heap.setIfInBounds m ob)[q]?=_;rw[AfS (AfV hq)])
 have b:=Jj l s 0;have h:(Instr.mapUpdate T (.map (some m)) (I s) v).run P w=.ok () {w with heap:=w.heap.setIfInBounds m (.map ((E5 l s v g).map Cw).toArray (putC l s g))} :=by
  simp only[Instr.mapUpdate,Aex,run_underlying h1,Aet,hg,AeC,Eo h2,Af2,EQ h2]
  cases hf:fnd l s 0 with
  | none=>
   rw[hf] at b;have t:CR l s=false:=by simp[CR,<-b]
   simp only[E5,putC,t,if_false,Afu,c];simp[Cw]
  | some q=>
   obtain ⟨j,u⟩:=q;rw[hf] at b;have t:CR l s=true:=by simp[CR,<-b]
   obtain ⟨x,f2⟩:=XS l s v 0 j u hf;simp only[Ag6] at x f2;have f:((((l.map Cw).toArray)[j]?).map (·.key)).getD (I s)=I s:=by
    rw[Afh,f2];rfl
   simp only[E5,putC,t,if_true,f];have r:(Instr.keyThatStays (I s) (I s)).run P w=.ok (I s) w:=by
    simp[Instr.keyThatStays,Instr.sameBits,AeC]
   simp only[r,Aex,Aet];rw[<-x];have:((l.map Cw).toArray.modify j λe=> {e with key:=I s,val:=v})=((l.map Cw).modify j λe=> {e with key:=I s,val:=v}).toArray:=by simp
   rw[this];exact c _
 refine ⟨_,?_,fin _⟩;simp only[execOp,ho,k.ev hx,k.ev hk,k.ev hv,Aex,h,Aet,AeC]
theorem ND(i:Nat){t e d:TypeId}{m clk:Nat}{l:List IE}{k:Int}(H:Sep z Γ w)(hi:Γ[i]?=some (AJ m l clk))(ho:o.op=.call {callee:=.builtin .delete,args:= #[x,y],argTypes:= #[t,d]})(ht:EP P t=some e)(hx:ev L x=some (.map (some m)))(hk:ev L y=some (I k)):
  CA P n ds L o w (λv w'=>v=.tuple #[]/\Sep z (Γ.set i (AJ m (delM l k) clk)) w'):=λa s=>by
 obtain ⟨kt,ik,h1,p⟩:=D5 ht;have c:w.heap[m]?=some (.map (l.map Cw).toArray clk):=H.bk i hi;have hg:(getObj m).run P w=.ok (.map (l.map Cw).toArray clk) w:=by simp[getObj,Sem.run,c]
 have b:∀ob,(setObj m ob).run P w=.ok () {w with heap:=w.heap.setIfInBounds m ob} :=λob=>by simp[setObj,Sem.run,c]
 have h:m<w.heap.size:=(Ae4.1 c).1;have fin:∀ob,Sep z (Γ.set i (bk m ob)) {w with heap:=w.heap.setIfInBounds m ob} :=λob=>
  H.write i hi Z Z Z (by show (w.heap.setIfInBounds m ob)[m]?=_;simp[h]) (λq hq=>by show (w.heap.setIfInBounds m ob)[q]?=_;rw[AfS (AfV hq)])
 have f:=Jj l k 0;have g:(Builtin.delete_ #[t,d] o.type #[.map (some m),I k]).run P w=.ok (.tuple #[]) {w with heap:=w.heap.setIfInBounds m (.map ((delM l k).map Cw).toArray clk)} :=by
  simp only[Builtin.delete_,Afh,AeU,AeB,Aex,run_underlying h1,Aet,hg,AeC,Eo p,EQ p]
  cases hf:fnd l k 0 with
  | none=>
   rw[hf] at f;simp only[Aex,b,Aet,NC l k f.symm,AeC]
  | some q=>
   obtain ⟨j,u⟩:=q;obtain ⟨r,f2⟩:=XT l k 0 j u hf;simp only[Ag6] at r f2;have:((l.map Cw).toArray.eraseIdxIfInBounds j)=((delM l k).map Cw).toArray:=by
    rw[<-r];simp
   simp only[this,Aex,b,Aet,AeC]
 refine ⟨_,_,?_,Z,fin _⟩;simp only[execOp,ho,resolve,invoke,builtin,Aex,AeC,Aet,AeZ,AeM,AfB,s.ev hx,s.ev hk,g]
theorem F9(H:Sep z Γ w)(b:o.op=.makeMap T none):CA P n ds L o w (λv w'=>∃m,v=.map (some m)/\Sep z (AJ m [] 0::Γ) w'):=λa c=>by
 refine ⟨_,_,?_,w.heap.size,Z,H.new (Dv w (.map #[] 0)) (Ael _) (by show (w.heap.push _)[w.heap.size]?=_;simp)⟩;simp[execOp,b,Instr.makeMap,newObj,go_sem,Sem.run]
def Jk(P:Program)(t:TypeId):Option Nat:=match P.underlying t with
 | some (.array l e)=>(match P.info? e with|some i=>if Nat.beq i.size 1&&Gi P e then some l else none|none=>none)
 | _=>none
theorem KD(h:Jk P T=some m):∃e i,P.underlying T=some (.array m e)/\P.info? e=some i/\i.size=1/\Gi P e=true:=by
 unfold Jk at h;split at h
 ·rename_i l' e b
  split at h
  ·rename_i i c
   split at h
   ·rename_i a
    simp only[AeF] at a;simp only[Aeo] at h;subst h;exact ⟨e,i,b,c,by simpa using a.1,a.2⟩
   cases h
  cases h
 cases h
theorem NE{k:IntKind}(v:o.op=.index T x y)(f:Jk P T=some m)(r:ev L x=some (.agg V.toArray))(t:V=l.map I)(hm:l.length=m)(z:ev L y=some (.int k s))(c:s=j)(g:l[j]?=some p):Av P C n ds L o (I p):=λa h w _=>by
 obtain ⟨e,i0,f,hi,u,hf⟩:=KD f;subst c;have hj:j<l.length:=(Aee.1 g).1;have i:(0:Int)<=(j:Int)/\(j:Int)<(m:Int):=by omega
 have q:V[j]?=some (I p):=by rw[t,Aer,g];rfl
 have b:(part e V.toArray (j*1)).run P w=.ok (I p) w:=by
  simp only[part,Aex,FN hf,Aet,if_false,Afu,AeS,Afh,q,AeC]
 have d:(sizeOf e).run P w=.ok 1 w:=by simp[sizeOf,typeInfo,hi,u,go_sem]
 simp only[execOp,v,h.ev r,h.ev z,Instr.index,asIntOf,Aex,AeC,Aet,run_underlying f,if_pos i,Ae7,d,b]

def Slc(v:Value)(l:Nat):Prop:=∃ao c,v=.slice ao l c
theorem grow.slc{e:TypeId}{sz:Nat}{xs:List Value}(g:grow e sz u m xs h):Slc u m:=by
 rcases g.form with ⟨rfl,rfl⟩|⟨b,c,rfl,_⟩
 ·exact ⟨_,_,Z⟩
 exact ⟨_,_,Z⟩
theorem rdH.slc{sz:Nat}{xs:List Value}(g:rdH sz u m xs h):Slc u m:=by
 obtain ⟨a,c,rfl,_⟩:=g;exact ⟨_,_,Z⟩
theorem Ee{t:TypeId}{sz l:Nat}{u:Value}(d:o.op=.call {callee:=.builtin .len,args:= #[x],argTypes:= #[t]})(b:Do P t=some sz)(e:ev L x=some u)(a:Slc u l):Av P C n ds L o (I l):=by
 obtain ⟨f,c,rfl⟩:=a;exact F3 d b e
theorem Sep.ungrow(i:Nat){e:TypeId}{sz:Nat}{xs:List Value}(H:Sep z Γ w)(hi:Γ[i]?=some (YtkblhjdljaoghaaGreatDoor.grow e sz u m xs))(o:0<m):
  ∃g a rest,u=.slice (some ⟨g,0,none⟩) m a/\m<=a/\a<=9223372036854775807/\rest.length=(a-m)*sz/\Sep z (Γ.set i (YtkblhjdljaoghaaGreatDoor.blk g (xs++rest) e)) w:=by
 obtain ⟨⟨g,a,rest⟩,⟨a1,a2,a3,a4⟩,k⟩:=H.exAt i (σ:=Nat×Nat×List Value) (p:=λq=>u=.slice (some ⟨q.1,0,none⟩) m q.2.1/\m<=q.2.1/\q.2.1<=9223372036854775807/\q.2.2.length=(q.2.1-m)*sz) (B:=λq=>YtkblhjdljaoghaaGreatDoor.blk q.1 (xs++q.2.2) e) hi (λh g=>by
  rcases g.2 with ⟨_,rfl⟩|⟨b,a,c,f,n,l,d,hs,j⟩
  ·omega
  refine ⟨⟨b,a,c.toList.drop (m*sz)⟩,⟨f,l,by unfold maxLen at d;omega,?_⟩,?_⟩
  ·simp[hs,Nat.sub_mul]
  rw[<-j,AeO];simpa [YtkblhjdljaoghaaGreatDoor.blk,YtkblhjdljaoghaaGreatDoor.bk] using n)
 exact ⟨g,a,rest,a1,a2,a3,a4,k⟩
theorem UB{lo hi u:Operand}{p q sz o' l':Nat}{k1 k2 z:IntKind}{y v:Int}(ho:o.op=.slice T x (some lo) (some hi) (some u))(h:Do P T=some sz)(hx:ev L x=some (.slice (some ⟨m,i,none⟩) j g))
  (k:ev L lo=some (.int k1 s))(d:ev L hi=some (.int k2 y))(f:ev L u=some (.int z v))(e1:s=(p:Int))(e2:y=(q:Int))(e3:v=(q:Int))(a0:p<q)(t:q<=g)(h1:i+p*sz=o')(h2:q-p=l'):Av P C n ds L o (.slice (some ⟨m,o',none⟩) l' l'):=λa b w _=>by
 obtain ⟨e,i0,h,l,hz⟩:=Fe h;subst e1;subst e2;subst e3;have g1:(0:Int)<=(p:Int)/\(p:Int)<=(q:Int):=by omega
 have g2:(0:Int)<=(q:Int)/\(q:Int)<=(g:Int):=by omega
 have g3:(0:Int)<=(q:Int)/\(q:Int)<=(q:Int):=by omega
 have key:((⟨m,i,none⟩:Addr).add (p*sz))=⟨m,o',none⟩:=by
  subst h1;unfold Addr.add;split
  ·rename_i h0;simp[h0]
  rfl
 have r:¬q=p:=by omega
 have c:p<=q:=by omega
 simp only[execOp,ho,AeV,b.ev hx,b.ev k,b.ev d,b.ev f];simp[Instr.sliceAt,Instr.slice,run_underlying h,Instr.sliceBounds,Instr.sliceBound,asIntOf,g1,g2,g3,sizeOf,typeInfo,l,hz,c,t,r,go_sem,key,h2]
end
end
section
section
variable{P:Program}{C:World->Prop}{o:Oper}{a:Act}{w z:World}{Γ:List Ai}{n:Nat}{ds:List Deferred}{L:List (Nat×Value)}{v:Value}{x y:Operand}{xt yt:TypeId}
theorem AaQ{k:IntKind}(d:o.op=.binOp .shr xt x y yt)(f:ev L x=some (I p))(e:ev L y=some (.int k q))(hq:q=m)(h:m<64):Av P C n ds L o (I (p/2^m)):=λa c w _=>by
 subst hq;simp only[execOp,d,c.ev f,c.ev e];have g:¬((m:Int)<0):=by omega
 have b:min m 64=m:=by omega
 simp[go_sem,Op.shift,IntKind.bits,g,b]
theorem SA{k:IntKind}(d:o.op=.binOp .shl xt x y yt)(f:ev L x=some (I p))(e:ev L y=some (.int k q))(hq:q=m)(h:m<64):Av P C n ds L o (I (IntKind.i64.wrap (p*2^m))):=λa c w _=>by
 subst hq;simp only[execOp,d,c.ev f,c.ev e];have g:¬((m:Int)<0):=by omega
 have b:min m 64=m:=by omega
 simp[go_sem,Op.shift,IntKind.bits,g,b]
theorem SB(c:o.op=.binOp .add xt x y yt)(b:ev L x=some (I p))(a:ev L y=some (I q)):Av P C n ds L o (I (IntKind.i64.wrap (p+q))):=W7 (P:=P) (C:=C) (n:=n) (ds:=ds) (L:=L) c b a
theorem AaR{q:Nat}(hp:p%256=0)(hq:q<256):((BitVec.ofInt 64 p|||BitVec.ofInt 64 (q:Int)).toNat:Int)%18446744073709551616=(p+q)%18446744073709551616:=by
 have e1:(BitVec.ofInt 64 p).toNat=(p%18446744073709551616).toNat:=by simp[BitVec.toNat_ofInt]
 have e2:(BitVec.ofInt 64 (q:Int)).toNat=q:=by simp[BitVec.toNat_ofInt];omega
 have b:∃r,(p%18446744073709551616).toNat=r <<< 8:=⟨(p%18446744073709551616).toNat/256,by rw[Nat.shiftLeft_eq];omega⟩;obtain ⟨r,a⟩:=b;rw[BitVec.toNat_or,e1,e2,a,<-Nat.shiftLeft_add_eq_or_of_lt (by omega:q<2^8),<-a];omega
theorem Xj(d:o.op=.binOp .or xt x y yt)(f:ev L x=some (I p))(e:ev L y=some (I q))(hp:p%256=0)(hq:0<=q/\q<256):Av P C n ds L o (I (IntKind.i64.wrap (p+q))):=λa c w _=>by
 obtain ⟨q,rfl⟩:=Af0 hq.1;have h:=AaR (p:=p) (q:=q) hp U;have key:IntKind.i64.wrap ((BitVec.ofInt IntKind.i64.bits p|||BitVec.ofInt IntKind.i64.bits (q:Int)).toNat:Int)=IntKind.i64.wrap (p+q):=by
  show (if (true&&decide (((BitVec.ofInt 64 p|||BitVec.ofInt 64 (q:Int)).toNat:Int)%(2^64:Int)>=(2^(64-1):Int)))=true then ((BitVec.ofInt 64 p|||BitVec.ofInt 64 (q:Int)).toNat:Int)%(2^64:Int)-(2^64:Int) else ((BitVec.ofInt 64 p|||BitVec.ofInt 64 (q:Int)).toNat:Int)%(2^64:Int))=(if (true&&decide ((p+q)%(2^64:Int)>=(2^(64-1):Int)))=true then (p+q)%(2^64:Int)-(2^64:Int) else (p+q)%(2^64:Int));simp only[show (2:Int)^64=18446744073709551616 from Z,h]
 have b:IntKind.i64.wrap ((BitVec.ofInt 64 p|||BitVec.ofInt 64 (q:Int)).toNat:Int)=IntKind.i64.wrap (p+q):=key;rw[Ag9] at b;simp only[execOp,d,c.ev f,c.ev e];simp only[binOp,Op.intBits,go_sem,key]
 first |(simp[go_sem,b];done)|(simp only[go_sem];exact congrArg (λv=>Result.ok (I v) _) b)|(simp[go_sem];exact b)
theorem J0{l:List UInt8}{k:IntKind}{b:UInt8}(g:o.op=.index T x y)(d:G7 P T=true)(i:ev L x=some (Cl l))(m:ev L y=some (.int k s))(c:s=j)(e:l[j]?=some b):Av P C n ds L o (u8 b):=λa f w _=>by
 have d:=GF d;subst c;have p:j<l.length:=(Aee.1 e).1;have h:(⟨l.toArray⟩:ByteArray)[j]?=some b:=by
  have hs:(⟨l.toArray⟩:ByteArray).size=l.length:=by show l.toArray.size=_;simp
  rw[getElem?_pos (⟨l.toArray⟩:ByteArray) j (by rw[hs];exact p)];show some (l.toArray[j]'_)=_;simp[(Aee.1 e).2]
 simp only[execOp,g,f.ev i,f.ev m,Cl,Instr.index,asIntOf,Aex,AeC,Aet,run_underlying d,if_pos (Int.natCast_nonneg j),Ae7,h];rfl
theorem SC{t e:TypeId}{zv:Value}{sz by_ k d m b h:Nat}{u:Value}{xs news:List Value}(H:Sep z Γ w)(ho:o.op=.call {callee:=.builtin .append,args:= #[x,y],argTypes:= #[t,t]})
  (ht:P.underlying t=some (.slice e))(hE:Elt P e zv sz by_)(hx:ev L x=some (.slice (some ⟨b,h,none⟩) k d))(hy:ev L y=some u)(v:Rd sz (.slice (some ⟨b,h,none⟩) k d) k xs w)(a0:Rd sz u m news w)(hg:d<k+m)(h1:∀c∈news,c.oneCell'=true)(a1:(k+m)*by_<=140737488355328):
  CA P n ds L o w (λv' w'=>Sep z (grow e sz v' (k+m) (xs++news)::Γ) w'):=λa hF=>by
 obtain ⟨i,hi,hz,hs,hb,a5,a7,b0⟩:=hE;obtain ⟨b1,c1,e1,b4,_,a6,l⟩:=v;cases e1;obtain ⟨ao,c,rfl,b5,_,hl,s⟩:=a0;have a4:k+m<=maxLen:=by
  have:(k+m)*1<=(k+m)*by_:=Agv _ b0;unfold maxLen;omega
 have a9:0<news.length:=by
  have:1*1<=m*sz:=Nat.mul_le_mul U U;omega
 obtain ⟨b',p',e2,_⟩:=s 0 news[0] (Aef a9);subst e2;have f:∀(b p j:Nat),(Addr.add ⟨b,p,none⟩ j)=⟨b,p+j,none⟩:=λb p j=>by
  unfold Addr.add;split
  ·rename_i h0;simp[h0]
  rfl
 obtain ⟨v',w',hr,h2,h3⟩:=run_append_arg_grows (P:=P) w t o.type e i zv sz by_ ht hi hz hs hb a5 a7 ⟨b,h,none⟩ k d xs a6 (λj q hj=>by
  obtain ⟨b2,p2,e3,hc⟩:=l j q hj;cases e3;rw[f];exact hc) ⟨b',p',none⟩ m c news hl (λj q hj=>by
  obtain ⟨b2,p2,e3,hc⟩:=s j q hj;cases e3;rw[f];exact hc) hg a4 a1
 have a3:Ext No w w':=(Ext.of_grown h3).mono (λ_ _ q=>by cases q);refine ⟨v',w',?_,H.grow a3 ?_⟩
 ·simp only[execOp,ho,resolve,invoke,builtin,Aex,AeC,Aet,AeZ,AeM,AfB,hF.ev hx,hF.ev hy,hr]
 refine ⟨h2.1,?_⟩;rcases h2.2 with q|⟨g,d,a2,hv,b3,a8,r⟩
 ·exact .inl q
 refine .inr ⟨g,d,a2,hv,?_,r⟩;show (if g<w.heap.size then none else w'.heap[g]?)=_;rw[if_neg U];exact a8
theorem MA(f:o.op=.sliceToArrayPointer T x)(b:(match P.underlying T with|some (.array k _)=>Nat.beq k m|_=>false)=true)(l:ev L x=some (.slice (some ⟨i,j,none⟩) g r))(p:m<=g):Av P C n ds L o (.pointer (some ⟨i,j,none⟩)):=λa d w _=>by
 split at b
 ·rename_i k e h
  have c:k=m:=by simpa using b
  subst c;simp only[execOp,f,d.ev l];simp[Instr.arrayAt,run_underlying h,go_sem,p]
 cases b
theorem PX{g f k b l c1 c2 c:UInt8}(ho:o.op=.binOp .neq xt x y yt)(t:(match P.underlying xt with|some (.array 4 e)=>(match P.underlying e,P.info? e with|some (.int .u8),some i=>Nat.beq i.size 1|_,_=>false)|_=>false)=true)(hg:P.eqGuardType P.depth xt=false)(hx:ev L x=some (.agg #[u8 g,u8 f,u8 k,u8 b]))(hy:ev L y=some (.agg #[u8 l,u8 c1,u8 c2,u8 c])):Av P C n ds L o (.bool (decide ([g,f,k,b]≠[l,c1,c2,c]))):=λa hF w _=>by
 split at t
 ·rename_i e h
  split at t
  ·rename_i i h1 h2
   have hz:i.size=1:=by simpa using t
   have z:∀w,(sizeOf e).run P w=.ok 1 w:=λw=>by simp[sizeOf,typeInfo,h2,hz,go_sem]
   have a0:∀w,(isAgg e).run P w=.ok false w:=FN (by simp[Gi,h1]);have hp:∀(cs:Array Value) (j:Nat) (u:Value) w,cs[j]?=some u->(part e cs j).run P w=.ok u w:=λcs j u w hc=>by
    simp only[part,Aex,a0,Aet,if_false,Afu,hc,AeC]
   have r:∀(d:Nat) (p q:UInt8) w,(Op.equalIn (d+1) e (u8 p) (u8 q)).run P w=.ok (decide (p=q)) w:=λd p q w=>by
    simp only[Op.equalIn,Aex,run_underlying h1,Aet,u8];simp[go_sem];rw[Aez];simp;exact ⟨λh=>Ag8.1 U,λh=>by rw[h]⟩
   have s:∀d,(Op.equalIn (d+1+1) xt (.agg #[u8 g,u8 f,u8 k,u8 b]) (.agg #[u8 l,u8 c1,u8 c2,u8 c])).run P w=.ok (decide ([g,f,k,b]=[l,c1,c2,c])) w:=λd=>by
    have q0:=hp #[u8 g,u8 f,u8 k,u8 b] 0 (u8 g) w Z;have q1:=hp #[u8 g,u8 f,u8 k,u8 b] 1 (u8 f) w Z;have q2:=hp #[u8 g,u8 f,u8 k,u8 b] 2 (u8 k) w Z;have q3:=hp #[u8 g,u8 f,u8 k,u8 b] 3 (u8 b) w Z;have r0:=hp #[u8 l,u8 c1,u8 c2,u8 c] 0 (u8 l) w Z;have r1:=hp #[u8 l,u8 c1,u8 c2,u8 c] 1 (u8 c1) w Z;have r2:=hp #[u8 l,u8 c1,u8 c2,u8 c] 2 (u8 c2) w Z;have r3:=hp #[u8 l,u8 c1,u8 c2,u8 c] 3 (u8 c) w Z;rw[Op.equalIn];simp only[Aex,run_underlying h,Aet,z,Std.Legacy.Range.forIn_eq_forIn_range',Std.Legacy.Range.size];simp[List.range',Aex,q0,q1,q2,q3,r0,r1,r2,r3,r];by_cases g0:g=l<;>by_cases g1:f=c1<;>by_cases g2:k=c2<;>by_cases g3:b=c<;>simp[g0,g1,g2,g3,q0,q1,q2,q3,r0,r1,r2,r3,r,Aex]
   have v:(Op.equal xt (.agg #[u8 g,u8 f,u8 k,u8 b]) (.agg #[u8 l,u8 c1,u8 c2,u8 c])).run P w=.ok (decide ([g,f,k,b]=[l,c1,c2,c])) w:=s 9998;have m:(eqGuard .neq xt x y (.agg #[u8 g,u8 f,u8 k,u8 b]) (.agg #[u8 l,u8 c1,u8 c2,u8 c])).run P w=.ok () w:=by
    simp[eqGuard,Aex,program,Sem.run,hg]
   simp only[execOp,ho,hF.ev hx,hF.ev hy];simp only[binOp,Aex,m,v,Aet,AeC];simp
  cases t
 cases t
end
theorem Slc.cells{v:Value}{n:Nat}(h:Slc v n):v.cells= #[v]:=by obtain ⟨_,_,rfl⟩:=h;rfl
theorem Slc.one{v:Value}{n:Nat}(h:Slc v n):v.oneCell'=true:=by obtain ⟨_,_,rfl⟩:=h;rfl
theorem Aw:∀u∈([]:List Value),u.oneCell'=true:=λ_ h=>by cases h
theorem Ab(h:u.oneCell'=true)(hs:∀u∈V,u.oneCell'=true):∀x∈u::V,x.oneCell'=true:=λx a=>by
 rcases Aeq.1 a with rfl|q
 ·exact h
 exact hs x q
theorem rdH.cut{b n c lo c':Nat}{xs:List UInt8}(r:rdH 1 (.slice (some ⟨b,i,none⟩) n c) n (xs.map u8) h)(o:lo+m<=n)(f:m<=c')(t:c'<=c):rdH 1 (.slice (some ⟨b,i+lo,none⟩) m c') m (((xs.drop lo).take m).map u8) h:=by
 obtain ⟨v,p,e,q,s,g,l⟩:=r;cases e;refine ⟨_,_,Z,f,by omega,by simp at g ⊢;omega,λj u a=>?_⟩;have d:(xs.map u8)[lo+j]?=some u:=by
  rw[Aer,Ae0] at a;split at a
  ·rw[Afn] at a;rw[Aer];exact a
  cases a
 obtain ⟨b',p',e,k⟩:=l _ _ d;cases e;exact ⟨_,_,Z,by rw[Agf];exact k⟩
theorem rdH.pre{b n c c':Nat}{xs:List UInt8}(r:rdH 1 (.slice (some ⟨b,i,none⟩) n c) n (xs.map u8) h)(d:m<=n)(a:m<=c'/\c'<=c):rdH 1 (.slice (some ⟨b,i,none⟩) m c') m ((xs.take m).map u8) h:=by
 have:=r.cut (lo:=0) (m:=m) (c':=c') U a.1 a.2;simpa using this
theorem rdH.at{b n c:Nat}{xs:List UInt8}{x:UInt8}(r:rdH 1 (.slice (some ⟨b,m,none⟩) n c) n (xs.map u8) h)(g:xs[j]?=some x):celH h b (m+j) (u8 x):=by
 obtain ⟨k,o,e,p,i,l,f⟩:=r;obtain ⟨b',p',a,d⟩:=f j (u8 x) (by rw[Aer,g];rfl);cases e;cases a;exact d
theorem Sep.cell4{z w:World}{Γ:List Ai}(i:Nat)(H:Sep z Γ w)(hi:Γ[i]?=some A){b c:Nat}{xs:List UInt8}(f:∀h,A h->rdH 1 (.slice (some ⟨b,m,none⟩) 256 c) 256 (xs.map u8) h){ys:List UInt8}(e:xs.drop 252=ys):∀j u,(ys.map u8)[j]?=some u->FG b (m+252+j) u w:=λj u a=>by
 rw[Aer,AgA] at a;obtain ⟨y,g,rfl⟩:=a;have d:xs[252+j]?=some y:=by rw[<-Afn,e];exact g
 have:=H.cell i hi (λh q=>(f h q).at d);rwa[<-Agf] at this
theorem rdH.cap{b n c:Nat}{xs:List UInt8}(r:rdH 1 (.slice (some ⟨b,m,none⟩) n c) n (xs.map u8) h):n<=c/\c<=9223372036854775807:=by
 obtain ⟨_,_,e,d,a,_⟩:=r;cases e;exact ⟨d,a⟩
theorem rdH.len{v:Value}{n:Nat}{xs:List UInt8}(r:rdH 1 v n (xs.map u8) h):xs.length=n:=by
 obtain ⟨_,_,_,_,_,q,_⟩:=r;simpa using q
end
set_option linter.unusedSimpArgs false
def bw(F:Nat->Bool)(k:Nat):BitVec 64:=(BitVec.ofBoolListLE ((List.range 64).map λj=>F (64*k+j))).cast O
theorem DV(F:Nat->Bool)(k j:Nat)(h:j<64):(bw F k).getLsbD j=F (64*k+j):=by
 unfold bw;rw[BitVec.getLsbD_cast,BitVec.getLsbD_ofBoolListLE];simp[List.getD,h]
theorem KE{x:BitVec 64}(h:∀j,j<64->x.getLsbD j=F (64*n+j)):x=bw F n:=
 BitVec.eq_of_getLsbD_eq λj a=>by rw[h j a,DV _ _ _ a]
theorem Ac2(F G:Nat->Bool)(k:Nat):bw F k|||bw G k=bw (λp=>F p||G p) k:=KE λj a=>by
 rw[BitVec.getLsbD_or,DV _ _ _ a,DV _ _ _ a]
def Ei(m:Nat):BitVec 64:=BitVec.twoPow 64 m
theorem AaS(F:Nat->Bool)(p k:Nat):(if p/64=k then bw F k|||Ei (p%64) else bw F k)=bw (λq=>F q||decide (q=p)) k:=by
 refine KE λj a=>?_;split
 ·rename_i e
  rw[BitVec.getLsbD_or,DV _ _ _ a,Ei,Ag3];congr 1;rw[Aez];simp;omega
 rename_i e;rw[DV _ _ _ a];have:¬(64*k+j=p):=by omega
 simp[this]
theorem AaT(F:Nat->Bool)(p k:Nat):(if p/64=k then bw F k&&& ~~~(Ei (p%64)) else bw F k)=bw (λq=>F q && !decide (q=p)) k:=by
 refine KE λj a=>?_;split
 ·rename_i e
  rw[BitVec.getLsbD_and,DV _ _ _ a,BitVec.getLsbD_not,Ei,Ag3];congr 1;rw[Aez];simp;omega
 rename_i e;rw[DV _ _ _ a];have:¬(64*k+j=p):=by omega
 simp[this]
theorem AaU(F:Nat->Bool)(p:Nat):(bw F (p/64))>>>(p%64)&&&1#64=if F p then 1#64 else 0#64:=by
 refine BitVec.eq_of_getLsbD_eq λj a=>?_;rw[BitVec.getLsbD_and,BitVec.getLsbD_ushiftRight];have e1:∀j,(1#64).getLsbD j=decide (j=0):=λj=>by
  rw[show (1#64)=BitVec.twoPow 64 0 from Z,Ag3,Aez];simp;omega
 by_cases h:j=0
 ·subst h
  rw[DV _ _ _ U,e1,show 64*(p/64)+(p%64+0)=p by omega];cases F p<;>simp
 rw[e1];have:(if F p then 1#64 else 0#64).getLsbD j=false:=by
  split
  ·rw[e1];simp[h]
  simp
 rw[this];simp[h]
theorem bw_zero :bw F n=0#64↔∀j,j<64->F (64*n+j)=false:=by
 constructor
 ·intro h j a;rw[<-DV F n j a,h];simp
 intro h;exact (KE λj a=>by rw[h j a];simp).symm

def cnt(F:Nat->Bool)(a:Nat):Nat->Nat
 | 0=>0
 | n+1=>cnt F a n+(F (a+n)).toNat
theorem HG(F:Nat->Bool)(a m n:Nat):cnt F a (m+n)=cnt F a m+cnt F (a+m) n:=by
 induction n with
 | zero=>rfl
 | succ n ih=>rw[<-Agf];simp only[cnt];rw[ih,show a+(m+n)=a+m+n by omega];omega
def Cy(w:Nat):List Nat->Nat
 | []=>0
 | d::l=>d+2^w*Cy w l
def evN:List Nat->List Nat
 | a::_::l=>a::evN l
 | _=>[]
def GK:List Nat->List Nat
 | _::b::l=>b::GK l
 | _=>[]
theorem SD(b:j<2^n)(a:e<2^n):(j+2^n*m)&&&(e+2^n*i)=(j&&&e)+2^n*(m&&&i):=by
 have e1:((j+2^n*m)&&&(e+2^n*i))%2^n=j&&&e:=by
  rw[Nat.and_mod_two_pow,AgR,AgR,AfC b,AfC a]
 have hp:0<2^n:=AgS n;have e2:((j+2^n*m)&&&(e+2^n*i))/2^n=m&&&i:=by
  rw[Nat.and_div_two_pow,AgI _ _ hp,AgI _ _ hp,AgJ b,AgJ a,AfP,AfP]
 have:=Nat.mod_add_div ((j+2^n*m)&&&(e+2^n*i)) (2^n);rw[e1,e2] at this;exact this.symm
theorem KF(w:Nat):∀l:List Nat,l.length%2=0->(∀d∈l,d<2^w)->Cy w l&&&Cy (2*w) (List.replicate (l.length/2) (2^w-1))=Cy (2*w) (evN l)
 | [],_,_=>by simp[Cy,evN]
 | [_],h,_=>by simp at h
 | a::b::l,h,hd=>by
  have ih:=KF w l (by simp at h;omega) (λd j=>hd d (by simp[j]));have i:=hd a O;have g:=hd b O;have e2:(2:Nat)^(2*w)=2^w*2^w:=by rw[<-Nat.pow_add];congr 1;omega
  have hp:0<2^w:=AgS w;simp only[Cy,evN];rw[show (a::b::l).length/2=l.length/2+1 by simp;omega,List.replicate_succ];simp only[Cy];have c:a+2^w*b<2^(2*w):=by
   rw[e2];have:2^w*(b+1)<=2^w*2^w:=Agv _ g;rw[Agr] at this;omega
  have e:(2^w-1)<2^(2*w):=by
   rw[e2];have:2^w*1<=2^w*2^w:=Agv _ hp;omega
  have f:a+2^w*(b+2^w*Cy w l)=(a+2^w*b)+2^(2*w)*Cy w l:=by
   rw[e2,Agr,Nat.mul_assoc];omega
  rw[f,SD c e,ih,Aha,AgR,AfC i]
theorem NF(w:Nat):∀(l:List Nat) (d:Nat),Cy w (l++[d])=Cy w l+2^(w*l.length)*d
 | [],d=>by simp[Cy]
 | a::l,d=>by
  simp only[AfD,Cy,NF w l d,Aej];rw[Agr,<-Nat.mul_assoc,<-Nat.pow_add,show w+w*l.length=w*(l.length+1) by rw[Agr];omega];omega
theorem PY(h:m<2^n):Cy n (m::R)/2^n=Cy n R:=by
 simp only[Cy];rw[AgI _ _ (AgS n),AgJ h,AfP]
theorem NG(w:Nat)(l:List Nat):Cy w (l++[0])=Cy w l:=by rw[NF];simp
theorem LA(w:Nat):∀(l m:List Nat),l.length=m.length->Cy w l+Cy w m=Cy w (List.zipWith (·+·) l m)
 | [],[],_=>rfl
 | a::l,b::m,h=>by
  simp only[List.zipWith,Cy];rw[<-LA w l m (by simpa using h),Agr];omega
 | [],_::_,h=>by simp at h
 | _::_,[],h=>by simp at h
theorem LB:∀l:List Nat,(evN l).length=l.length/2
 | []=>rfl
 | [_]=>by simp[evN]
 | a::b::l=>by simp only[evN,Aej,LB l];omega
theorem LD:∀l:List Nat,(GK l).length=l.length/2
 | []=>rfl
 | [_]=>by simp[GK]
 | a::b::l=>by simp only[GK,Aej,LD l];omega
theorem J1:∀(a:Nat) (l:List Nat),(a::l).length%2=0->evN (l++[0])=GK (a::l)
 | a,[],h=>by simp at h
 | a,[b],_=>by simp[evN,GK]
 | a,b::c::l,h=>by
  simp only[AfD,evN,GK];rw[J1 c l (by simp at h ⊢;omega)]
theorem evN_mem:∀(l:List Nat),∀d∈evN l,d∈l
 | [],d,h=>by simp[evN] at h
 | [_],d,h=>by simp[evN] at h
 | a::b::l,d,h=>by
  simp only[evN,Aeq] at h;rcases h with rfl|h
  ·simp
  simp[evN_mem l d h]
theorem odN_mem:∀(l:List Nat),∀d∈GK l,d∈l
 | [],d,h=>by simp[GK] at h
 | [_],d,h=>by simp[GK] at h
 | a::b::l,d,h=>by
  simp only[GK,Aeq] at h;rcases h with rfl|h
  ·simp
  simp[odN_mem l d h]
def psm(l:List Nat):List Nat:=List.zipWith (·+·) (evN l) (GK l)
theorem LE(l:List Nat):(psm l).length=l.length/2:=by simp[psm,LB,LD]
theorem Jl:∀l:List Nat,l.length%2=0->(psm l).sum=l.sum
 | [],_=>rfl
 | [_],h=>by simp at h
 | a::b::l,h=>by
  have:=Jl l (by simp at h;omega);simp only[psm,evN,GK,List.zipWith,List.sum_cons] at this ⊢;omega
theorem NH{c d:Nat}:∀(l m:List Nat),(∀x∈l,x<=c)->(∀x∈m,x<=d)->∀x∈List.zipWith (·+·) l m,x<=c+d
 | [],_,_,_,x,h=>by simp at h
 | _::_,[],_,_,x,h=>by simp at h
 | a::l,b::m,h1,h2,x,h=>by
  simp only[List.zipWith,Aeq] at h;rcases h with rfl|h
  ·have:=h1 a O;have:=h2 b O;omega
  exact NH l m (λx e=>h1 x (by simp[e])) (λx e=>h2 x (by simp[e])) x h
theorem NI(l:List Nat)(c:Nat)(h:∀d∈l,d<=c):∀d∈psm l,d<=c+c:=
 NH _ _ (λx a=>h x (evN_mem l x a)) (λx a=>h x (odN_mem l x a))
def PZ(w n:Nat):Nat:=Cy (2*w) (List.replicate n (2^w-1))
theorem AaV(w:Nat)(l:List Nat)(h:l.length%2=0)(c:∀d∈l,d<2^w):Cy w l/2^w&&&PZ w (l.length/2)=Cy (2*w) (GK l):=by
 cases l with
 | nil=>simp[Cy,GK]
 | cons a l=>
  rw[PY (c a O),<-NG,<-J1 a l h];have:=KF w (l++[0]) (by simp at h ⊢;omega) (λd b=>by
   simp only[Aes,Afv] at b;rcases b with b|rfl
   ·exact c d (by simp[b])
   exact AgS w)
  have e:(l++[0]).length=(a::l).length:=by simp
  rw[e] at this;exact this
theorem NJ(w:Nat)(l:List Nat)(h:l.length%2=0)(a:∀d∈l,d<2^w):(Cy w l/2^w&&&PZ w (l.length/2))+(Cy w l&&&PZ w (l.length/2))=Cy (2*w) (psm l):=by
 rw[AaV w l h a,show Cy w l&&&PZ w (l.length/2)=Cy (2*w) (evN l) from KF w l h a,AgU,LA _ _ _ (by rw[LB,LD])];rfl
theorem KG(w:Nat):∀(l:List Nat),(∀d∈l,d<2^w)->Cy w l<2^(w*l.length)
 | [],_=>by simp[Cy]
 | a::l,h=>by
  have:=KG w l (λd b=>h d (by simp[b]));have c:=h a O;simp only[Cy,Aej];rw[show w*(l.length+1)=w+w*l.length by rw[Agr];omega,Nat.pow_add];have:2^w*(Cy w l+1)<=2^w*2^(w*l.length):=Agv _ this;rw[Agr] at this;omega
def LF(x:BitVec 64):BitVec 64:=
 let a:=(x>>>1&&&6148914691236517205#64)+(x&&&6148914691236517205#64);let b:=(a>>>2&&&3689348814741910323#64)+(a&&&3689348814741910323#64);let c:=(b>>>4+b)&&&1085102592571150095#64;let d:=c+c>>>8;let e:=d+d>>>16
 e+e>>>32
theorem AaW{b:BitVec 64}(j:R.length=16)(k:∀d∈R,d<=4)(o:b.toNat=Cy 4 R):((b>>>4+b)&&&1085102592571150095#64).toNat=Cy 8 (psm R):=by
 rw[Agi,AgK,Agb,o,Af9]
 cases R with
 | nil=>simp at j
 | cons a R=>
  have p:=k a O;rw[PY U,<-NG,LA _ _ _ O];have e:∀d∈List.zipWith (·+·) (R++[0]) (a::R),d<2^4:=λd h=>by
   have:=NH (c:=4) (d:=4) _ _ (λx i=>by
    simp only[Aes,Afv] at i;rcases i with i|rfl
    ·exact k x (by simp[i])
    omega) k d h
   omega
  have f:(List.zipWith (·+·) (R++[0]) (a::R)).length=16:=by simp at j ⊢;omega
  have g:=KG 4 _ e;rw[f] at g;rw[AfC g];have m:=KF 4 _ (by rw[f]) e;rw[f,show Cy (2*4) (List.replicate (16/2) (2^4-1))=1085102592571150095 by decide+kernel] at m;rw[show (1085102592571150095#64).toNat=1085102592571150095 from Z,m];have n:∀(l l':List Nat),evN (List.zipWith (·+·) l l')=List.zipWith (·+·) (evN l) (evN l'):=λl=>by
   induction l using evN.induct with
   | case1 a b l ih=>
    intro l'
    match l' with
    | []=>simp[evN]
    | [_]=>simp[evN]
    | x::y::l'=>simp only[List.zipWith,evN,ih l']
   | case2 l h=>
    intro l'
    match l,l' with
    | [],_=>simp[evN]
    | [_],[]=>simp[evN]
    | [_],_::_=>simp[evN]
    | a::b::l,_=>exact absurd Z (h a b l)
  rw[n,J1 a R (by rw[j]),psm];congr 1;exact List.zipWith_comm_of_comm (λx y=>AgU x y)
theorem LG(c:BitVec 64)(k p lo hi b:Nat)(hp:2^k=p)(e:c.toNat=n)(f:n=lo+p*hi)(a:lo<p)(i:n<=b)(d:hi<=b)(g:b<9223372036854775808):(c+c>>>k).toNat=n+hi:=by
 subst hp;have h:n/2^k=hi:=by rw[f,AgI _ _ (AgS k),AgJ a,AfP]
 rw[AgK,Agb,Af9,e,h];exact AfC U
theorem AaX(t K:Nat)(e:n=m)(h:m=t+256*K)(b:t<=64)(a:K<=20000000000000000):n<9223372036854775808/\n%128=t:=by omega
theorem AaY(j h g f e d b a:Nat)(l:j<=8)(o:h<=8)(p:g<=8)(n:f<=8)(r:e<=8)(m:d<=8)(q:b<=8)(s:a<=8)(c:BitVec 64)(i:c.toNat=j+256*h+65536*g+16777216*f+4294967296*e+1099511627776*d+281474976710656*b+72057594037927936*a):
  ((c+c>>>8)+(c+c>>>8)>>>16+((c+c>>>8)+(c+c>>>8)>>>16)>>>32).toNat<9223372036854775808/\((c+c>>>8)+(c+c>>>8)>>>16+((c+c>>>8)+(c+c>>>8)>>>16)>>>32).toNat%128=j+h+g+f+e+d+b+a:=by
 have e1:=LG c 8 256 j (h+256*g+65536*f+16777216*e+4294967296*d+1099511627776*b+281474976710656*a) 1000000000000000000 Z i U U U U (by decide);have e2:=LG (c+c>>>8) 16 65536 (j+h+256*(h+g)) (g+f+256*(f+e)+65536*(e+d)+16777216*(d+b)+4294967296*(b+a)+1099511627776*a) 2000000000000000000 (by decide) e1 U U U U (by decide);have k:=LG (c+c>>>8+(c+c>>>8)>>>16) 32 4294967296 (j+h+g+f+256*(h+g+f+e)+65536*(g+f+e+d)+16777216*(f+e+d+b)) (e+d+b+a+256*(d+b+a)+65536*(b+a)+16777216*a) 4000000000000000000 O e2 (by clear e1 e2 i;omega) (by clear e1 e2 i;omega) (by clear e1 e2 i;omega) (by clear e1 e2 i;omega) (by decide);refine AaX (j+h+g+f+e+d+b+a) ((h+g+f+e+d+b+a)+256*((g+f+e+d+b+a)+256*((f+e+d+b+a)+256*((e+d+b+a)+256*((d+b+a)+256*((b+a)+256*a)))))) k ?_ ?_ ?_
 ·clear e1 e2 k i;omega
 ·clear e1 e2 k i;omega
 clear e1 e2 k i;omega
theorem AaZ{c:BitVec 64}(e:R.length=8)(a:∀d∈R,d<=8)(b:c.toNat=Cy 8 R):((c+c>>>8)+(c+c>>>8)>>>16+((c+c>>>8)+(c+c>>>8)>>>16)>>>32).toNat<9223372036854775808/\((c+c>>>8)+(c+c>>>8)>>>16+((c+c>>>8)+(c+c>>>8)>>>16)>>>32).toNat%128=R.sum:=by
 match R,e with
 | [m0,m1,m2,m3,m4,m5,m6,m7],_=>
  have:=AaY m0 m1 m2 m3 m4 m5 m6 m7 (a m0 O) (a m1 O) (a m2 O) (a m3 O) (a m4 O) (a m5 O) (a m6 O) (a m7 O) c (by rw[b];simp only[Cy];omega);refine ⟨this.1,this.2.trans ?_⟩;simp only[List.sum_cons,List.sum_nil];omega
theorem XU(l:List Nat)(g:l.length=64)(i:∀d∈l,d<=1)(x:BitVec 64)(m:x.toNat=Cy 1 l):(LF x).toNat<9223372036854775808/\(LF x).toNat%128=l.sum:=by
 have d1:∀d∈l,d<2^1:=λd h=>by have:=i d h;omega
 have f:(psm l).length=32:=by rw[LE,g]
 have c:(psm (psm l)).length=16:=by rw[LE,f]
 have t:(psm (psm (psm l))).length=8:=by rw[LE,c]
 have e:=NI l 1 i;have b:=NI _ _ e;have o:=NI _ _ b;have j:=Jl l U;have k:=Jl (psm l) U;have n:=Jl (psm (psm l)) U;have e1:=NJ 1 l U d1;have e2:=NJ 2 (psm l) U (λd h=>by have:=e d h;omega);rw[g,show PZ 1 (64/2)=6148914691236517205 by decide+kernel] at e1;rw[f,show PZ 2 (32/2)=3689348814741910323 by decide+kernel] at e2;have t1:=KG 2 (psm l) (λd h=>by have:=e d h;omega);have t2:=KG 4 (psm (psm l)) (λd h=>by have:=b d h;omega);rw[f] at t1;rw[c] at t2;have p:((x>>>1&&&6148914691236517205#64)+(x&&&6148914691236517205#64)).toNat=Cy 2 (psm l):=by
  rw[AgK,Agi,Agi,Agb,m,Af9];rw[show (6148914691236517205#64).toNat=6148914691236517205 from Z,e1];exact AfC t1
 have s:∀a:BitVec 64,a.toNat=Cy 2 (psm l)->((a>>>2&&&3689348814741910323#64)+(a&&&3689348814741910323#64)).toNat=Cy 4 (psm (psm l)):=λa r=>by
  rw[AgK,Agi,Agi,Agb,r,Af9];rw[show (3689348814741910323#64).toNat=3689348814741910323 from Z,e2];exact AfC t2
 have q:=AaW c b (s _ p);have:=AaZ t o q;rw[<-j,<-k,<-n];exact this
theorem JQ:∀l:List Bool,(BitVec.ofBoolListLE l).toNat=Cy 1 (l.map Bool.toNat)
 | []=>rfl
 | b::l=>by
  have ih:=JQ l;simp only[BitVec.ofBoolListLE,AeM,Cy];rw[BitVec.toNat_concat,ih];omega
theorem P0(F:Nat->Bool)(a:Nat):∀n,((List.range n).map λj=>(F (a+j)).toNat).sum=cnt F a n
 | 0=>rfl
 | n+1=>by rw[Ahb,AeK,List.sum_append,P0 F a n];simp[cnt]
theorem LH(F:Nat->Bool)(k:Nat):(LF (bw F k)).toNat<9223372036854775808/\(LF (bw F k)).toNat%128=cnt F (64*k) 64:=by
 have:=XU ((List.range 64).map λj=>(F (64*k+j)).toNat) O (λd h=>by
  simp only[Aen] at h;obtain ⟨j,_,rfl⟩:=h;cases F (64*k+j)<;>simp) (bw F k) (by
   unfold bw;rw[BitVec.toNat_cast,JQ,Afp];rfl)
 rw[P0] at this;exact this
section
def u64(b:BitVec 64):Value:=.int .u64 b.toNat
theorem SE(n:Nat)(h:n<18446744073709551616):IntKind.u64.wrap (n:Int)=n:=by
 simp[IntKind.wrap,IntKind.bits,IntKind.signed];omega
theorem Rm(b:BitVec 64):IntKind.u64.wrap (b.toNat:Int)=b.toNat:=SE _ b.isLt
theorem Gv(p:BitVec 64):BitVec.ofInt 64 (p.toNat:Int)=p:=by rw[Ag9];simp
section
variable{P:Program}{C:World->Prop}{o:Oper}{a:Act}{w z:World}{Γ:List Ai}{n:Nat}{ds:List Deferred}{L:List (Nat×Value)}{v:Value}{x y:Operand}{xt yt:TypeId}
theorem AdK(p q:BitVec 64):Op.intBits .or .u64 (p.toNat:Int) (q.toNat:Int)=pure (u64 (p|||q)):=by
 have e:Op.intBits .or .u64 (p.toNat:Int) (q.toNat:Int)=pure (.int .u64 (IntKind.u64.wrap ((BitVec.ofInt 64 (p.toNat:Int)|||BitVec.ofInt 64 (q.toNat:Int)).toNat:Int))):=rfl;rw[Gv,Gv,Rm] at e;exact e
theorem Ac3(p q:BitVec 64):Op.intBits .and .u64 (p.toNat:Int) (q.toNat:Int)=pure (u64 (p&&&q)):=by
 have e:Op.intBits .and .u64 (p.toNat:Int) (q.toNat:Int)=pure (.int .u64 (IntKind.u64.wrap ((BitVec.ofInt 64 (p.toNat:Int)&&&BitVec.ofInt 64 (q.toNat:Int)).toNat:Int))):=rfl;rw[Gv,Gv,Rm] at e;exact e
theorem Aa0(p q:BitVec 64):Op.intBits .andNot .u64 (p.toNat:Int) (q.toNat:Int)=pure (u64 (p&&& ~~~q)):=by
 have e:Op.intBits .andNot .u64 (p.toNat:Int) (q.toNat:Int)=pure (.int .u64 (IntKind.u64.wrap ((BitVec.ofInt 64 (p.toNat:Int)&&& ~~~(BitVec.ofInt 64 (q.toNat:Int))).toNat:Int))):=rfl;rw[Gv,Gv,Rm] at e;exact e
theorem NK{p q:BitVec 64}(c:o.op=.binOp .or xt x y yt)(d:ev L x=some (u64 p))(f:ev L y=some (u64 q)):Av P C n ds L o (u64 (p|||q)):=λa b w _=>by
 have e:=AdK p q;simp only[execOp,c,b.ev d,b.ev f,u64];simp only[binOp,go_sem,e];rfl
theorem Fg{p q:BitVec 64}(c:o.op=.binOp .and xt x y yt)(d:ev L x=some (u64 p))(f:ev L y=some (u64 q)):Av P C n ds L o (u64 (p&&&q)):=λa b w _=>by
 have e:=Ac3 p q;simp only[execOp,c,b.ev d,b.ev f,u64];simp only[binOp,go_sem,e];rfl
theorem UC{p q:BitVec 64}(c:o.op=.binOp .andNot xt x y yt)(d:ev L x=some (u64 p))(f:ev L y=some (u64 q)):Av P C n ds L o (u64 (p&&& ~~~q)):=λa b w _=>by
 have e:=Aa0 p q;simp only[execOp,c,b.ev d,b.ev f,u64];simp only[binOp,go_sem,e];rfl
theorem HH{p q:BitVec 64}(c:o.op=.binOp .add xt x y yt)(d:ev L x=some (u64 p))(f:ev L y=some (u64 q)):Av P C n ds L o (u64 (p+q)):=λa b w _=>by
 simp only[execOp,c,b.ev d,b.ev f,u64];have e:IntKind.u64.wrap ((p.toNat:Int)+(q.toNat:Int))=((p+q).toNat:Int):=by
  rw[AgK];simp[IntKind.wrap,IntKind.bits,IntKind.signed]
 simp[go_sem,e]
theorem Aa1{p q:BitVec 64}(c:o.op=.binOp .mul xt x y yt)(d:ev L x=some (u64 p))(f:ev L y=some (u64 q)):Av P C n ds L o (u64 (p*q)):=λa b w _=>by
 simp only[execOp,c,b.ev d,b.ev f,u64];have e:IntKind.u64.wrap ((p.toNat:Int)*(q.toNat:Int))=((p*q).toNat:Int):=by
  rw[BitVec.toNat_mul];simp[IntKind.wrap,IntKind.bits,IntKind.signed]
 simp[go_sem,e]
theorem Aa2{p:BitVec 64}(b:o.op=.unOp .neg xt x)(a:ev L x=some (u64 p)):Av P C n ds L o (u64 (-p)):=by
 have:=Xe (P:=P) (C:=C) (n:=n) (ds:=ds) (L:=L) b a;have e:IntKind.u64.wrap (0-(p.toNat:Int))=((-p).toNat:Int):=by
  have:=p.isLt;rw[BitVec.toNat_neg];simp[IntKind.wrap,IntKind.bits,IntKind.signed];omega
 rw[e] at this;exact this
theorem Fw{p:BitVec 64}{k:IntKind}(d:o.op=.binOp .shr xt x y yt)(e:ev L x=some (u64 p))(f:ev L y=some (.int k q))(hq:q=m)(h:m<64):Av P C n ds L o (u64 (p>>>m)):=λa c w _=>by
 subst hq;simp only[execOp,d,c.ev e,c.ev f,u64];have g:¬((m:Int)<0):=by omega
 have b:min m 64=m:=by omega
 simp[go_sem,Op.shift,IntKind.bits,g,b,Ahu]
theorem NL{k:IntKind}(g:o.op=.binOp .shl xt x y yt)(i:ev L x=some (.int .u64 1))(h:ev L y=some (.int k q))(hq:q=m)(d:m<64):Av P C n ds L o (u64 (Ei m)):=λa c w _=>by
 subst hq;have j:¬((m:Int)<0):=by omega
 have b:min m 64=m:=by omega
 have e:Op.shift .shl .u64 1 k (m:Int)=pure (u64 (Ei m)):=by
  have f:(Ei m).toNat=2^m:=by unfold Ei;rw[BitVec.toNat_twoPow];exact AfC (Nat.pow_lt_pow_right U d)
  unfold Op.shift u64;rw[if_neg j,f];simp only[IntKind.bits,Ae7,b];rw[Int.one_mul,<-SE (2^m) (Nat.pow_lt_pow_right (m:=m) (n:=64) (a:=2) U d)];simp
 simp only[execOp,g,c.ev i,c.ev h];simp only[binOp,go_sem,e];rfl
theorem NM{p q:BitVec 64}(e:o.op=.binOp .eql xt x y yt){k:IntKind}(i:D9 P xt xt=some k)(f:ev L x=some (u64 p))(g:ev L y=some (u64 q)):Av P C n ds L o (.bool (decide (p=q))):=λa b w _=>by
 obtain ⟨d,j,c⟩:=FM i;simp only[execOp,e,b.ev f,b.ev g,u64];simp[c,go_sem];rw[Aez];simp;exact ⟨λh=>Ag4 U,λh=>by rw[h]⟩
theorem SF{p q:BitVec 64}(f:o.op=.binOp .neq xt x y yt){k:IntKind}(j:D9 P xt xt=some k)(g:ev L x=some (u64 p))(i:ev L y=some (u64 q)):Av P C n ds L o (.bool (decide (p≠q))):=λa b w _=>by
 obtain ⟨d,l,c⟩:=FM j;simp only[execOp,f,b.ev g,b.ev i,u64];simp[c,go_sem];rw[Aez];simp;exact ⟨λh e=>h (by rw[e]),λh e=>h (Ag4 U)⟩
theorem Ac4{p:BitVec 64}(c:o.op=.convert xt T x)(a:D9 P xt T=some .i64)(b:ev L x=some (u64 p))(hp:p.toNat<9223372036854775808):Av P C n ds L o (I p.toNat):=by
 have:=HA (P:=P) (C:=C) (n:=n) (ds:=ds) (L:=L) c a b;rwa[AfO _ U] at this
theorem SG{hi l:Operand}{n' q z:Nat}{t r:IntKind}(ho:o.op=.slice T x none (some hi) (some l))(u:Ih P T=some (n',z))
  (v:ev L x=some (.pointer (some ⟨m,i,none⟩)))(d:ev L hi=some (.int t s))(j:ev L l=some (.int r p))(e2:s=(q:Int))(e3:p=(q:Int))(hq:0<q)(k:q<=n'):Av P C n ds L o (.slice (some ⟨m,i,none⟩) q q):=λa h w _=>by
 obtain ⟨e,i0,f,b,hz⟩:=Ii u;subst e2;subst e3;have g2:(0:Int)<=(q:Int)/\(q:Int)<=(n':Int):=by omega
 have y:(0:Int)<=(q:Int)/\(q:Int)<=(q:Int):=by omega
 have g:¬q=0:=by omega
 have c:0<=q:=by omega
 simp only[execOp,ho,AeV,AfA,h.ev v,h.ev d,h.ev j];simp[Instr.sliceAt,Instr.slice,run_underlying f,Instr.sureAddr,Instr.sliceBounds,Instr.sliceBound,asIntOf,g2,y,sizeOf,typeInfo,b,hz,c,k,g,go_sem]<;>(try simp_all)
theorem UD{lo:Operand}{p z o' l' c':Nat}{k:IntKind}(i:o.op=.slice T x (some lo) none none)(u:Do P T=some z)
  (h:ev L x=some (.slice (some ⟨m,j,none⟩) g r))(l:ev L lo=some (.int k s))(hi:s=(p:Int))(a:p<=g)(b:g<=r)
  (c:(if r=p then j else j+p*z)=o')(d:g-p=l')(t:r-p=c'):Av P C n ds L o (.slice (some ⟨m,o',none⟩) l' c'):=by
 have:=Ji (P:=P) (C:=C) (n:=n) (ds:=ds) (L:=L) (p:=p) (q:=g) i u h (.inr ⟨lo,k,s,Z,l,hi⟩) (.inl ⟨Z,Z⟩) a b;rw[d,t] at this;have e:(if r=p then (some ⟨m,j,none⟩:Option Addr) else (some ⟨m,j,none⟩:Option Addr).map (·.add (p*z)))=some ⟨m,o',none⟩:=by
  subst c;split
  ·rfl
  simp only[AeV,Aeo];unfold Addr.add;split
  ·rename_i f;simp[f]
  rfl
 rwa[e] at this
theorem XV(d:o.op=.binOp .and xt x y yt)(g:ev L x=some (I p))(f:ev L y=some (I 127))(hp:0<=p/\p<9223372036854775808):Av P C n ds L o (I (p%128)):=λa c w _=>by
 obtain ⟨q,rfl⟩:=Af0 hp.1;have e:Op.intBits .and .i64 (q:Int) 127=pure (I (IntKind.i64.wrap ((BitVec.ofInt 64 (q:Int)&&&BitVec.ofInt 64 127).toNat:Int))):=rfl;have e1:(BitVec.ofInt 64 (q:Int)&&&BitVec.ofInt 64 127).toNat=q%128:=by
  rw[Agi,show (BitVec.ofInt 64 127).toNat=2^7-1 from Z,Aha,Ag9,BitVec.toNat_ofNat,AfC (a:=q) (b:=2^64) U]
 rw[e1,AfO _ U,show ((q%128:Nat):Int)=(q:Int)%128 from by omega] at e;simp only[execOp,d,c.ev g,c.ev f];simp only[binOp,go_sem,e];rfl
end
end
section
inductive Pt where
 | b (b:Nat) (cs:List Value) (ty:TypeId)
 | a (A:Ai)
def DQ:List Pt->List Ai->List Ai
 | [],R=>R
 | .b b cs ty::G,R=>blk b cs ty::DQ G R
 | .a A::G,R=>A::DQ G R
class Rf(Γ:List Ai)(G:outParam (List Pt))(R:outParam (List Ai)):Prop where
 e:Γ=DQ G R
instance rf0 {R:List Ai}:Rf R [] R:=⟨Z⟩
instance rf1 {A:Ai}{Γ R:List Ai}{G:List Pt}[h:Rf Γ G R]:Rf (A::Γ) (.a A::G) R:=⟨congrArg (A:: ·) h.e⟩
instance rf2 {b:Nat}{cs:List Value}{ty:TypeId}{Γ R:List Ai}{G:List Pt}[h:Rf Γ G R]:Rf (blk b cs ty::Γ) (.b b cs ty::G) R:=⟨congrArg (blk b cs ty:: ·) h.e⟩
instance rf3 {Γ R:List Ai}{G:List Pt}[h:Rf Γ G R]:Rf ([]++Γ) G R:=h
instance rf4 {A:Ai}{Γ Γ' R:List Ai}{G:List Pt}[h:Rf (Γ++Γ') G R]:Rf ((A::Γ)++Γ') (.a A::G) R:=⟨congrArg (A:: ·) h.e⟩
instance rf5 {b:Nat}{cs:List Value}{ty:TypeId}{Γ Γ' R:List Ai}{G:List Pt}[h:Rf (Γ++Γ') G R]:Rf ((blk b cs ty::Γ)++Γ') (.b b cs ty::G) R:=⟨congrArg (blk b cs ty:: ·) h.e⟩
theorem Dl{R:List Ai}:∀{G:List Pt} {j b:Nat} {cs:List Value} {ty:TypeId},G[j]?=some (.b b cs ty)->(DQ G R)[j]?=some (blk b cs ty)
 | [],_,_,_,_,h=>by simp at h
 | .b b' cs' ty'::G,0,b,cs,ty,h=>by simp at h;obtain ⟨rfl,rfl,rfl⟩:=h;rfl
 | .a A::G,0,b,cs,ty,h=>by simp at h
 | .b b' cs' ty'::G,j+1,b,cs,ty,h=>by simpa [DQ] using Dl (j:=j) (by simpa using h)
 | .a A::G,j+1,b,cs,ty,h=>by simpa [DQ] using Dl (j:=j) (by simpa using h)
theorem J2{R:List Ai}:∀{G:List Pt} {j b:Nat} {cs:List Value} {ty:TypeId},j<G.length->(DQ G R).set j (blk b cs ty)=DQ (G.set j (.b b cs ty)) R
 | [],_,_,_,_,h=>by simp at h
 | .b b' cs' ty'::G,0,b,cs,ty,h=>rfl
 | .a A::G,0,b,cs,ty,h=>rfl
 | .b b' cs' ty'::G,j+1,b,cs,ty,h=>by simp[DQ,J2 (j:=j) (by simpa using h)]
 | .a A::G,j+1,b,cs,ty,h=>by simp[DQ,J2 (j:=j) (by simpa using h)]

inductive Kd where
 | fin
 | seq (c:Code) (k:Kd)
 | blk (i:Nat) (k:Kd)
inductive Pos where
 | c (c:Code) (k:Kd)
 | o (ops os:List Oper) (k:Kd)
 | n (k:Kd)
 | x (i:Nat) (k:Kd)
 | r
section
variable(P:Program)(N:Act->World->Prop)(X:Nat->Act->World->Prop)(R:Act->World->Prop)
def kQ:Kd->(Act->World->Prop)×(Nat->Act->World->Prop)
 | .fin=>(N,X)
 | .seq c k=>(λa w=>c.wp P (Qp (kQ k).1 (kQ k).2 R) a w,(kQ k).2)
 | .blk i k=>((kQ k).1,upd (kQ k).2 i (kQ k).1)
def BT:Pos->Act->World->Prop
 | .c c k=>c.wp P (Qp (kQ P N X R k).1 (kQ P N X R k).2 R)
 | .o ops os k=>wpList P ops.toArray (Qp (kQ P N X R k).1 (kQ P N X R k).2 R) os
 | .n k=>(kQ P N X R k).1
 | .x i k=>(kQ P N X R k).2 i
 | .r=>R
end
def Xk(L:List (Nat×Value))(k:Kd):Code->Option Pos
 | .seq x y=>some (.c x (.seq y k))
 | .skip=>some (.n k)
 | .ret=>some .r
 | .exit i=>some (.x i k)
 | .block i c=>some (.c c (.blk i k))
 | .cond o x y=>match ev L o with
  | some (.bool true)=>some (.c x k)
  | some (.bool false)=>some (.c y k)
  | _=>none
 | .region _ ops false=>some (.o ops.toList ops.toList k)
 | _=>none
def Rn(L:List (Nat×Value)):Pos->Option Pos
 | .c c k=>Xk L k c
 | .n (.seq c k)=>some (.c c k)
 | .n (.blk _ k)=>some (.n k)
 | .x i (.seq _ k)=>some (.x i k)
 | .x i (.blk j k)=>bif Nat.beq i j then some (.n k) else some (.x i k)
 | .o _ [] k=>some (.n k)
 | _=>none
theorem pstep_ok{P:Program}{N R:Act->World->Prop}{X:Nat->Act->World->Prop}{n:Nat}{ds:List Deferred}{L:List (Nat×Value)}{w:World}{p p':Pos}(h:Rn L p=some p')(K:∀x,Fr n ds L x->BT P N X R p' x w):∀x,Fr n ds L x->BT P N X R p x w:=by
 unfold Rn at h;split at h
 ·rename_i c k
  unfold Xk at h;split at h
  ·cases h;exact A6 K
  ·cases h;exact DH K
  ·cases h;exact D8 K
  ·cases h;exact Sf K
  ·cases h;exact FL K
  ·split at h
   ·rename_i a;cases h;exact Sg a K
   ·rename_i a;cases h;exact EB a K
   cases h
  ·rename_i id ops;cases h
   have:=AK (id:=id) (ops:=ops.toList) (P:=P) (N:=(kQ P N X R k).1) (X:=(kQ P N X R k).2) (R:=R) K;simp only[Array.toArray_toList] at this;exact this
  cases h
 ·cases h;exact K
 ·cases h;exact K
 ·cases h;exact K
 ·rename_i i j k
  cases hb:Nat.beq i j with
  | true=>rw[hb] at h;cases h;rw[AfN hb];exact IL K
  | false=>rw[hb] at h;cases h;exact AcS hb K
 ·cases h;exact K
 cases h

def FH:Option Prop->Prop
 | none=>True
 | some p=>p
def cj:Option Prop->Option Prop->Option Prop
 | none,q=>q
 | some p,none=>some p
 | some p,some q=>some (p/\q)
theorem Ir{p q:Option Prop}(h:FH (cj p q)):FH p/\FH q:=by
 cases p<;>cases q<;>simp[cj,FH] at h ⊢ <;>exact h

def G9{α β:Type}:List α->(List α->β)->β
 | [],k=>k []
 | x::xs,k=>G9 xs λys=>k (x::ys)
theorem E6{α β:Type}:∀(l:List α) (k:List α->β),G9 l k=k l
 | [],_=>rfl
 | x::xs,k=>E6 xs λys=>k (x::ys)
def SH{β:Type}(v:Value)(k:Value->β):β:=match v with
 | .bool b=>k (.bool b)
 | .int i n=>k (.int i n)
 | .pointer a=>k (.pointer a)
 | .slice a l c=>k (.slice a l c)
 | .map r=>k (.map r)
 | .agg cs=>k (.agg cs)
 | v=>k v
theorem SI{β:Type}(v:Value)(k:Value->β):SH v k=k v:=by cases v<;>rfl
def Jm{β:Type}:List Value->(List Value->β)->β
 | [],k=>k []
 | x::xs,k=>SH x λy=>Jm xs λys=>k (y::ys)
theorem KH{β:Type}:∀(l:List Value) (k:List Value->β),Jm l k=k l
 | [],_=>rfl
 | x::xs,k=>by rw[Jm,SI,KH xs]
structure OvR where
 v:Value
 hs:List Nat
 zs:List Int
 ok:Bool
 a:List (Nat×Nat)
 ob:Option Prop
def icp(b:BinOp)(p q:Int):Option Prop:=match b with
 | .lss=>some (p<q)
 | .leq=>some (p<=q)
 | .gtr=>some (q<p)
 | .geq=>some (q<=p)
 | .eql=>some (p=q)
 | .neq=>some (p≠q)
 | _=>none
theorem SJ{b:BinOp}{p q:Int}{a:Prop}(h:icp b p q=some a):(a->icmp b p q=some (.bool true))/\(¬a->icmp b p q=some (.bool false)):=by
 unfold icp at h;split at h<;>first|cases h|skip
 all_goals (constructor<;>intro hp<;>simp only[icmp,Aeo,Value.bool.injEq]<;>first|exact decide_eq_true hp|exact decide_eq_false hp)
def iar(b:BinOp)(p q r:Int):Option Prop:=match b with
 | .add=>some (p+q=r/\ -9223372036854775808<=r/\r<=9223372036854775807)
 | .sub=>some (p-q=r/\ -9223372036854775808<=r/\r<=9223372036854775807)
 | .mul=>some (p*q=r/\ -9223372036854775808<=r/\r<=9223372036854775807)
 | .quo=>some (0<=p/\0<q/\p/q=r/\p<=9223372036854775807)
 | .rem=>some (0<=p/\q≠0/\p%q=r)
 | _=>none
def i64:IntKind->Bool
 | .i64=>true
 | _=>false
theorem SK{k:IntKind}(h:i64 k=true):k=.i64:=by cases k<;>first|rfl|cases h
def UE(P:Program)(b:BinOp)(xt:TypeId)(u v:Value)(hs:List Nat)(zs:List Int):Option OvR:=match u,v with
 | .int k p,.int k' q=>match icp b p q with
  | some pr=>match hs with
   | 0::hs=>match icmp b p q with
    | some c=>some ⟨c,hs,zs,My k k',[],none⟩
    | none=>none
   | 1::hs=>some ⟨.bool true,hs,zs,My k k',[],some pr⟩
   | 2::hs=>some ⟨.bool false,hs,zs,My k k',[],some (¬pr)⟩
   | 3::hs=>match icmp b p q with
    | some (.bool c)=>some ⟨.bool true,hs,zs,c&&My k k',[],none⟩
    | _=>none
   | 4::hs=>match icmp b p q with
    | some (.bool c)=>some ⟨.bool false,hs,zs,!c&&My k k',[],none⟩
    | _=>none
   | _=>none
  | none=>match zs with
   | r::zs=>match iar b p q r with
    | some pr=>some ⟨.int .i64 r,hs,zs,i64 k&&i64 k',[],some pr⟩
    | none=>none
   | []=>none
 | .pointer (some _),.pointer none=>match b with
  | .eql=>some ⟨.bool false,hs,zs,F4 P xt,[],none⟩
  | .neq=>some ⟨.bool true,hs,zs,F4 P xt,[],none⟩
  | _=>none
 | .pointer none,.pointer none=>match b with
  | .eql=>some ⟨.bool true,hs,zs,F4 P xt,[],none⟩
  | .neq=>some ⟨.bool false,hs,zs,F4 P xt,[],none⟩
  | _=>none
 | _,_=>none
def SL:Option Nat->Nat->Bool
 | some x,z=>Nat.beq x z
 | none,_=>false
theorem KI{x:Option Nat}{z:Nat}(h:SL x z=true):x=some z:=by
 cases x with
 | none=>cases h
 | some y=>rw[AfN (n:=y) (m:=z) h]
def UF:Option (Nat×Nat)->Nat->Nat->Bool
 | some x,l,z=>Nat.beq x.1 l&&Nat.beq x.2 z
 | none,_,_=>false
theorem XW{x:Option (Nat×Nat)}{z:Nat}(h:UF x m z=true):x=some (m,z):=by
 cases x with
 | none=>cases h
 | some y=>
  simp only[UF,AeF] at h;rw[<-AfN h.1,<-AfN h.2]
def UG(P:Program)(G:List Pt)(L:List (Nat×Value))(hs:List Nat)(zs:List Int):Op->Option OvR
 | .move x=>match ev L x with|some v=>some ⟨v,hs,zs,true,[],none⟩|none=>none
 | .assign x=>match ev L x with|some v=>some ⟨v,hs,zs,true,[],none⟩|none=>none
 | .pick c x y=>match ev L c with
  | some (.bool true)=>(match ev L x with|some v=>some ⟨v,hs,zs,true,[],none⟩|none=>none)
  | some (.bool false)=>(match ev L y with|some v=>some ⟨v,hs,zs,true,[],none⟩|none=>none)
  | _=>none
 | .extract x i=>match ev L x with
  | some (.tuple vs)=>(match vs.toList[i]? with|some v=>some ⟨v,hs,zs,true,[],none⟩|none=>none)
  | _=>none
 | .nilCheck x=>match ev L x with
  | some (.pointer (some ad))=>some ⟨.pointer (some ad),hs,zs,true,[],none⟩
  | _=>none
 | .unOp b _ x=>match b with
  | .not=>(match ev L x with|some (.bool c)=>some ⟨.bool !c,hs,zs,true,[],none⟩|_=>none)
  | _=>none
 | .binOp b xt x y _=>match ev L x with
  | some u=>(match ev L y with|some v=>UE P b xt u v hs zs|none=>none)
  | none=>none
 | .fieldAddr s x f=>match hs with
  | r::hs=>(match ev L x with
   | some (.pointer (some ⟨b,p,none⟩))=>some ⟨.pointer (some ⟨b,r,none⟩),hs,zs,noq (El P s f) p r,[],none⟩
   | _=>none)
  | []=>none
 | .load t x=>match hs with
  | j::0::hs=>(match ev L x with
   | some (.pointer (some ⟨b,p,none⟩))=>(match G[j]? with
    | some (.b b' cs _)=>(match cs[p]? with
     | some v=>some ⟨v,hs,zs,Gi P t,[(b,b')],none⟩
     | none=>none)
    | _=>none)
   | _=>none)
  | j::m::hs=>(match ev L x with
   | some (.pointer (some ⟨b,p,none⟩))=>(match G[j]? with
    | some (.b b' cs _)=>G9 ((cs.drop p).take m) λvs=>some ⟨.agg vs.toArray,hs,zs,SL (Ij P t) m&&Nat.beq vs.length m,[(b,b')],none⟩
    | _=>none)
   | _=>none)
  | _=>none
 | .indexAddr t x y=>match ev L x with
  | some (.slice (some ⟨b,p,none⟩) l _)=>(match ev L y with
   | some (.int _ i)=>(match hs with
    | z::j::r::hs=>some ⟨.pointer (some ⟨b,r,none⟩),hs,zs,SL (Do P t) z,[],some (i=(j:Int)/\j<l/\p+j*z=r)⟩
    | _=>none)
   | _=>none)
  | some (.pointer (some ⟨b,p,none⟩))=>(match ev L y with
   | some (.int _ i)=>(match hs with
    | l::z::j::r::hs=>some ⟨.pointer (some ⟨b,r,none⟩),hs,zs,UF (Ih P t) l z,[],some (i=(j:Int)/\j<l/\p+j*z=r)⟩
    | _=>none)
   | _=>none)
  | _=>none
 | .call ⟨.builtin .len,⟨[x]⟩,⟨[t]⟩⟩=>match ev L x with
  | some (.slice _ l _)=>some ⟨.int .i64 l,hs,zs,(Do P t).isSome,[],none⟩
  | _=>none
 | .build t ⟨ps⟩=>match (evs L (ps.map (·.2))).map (List.zip (ps.map (·.1))) with
  | some us=>match P.built t us with
   | some cs=>Jm cs.toList λcs=>some ⟨.agg cs.toArray,hs,zs,true,[],none⟩
   | none=>none
  | none=>none
 | _=>none
section
variable{P:Program}{G:List Pt}{L:List (Nat×Value)}{n:Nat}{ds:List Deferred}{w:World}{C:World->Prop}{o:Oper}{hs:List Nat}{zs:List Int}{q:OvR}
theorem XX{b:BinOp}{yt:TypeId}{y:Operand}{v:Value}(f:o.op=.binOp b T x y yt)(a:ev L x=some u)(d:ev L y=some v)(h:UE P b T u v hs zs=some q)(e:q.ok=true)(hq:FH q.ob):Av P C n ds L o q.v:=by
 have i:∀{k:IntKind} {p r:Int} {c:Value},ev L x=some (.int k p)->ev L y=some (.int k r)->icmp b p r=some c->Av P C n ds L o c:=by
  intro k p r c a d l;unfold icmp at l;split at l<;>first|(cases l;first|exact Rb f a d|exact W8 f a d|exact Xa f a d|exact Xb f a d|exact Xc f a d|exact Xd f a d)|cases l
 unfold UE at h;split at h
 ·rename_i k p s r
  split at h
  ·rename_i m g
   split at h
   ·split at h
    ·rename_i j;cases h;obtain rfl:=HE e;exact i a d j
    cases h
   ·cases h;obtain rfl:=HE e;exact i a d ((SJ g).1 hq)
   ·cases h;obtain rfl:=HE e;exact i a d ((SJ g).2 hq)
   ·split at h
    ·rename_i c j;cases h;simp only[AeF] at e;obtain rfl:=HE e.2;rw[e.1] at j;exact i a d j
    cases h
   ·split at h
    ·rename_i c j;cases h;simp only[AeF,Bool.not_eq_true'] at e;obtain rfl:=HE e.2;rw[e.1] at j;exact i a d j
    cases h
   cases h
  split at h
  ·split at h
   ·rename_i m g
    cases h
    simp only[AeF] at e;obtain rfl:=SK e.1;obtain rfl:=SK e.2;unfold iar at g;split at g<;>first|cases g|skip
    ·exact C4 f a d hq.1 hq.2
    ·exact Hy f a d hq.1 hq.2
    ·exact Hz f a d hq.1 hq.2
    ·exact Lt f a d hq.1 hq.2.1 hq.2.2.1 hq.2.2.2
    exact Lu f a d hq.1 hq.2.1 hq.2.2
   cases h
  cases h
 ·split at h
  ·cases h;exact Nz f e a d
  ·cases h;exact Uv f e a d
  cases h
 ·split at h
  ·cases h;exact Uw f e a d
  ·cases h;exact Ux f e a d
  cases h
 cases h
theorem oval_ok(hM:∀w,C w->∀(j b:Nat) (cs:List Value) (ty:TypeId),G[j]?=some (Pt.b b cs ty)->Blk b cs ty w)(h:UG P G L hs zs o.op=some q)(e:q.ok=true)(ha:B6 q.a)(hq:FH q.ob):Av P C n ds L o q.v:=by
 unfold UG at h;split at h
 ·rename_i d
  split at h
  ·rename_i c;cases h;exact Ck d c
  cases h
 ·rename_i d
  split at h
  ·rename_i c;cases h;exact AQ d c
  cases h
 ·rename_i d
  split at h
  ·rename_i r
   split at h
   ·rename_i c;cases h;exact Nr d r c
   cases h
  ·rename_i r
   split at h
   ·rename_i c;cases h;exact Ns d r c
   cases h
  cases h
 ·rename_i d
  split at h
  ·rename_i vs c
   split at h
   ·rename_i m;cases h
    exact Ff (vs:=vs.toList) d (by simpa using c) m
   cases h
  cases h
 ·rename_i d
  split at h
  ·rename_i c;cases h;exact KB d c
  cases h
 ·rename_i d
  split at h
  ·split at h
   ·rename_i c;cases h;exact Kz d c
   cases h
  cases h
 ·rename_i b xt x y _ d
  split at h
  ·rename_i u c
   split at h
   ·rename_i v g;exact XX d c g h e hq
   cases h
  cases h
 ·rename_i s x f d
  split at h
  ·split at h
   ·rename_i b p c
    cases h
    dsimp only at e
    cases i:El P s f with
    | none=>rw[i] at e;cases e
    | some k=>
     rw[i] at e;exact DU d i c (AfN e)
   cases h
  cases h
 ·rename_i t x d
  split at h
  ·split at h
   ·rename_i b p c
    split at h
    ·rename_i b' cs ty he
     split at h
     ·rename_i v m
      cases h
      have e1:b=b':=ha.1;exact Bn d c e (λw hw=>by rw[e1];exact (hM w hw _ _ _ _ he).cel p m)
     cases h
    cases h
   cases h
  ·split at h
   ·rename_i b p c
    split at h
    ·rename_i b' cs ty he
     rw[E6] at h;cases h;have e1:b=b':=ha.1;simp only[AeF] at e;have hl:=AfN e.2;refine BW d c (by rw[KI e.1,hl]) (λw hw=>?_);rw[e1];exact (hM w hw _ _ _ _ he).part p _ _ Z
    cases h
   cases h
  cases h
 ·rename_i t x y d
  split at h
  ·rename_i b p l _ c
   split at h
   ·rename_i g
    split at h
    ·cases h
     exact CJ d (KI e) c g hq.1 hq.2.1 hq.2.2
    cases h
   cases h
  ·rename_i b p c
   split at h
   ·rename_i g
    split at h
    ·cases h
     exact JV d (XW e) c g hq.1 hq.2.1 hq.2.2
    cases h
   cases h
  cases h
 ·rename_i x t d
  split at h
  ·rename_i l _ c
   cases h
   dsimp only at e
   cases hz:Do P t with
   | none=>rw[hz] at e;cases e
   | some z=>exact F3 d hz c
  cases h
 ·rename_i t ps d
  split at h
  ·rename_i us m
   split at h
   ·rename_i cs i
    rw[KH] at h;cases h;exact Be (parts:=ps) d m (by simpa using i)
   cases h
  cases h
 cases h
end

def IP:Value->List Value
 | .agg cs=>cs.toList
 | v=>[v]
theorem P4(v:Value):v.cells=(IP v).toArray:=by cases v<;>simp[IP,Value.cells]
def J3:List Value->Nat->List Value->List Value
 | cs,_,[]=>cs
 | [],_,_::_=>[]
 | _::cs,0,v::vs=>v::J3 cs 0 vs
 | c::cs,p+1,v::vs=>c::J3 cs p (v::vs)
theorem LI:∀(cs:List Value) (p:Nat) (vs:List Value),p+vs.length<=cs.length->cs.take p++vs++cs.drop (p+vs.length)=J3 cs p vs
 | cs,p,[],h=>by simp[J3]
 | [],p,v::vs,h=>by simp at h
 | c::cs,0,v::vs,h=>by
  have:=LI cs 0 vs (by simp at h ⊢;omega);simp only[AfH,AeT,AfP] at this;simp[J3,this]
 | c::cs,p+1,v::vs,h=>by
  have:=LI cs p (v::vs) (by simp at h ⊢;omega);simp only[J3,Ae8,AfD];rw[<-this];simp only[Aej,AfD];rw[show p+1+(vs.length+1)=(p+(vs.length+1))+1 from by omega,Ae6]
structure OtR where
 G:List Pt
 hs:List Nat
 ok:Bool
 a:List (Nat×Nat)
def ost(P:Program)(G:List Pt)(L:List (Nat×Value))(hs:List Nat):Op->Option OtR
 | .store t x y=>match hs with
  | j::hs=>(match ev L x with
   | some (.pointer (some ⟨b,p,none⟩))=>(match ev L y with
    | some v=>(match G[j]? with
     | some (.b b' cs ty)=>G9 (J3 cs p (IP v)) λcs'=>G9 (G.set j (.b b' cs' ty)) λG=>some ⟨G,hs,(SL ((P.info? t).map (·.size)) (IP v).length&&Nat.ble (p+(IP v).length) cs.length)&&(IP v).all (·.oneCell'),[(b,b')]⟩
     | _=>none)
    | none=>none)
   | _=>none)
  | []=>none
 | _=>none
structure Mo(wr:Bool)(S:List Pt->World->Prop):Prop where
 ld:∀{G:List Pt} {w:World} {j b:Nat} {cs:List Value} {ty:TypeId},S G w->G[j]?=some (.b b cs ty)->Blk b cs ty w
 st:wr=true->∀{G:List Pt} {w w':World} {j b:Nat} {cs cs':List Value} {ty:TypeId},S G w->G[j]?=some (.b b cs ty)->w'.os=w.os->w'.tape=w.tape->w'.output=w.output->Blk b cs' ty w'->(∀k:Nat,k≠b->w'.heap[k]?=w.heap[k]?)->S (G.set j (.b b cs' ty)) w'
section
variable{P:Program}{G:List Pt}{L:List (Nat×Value)}{n:Nat}{ds:List Deferred}{o:Oper}{hs:List Nat}{zs:List Int}{S:List Pt->World->Prop}{wr:Bool}
theorem Aa6(l:Mo true S){q:OtR}(h:ost P G L hs o.op=some q)(g:q.ok=true)(ha:B6 q.a){w:World}(j:S G w):DI P n ds L o w (λf=>S q.G f):=by
 unfold ost at h;split at h
 ·rename_i t x y ho
  split at h
  ·split at h
   ·rename_i b p s
    split at h
    ·rename_i v hy
     split at h
     ·rename_i b' cs ty i
      rw[E6,E6] at h;cases h;have e:b=b':=ha.1;subst e;simp only[AeF] at g;obtain ⟨⟨m,d⟩,h3⟩:=g;have d:p+(IP v).length<=cs.length:=Nat.le_of_ble_eq_true d;intro a hF;obtain ⟨f,r,z,c,_⟩:=PP (w:=w) ho s hy (P4 v) (by simpa using h3) (KI m) (l.ld j i) d (LI cs p _ d) a hF;refine ⟨f,r,l.st Z j i c.os c.tape c.output z (λk u=>?_)⟩;rcases Aeu k w.heap.size with q|q
      ·exact c.block k q u
      rw[Ae3 q,Ae3 U]
     cases h
    cases h
   cases h
  cases h
 cases h

structure OsR where
 L:List (Nat×Value)
 G:List Pt
 hs:List Nat
 zs:List Int
 ok:Bool
 a:List (Nat×Nat)
 ob:Option Prop
def ostep(P:Program)(wr:Bool)(n:Nat)(ops:List Oper)(o:Oper)(hs:List Nat)(zs:List Int)(L:List (Nat×Value))(G:List Pt):Option OsR:=match o.dst with
 | some d=>(match BN ops L o.guard with
  | true=>(match UG P G L hs zs o.op with
   | some ⟨v,hs,zs,ok,a,ob⟩=>some ⟨(d,v)::L,G,hs,zs,Nat.blt d n&&ok,a,ob⟩
   | none=>none)
  | false=>(match EX ops L o.guard with
   | true=>some ⟨(d,undef)::L,G,hs,zs,Nat.blt d n,[],none⟩
   | false=>none))
 | none=>(match BN ops L o.guard with
  | true=>(match wr with
   | true=>(match ost P G L hs o.op with
    | some ⟨G,hs,ok,a⟩=>some ⟨L,G,hs,zs,ok,a,none⟩
    | none=>none)
   | false=>none)
  | false=>(match EX ops L o.guard with
   | true=>some ⟨L,G,hs,zs,true,[],none⟩
   | false=>none))
theorem UH(l:Mo wr S){Q:Exit->Act->World->Prop}{ops m:List Oper}{q:OsR}(h:ostep P wr n ops o hs zs L G=some q)(b:q.ok=true)(k:B6 q.a)(hq:FH q.ob)(K:∀w,S q.G w->∀x,Fr n ds q.L x->wpList P ops.toArray Q m x w):∀w,S G w->∀x,Fr n ds L x->wpList P ops.toArray Q (o::m) x w:=by
 intro w f;unfold ostep at h;split at h
 ·rename_i d c
  split at h
  ·rename_i j
   split at h
   ·rename_i g
    cases h
    simp only[AeF] at b;exact s_do j c b.1 (oval_ok (λr p _ _ _ _ e=>by subst p;exact l.ld f e) g b.2 k hq) (K w f)
   cases h
  split at h
  ·rename_i i;cases h;exact Sk i c b (K w f)
  cases h
 rename_i c;split at h
 ·rename_i j
  split at h
  ·split at h
   ·rename_i g
    cases h
    exact F2 j c (Aa6 l g b k f) K
   cases h
  cases h
 split at h
 ·rename_i i;cases h;exact XI i c (K w f)
 cases h
def Xl:Pos->Option (List Oper×Oper×List Oper×Kd)
 | .o ops (o::os) k=>some (ops,o,os,k)
 | _=>none
theorem SM{p:Pos}{ops a:List Oper}{o:Oper}{k:Kd}(h:Xl p=some (ops,o,a,k)):p=.o ops (o::a) k:=by
 unfold Xl at h;split at h<;>cases h;rfl
structure GsR where
 L:List (Nat×Value)
 G:List Pt
 p:Pos
 ok:Bool
 a:List (Nat×Nat)
 ob:Option Prop
def go(P:Program)(wr:Bool)(n:Nat):Nat->List Nat->List Int->List (Nat×Value)->List Pt->Pos->Bool->List (Nat×Nat)->Option Prop->Option GsR
 | 0,_,_,L,G,p,ok,a,ob=>some ⟨L,G,p,ok,a,ob⟩
 | k+1,hs,zs,L,G,p,ok,a,ob=>match Xl p with
  | some (ops,o,os,kk)=>(match ostep P wr n ops o hs zs L G with
   | some ⟨L,G,hs,zs,ok',a',ob'⟩=>go P wr n k hs zs L G (.o ops os kk) (ok'&&ok) (a'++a) (cj ob' ob)
   | none=>none)
  | none=>(match Rn L p with
   | some p=>go P wr n k hs zs L G p ok a ob
   | none=>none)
theorem XY:∀{k:Nat} {hs:List Nat} {zs:List Int} {L:List (Nat×Value)} {G:List Pt} {p:Pos} {c:Bool} {a:List (Nat×Nat)} {ob:Option Prop} {q:GsR},go P wr n k hs zs L G p c a ob=some q->q.ok=true->B6 q.a->FH q.ob->c=true/\B6 a/\FH ob:=by
 intro k
 induction k with
 | zero=>intro hs zs L G p c a ob q h b d hq;simp only[go,Aeo] at h;subst h;exact ⟨b,d,hq⟩
 | succ k ih=>
  intro hs zs L G p c a ob q h b d hq;simp only[go] at h;split at h
  ·split at h
   ·obtain ⟨e,f,g⟩:=ih h b d hq
    simp only[AeF] at e;exact ⟨e.2,(Cp f).2,(Ir g).2⟩
   cases h
  split at h
  ·exact ih h b d hq
  cases h
theorem Is{N R:Act->World->Prop}{X:Nat->Act->World->Prop}(f:Mo wr S):∀(k:Nat) {hs:List Nat} {zs:List Int} {L:List (Nat×Value)} {G:List Pt} {p:Pos} {d:Bool} {a:List (Nat×Nat)} {ob:Option Prop} {q:GsR},go P wr n k hs zs L G p d a ob=some q->q.ok=true->B6 q.a->FH q.ob->(∀w,S q.G w->∀x,Fr n ds q.L x->BT P N X R q.p x w)->∀w,S G w->∀x,Fr n ds L x->BT P N X R p x w:=by
 intro k
 induction k with
 | zero=>intro hs zs L G p d a ob q h c b hq K;simp only[go,Aeo] at h;subst h;exact K
 | succ k ih=>
  intro hs zs L G p d a ob q h c b hq K;simp only[go] at h;split at h
  ·rename_i g
   obtain rfl:=SM g;split at h
   ·rename_i i
    obtain ⟨e,j,m⟩:=XY h c b hq;simp only[AeF] at e;exact UH f i e.1 (Cp j).1 (Ir m).1 (ih h c b hq K)
   cases h
  split at h
  ·rename_i hp
   intro w l;exact pstep_ok hp (ih h c b hq K w l)
  cases h
end

section
variable{P:Program}{G:List Pt}{L:List (Nat×Value)}{n:Nat}{ds:List Deferred}{o:Oper}{hs:List Nat}{zs:List Int}
theorem LJ{C:World->Prop}{ops:List Oper}{q:OsR}(m:∀w,C w->∀(j b:Nat) (cs:List Value) (ty:TypeId),G[j]?=some (Pt.b b cs ty)->Blk b cs ty w){d:Nat}(f:o.dst=some d)(h:ostep P false n ops o hs zs L G=some q)(e:q.ok=true)(k:B6 q.a)(hq:FH q.ob):
  ∃v,q.L=(d,v)::L/\Nat.blt d n=true/\((BN ops L o.guard=true/\Av P C n ds L o v)\/(EX ops L o.guard=true/\v=undef)):=by
 unfold ostep at h;split at h
 ·rename_i p c
  rw[f] at c;cases c;split at h
  ·rename_i l
   split at h
   ·rename_i g
    cases h
    simp only[AeF] at e;exact ⟨_,Z,e.1,.inl ⟨l,oval_ok m g e.2 k hq⟩⟩
   cases h
  split at h
  ·rename_i i;cases h;exact ⟨_,Z,e,.inr ⟨i,Z⟩⟩
  cases h
 rename_i c;rw[f] at c;cases c
structure QrR where
 L:List (Nat×Value)
 os:List Oper
 ok:Bool
 a:List (Nat×Nat)
 ob:Option Prop
def Ep(P:Program)(G:List Pt)(ops:List Oper)(n:Nat):Nat->List Nat->List Int->List (Nat×Value)->List Oper->Bool->List (Nat×Nat)->Option Prop->Option QrR
 | 0,_,_,L,os,ok,a,ob=>some ⟨L,os,ok,a,ob⟩
 | _+1,_,_,_,[],_,_,_=>none
 | k+1,hs,zs,L,o::os,ok,a,ob=>match o.dst with
  | some _=>(match ostep P false n ops o hs zs L G with
   | some ⟨L,_,hs,zs,ok',a',ob'⟩=>Ep P G ops n k hs zs L os (ok'&&ok) (a'++a) (cj ob' ob)
   | none=>none)
  | none=>none
theorem MB{ops:List Oper}:∀{k:Nat} {hs:List Nat} {zs:List Int} {L:List (Nat×Value)} {b:List Oper} {c:Bool} {a:List (Nat×Nat)} {ob:Option Prop} {q:QrR},Ep P G ops n k hs zs L b c a ob=some q->q.ok=true->B6 q.a->FH q.ob->c=true/\B6 a/\FH ob:=by
 intro k
 induction k with
 | zero=>intro hs zs L b c a ob q h d e hq;simp only[Ep,Aeo] at h;subst h;exact ⟨d,e,hq⟩
 | succ k ih=>
  intro hs zs L b c a ob q h d e hq
  cases b with
  | nil=>simp[Ep] at h
  | cons o b=>
   simp only[Ep] at h;split at h
   ·split at h
    ·obtain ⟨f,g,i⟩:=ih h d e hq
     simp only[AeF] at f;exact ⟨f.2,(Cp g).2,(Ir i).2⟩
    cases h
   cases h
theorem Xm{ops:List Oper}{C:World->Prop}{Q:Act->Prop}(hM:∀w,C w->∀(j b:Nat) (cs:List Value) (ty:TypeId),G[j]?=some (Pt.b b cs ty)->Blk b cs ty w):∀(k:Nat) {hs:List Nat} {zs:List Int} {L:List (Nat×Value)} {c:List Oper} {m:Bool} {a:List (Nat×Nat)} {ob:Option Prop} {q:QrR},Ep P G ops n k hs zs L c m a ob=some q->q.ok=true->B6 q.a->FH q.ob->(∀x,Fr n ds q.L x->wpQuiet P ops.toArray C Q q.os x)->∀x,Fr n ds L x->wpQuiet P ops.toArray C Q c x:=by
 intro k
 induction k with
 | zero=>intro hs zs L c m a ob q h l i hq K;simp only[Ep,Aeo] at h;subst h;exact K
 | succ k ih=>
  intro hs zs L c m a ob q h l i hq K
  cases c with
  | nil=>simp[Ep] at h
  | cons o c=>
   simp only[Ep] at h;split at h
   ·rename_i d g
    split at h
    ·rename_i t
     obtain ⟨r,u,h3⟩:=MB h l i hq;simp only[AeF] at r;obtain ⟨v,e,f,y⟩:=LJ (ds:=ds) hM g t r.1 (Cp u).1 (Ir h3).1;dsimp only at e;subst e;have K':=ih h l i hq K;rcases y with ⟨z,p⟩|⟨s,rfl⟩
     ·exact AM z g f p K'
     exact Sn s g f K'
    cases h
   cases h
theorem Xn{ops:List Oper}{w:World}{Q:Act->Prop}(hM:∀(j b:Nat) (cs:List Value) (ty:TypeId),G[j]?=some (Pt.b b cs ty)->Blk b cs ty w):∀(k:Nat) {hs:List Nat} {zs:List Int} {L:List (Nat×Value)} {c:List Oper} {m:Bool} {a:List (Nat×Nat)} {ob:Option Prop} {q:QrR},Ep P G ops n k hs zs L c m a ob=some q->q.ok=true->B6 q.a->FH q.ob->(∀x,Fr n ds q.L x->wpStill P ops.toArray w Q q.os x)->∀x,Fr n ds L x->wpStill P ops.toArray w Q c x:=by
 intro k
 induction k with
 | zero=>intro hs zs L c m a ob q h l i hq K;simp only[Ep,Aeo] at h;subst h;exact K
 | succ k ih=>
  intro hs zs L c m a ob q h l i hq K
  cases c with
  | nil=>simp[Ep] at h
  | cons o c=>
   simp only[Ep] at h;split at h
   ·rename_i d g
    split at h
    ·rename_i t
     obtain ⟨r,u,h3⟩:=MB h l i hq;simp only[AeF] at r;obtain ⟨v,e,f,y⟩:=LJ (C:=(· =w)) (ds:=ds) (λw' e=>by subst e;exact hM) g t r.1 (Cp u).1 (Ir h3).1;dsimp only at e;subst e;have K':=ih h l i hq K;rcases y with ⟨z,p⟩|⟨s,rfl⟩
     ·exact Cd z g f p K'
     exact Ss s g f K'
    cases h
   cases h
structure ArR where
 L:List (Nat×Value)
 li:Array Bool
 ok:Bool
 a:List (Nat×Nat)
 ob:Option Prop
def arun(P:Program)(G:List Pt)(ops:List Oper)(n:Nat)(g:Nat->Bool):List Nat->List Nat->List Int->List (Nat×Value)->Array Bool->Bool->List (Nat×Nat)->Option Prop->Option ArR
 | [],_,_,L,li,ok,a,ob=>some ⟨L,li,ok,a,ob⟩
 | i::is,hs,zs,L,li,ok,a,ob=>match ops[i]? with
  | some o=>(match o.dst with
   | some _=>(match ostep P false n ops o hs zs L G with
    | some ⟨L,_,hs,zs,ok',a',ob'⟩=>arun P G ops n g is hs zs L (li.setIfInBounds i true) ((ok'&&(g i&&(Region.noSelect ops.toArray&&(Region.free .any ops.toArray li i&&(Region.ready .any ops.toArray li).contains i))))&&ok) (a'++a) (cj ob' ob)
    | none=>none)
   | none=>none)
  | none=>none
theorem SN{ops:List Oper}{g:Nat->Bool}:∀{c hs:List Nat} {zs:List Int} {L:List (Nat×Value)} {d:Array Bool} {b:Bool} {a:List (Nat×Nat)} {ob:Option Prop} {q:ArR},arun P G ops n g c hs zs L d b a ob=some q->q.ok=true->B6 q.a->FH q.ob->b=true/\B6 a/\FH ob:=by
 intro c
 induction c with
 | nil=>intro hs zs L d b a ob q h e f hq;simp only[arun,Aeo] at h;subst h;exact ⟨e,f,hq⟩
 | cons i c ih=>
  intro hs zs L d b a ob q h e f hq;simp only[arun] at h;split at h
  ·split at h
   ·split at h
    ·obtain ⟨j,k,l⟩:=ih h e f hq
     simp only[AeF] at j;exact ⟨j.2,(Cp k).2,(Ir l).2⟩
    cases h
   cases h
  cases h
theorem Xo{ops:List Oper}{N R:Act->World->Prop}{X:Nat->Act->World->Prop}{S:World->Prop}{w:World}(hM:∀w,S w->∀(j b:Nat) (cs:List Value) (ty:TypeId),G[j]?=some (Pt.b b cs ty)->Blk b cs ty w)(u:S w):∀(f:List Nat) {hs:List Nat} {zs:List Int} {L:List (Nat×Value)} {k:Array Bool} {r:Bool} {a:List (Nat×Nat)} {ob:Option Prop} {q:ArR} {fuel:Nat},arun P G ops n (λ_=>true) f hs zs L k r a ob=some q->q.ok=true->B6 q.a->FH q.ob->
  (∀x,Fr n ds q.L x->wpAnyH P .any ops.toArray (Qp N X R) S fuel q.li x w)->∀x,Fr n ds L x->wpAnyH P .any ops.toArray (Qp N X R) S (fuel+f.length) k x w:=by
 intro f
 induction f with
 | nil=>intro hs zs L k r a ob q fuel h p m hq K;simp only[arun,Aeo] at h;subst h;exact K
 | cons i f ih=>
  intro hs zs L k r a ob q fuel h p m hq K;simp only[arun] at h;split at h
  ·rename_i o t
   split at h
   ·rename_i d l
    split at h
    ·rename_i z
     obtain ⟨c,h2,h3⟩:=SN h p m hq;simp only[AeF] at c;obtain ⟨v,e,g,hx⟩:=LJ (ds:=ds) hM l z c.1.1 (Cp h2).1 (Ir h3).1;dsimp only at e;subst e;have K':=ih h p m hq K;rcases hx with ⟨hw,s⟩|⟨y,rfl⟩
     ·exact BQ (fuel:=fuel+f.length) i t c.1.2.2.1 c.1.2.2.2.1 c.1.2.2.2.2 hw l g s u K'
     exact Su (fuel:=fuel+f.length) i t c.1.2.2.1 c.1.2.2.2.1 c.1.2.2.2.2 y l g u K'
    cases h
   cases h
  cases h
section
variable{ops:List Oper}{L':List (Nat×Value)}{ok':Bool}{a':List (Nat×Nat)}{ob:Prop}{z w:World}{Γ F:List Ai}
theorem DF(h:(ok',a'.map Prod.fst)=(true,a'.map Prod.snd)):ok'=true/\B6 a':=⟨congrArg Prod.fst h,Dw (congrArg Prod.snd h)⟩
theorem GL{Q:Act->Prop}(k:Nat)(hs:List Nat)(zs:List Int)[e:Rf Γ G F]{b a:List Oper}(h:Ep P G ops n k hs zs L b true [] none=some ⟨L',a,ok',a',none⟩)(c:(ok',a'.map Prod.fst)=(true,a'.map Prod.snd))(K:∀x,Fr n ds L' x->wpQuiet P ops.toArray (Sep z Γ) Q a x):∀x,Fr n ds L x->wpQuiet P ops.toArray (Sep z Γ) Q b x:=
 Xm (λ_ H _ _ _ _ q=>(show Sep z (DQ G F) _ from e.e▸H).blk _ (Dl q)) k h (DF c).1 (DF c).2 trivial K
theorem MC{Q:Act->Prop}(k:Nat)(hs:List Nat)(zs:List Int)(H:Sep z Γ w)[e:Rf Γ G F]{b a:List Oper}(h:Ep P G ops n k hs zs L b true [] none=some ⟨L',a,ok',a',none⟩)(c:(ok',a'.map Prod.fst)=(true,a'.map Prod.snd))(K:∀x,Fr n ds L' x->wpStill P ops.toArray w Q a x):∀x,Fr n ds L x->wpStill P ops.toArray w Q b x:=
 Xn (λ_ _ _ _ q=>(show Sep z (DQ G F) _ from e.e▸H).blk _ (Dl q)) k h (DF c).1 (DF c).2 trivial K
theorem AZ{N R:Act->World->Prop}{X:Nat->Act->World->Prop}(b hs:List Nat)(zs:List Int)(H:Sep z Γ w)[e:Rf Γ G F]{c a:Array Bool}(h:arun P G ops n (λ_=>true) b hs zs L c true [] none=some ⟨L',a,ok',a',none⟩)(d:(ok',a'.map Prod.fst)=(true,a'.map Prod.snd))(f:m+b.length=i)(K:∀x,Fr n ds L' x->wpAnyH P .any ops.toArray (Qp N X R) (Sep z Γ) m a x w):∀x,Fr n ds L x->wpAnyH P .any ops.toArray (Qp N X R) (Sep z Γ) i c x w:=
 f▸Xo (S:=Sep z Γ) (λ_ H _ _ _ _ q=>(show Sep z (DQ G F) _ from e.e▸H).blk _ (Dl q)) H b h (DF d).1 (DF d).2 trivial K
theorem Ha{Q:Act->Prop}(k:Nat)(hs:List Nat)(zs:List Int)[e:Rf Γ G F]{b a:List Oper}(h:Ep P G ops n k hs zs L b true [] none=some ⟨L',a,ok',a',some ob⟩)(c:(ok',a'.map Prod.fst)=(true,a'.map Prod.snd))(hq:ob)(K:∀x,Fr n ds L' x->wpQuiet P ops.toArray (Sep z Γ) Q a x):∀x,Fr n ds L x->wpQuiet P ops.toArray (Sep z Γ) Q b x:=
 Xm (λ_ H _ _ _ _ q=>(show Sep z (DQ G F) _ from e.e▸H).blk _ (Dl q)) k h (DF c).1 (DF c).2 hq K
theorem ER{Q:Act->Prop}(k:Nat)(hs:List Nat)(zs:List Int)(H:Sep z Γ w)[e:Rf Γ G F]{b a:List Oper}(h:Ep P G ops n k hs zs L b true [] none=some ⟨L',a,ok',a',some ob⟩)(c:(ok',a'.map Prod.fst)=(true,a'.map Prod.snd))(hq:ob)(K:∀x,Fr n ds L' x->wpStill P ops.toArray w Q a x):∀x,Fr n ds L x->wpStill P ops.toArray w Q b x:=
 Xn (λ_ _ _ _ q=>(show Sep z (DQ G F) _ from e.e▸H).blk _ (Dl q)) k h (DF c).1 (DF c).2 hq K
theorem HJ{N R:Act->World->Prop}{X:Nat->Act->World->Prop}(b hs:List Nat)(zs:List Int)(H:Sep z Γ w)[e:Rf Γ G F]{c a:Array Bool}(h:arun P G ops n (λ_=>true) b hs zs L c true [] none=some ⟨L',a,ok',a',some ob⟩)(d:(ok',a'.map Prod.fst)=(true,a'.map Prod.snd))(hq:ob)(f:m+b.length=i)(K:∀x,Fr n ds L' x->wpAnyH P .any ops.toArray (Qp N X R) (Sep z Γ) m a x w):∀x,Fr n ds L x->wpAnyH P .any ops.toArray (Qp N X R) (Sep z Γ) i c x w:=
 f▸Xo (S:=Sep z Γ) (λ_ H _ _ _ _ q=>(show Sep z (DQ G F) _ from e.e▸H).blk _ (Dl q)) H b h (DF d).1 (DF d).2 hq K
end
end

structure FiR where
 L:List (Nat×Value)
 G:List Pt
 p:Pos
 a:List Nat
 b:List Nat
 ob:Option Prop
def fin:Option GsR->Option FiR
 | some ⟨L,G,p,true,a,ob⟩=>some ⟨L,G,p,a.map Prod.fst,a.map Prod.snd,ob⟩
 | _=>none
def Nl{β:Type}:List Pt->List Ai->(List Ai->β)->β
 | [],R,k=>k R
 | .b b cs ty::G,R,k=>Nl G R λΓ=>k (blk b cs ty::Γ)
 | .a A::G,R,k=>Nl G R λΓ=>k (A::Γ)
theorem UI{β:Type}{R:List Ai}(G:List Pt):∀(k:List Ai->β),Nl G R k=k (DQ G R):=by
 induction G with
 | nil=>intro k;rfl
 | cons x G ih=>intro k;cases x<;>exact ih _
structure FwR where
 L:List (Nat×Value)
 Γ:List Ai
 p:Pos
 a:List Nat
 b:List Nat
 ob:Option Prop
def SO(F:List Ai):Option GsR->Option FwR
 | some ⟨L,G,p,true,a,ob⟩=>Nl G F λΓ=>some ⟨L,Γ,p,a.map Prod.fst,a.map Prod.snd,ob⟩
 | _=>none
theorem NN{F Γ:List Ai}{q:Option GsR}{L:List (Nat×Value)}{p:Pos}{al:List Nat}{ob:Option Prop}(h:SO F q=some ⟨L,Γ,p,al,al,ob⟩):∃a G,q=some ⟨L,G,p,true,a,ob⟩/\B6 a/\DQ G F=Γ:=by
 unfold SO at h;split at h
 ·rename_i a _
  rw[UI] at h;simp only[Aeo,FwR.mk.injEq] at h;obtain ⟨rfl,d,rfl,b,c,rfl⟩:=h;exact ⟨_,_,Z,Dw (b.trans c.symm),d⟩
 cases h
theorem KJ{q:Option GsR}{L:List (Nat×Value)}{G:List Pt}{p:Pos}{al:List Nat}{ob:Option Prop}(h:fin q=some ⟨L,G,p,al,al,ob⟩):∃a,q=some ⟨L,G,p,true,a,ob⟩/\B6 a:=by
 unfold fin at h;split at h
 ·rename_i a _
  simp only[Aeo,FiR.mk.injEq] at h;obtain ⟨rfl,rfl,rfl,b,c,rfl⟩:=h;exact ⟨_,Z,Dw (b.trans c.symm)⟩
 cases h
section
variable{P:Program}{N R:Act->World->Prop}{X:Nat->Act->World->Prop}{n:Nat}{ds:List Deferred}{L L':List (Nat×Value)}{w z:World}{p p':Pos}{al:List Nat}{G G':List Pt}{Γ F:List Ai}
theorem Aa7(w:World):Mo false (λG w'=>G=[]/\w'=w):=⟨λh e=>by rw[h.1] at e;simp at e,λh=>by cases h⟩
theorem Aa8(z:World)(F:List Ai)(w:World):Mo false (λG w'=>Sep z (DQ G F) w'/\w'=w):=⟨λH e=>H.1.blk _ (Dl e),λh=>by cases h⟩
theorem UJ(z:World)(F:List Ai):Mo true (λG w=>Sep z (DQ G F) w):=⟨λH e=>H.blk _ (Dl e),λ_ {G w k j b cs a ty} H e c d h g f=>by
 have:=H.write j (Dl e) c d h g f;have i:j<G.length:=(Aee.1 e).1;exact (J2 (R:=F) (b:=b) (cs:=a) (ty:=ty) i)▸this⟩
theorem Z0(k:Nat)(hs:List Nat)(h:fin (go P false n k hs [] L [] p true [] none)=some ⟨L',[],p',[],[],none⟩)(K:∀x,Fr n ds L' x->BT P N X R p' x w):∀x,Fr n ds L x->BT P N X R p x w:=by
 obtain ⟨a,h,c⟩:=KJ h;exact Is (Aa7 w) k h Z c trivial (λ_ b=>b.2▸K) w ⟨Z,Z⟩
theorem Zc(k:Nat)(h:fin (go P false n k [] [] L [] p true [] none)=some ⟨L',[],p',[],[],none⟩)(K:∀x,Fr n ds L' x->BT P N X R p' x w):∀x,Fr n ds L x->BT P N X R p x w:=Z0 k [] h K
theorem Z1(k:Nat)(hs:List Nat)(zs:List Int){ob:Prop}(h:fin (go P false n k hs zs L [] p true [] none)=some ⟨L',[],p',[],[],some ob⟩)(hq:ob)(K:∀x,Fr n ds L' x->BT P N X R p' x w):∀x,Fr n ds L x->BT P N X R p x w:=by
 obtain ⟨a,h,c⟩:=KJ h;exact Is (Aa7 w) k h Z c hq (λ_ b=>b.2▸K) w ⟨Z,Z⟩
theorem Z2(k:Nat)(hs:List Nat)(H:Sep z Γ w)[e:Rf Γ G F](h:fin (go P false n k hs [] L G p true [] none)=some ⟨L',G',p',al,al,none⟩)(K:∀x,Fr n ds L' x->BT P N X R p' x w):∀x,Fr n ds L x->BT P N X R p x w:=by
 obtain ⟨a,h,c⟩:=KJ h;exact Is (Aa8 z F w) k h Z c trivial (λ_ b=>b.2▸K) w ⟨e.e▸H,Z⟩
theorem Z3(k:Nat)(hs:List Nat)(zs:List Int)(H:Sep z Γ w)[e:Rf Γ G F]{ob:Prop}(h:fin (go P false n k hs zs L G p true [] none)=some ⟨L',G',p',al,al,some ob⟩)(hq:ob)(K:∀x,Fr n ds L' x->BT P N X R p' x w):∀x,Fr n ds L x->BT P N X R p x w:=by
 obtain ⟨a,h,c⟩:=KJ h;exact Is (Aa8 z F w) k h Z c hq (λ_ b=>b.2▸K) w ⟨e.e▸H,Z⟩
theorem Z4(k:Nat)(hs:List Nat)(H:Sep z Γ w)[e:Rf Γ G F]{Γ':List Ai}(h:SO F (go P true n k hs [] L G p true [] none)=some ⟨L',Γ',p',al,al,none⟩)(K:∀w,Sep z Γ' w->∀x,Fr n ds L' x->BT P N X R p' x w):∀x,Fr n ds L x->BT P N X R p x w:=by
 obtain ⟨a,G',c,b,rfl⟩:=NN h;exact Is (UJ z F) k c Z b trivial K w (e.e▸H)
theorem Z5(k:Nat)(hs:List Nat)(zs:List Int)(H:Sep z Γ w)[e:Rf Γ G F]{Γ':List Ai}{ob:Prop}(h:SO F (go P true n k hs zs L G p true [] none)=some ⟨L',Γ',p',al,al,some ob⟩)(hq:ob)(K:∀w,Sep z Γ' w->∀x,Fr n ds L' x->BT P N X R p' x w):∀x,Fr n ds L x->BT P N X R p x w:=by
 obtain ⟨a,G',c,b,rfl⟩:=NN h;exact Is (UJ z F) k c Z b hq K w (e.e▸H)
end

section
variable{P:Program}{N R:Act->World->Prop}{X:Nat->Act->World->Prop}{n d:Nat}{ds:List Deferred}{L:List (Nat×Value)}{w z:World}{k:Kd}{ops rest:List Oper}{o:Oper}{v:Value}
theorem Ae{f:FuncId}{b:Func}{c:Code}{R:Value->World->Prop}(i:P.funcs[f]?=some b)(e:b.body=some c)(g:b.ntmps=n)(d:Nat.ble V.length n=true)
  (h:∀a,Fr n [] (first 0 V) a->BT P (Gh P b R) IJ (Gh P b R) (.c c .fin) a w):Calls P f V.toArray w (Ret R):=enter i e n g d h
theorem gf(K:∀x,Fr n ds L x->N x w):∀x,Fr n ds L x->BT P N X R (.n .fin) x w:=K
theorem gx{a R':Act->World->Prop}(K:∀x,Fr n ds L x->BT P N X R (.x i k) x w):∀x,Fr n ds L x->BT P a (kQ P N X R k).2 R' (.x i .fin) x w:=K
theorem gn(K:∀x,Fr n ds L x->BT P N X R (.n k) x w):∀x,Fr n ds L x->(kQ P N X R k).1 x w:=K
theorem gw(K:∀x,Fr n ds L x->BT P N X R (.o ops rest k) x w):∀x,Fr n ds L x->wpList P ops.toArray (Qp (kQ P N X R k).1 (kQ P N X R k).2 R) rest x w:=K
theorem Eq{c:Operand}{x y:Code}(d:ev L c=some (.bool b))(e:b=true->∀a,Fr n ds L a->BT P N X R (.c x k) a w)(f:b=false->∀a,Fr n ds L a->BT P N X R (.c y k) a w):∀a,Fr n ds L a->BT P N X R (.c (.cond c x y) k) a w:=Sh d e f
theorem Af{c:Operand}{x y:Code}{p:Prop}[hp:Decidable p](b:ev L c=some (.bool (decide p)))(d:p->∀a,Fr n ds L a->BT P N X R (.c x k) a w)(e:¬p->∀a,Fr n ds L a->BT P N X R (.c y k) a w):∀a,Fr n ds L a->BT P N X R (.c (.cond c x y) k) a w:=Gu b d e
theorem Ro{x y:Code}(M:Act->World->Prop)(h:∀a,Fr n ds L a->BT P M (kQ P N X R k).2 R (.c x .fin) a w)(h':∀a w,M a w->BT P N X R (.c y k) a w):∀a,Fr n ds L a->BT P N X R (.c (.seq x y) k) a w:=AcR M h h'
theorem AF{c:Code}{σ:Type}(d:σ->List (Nat×Value))(G:σ->World->Prop)(m:σ->Nat)(e:σ)
  (h₀:∀a,Fr n ds L a->Fr n ds (d e) a)(g:G e w)
  (b:∀s w,G s w->∀a,Fr n ds (d s) a->BT P (λa' w'=>∃f,Fr n ds (d f) a'/\G f w'/\m f<m s) (kQ P N X R k).2 R (.c c .fin) a w):∀a,Fr n ds L a->BT P N X R (.c (.loop c) k) a w:=Si d G m e h₀ g b
def IQ(ops:List Oper)(L:List (Nat×Value))(n:Nat)(o:Oper):Option Nat:=match o.dst with
 | some d=>match BN ops L o.guard with
  | true=>bif Nat.blt d n then some d else none
  | false=>none
 | none=>none
theorem Eg(h:IQ ops L n o=some d):BN ops L o.guard=true/\o.dst=some d/\Nat.blt d n=true:=by
 unfold IQ at h;split at h
 ·rename_i b c
  split at h
  ·rename_i a
   cases hb:Nat.blt b n with
   | true=>rw[hb] at h;simp at h;subst h;exact ⟨a,c,hb⟩
   | false=>rw[hb] at h;cases h
  cases h
 cases h
theorem Ad(h:IQ ops L n o=some d)(b:Av P (· =w) n ds L o v)(K:∀a',Fr n ds ((d,v)::L) a'->BT P N X R (.o ops rest k) a' w):∀a,Fr n ds L a->BT P N X R (.o ops (o::rest) k) a w:=s_do (Eg h).1 (Eg h).2.1 (Eg h).2.2 b K
theorem AU{Rr:Value->World->Prop}(h:IQ ops L n o=some d)(c:CA P n ds L o w Rr)(K:∀v b,Rr v b->∀a',Fr n ds ((d,v)::L) a'->BT P N X R (.o ops rest k) a' b):∀a,Fr n ds L a->BT P N X R (.o ops (o::rest) k) a w:=E4 (Eg h).1 (Eg h).2.1 (Eg h).2.2 c K
theorem KK{Rr:Value->World->Prop}(c:BN ops L o.guard=true)(d:o.dst=none)(h:CA P n ds L o w Rr)(K:∀v b,Rr v b->∀a,Fr n ds L a->BT P N X R (.o ops rest k) a b):∀a,Fr n ds L a->BT P N X R (.o ops (o::rest) k) a w:=Xg c d h K
theorem AC{Rr:World->Prop}(c:BN ops L o.guard=true)(d:o.dst=none)(h:DI P n ds L o w Rr)(K:∀b,Rr b->∀a,Fr n ds L a->BT P N X R (.o ops rest k) a b):∀a,Fr n ds L a->BT P N X R (.o ops (o::rest) k) a w:=F2 c d h K
theorem An{p:Prop}[Decidable p](t:Nat)(d:CD L t=some (.bool (decide p)))(c:p->∀a,Fr n ds ((t,.bool true)::L) a->BT P N X R (.o ops (o::rest) k) a w)(b:¬p->∀a,Fr n ds ((t,.bool false)::L) a->BT P N X R (.o ops (o::rest) k) a w):∀a,Fr n ds L a->BT P N X R (.o ops (o::rest) k) a w:=Sl t d c b
theorem FP(t:Nat)(e:CD L t=some (.bool b))(d:b=true->∀a,Fr n ds ((t,.bool true)::L) a->BT P N X R (.o ops (o::rest) k) a w)(c:b=false->∀a,Fr n ds ((t,.bool false)::L) a->BT P N X R (.o ops (o::rest) k) a w):∀a,Fr n ds L a->BT P N X R (.o ops (o::rest) k) a w:=Uq t e d c
variable{Γ pre R':List Ai}{post:Value->List Ai->Prop}{f:FuncId}{vs:List Value}
def Nm(ops:List Oper)(L:List (Nat×Value))(n:Nat)(o:Oper):Option (Nat×FuncId×List Value):=match IQ ops L n o with
 | some d=>match o.op with
  | .call ⟨.value (.func f),⟨xs⟩,_⟩=>match evs L xs with
   | some vs=>some (d,f,vs)
   | none=>none
  | _=>none
 | none=>none
theorem UK(h:Nm ops L n o=some (d,f,vs)):IQ ops L n o=some d/\∃xs tys,o.op=.call {callee:=.value (.func f),args:=(xs:List Operand).toArray,argTypes:=tys} /\evs L xs=some vs:=by
 unfold Nm at h;split at h
 ·rename_i g e
  split at h
  ·rename_i i xs tys b
   split at h
   ·rename_i c a
    simp only[Aeo,AfG] at h;obtain ⟨rfl,rfl,rfl⟩:=h;exact ⟨e,xs,tys,b,a⟩
   cases h
  cases h
 cases h
theorem Au(h:Nm ops L n o=some (d,f,vs))(j:∀w,(callFunc f vs.toArray).run P w=.ok (.enter f vs.toArray) w)(e:Cn P f vs pre post)(H:Sep z (pre++R') w)
  (K:∀v c Γ',post v Γ'->Sep z (Γ'++R') c->∀a',Fr n ds ((d,v)::L) a'->BT P N X R (.o ops rest k) a' c):∀a,Fr n ds L a->BT P N X R (.o ops (o::rest) k) a w:=by
 obtain ⟨b,xs,tys,i,g⟩:=UK h;exact Fv (Eg b).1 (Eg b).2.1 (Eg b).2.2 i g j e H Z K
theorem z_E_{G:List Ai}(h:Nm ops L n o=some (d,f,vs))(g:∀w,(callFunc f vs.toArray).run P w=.ok (.enter f vs.toArray) w)(c:Cn P f vs pre (λv X=>v=u/\X=G))(H:Sep z (pre++R') w)
  (K:∀b,Sep z (G++R') b->∀a',Fr n ds ((d,u)::L) a'->BT P N X R (.o ops rest k) a' b):∀a,Fr n ds L a->BT P N X R (.o ops (o::rest) k) a w:=
 Au h g c H λv b Γ' e=>by obtain ⟨rfl,rfl⟩:=e;exact K b
def LK(L:List (Nat×Value)):List ResultVar->Option (List Value)
 | []=>some []
 | .tmp t::rs=>match CD L t with
  | some v=>match LK L rs with
   | some vs=>some (v::vs)
   | none=>none
  | none=>none
 | _::_=>none
theorem LL{L:List (Nat×Value)}:∀{rs:List ResultVar} {vs:List Value},LK L rs=some vs->EO P L w rs vs
 | [],vs,h=>by simp only[LK,Aeo] at h;subst h;trivial
 | .tmp t::rs,vs,h=>by
  simp only[LK] at h;split at h
  ·rename_i v hv
   split at h
   ·rename_i us hu;cases h;exact ⟨hv,LL hu⟩
   cases h
  cases h
 | .cell _ _::_,_,h=>by simp[LK] at h
def Rp(L:List (Nat×Value))(rs:List ResultVar):Option Value:=match LK L rs with
 | some [v]=>some v
 | some vs=>some (.tuple vs.toArray)
 | none=>none
theorem P5{rs:List ResultVar}(h:Rp L rs=some v):∃vs,EO P L w rs vs/\G6 vs=v:=by
 unfold Rp at h;split at h
 ·rename_i u a;cases h;exact ⟨_,LL a,Z⟩
 ·rename_i vs b a;cases h;exact ⟨_,LL a,by cases vs with
   | nil=>rfl
   | cons x xs=>cases xs with
    | nil=>exact (b x Z).elim
    | cons y ys=>rfl⟩
 cases h
theorem Zr{b:Func}{R:Value->World->Prop}(h:Rp L b.results.toList=some v)(q:R v w):∀a,Fr n [] L a->BT P N X (Gh P b R) .r a w:=by
 obtain ⟨vs,c,d⟩:=P5 (P:=P) (w:=w) h;exact Ft O vs c d q
theorem Zf{b:Func}{R':Act->World->Prop}{R:Value->World->Prop}(h:Rp L b.results.toList=some v)(q:R v w):∀a,Fr n [] L a->BT P (Gh P b R) X R' (.n .fin) a w:=by
 obtain ⟨vs,c,d⟩:=P5 (P:=P) (w:=w) h;exact Ft O vs c d q

structure RmR where
 vs:List Value
 ok:Bool
 a:List (Nat×Nat)
def Iv(P:Program)(L:List (Nat×Value))(G:List Pt):List Nat->List ResultVar->Option RmR
 | _,[]=>some ⟨[],true,[]⟩
 | hs,.tmp t::rs=>match CD L t with
  | some v=>match Iv P L G hs rs with
   | some ⟨vs,ok,a⟩=>some ⟨v::vs,ok,a⟩
   | none=>none
  | none=>none
 | j::m::hs,.cell t ty::rs=>match CD L t with
  | some (.pointer (some ⟨b,p,none⟩))=>match G[j]? with
   | some (.b b' cs _)=>match Iv P L G hs rs with
    | some ⟨us,ok,a⟩=>G9 ((cs.drop p).take m) λvs=>some ⟨.agg vs.toArray::us,SL (Ij P ty) vs.length&&ok,(b,b')::a⟩
    | none=>none
   | _=>none
  | _=>none
 | _,_=>none
theorem LM{G:List Pt}(c:∀(j b:Nat) (cs:List Value) (ty:TypeId),G[j]?=some (Pt.b b cs ty)->Blk b cs ty w):∀{rs:List ResultVar} {hs:List Nat} {q:RmR},Iv P L G hs rs=some q->q.ok=true->B6 q.a->EO P L w rs q.vs
 | [],hs,q,h,_,_=>by simp only[Iv,Aeo] at h;subst h;trivial
 | .tmp t::rs,hs,q,h,hb,ha=>by
  simp only[Iv] at h;split at h
  ·rename_i v hv
   split at h
   ·rename_i hu;cases h;exact ⟨hv,LM c hu hb ha⟩
   cases h
  cases h
 | .cell t ty::rs,j::m::hs,q,h,hb,ha=>by
  simp only[Iv] at h;split at h
  ·rename_i b p hv
   split at h
   ·rename_i b' cs ty' hG
    split at h
    ·rename_i hu
     rw[E6] at h;cases h;simp only[AeF] at hb;have e:b=b':=ha.1;subst e;exact ⟨⟨b,p,hv,Pv (KI hb.1) (c _ _ _ _ hG) (by rw[AeA,List.take_eq_take_iff];simp)⟩,LM c hu hb.2 ha.2⟩
    cases h
   cases h
  cases h
 | .cell t ty::rs,[],q,h,_,_=>by simp[Iv] at h
 | .cell t ty::rs,[_],q,h,_,_=>by simp[Iv] at h
structure RvR where
 v:Value
 a:List Nat
 b:List Nat
def UL:Option RmR->Option RvR
 | some ⟨[v],true,a⟩=>some ⟨v,a.map Prod.fst,a.map Prod.snd⟩
 | some ⟨vs,true,a⟩=>some ⟨.tuple vs.toArray,a.map Prod.fst,a.map Prod.snd⟩
 | _=>none
theorem XZ{q:Option RmR}{al:List Nat}(h:UL q=some ⟨v,al,al⟩):∃vs a,q=some ⟨vs,true,a⟩/\B6 a/\G6 vs=v:=by
 unfold UL at h;split at h
 ·simp only[Aeo,RvR.mk.injEq] at h
  obtain ⟨rfl,b,c⟩:=h;exact ⟨_,_,Z,Dw (b.trans c.symm),Z⟩
 ·rename_i vs a d
  simp only[Aeo,RvR.mk.injEq] at h;obtain ⟨rfl,b,c⟩:=h;refine ⟨_,_,Z,Dw (b.trans c.symm),?_⟩
  cases vs with
  | nil=>rfl
  | cons x xs=>cases xs with
   | nil=>exact (d x Z).elim
   | cons y ys=>rfl
 cases h
theorem Zl(hs:List Nat){G:List Pt}{F:List Ai}{al:List Nat}(H:Sep z Γ w)[e:Rf Γ G F]{b:Func}{R:Value->World->Prop}(h:UL (Iv P L G hs b.results.toList)=some ⟨v,al,al⟩)(q:R v w):∀a,Fr n [] L a->BT P N X (Gh P b R) .r a w:=by
 obtain ⟨vs,a,c,d,f⟩:=XZ h;have H:Sep z (DQ G F) w:=e.e▸H;exact Ft O vs (LM (λ_ _ _ _ e=>H.blk _ (Dl e)) c Z d) f q
structure AlR where
 L:List (Nat×Value)
 Γ:List Ai
 ops:List Oper
 os:List Oper
 k:Kd
 d:Nat
 zs:List Value
 e:TypeId
 ob:Option Prop
 a:List Nat
 b:List Nat
def alc(P:Program)(n:Nat):Option FwR->Option AlR
 | some ⟨L,G,p,a,b,ob⟩=>match Xl p with
  | some (ops,o,os,k)=>match IQ ops L n o with
   | some d=>match o.op with
    | .alloc e=>match zeroCells P e with
     | some zs=>G9 zs.toList λzs=>some ⟨L,G,ops,os,k,d,zs,e,ob,a,b⟩
     | none=>none
    | .box e x=>match ev L x with
     | some v=>G9 (IP v) λzs=>some ⟨L,G,ops,os,k,d,zs,e,ob,a,b⟩
     | none=>none
    | _=>none
   | none=>none
  | none=>none
 | none=>none
theorem Aba{q:Option FwR}{L':List (Nat×Value)}{G':List Ai}{j:List Oper}{zs:List Value}{ob:Option Prop}{al:List Nat}(h:alc P n q=some ⟨L',G',ops,j,k,d,zs,T,ob,al,al⟩)(K:∀b w,Sep z (blk b zs T::G') w->∀x,Fr n ds ((d,Y b)::L') x->BT P N X R (.o ops j k) x w):
  ∃p',q=some ⟨L',G',p',al,al,ob⟩/\∀w,Sep z G' w->∀x,Fr n ds L' x->BT P N X R p' x w:=by
 unfold alc at h;split at h
 ·rename_i L1 G1 p a b m
  split at h
  ·rename_i l o r k1 t
   obtain rfl:=SM t;split at h
   ·rename_i d1 i
    split at h
    ·rename_i e1 f
     split at h
     ·rename_i c s
      rw[E6] at h;simp only[Aeo,AlR.mk.injEq] at h;obtain ⟨rfl,rfl,rfl,rfl,rfl,rfl,rfl,rfl,rfl,rfl,rfl⟩:=h;refine ⟨_,Z,λw H=>AU i (Ce H f (zs:=c.toList) (by simpa using s)) ?_⟩;rintro _ g ⟨b,rfl,e⟩;exact K b g e
     cases h
    ·rename_i e1 y f
     split at h
     ·rename_i v u
      rw[E6] at h;simp only[Aeo,AlR.mk.injEq] at h;obtain ⟨rfl,rfl,rfl,rfl,rfl,rfl,rfl,rfl,rfl,rfl,rfl⟩:=h;refine ⟨_,Z,λw H=>AU i (G8 H f u (P4 _)) ?_⟩;rintro _ g ⟨b,rfl,e⟩;exact K b g e
     cases h
    cases h
   cases h
  cases h
 cases h
theorem Za(m:Nat)(hs:List Nat){L':List (Nat×Value)}{G:List Pt}{G':List Ai}{p:Pos}{c:List Oper}{zs:List Value}{al:List Nat}{F:List Ai}(H:Sep z Γ w)[r:Rf Γ G F](h:alc P n (SO F (go P true n m hs [] L G p true [] none))=some ⟨L',G',ops,c,k,d,zs,T,none,al,al⟩)
  (K:∀b w,Sep z (blk b zs T::G') w->∀x,Fr n ds ((d,Y b)::L') x->BT P N X R (.o ops c k) x w):∀x,Fr n ds L x->BT P N X R p x w:=by
 obtain ⟨p',f,g⟩:=Aba h K;obtain ⟨a,G1,j,i,rfl⟩:=NN f;exact Is (UJ z F) m j Z i trivial g w (r.e▸H)
theorem gr(K:∀x,Fr n ds L x->R x w):∀x,Fr n ds L x->BT P N X R .r x w:=K
end
end
structure Sup where
 gen:Int
 epoch:Int
 pages:Int
 start:Int
 len:Int
 head:Int
 seq:Int
def Sup.list(s:Sup):List Int:=[s.gen,s.epoch,s.pages,s.start,s.len,s.head,s.seq]
def Sup.cells(s:Sup):List Value:=[.int .i64 s.gen,.int .i64 s.epoch,.int .i64 s.pages,.int .i64 s.start,.int .i64 s.len,.int .i64 s.head,.int .i64 s.seq]
def Sup.Ok(s:Sup)(n:Int):Prop:=(∀x∈s.list,0<=x/\x<=1099511627776)/\16<=s.pages/\s.pages<=1024/\2+s.pages<=s.start/\64<=s.len/\s.start<=n-s.len/\s.len<=n/\s.head<s.len
instance(s:Sup)(n:Int):Decidable (s.Ok n):=by unfold Sup.Ok;exact inferInstance
theorem Sup.get{s:Sup}{n:Int}(h:s.Ok n):(0<=s.gen/\s.gen<=1099511627776)/\(0<=s.epoch/\s.epoch<=1099511627776)/\(0<=s.pages/\s.pages<=1099511627776)/\(0<=s.start/\s.start<=1099511627776)/\(0<=s.len/\s.len<=1099511627776)/\(0<=s.head/\s.head<=1099511627776)/\(0<=s.seq/\s.seq<=1099511627776):=by
 have:=h.1;simpa [Sup.list] using this

structure Dsk where
 n:Nat
 dur:Nat->List UInt8
 ver:Nat->List (List UInt8)
 f1:Int
 f2:Int
 f3:Int
 cut:Bool
 left:Int
def Dsk.cont(D:Dsk)(i:Nat):List UInt8:=(D.ver i).getLast?.getD (D.dur i)
def Bm(f:Int):Int:=if f=0 then 0 else f-1
structure Ent where
 key:Nat
 v:Value
 pvs:List Value
 ps:List (List UInt8)
 born:Nat
def Ent.ie(e:Ent):IE:=((e.key:Int),e.v,e.born)
def Ent.row(e:Ent):Ai:=grow 47 1 e.v e.pvs.length e.pvs
def Ent.Ok(hq:Hp)(e:Ent):Prop:=e.pvs.length=e.ps.length/\e.ps≠[]/\∀(j:Nat) (pv:Value) (p:List UInt8),e.pvs[j]?=some pv->e.ps[j]?=some p->p.length=256/\rdH 1 pv 256 (p.map u8) hq
def poolA(hq:Hp):Ai:=λh=>CL hq h
structure Dsk.Ok(D:Dsk):Prop where
 n1:1<=D.n
 n2:D.n<=4096
 dur:∀i,i<D.n->(D.dur i).length=256
 ver:∀i,i<D.n->∀p∈D.ver i,p.length=256
 f1:0<=D.f1/\D.f1<=1099511627776
 f2:0<=D.f2/\D.f2<=1099511627776
 f3:0<=D.f3/\D.f3<=1099511627776
 left:0<=D.left/\D.left<=1099511627776
structure Dsk.In(D:Dsk)(bs:List UInt8)(es:List Ent)(clk:Nat)(hq:Hp):Prop where
 len:bs.length=D.n*256
 own:∀i,i<D.n->(bs.drop (i*256)).take 256=D.dur i
 ent:∀e∈es,e.key<D.n/\e.ps=D.ver e.key/\e.Ok hq
 all:∀i,i<D.n->D.ver i≠[]->∃e∈es,e.key=i
 nodup:(es.map Ent.key).Nodup
 born:(es.map Ent.born).Nodup
 clk:∀e∈es,e.born<clk
def EZ(pd bd m:Nat)(D:Dsk)(f0:Int)(bs:List UInt8)(es:List Ent)(clk:Nat)(hq:Hp):List Ai:=
  [blk pd [.slice (some ⟨bd,0,none⟩) (D.n*256) (D.n*256),.map (some m),.int .i64 f0,.int .i64 D.f1,.int .i64 D.f2,.int .i64 D.f3,.bool D.cut,.int .i64 D.left] 103,
   blk bd (bs.map u8) 5,AJ m (es.map Ent.ie) clk,poolA hq,seps (es.map Ent.row)]
def diskA(pd:Nat)(D:Dsk):Ai:=λh=>∃(bd m:Nat) (f0:Int) (bs:List UInt8) (es:List Ent) (clk:Nat) (hq:Hp),(D.Ok/\D.In bs es clk hq)/\seps (EZ pd bd m D f0 bs es clk hq) h
theorem diskA.ok{pd:Nat}{D:Dsk}(a:diskA pd D h):D.Ok:=by
 obtain ⟨_,_,_,_,_,_,_,hp,_⟩:=a;exact hp.1
structure DskX where
 bd:Nat
 m:Nat
 f0:Int
 bs:List UInt8
 es:List Ent
 clk:Nat
 hq:Hp
theorem Sep.disk{w:World}{pd:Nat}{D:Dsk}(H:Sep z (diskA pd D::Γ) w):∃bd m f0 bs es clk hq,D.Ok/\D.In bs es clk hq/\Sep z (EZ pd bd m D f0 bs es clk hq++Γ) w:=by
 obtain ⟨x,⟨b,c⟩,H⟩:=H.into (σ:=DskX) (p:=λx=>D.Ok/\D.In x.bs x.es x.clk x.hq) (As:=λx=>EZ pd x.bd x.m D x.f0 x.bs x.es x.clk x.hq)
  (λh a=>by obtain ⟨bd,m,f0,bs,es,clk,hq,hp,hs⟩:=a;exact ⟨⟨bd,m,f0,bs,es,clk,hq⟩,hp,hs⟩)
 exact ⟨_,_,_,_,_,_,_,b,c,H⟩
theorem Sep.toDisk{w:World}{pd bd:Nat}{D:Dsk}{f0:Int}{bs:List UInt8}{es:List Ent}{clk:Nat}{hq:Hp}(H:Sep z (EZ pd bd m D f0 bs es clk hq++Γ) w)(b:D.Ok)(c:D.In bs es clk hq):Sep z (diskA pd D::Γ) w:=
 H.shut.mono 0 Z (λh a=>⟨_,_,_,_,_,_,_,⟨b,c⟩,a⟩)
theorem get_ent:∀(es:List Ent) (k:Nat),(es.map Ent.key).Nodup->(CQ (es.map Ent.ie) (k:Int)=none/\∀e∈es,e.key≠k)\/∃(i:Nat) (e:Ent),es[i]?=some e/\e.key=k/\CQ (es.map Ent.ie) (k:Int)=some e.v
 | [],k,_=>.inl ⟨Z,λe h=>by cases h⟩
 | e::es,k,hn=>by
  simp only[AeM,Afk] at hn;simp only[AeM,CQ,Ent.ie];by_cases q:(k:Int)=(e.key:Int)
  ·exact .inr ⟨0,e,Z,by omega,by rw[if_pos q]⟩
  rw[if_neg q];rcases get_ent es k hn.2 with ⟨h1,h2⟩|⟨i,e',h1,h2,h3⟩
  ·exact .inl ⟨h1,λe' h=>by
    rcases Aeq.1 h with rfl|h
    ·intro q';exact q (by rw[q'])
    exact h2 e' h⟩
  exact .inr ⟨i+1,e',by simpa using h1,h2,h3⟩
theorem Rd.at{sz:Nat}{a:Option Addr}{c:Nat}{xs:List Value}{w:World}(r:Rd sz (.slice a n c) n xs w)(h:xs[j]?=some u):At a j u w:=by
 obtain ⟨b,c',e,_,_,_,d⟩:=r;cases e;exact d j u h
theorem FQ(hs:seps Γ h)(hi:Γ[i]?=some A):∃h',A h'/\CL h' h:=by
 obtain ⟨own,a⟩:=hs;exact ⟨_,a i A hi,λk o e=>(Em e).2⟩
theorem Abb{D:Dsk}{es:List Ent}{hq:Hp}(k:D.In B es m hq)(u:g<D.n):
  ∃v a,(CQ (es.map Ent.ie) (g:Int)).getD (.slice none 0 0)=v/\a.length=(D.ver g).length/\(∀h,seps (es.map Ent.row) h->rdH 1 v a.length a h)/\
   (∀(j:Nat) (b:Value) (p:List UInt8),a[j]?=some b->(D.ver g)[j]?=some p->∀h,poolA hq h->rdH 1 b 256 (p.map u8) h):=by
 rcases get_ent es g k.nodup with ⟨f,r⟩|⟨i,e,hi,l,f⟩
 ·have q:D.ver g=[]:=by
   cases hvk:D.ver g with
   | nil=>rfl
   | cons p ps=>
    obtain ⟨e,l,d⟩:=k.all g u (by rw[hvk];simp);exact absurd d (r e l)
  exact ⟨.slice none 0 0,[],by simp[f],by rw[q];rfl,λh _=>rdH.nil 1 h,λj b p h=>by simp at h⟩
 obtain ⟨_,o,x,z,w⟩:=k.ent e (Aeg hi);subst l;refine ⟨e.v,e.pvs,by simp[f],x.trans (congrArg _ o),λh hs=>?_,λj b p y hp h s=>((w j b p y (by rw[o];exact hp)).2).le s⟩;obtain ⟨h',t,c⟩:=FQ hs (i:=i) (A:=e.row) (by rw[Aer,hi];rfl);exact (grow.rd t).le c
def IR(D:Dsk)(k:Nat):Nat->List UInt8
 | 0=>D.dur k
 | _+1=>D.cont k
theorem J4{D:Dsk}(h:D.ver n=[]):D.cont n=D.dur n:=by simp[Dsk.cont,h]
theorem MD{D:Dsk}(a:n=(D.ver m).length)(h:(D.ver m)[n-1]?=some B):D.cont m=B:=by
 subst a;simp[Dsk.cont,List.getLast?_eq_getElem?,h]
theorem Dsk.In.f{D:Dsk}{bs:List UInt8}{es:List Ent}{clk:Nat}{hq:Hp}(h:D.In bs es clk hq)(a b c:Int)(d:Bool)(e:Int):Dsk.In {D with f1:=a,f2:=b,f3:=c,cut:=d,left:=e} bs es clk hq:=
 ⟨h.len,h.own,h.ent,h.all,h.nodup,h.born,h.clk⟩
theorem Dsk.Ok.f{D:Dsk}(h:D.Ok){a b c e:Int}{d:Bool}(i:0<=a/\a<=1099511627776)(j:0<=b/\b<=1099511627776)(g:0<=c/\c<=1099511627776)(k:0<=e/\e<=1099511627776):Dsk.Ok {D with f1:=a,f2:=b,f3:=c,cut:=d,left:=e} :=
 ⟨h.n1,h.n2,h.dur,h.ver,i,j,g,k⟩
theorem Fh(h:0<=t/\t<=1099511627776):0<=Bm t/\Bm t<=1099511627776:=by unfold Bm;split<;>omega
theorem Dsk.cont_len{D:Dsk}(h:D.Ok)(hi:i<D.n):(D.cont i).length=256:=by
 unfold Dsk.cont
 cases hl:(D.ver i).getLast? with
 | none=>exact h.dur i hi
 | some p=>exact h.ver i hi p (List.mem_of_getLast? hl)
variable{D:Dsk}
abbrev stB(ps pd pt:Nat)(x:Sup)(lp:Value)(md:Nat)(un:Bool)(mo:Value):Ai:=blk ps [.pointer (some ⟨pd,0,none⟩),.pointer (some ⟨pt,0,none⟩),.int .i64 x.gen,.int .i64 x.epoch,.int .i64 x.pages,.int .i64 x.start,.int .i64 x.len,.int .i64 x.head,.int .i64 x.seq,lp,.map (some md),.bool un,mo] 157
abbrev lgB(pl pd pt:Nat)(s:Sup)(a q u:Int)(b nu:Bool):Ai:=blk pl [.pointer (some ⟨pd,0,none⟩),.pointer (some ⟨pt,0,none⟩),.int .i64 s.gen,.int .i64 s.epoch,.int .i64 s.pages,.int .i64 s.start,.int .i64 s.len,.int .i64 s.head,.int .i64 s.seq,.int .i64 a,.int .i64 q,.int .i64 u,.bool b,.bool nu] 245
theorem Ci:Elt prog 59 (.agg #[I 0,I 0,I 0,I 0,I 0,I 0]) 6 48:=Elt.mk J Z U U
theorem BC:Elt prog 3 (I 0) 1 8:=Elt.mk J Z U U
theorem CM:Elt prog 5 (u8 0) 1 1:=Elt.mk J Z U U
theorem A0:Elt prog 62 (.agg #[I 0,I 0,I 0,.slice none 0 0]) 4 48:=Elt.mk J Z U U
theorem A8:Elt prog 146 (.agg #[I 0,Cl []]) 2 24:=Elt.mk J Z U U
theorem FI:Elt prog 212 (.agg #[I 0,I 0]) 2 16:=Elt.mk J Z U U
theorem Fx:Elt prog 165 (.agg #[I 0,.slice none 0 0]) 2 32:=Elt.mk J Z U U
theorem DB:Elt prog 167 (.agg #[I 0,I 0,.slice none 0 0]) 3 40:=Elt.mk J Z U U
theorem KL:Elt prog 47 (.slice none 0 0) 1 24:=Elt.mk J Z U U
theorem CY:Ak 98 [I t,I s] [] (λv G=>v=.bool (decide (0<=t/\t<=s))/\G=[]):=by
 intro z R w H;refine Ae func98 Z ntmps98 Z (Z0 10 [0] Z (An 7 Z (λa=>?_) (λa=>?_)))
 ·refine Z0 8 [0] Z (Zr Z ?_);exact ⟨_,⟨congrArg Value.bool (by rw[Aez];simp<;>omega),Z⟩,H⟩
 refine Zc 8 Z (Zr Z ?_);exact ⟨_,⟨congrArg Value.bool (by rw[Aez];simp<;>omega),Z⟩,H⟩
theorem KM(pd bd m N:Nat)(f0 d c b lf:Int)(a:Bool)(hN:N<=9223372036854775807):Ak 89 [Y pd] [blk pd [.slice (some ⟨bd,0,none⟩) N N,.map (some m),I f0,I d,I c,I b,.bool a,I lf] 103] (λv G=>v=I ((N:Int)/256)/\G=[blk pd [.slice (some ⟨bd,0,none⟩) N N,.map (some m),I f0,I d,I c,I b,.bool a,I lf] 103]):=by
 intro z R w H;refine Ae func89 Z ntmps89 Z (Z3 17 [0,0,0] [(N:Int)/256] H Z U (Zr Z ?_));exact ⟨_,⟨Z,Z⟩,H⟩
theorem P6{lf:Int}{x k:Int}(hN:j<=9223372036854775807):Ak 146 [Y n,I x,I k] [blk n [.slice (some ⟨i,0,none⟩) j j,.map (some m),I t,I s,I p,I q,.bool b,I lf] 103] (λv G=>v=.bool (decide (0<=x/\0<k/\x<(j:Int)/256/\k<=(j:Int)/256-x))/\G=[blk n [.slice (some ⟨i,0,none⟩) j j,.map (some m),I t,I s,I p,I q,.bool b,I lf] 103]):=by
 intro z R w H;refine Ae func146 Z ntmps146 Z (Z0 10 [0] Z (An 9 Z (λa=>?_) (λa=>?_)))
 ·refine Z0 4 [0] Z (An 13 Z (λc=>?_) (λc=>?_))
  ·refine Zc 2 Z (z_E_ Z (call89 _) (KM _ _ _ _ _ _ _ _ _ _ U) H ?_);intro w H;refine Z0 3 [0] Z (An 19 Z (λd=>?_) (λd=>?_))
   ·refine Zc 2 Z (z_E_ Z (call89 _) (KM _ _ _ _ _ _ _ _ _ _ U) H ?_);intro w H;refine Z1 8 [0] [((j:Int)/256)-x] Z U (Zr Z ?_);exact ⟨_,⟨congrArg Value.bool (by first|(rw[eq_comm,decide_eq_false_iff_not];omega)|(rw[Aez];simp<;>omega)),Z⟩,H⟩
   refine Zc 11 Z (Zr Z ?_);exact ⟨_,⟨congrArg Value.bool (by first|(rw[eq_comm,decide_eq_false_iff_not];omega)|(rw[Aez];simp<;>omega)),Z⟩,H⟩
  refine Zc 17 Z (Zr Z ?_);exact ⟨_,⟨congrArg Value.bool (by first|(rw[eq_comm,decide_eq_false_iff_not];omega)|(rw[Aez];simp<;>omega)),Z⟩,H⟩
 refine Zc 21 Z (Zr Z ?_);exact ⟨_,⟨congrArg Value.bool (by first|(rw[eq_comm,decide_eq_false_iff_not];omega)|(rw[Aez];simp<;>omega)),Z⟩,H⟩
theorem SP{lf:Int}:Ak 148 [Y n] [blk n [.slice (some ⟨i,0,none⟩) j j,.map (some m),I t,I s,I p,I q,.bool b,I lf] 103] (λv G=>v=.bool (b&&decide (lf=0))/\G=[blk n [.slice (some ⟨i,0,none⟩) j j,.map (some m),I t,I s,I p,I q,.bool b,I lf] 103]):=by
 intro z R w H;refine Ae func148 Z ntmps148 Z (Z2 12 [6,0,0] H Z (FP 7 Z (λa=>?_) (λa=>?_)))
 ·refine Z2 10 [7,0,0,0] H Z (Zr Z ?_);exact ⟨_,⟨congrArg Value.bool (by simp_all),Z⟩,H⟩
 refine Zc 10 Z (Zr Z ?_);exact ⟨_,⟨congrArg Value.bool (by simp_all),Z⟩,H⟩
theorem UM{lf:Int}(c:0<=s/\s<=9223372036854775807):Ak 147 [Y n,I 1] [blk n [.slice (some ⟨i,0,none⟩) j j,.map (some m),I t,I s,I p,I q,.bool b,I lf] 103] (λv G=>v=.bool (decide (s=1))/\G=[blk n [.slice (some ⟨i,0,none⟩) j j,.map (some m),I t,I (if s=0 then 0 else s-1),I p,I q,.bool b,I lf] 103]):=by
 intro z R w H;refine Ae func147 Z ntmps147 Z (Z3 17 [2,4,1,1,3,0,0,0] [] H Z U (Af Z (λa=>?_) (λa=>?_)))
 ·refine Zc 6 Z (Zr Z ?_);exact ⟨[blk n [.slice (some ⟨i,0,none⟩) j j,.map (some m),I t,I s,I p,I q,.bool b,I lf] 103],⟨congrArg Value.bool (by first|(rw[Aez];simp<;>omega)|(simp_all<;>omega)),by simp_all⟩,H⟩
 refine Zc 3 Z (BJ 10 J J (A4 H λw d=>?_));have H:=d.l1;refine ER 10 [2,4,1,1,3,0,0,2,4,1,1,3] [s-1] H Z J U (CG (gw (Z5 16 [0,2,4,1,1,3,0,0,0] [] H Z U ?_)));intro w H;refine Zr Z ?_;exact ⟨[blk n [.slice (some ⟨i,0,none⟩) j j,.map (some m),I t,I (s-1),I p,I q,.bool b,I lf] 103],⟨congrArg Value.bool (by first|(rw[Aez];simp<;>omega)|(simp_all<;>omega)),by simp_all⟩,H⟩
theorem UN{lf:Int}(c:0<=p/\p<=9223372036854775807):Ak 147 [Y n,I 2] [blk n [.slice (some ⟨i,0,none⟩) j j,.map (some m),I t,I s,I p,I q,.bool b,I lf] 103] (λv G=>v=.bool (decide (p=1))/\G=[blk n [.slice (some ⟨i,0,none⟩) j j,.map (some m),I t,I s,I (if p=0 then 0 else p-1),I q,.bool b,I lf] 103]):=by
 intro z R w H;refine Ae func147 Z ntmps147 Z (Z3 17 [2,4,1,2,4,0,0,0] [] H Z U (Af Z (λa=>?_) (λa=>?_)))
 ·refine Zc 6 Z (Zr Z ?_);exact ⟨[blk n [.slice (some ⟨i,0,none⟩) j j,.map (some m),I t,I s,I p,I q,.bool b,I lf] 103],⟨congrArg Value.bool (by first|(rw[Aez];simp<;>omega)|(simp_all<;>omega)),by simp_all⟩,H⟩
 refine Zc 3 Z (BJ 10 J J (A4 H λw d=>?_));have H:=d.l1;refine ER 10 [2,4,1,2,4,0,0,2,4,1,2,4] [p-1] H Z J U (CG (gw (Z5 16 [0,2,4,1,2,4,0,0,0] [] H Z U ?_)));intro w H;refine Zr Z ?_;exact ⟨[blk n [.slice (some ⟨i,0,none⟩) j j,.map (some m),I t,I s,I (p-1),I q,.bool b,I lf] 103],⟨congrArg Value.bool (by first|(rw[Aez];simp<;>omega)|(simp_all<;>omega)),by simp_all⟩,H⟩
theorem UO{lf:Int}(c:0<=q/\q<=9223372036854775807):Ak 147 [Y n,I 3] [blk n [.slice (some ⟨i,0,none⟩) j j,.map (some m),I t,I s,I p,I q,.bool b,I lf] 103] (λv G=>v=.bool (decide (q=1))/\G=[blk n [.slice (some ⟨i,0,none⟩) j j,.map (some m),I t,I s,I p,I (if q=0 then 0 else q-1),.bool b,I lf] 103]):=by
 intro z R w H;refine Ae func147 Z ntmps147 Z (Z3 17 [2,4,1,3,5,0,0,0] [] H Z U (Af Z (λa=>?_) (λa=>?_)))
 ·refine Zc 6 Z (Zr Z ?_);exact ⟨[blk n [.slice (some ⟨i,0,none⟩) j j,.map (some m),I t,I s,I p,I q,.bool b,I lf] 103],⟨congrArg Value.bool (by first|(rw[Aez];simp<;>omega)|(simp_all<;>omega)),by simp_all⟩,H⟩
 refine Zc 3 Z (BJ 10 J J (A4 H λw d=>?_));have H:=d.l1;refine ER 10 [2,4,1,3,5,0,0,2,4,1,3,5] [q-1] H Z J U (CG (gw (Z5 16 [0,2,4,1,3,5,0,0,0] [] H Z U ?_)));intro w H;refine Zr Z ?_;exact ⟨[blk n [.slice (some ⟨i,0,none⟩) j j,.map (some m),I t,I s,I p,I (q-1),.bool b,I lf] 103],⟨congrArg Value.bool (by first|(rw[Aez];simp<;>omega)|(simp_all<;>omega)),by simp_all⟩,H⟩
theorem Xp{a c lf:Int}(i:Nat)(hN:e<=9223372036854775807)(hi:(i+1)*256<=e):Ak 151 [Y n,I (i:Int)] [blk n [.slice (some ⟨j,0,none⟩) e e,.map (some m),I t,I s,I a,I c,.bool b,I lf] 103] (λv G=>v=.slice (some ⟨j,i*256,none⟩) 256 (e-i*256)/\G=[blk n [.slice (some ⟨j,0,none⟩) e e,.map (some m),I t,I s,I a,I c,.bool b,I lf] 103]):=by
 intro z R w H;refine Ae func151 Z ntmps151 Z (Z3 16 [0,0,0] [(i:Int)*256,(i:Int)+1,((i:Int)+1)*256] H Z U (Ad Z (BM Z (z:=1) (p:=(i*256)) (q:=((i+1)*256)) (o':=i*256) (l':=256) (c':=e-i*256) J Z (.inr ⟨_,_,_,Z,Z,U⟩) (.inr ⟨_,_,_,Z,Z,U⟩) U U U U U U) (Zc 4 Z (Zr Z ?_))));exact ⟨_,⟨Z,Z⟩,H⟩
section
abbrev FX(ro:Option Nat):Fence:= {Fence.wide with round:=ro}
def RW(P:Program)(ro:Option Nat)(c:Code)(Q:Exit->Act->World->Prop)(a:Act)(w:World):Prop:=c.wpIn (FX ro) 0 P Q a w
section
variable{P:Program}{ro:Option Nat}{N R:Act->World->Prop}{X:Nat->Act->World->Prop}{a:Act}{w:World}{n:Nat}{ds:List Deferred}{L:List (Nat×Value)}
theorem CT{x y:Code}(h:∀a,Fr n ds L a->RW P ro x (Qp (λa w=>RW P ro y (Qp N X R) a w) X R) a w):∀a,Fr n ds L a->RW P ro (Code.seq x y) (Qp N X R) a w:=λa b=>
 wpIn_seq (wpIn_mono (h a b) λe a w q=>by cases e<;>exact q)
theorem Gw(h:∀a,Fr n ds L a->N a w):∀a,Fr n ds L a->RW P ro Code.skip (Qp N X R) a w:=λa b=>wpIn_skip (h a b)
theorem LN(h:∀a,Fr n ds L a->X m a w):∀a,Fr n ds L a->RW P ro (Code.exit m) (Qp N X R) a w:=λa b=>wpIn_exit (h a b)
theorem Ea{c:Code}(h:∀a,Fr n ds L a->RW P ro c (Qp N (upd X m N) R) a w):∀a,Fr n ds L a->RW P ro (Code.block m c) (Qp N X R) a w:=λa b=>
 wpIn_block (wpIn_mono (h a b) λe a w q=>by cases e<;>exact q)
theorem X0{c:Operand}{x y:Code}(d:ev L c=some (.bool true))(h:∀a,Fr n ds L a->RW P ro x (Qp N X R) a w):∀a,Fr n ds L a->RW P ro (Code.cond c x y) (Qp N X R) a w:=λa b=>wpIn_cond_true (b.ev d) (h a b)
theorem Iw{c:Operand}{x y:Code}(d:ev L c=some (.bool false))(h:∀a,Fr n ds L a->RW P ro y (Qp N X R) a w):∀a,Fr n ds L a->RW P ro (Code.cond c x y) (Qp N X R) a w:=λa b=>wpIn_cond_false (b.ev d) (h a b)
theorem Jn{c:Operand}{x y:Code}(d:ev L c=some (.bool b))(e:b=true->∀a,Fr n ds L a->RW P ro x (Qp N X R) a w)(f:b=false->∀a,Fr n ds L a->RW P ro y (Qp N X R) a w):∀a,Fr n ds L a->RW P ro (Code.cond c x y) (Qp N X R) a w:=by
 cases b with
 | true=>exact X0 d (e Z)
 | false=>exact Iw d (f Z)
theorem Abc{c:Operand}{x y:Code}{p:Prop}[hp:Decidable p](b:ev L c=some (.bool (decide p)))(d:p->∀a,Fr n ds L a->RW P ro x (Qp N X R) a w)(e:¬p->∀a,Fr n ds L a->RW P ro y (Qp N X R) a w):∀a,Fr n ds L a->RW P ro (Code.cond c x y) (Qp N X R) a w:=
 Jn b (λh=>d (of_decide_eq_true h)) (λh=>e (of_decide_eq_false h))
theorem LO{c:Code}{σ:Type}(i:σ->List (Nat×Value))(G:σ->World->Prop)(m:σ->Nat)(q:σ)
  (h₀:∀a,Fr n ds L a->Fr n ds (i q) a)(g₀:G q w)
  (g:∀s w,G s w->∀a,Fr n ds (i s) a->RW P ro c (Qp (λa' h=>∃j,Fr n ds (i j) a'/\G j h/\m j<m s) X R) a w):∀a,Fr n ds L a->RW P ro (Code.loop c) (Qp N X R) a w:=by
 intro a hF b k cs a0 r t;have key:∀n' s a w,m s=n'->Fr n ds (i s) a->G s w->
   ∃e a' h,Qp N X R e a' h/\ArrivesIn (Machine.fenced P (FX ro)) P (lone (b.atR a (.code c:: .inLoop c::k)) cs w) b k cs e a' h:=by
  intro n'
  induction n' using Nat.strongRecOn with
  | _ n' ih=>
   intro s a w hn hI hG;obtain ⟨e,z,u,hq,d⟩:=g s w hG a hI b (.inLoop c::k) cs a0 r t
   cases e with
   | normal=>
    obtain ⟨s₁,p,y,o⟩:=hq;obtain ⟨e₂,a₂,w₂,v,f⟩:=ih (m s₁) (hn▸o) s₁ z u Z p y;exact ⟨e₂,a₂,w₂,v,.of_steps (StepsIn.trans d (.one (fenced_calm r t Z) stepR_inLoop)) f⟩
   | exit id=>exact ⟨.exit id,z,u,hq,.pass (x:=.inLoop c) Z (λ_ _=>.inl O) d⟩
   | ret=>exact ⟨.ret,z,u,hq,.pass (x:=.inLoop c) Z (λ_ _=>.inl O) d⟩
   | goto l=>exact hq.elim
   | panic ch=>exact hq.elim
   | outgrown=>exact hq.elim
 obtain ⟨e,a',h,hq,d⟩:=key _ q a w Z (h₀ a hF) g₀;exact ⟨e,a',h,hq,.of_steps (.one (fenced_calm r t Z) stepR_loop) d⟩

def Dh(o:Oper):Bool:=match o.op with| .defer _=>false|_=>true
theorem Rq{o:Oper}(h:Dh o=true):∀c,o.op≠ .defer c:=λc e=>by rw[Dh,e] at h;cases h
theorem NO(o:Oper)(h:Dh o=true)(ρ:Operand->Value):Oper.semAt ro ρ o=execOp ρ o:=by
 cases ro with
 | none=>rfl
 | some l=>exact Oper.semAt_some l ρ o (Rq h)
theorem UP{f:FuncId}{args:Array Value}{E:Ending->World->Prop}(h:Calls P f args w E):CallsIn (FX ro) m P f args w E:=callsIn_wide.2 h
theorem X1{a:String}{args:Array Value}(h:Rows P a args w K):RowsIn (FX ro) m P a args w K:=λc cs _=>
 let ⟨v,w',r,s⟩:=h c cs;⟨v,w',r,stepsIn_wide.2 s⟩
theorem P7{o:Oper}(c:Dh o=true){K:Act->World->Prop}(h:o.wp P a w K (Qp N X R)):o.wpIn (FX ro) 0 P a w K (Qp N X R):=by
 refine ⟨λ_ _=>trivial,?_⟩;rw[show (FX ro).round=ro from Z,NO o c];unfold Oper.wp at h
 cases hr:(execOp a.eval o).run P w with
 | ok x w'=>
  rw[hr] at h;cases x<;>simp only[Oper.upon,Oper.uponIn] at h ⊢ <;>first
   | exact h
   | exact h.elim
   | exact ⟨λq=>(by cases q),UP (Agx h λe b q=>by cases e<;>exact q)⟩
   | exact ⟨λq=>(by cases q),X1 h⟩
 | halt x w'=>
  rw[hr] at h;cases x<;>simp only[Oper.upon,Oper.uponIn] at h ⊢ <;>first
   | exact h
   | exact h.elim
theorem SQ{Q:Exit->Act->World->Prop}{N R:Act->World->Prop}{X:Nat->Act->World->Prop}(b:Q=Qp N X R):¬LetsOut Q:=by
 subst b;rintro ⟨a,w,h⟩;exact h
theorem LP{ops:Array Oper}:∀(l:List Oper) (a:Act) (w:World),l.all Dh=true->wpList P ops (Qp N X R) l a w->wpListIn (FX ro) 0 P ops (Qp N X R) l a w
 | [],_,_,_,h=>h
 | o::rest,a,w,hd,h=>by
  simp only[List.all_cons,AeF] at hd;unfold wpList at h;unfold wpListIn;split
  ·rename_i hw
   rw[if_pos hw] at h;rcases h with h|⟨_,h⟩
   ·exact Oper.wpIn_mono (λa w q=>LP rest a w hd.2 q) (P7 hd.1 h)
   exact absurd h (SQ Z)
  rename_i hw;rw[if_neg hw] at h;exact ⟨λ_ _=>trivial,LP rest _ _ hd.2 h⟩
theorem Cg{id:Nat}{ops:List Oper}(h:∀a,Fr n ds L a->wpList P ops.toArray (Qp N X R) ops a w)(b:ops.all Dh=true:=by rfl):∀a,Fr n ds L a->RW P ro (Code.region id ops.toArray false) (Qp N X R) a w:=λa c=>
 wpIn_region_lit (LP ops a w b (h a c))
theorem Ac5{ops:Array Oper}(d:ops.toList.all Dh=true){K:Act->World->Prop}(h:wpOp P ops (Qp N X R) i K a w):wpOpIn (FX ro) 0 P ops (Qp N X R) i K a w:=by
 unfold wpOp at h;unfold wpOpIn;split
 ·rename_i e;rw[e] at h;exact h
 rename_i o e;rw[e] at h;simp only at h;have c:Dh o=true:=Af4.1 d o (by
  have:=Array.mem_of_getElem? e;simpa using this)
 split
 ·rename_i b
  rw[if_pos b] at h;rcases h with h|⟨_,h⟩
  ·exact P7 c h
  exact absurd h (SQ Z)
 rename_i b;rw[if_neg b] at h;exact ⟨λ_ _=>trivial,h⟩
theorem NP{ops:Array Oper}(hd:ops.toList.all Dh=true):∀(fuel:Nat) (listed:Array Bool) (a:Act) (w:World),wpAny P .any ops (Qp N X R) fuel listed a w->wpAnyIn (FX ro) 0 P .any ops (Qp N X R) fuel listed a w
 | 0,_,_,_,h=>h
 | fuel+1,_,_,_,h=>⟨h.1,λi hi=>wpOpIn_mono (λa w q=>NP hd fuel _ a w q) (Ac5 hd (h.2 i hi))⟩
theorem IS{id:Nat}{ops:List Oper}(S:World->Prop)(k:Nat)(c:ops.length=k)(e:P.follows .mixedOrders=true)
  (h:∀b,Ext No w b->b.heap.size=w.heap.size->∀a,Fr n ds L a->GH P ops (Qp N X R) S k (Array.replicate k false) a b)(f:ops.all Dh=true:=by rfl):∀a,Fr n ds L a->RW P ro (Code.region id ops.toArray true) (Qp N X R) a w:=λa d=>
 wpIn_region_any e (NP (by simpa using f) _ _ _ _ (Il (S:=S) _ _ _ _ (by have:=h _ (Ext.drawn No w) Z a d (Dc.start _ _) (by simp[c]);simpa [c] using this)))
theorem SR{id:Nat}{ops:List Oper}(C:World->Prop)(i:P.follows .mixedOrders=true)(f:Region.lexB .any ops.toArray=true)(e:C w.drew)
  (h:∀a,Fr n ds L a->wpQuiet P ops.toArray C (λa'=>∀c,C c->N a' c) ops a)(j:ops.all Dh=true:=by rfl):∀a,Fr n ds L a->RW P ro (Code.region id ops.toArray true) (Qp N X R) a w:=λa g=>by
 refine wpIn_region_any i (NP (by simpa using j) _ _ _ _ ?_);have b:=f;simp only[Region.lexB,AeF] at b;refine wpAny_of_quiet (C:=C) (Q:=λa'=>∀c,C c->N a' c) (λ_ c d h=>h c d) _ _ _ _ e ?_;have:=wpAnyQ_lex (C:=C) (md:=.any) b.1 ops.toArray.toList 0 (Array.replicate ops.toArray.size false) a O (by simpa using b.2) (h a g);simpa using this

section steps
variable{ops:List Oper}{Q:Exit->Act->World->Prop}{rest:List Oper}{o:Oper}{d:Nat}{v:Value}
theorem J5(h:∀a,Fr n ds L a->wpListIn (FX ro) 0 P ops.toArray (Qp N X R) ops a w):∀a,Fr n ds L a->RW P ro (Code.region m ops.toArray false) (Qp N X R) a w:=λa b=>wpIn_region_lit (h a b)
theorem Rs(h:∀a,Fr n ds L a->N a w):∀a,Fr n ds L a->wpListIn (FX ro) 0 P ops.toArray (Qp N X R) [] a w:=h
theorem Es(g:BN ops L o.guard=true)(h:o.dst=some d)(f:Nat.blt d n=true)(e:Av P (· =w) n ds L o v)(K:∀a',Fr n ds ((d,v)::L) a'->wpListIn (FX ro) 0 P ops.toArray Q rest a' w)(b:Dh o=true:=by rfl):∀a,Fr n ds L a->wpListIn (FX ro) 0 P ops.toArray Q (o::rest) a w:=by
 intro a c;unfold wpListIn;rw[if_pos (wantL_ok c g)];refine ⟨λ_ _=>trivial,?_⟩;rw[show (FX ro).round=ro from Z,NO o b,e a c w Z,Oper.uponIn_value,h];exact K _ (c.put d v f)
theorem LQ{l:Nat}{x:Operand}{args:List Operand}{vs:List Value}{tys:Array TypeId}{E:Ending->World->Prop}(hw:BN ops L o.guard=true)(hd:o.dst=some d)(m:Nat.blt d n=true)
  (s:o.op=.call {callee:=.value x,args:=args.toArray,argTypes:=tys})(z:ev L x=some (.func (.yield l) #[] #[]))(g:evs L args=some vs)(j:YieldAt (FX none) 0 P l vs.toArray w E)
  (t:∀e k,E e k->∃v,e=.returned v/\∀a',Fr n ds ((d,v)::L) a'->wpListIn (FX ro) 0 P ops.toArray Q rest a' k):∀a,Fr n ds L a->wpListIn (FX ro) 0 P ops.toArray Q (o::rest) a w:=by
 intro a i;obtain ⟨r,f,b,c,j,u⟩:=j;have p:Dh o=true:=by rw[Dh,s]
 unfold wpListIn;rw[if_pos (wantL_ok i hw)];refine ⟨λ_ _=>trivial,?_⟩;have e1:=i.evs g;have e2:=i.ev z;have h:(execOp a.eval o).run P w=.ok (.round l r f b c) w:=by
  unfold execOp;simp only[s,resolve,e2,Deferred.ofValue,invoke];simp only[go_sem,AeZ,e1,AeT,AeY,j];simpa using j
 rw[show (FX ro).round=ro from Z,NO o p,h,Oper.uponIn_round];refine ⟨λq=>(by cases q),RoundIn.mono (show RoundIn (FX ro) 0 P l r f b c w E from u) λe k q=>?_⟩;obtain ⟨v,rfl,y⟩:=t e k q;simp only[hd];exact y _ (i.put d v m)
end steps
end

def It(P:Program)(gf:FuncId)(lb:List Value)(pre:List Ai)(vs:List (List Value)):Prop:=
 ∀(z:World) (l:Nat) (J_:Nat->List Ai),(∀i v,vs[i]?=some v->∀w,Sep z (pre++J_ i) w->YieldAt (FX none) 0 P l v.toArray w (λe w'=>e=.returned (.bool true)/\Sep z (pre++J_ (i+1)) w'))->
  ∀w,Sep z (pre++J_ 0) w->CallsIn (FX none) 0 P gf (#[Value.func (.yield l) #[] #[]]++lb.toArray) w (λe w'=>(∃v,e=.returned v)/\Sep z (pre++J_ vs.length) w')
theorem J6{P:Program}{gf:FuncId}{d:Func}{c:Code}{args:List Value}{w:World}{T:World->Prop}(j:P.funcs[gf]?=some d)(g:d.body=some c)(f:d.results= #[])(n:Nat)(i:d.ntmps=n)(b:Nat.ble args.length n=true)
  (h:∀a,Fr n [] (first 0 args) a->RW P none c (Qp (λa w=>a.defers=[]/\T w) IJ (λa w=>a.defers=[]/\T w)) a w):CallsIn (FX none) 0 P gf args.toArray w (λe w'=>(∃v,e=.returned v)/\T w'):=by
 refine callsIn_of_wp j g trivial (wpIn_mono (h _ (by rw[i];exact Fr.start args n (by simpa using b))) λe a w q=>?_) Z
 cases e with
 | normal=>exact ⟨q.1,.tuple #[],by simp[results,f,go_sem],⟨_,Z⟩,q.2⟩
 | ret=>exact ⟨q.1,.tuple #[],by simp[results,f,go_sem],⟨_,Z⟩,q.2⟩
 | exit id=>exact q.elim
 | goto l=>exact q.elim
 | panic ch=>exact q.elim
 | outgrown=>exact q.elim
def mark(D:Nat):Deferred:= {target:=.collected D,args:= #[]}
def B7(st:LoopState)(fn:FuncId)(tmps:Array Value)(t:Nat)(assign body:Code)(D:Nat):Obj:=.loop {state:=st,pending:=none,fn,tmps,params:= #[t],assign,body,defers:=D}
theorem Sep.setObj{w:World}(i:Nat){b:Nat}{o:Obj}(o':Obj)(H:Sep z Γ w)(c:Γ[i]?=some (YtkblhjdljaoghaaGreatDoor.bk b o)):Sep z (Γ.set i (YtkblhjdljaoghaaGreatDoor.bk b o')) (w.putObj b o'):=by
 have e:=H.bk i c;have a:b<w.heap.size:=(Ae4.1 e).1;exact H.write i c Z Z Z (World.putObj_heap_same a) (λk d=>World.putObj_heap_other d)
theorem X2{P:Program}{N R:Act->World->Prop}{X:Nat->Act->World->Prop}{w:World}{n:Nat}{ds:List Deferred}{L:List (Nat×Value)}{g:Operand}{assign body:Code}{gf:FuncId}{vs:List Value}
  (J_:Nat->List Ai)(hg:ev L g=some (.func (.func gf) #[] V.toArray))(eg:∀args w,(callFunc gf args).run P w=.ok (.enter gf args) w)(ht:Nat.blt m n=true)(a0:It P gf V Γ (vs.map λv=>[v]))(H:Sep z (J_ 0++Γ) w)
  (c:∀(ro:Option Nat) (i:Nat) (v:Value),vs[i]?=some v->∀w a,Fr n [] ((m,v)::L) a->
   RW P ro assign (Qp (λa1 w1=>w1=w/\∀(F:List Ai) (w:World),Sep z (J_ i++(Γ++F)) w->RW P ro body (Qp (λ_ s=>Sep z (J_ (i+1)++(Γ++F)) s) IJ (λ_ _=>False)) a1 w) IJ (λ_ _=>False)) a w)
  (K:∀D w',Sep z (YtkblhjdljaoghaaGreatDoor.bk D (.deferred (some []))::(J_ vs.length++Γ)) w'->∀a,Fr n (mark D::ds) L a->N a w'):
  ∀a,Fr n ds L a->(Code.rangeFunc g #[m] assign body).wp P (Qp N X R) a w:=by
 intro a r;refine (wpIn_wide (n:=0)).1 ?_;refine wpIn_rangeFunc ?_;intro fn _;have a2:Fence.wide.round=none:=rfl;rw[a2];obtain ⟨W1,j⟩:∃W1,(w.alloc (.deferred (some []))).alloc (B7 .ready fn a.tmps m assign body w.heap.size)=W1:=⟨_,Z⟩;obtain ⟨D,hD⟩:∃D,D=w.heap.size:=⟨_,Z⟩;obtain ⟨T,y⟩:∃T:List Ai,T=[YtkblhjdljaoghaaGreatDoor.bk D (.deferred (some [])),YtkblhjdljaoghaaGreatDoor.bk (D+1) (B7 .ready fn a.tmps m assign body D)]:=⟨_,Z⟩;have H1:Sep z (Γ++(T++J_ 0)) W1:=by
  have h1:=H.new (b:=w.heap.size) (o:=.deferred (some [])) (Dv w (.deferred (some []))) (Ael _) (by show (w.heap.push _)[w.heap.size]?=_;simp);have h2:=h1.new (b:=w.heap.size+1) (o:=B7 .ready fn a.tmps m assign body w.heap.size) (Dv _ (B7 .ready fn a.tmps m assign body w.heap.size)) O (by
   show ((w.heap.push _).push _)[w.heap.size+1]?=_;rw[Ahe,if_pos O])
  have h3:Sep z (YtkblhjdljaoghaaGreatDoor.bk (w.heap.size+1) (B7 .ready fn a.tmps m assign body w.heap.size)::YtkblhjdljaoghaaGreatDoor.bk w.heap.size (.deferred (some []))::(J_ 0++Γ)) W1:=j▸h2;have h4:=(h3.pick 2 [1,0] Z);have h5:Sep z (T++(J_ 0++Γ)) W1:=by rw[y,hD];exact h4
  exact (Sep.swap (As:=T++J_ 0) (Bs:=Γ) (by rw[Aek];exact h5))
 refine ⟨w.heap.size+1,[mark w.heap.size],W1,{target:=.fn (.func gf) V.toArray,args:= #[.func (.yield (w.heap.size+1)) #[] #[]]},W1,gf,#[.func (.yield (w.heap.size+1)) #[] #[]]++V.toArray,W1,?_,?_,λ_ _=>trivial,?_,λq=>(by cases q),?_⟩
 ·rw[<-j];exact run_enterLoop_outer _ _ _ _ _
 ·simp only[resolve,r.ev hg]
  simp[go_sem]
 ·simp[invoke,go_sem,eg]
 rw[<-hD] at j ⊢;have d:∀{i:Nat} {w:World},Sep z (Γ++(T++J_ i)) w->Sep z (YtkblhjdljaoghaaGreatDoor.bk D (.deferred (some []))::YtkblhjdljaoghaaGreatDoor.bk (D+1) (B7 .ready fn a.tmps m assign body D)::(J_ i++Γ)) w:=λh=>by
  have:=h.swap;rw[Aek,y] at this;exact this
 have f:∀(i:Nat) (w:World),Sep z (YtkblhjdljaoghaaGreatDoor.bk D (.deferred (some []))::YtkblhjdljaoghaaGreatDoor.bk (D+1) (B7 .ready fn a.tmps m assign body D)::(J_ i++Γ)) w->Sep z (Γ++(T++J_ i)) w:=λi w h=>by
  have h':Sep z (T++(J_ i++Γ)) w:=by rw[y];exact h
  exact (Sep.swap (As:=T++J_ i) (Bs:=Γ) (by rw[Aek];exact h'))
 have key:=a0 z (D+1) (λi=>T++J_ i) ?_ W1 H1
 ·refine CallsIn.mono (show CallsIn Fence.wide 0 P gf _ W1 _ from key) ?_
  rintro e w2 ⟨⟨v,rfl⟩,H2⟩;simp only[Aei] at H2;have H2:=d H2;refine ⟨none,_,run_endLoop (H2.bk 1 Z) O,?_⟩;refine K D _ ?_ _ ⟨r.size,by show [mark D]++a.defers=_;rw[r.defers];rfl,r.get⟩;have H3:=H2.setObj 1 (.loop {state:=.exhausted,pending:=none,fn,tmps:=a.tmps,params:= #[m],assign,body,defers:=D}) Z;exact H3.pick 2 [0] Z
 intro i v hv w2 H2;rw[Aer] at hv;obtain ⟨u,hu,rfl⟩:=AgA.1 hv;have H2:=d H2;have hy:=run_yield (P:=P) (args:=[u].toArray) (H2.bk 1 Z) O;refine ⟨fn,_,assign,body,hy,?_⟩;refine roundIn_of_wpIn (F:=FX none) trivial ?_;have t:Fr n [] ((m,u)::L) {tmps:=(((#[m]:Array Tmp).zip [u].toArray).foldl (λtmps (x:Tmp×Value)=>tmps.setIfInBounds x.1 x.2) a.tmps),defers:=[]} :=by
  have h0:Fr n [] L {tmps:=a.tmps,defers:=[]} :=⟨r.size,Z,r.get⟩;have:=h0.put m u ht;simpa [Act.put] using this
 have hr:=c (some (D+1)) i u hu w2 _ t;refine wpIn_mono (show assign.wpIn ((FX none).inRound (D+1)) 0 P _ _ w2 from hr) ?_;intro e a1 w1 q
 cases e with
 | normal=>
  obtain ⟨rfl,k⟩:=q;refine ⟨_,run_beginRound (H2.bk 1 Z) Z,?_⟩;have H3:=H2.setObj 1 (B7 .busy fn a.tmps m assign body D) Z;have H4:Sep z ([YtkblhjdljaoghaaGreatDoor.bk D (.deferred (some [])),YtkblhjdljaoghaaGreatDoor.bk (D+1) (B7 .busy fn a.tmps m assign body D)]++(J_ i++Γ)) _:=H3;have H5:=H4.swap;rw[Aek] at H5;refine wpIn_mono (show body.wpIn ((FX none).inRound (D+1)) 0 P _ _ _ from k _ _ H5) ?_;intro e a3 s p
  cases e with
  | normal=>
   have H6:Sep z (J_ (i+1)++(Γ++[YtkblhjdljaoghaaGreatDoor.bk D (.deferred (some [])),YtkblhjdljaoghaaGreatDoor.bk (D+1) (B7 .busy fn a.tmps m assign body D)])) s:=p;rw[<-Aek] at H6;have H7:Sep z (YtkblhjdljaoghaaGreatDoor.bk D (.deferred (some []))::YtkblhjdljaoghaaGreatDoor.bk (D+1) (B7 .busy fn a.tmps m assign body D)::(J_ (i+1)++Γ)) s:=H6.swap;refine ⟨_,_,run_endRound none (H7.bk 1 Z),Z,f _ _ ?_⟩;exact H7.setObj 1 (B7 .ready fn a.tmps m assign body D) Z
  | exit id=>exact p.elim
  | ret=>exact p.elim
  | goto l=>exact p.elim
  | panic ch=>exact p.elim
  | outgrown=>exact p.elim
 | exit id=>exact q.elim
 | ret=>exact q.elim
 | goto l=>exact q.elim
 | panic ch=>exact q.elim
 | outgrown=>exact q.elim

def KN(P:Program)(fn:Func)(R:Value->World->Prop)(a:Act)(w:World):Prop:=
 (a.defers=[]/\∃v,(results fn a.tmps).run P w=.ok v w/\R v w)\/∃D w',a.defers=[mark D]/\(Instr.takeDeferred D).run P w=.ok [] w'/\∃v,(results fn a.tmps).run P w'=.ok v w'/\R v w'
theorem NQ{P:Program}{f:FuncId}{b:Func}{c:Code}{w:World}{R:Value->World->Prop}(r:P.funcs[f]?=some b)(k:b.body=some c)(n:Nat)(m:b.ntmps=n)(d:Nat.ble V.length n=true)
  (h:∀a,Fr n [] (first 0 V) a->c.wp P (Qp (KN P b R) IJ (KN P b R)) a w):Calls P f V.toArray w (Ret R):=by
 refine (callsIn_wide (n:=0)).1 (callsIn_of_wp_marks r k trivial (wpIn_mono ((wpIn_wide (n:=0)).2 (h _ (by rw[m];exact Fr.start V n (by simpa using d)))) λe a w q=>?_) Z);have fin:KN P b R a w->LeavesInM Fence.wide 0 P b a.tmps (Ret R) a.defers .returning w:=λq=>by
  rcases q with ⟨j,v,i,g⟩|⟨D,o,j,p,v,i,g⟩
  ·rw[j];exact ⟨v,i,g⟩
  rw[j];exact ⟨by simp,.inl ⟨D,o,Z,p,v,i,g⟩⟩
 cases e with
 | normal=>exact fin q
 | ret=>exact fin q
 | exit id=>exact q.elim
 | goto l=>exact q.elim
 | panic ch=>exact q.elim
 | outgrown=>exact q.elim
theorem NR{P:Program}{b:Func}{R:Value->World->Prop}{n:Nat}{L:List (Nat×Value)}{w:World}{rs:List ResultVar}(e:b.results=rs.toArray)(vs:List Value)(c:EO P L w rs vs){v:Value}(f:G6 vs=v)(h:R v w):∀a,Fr n [] L a->KN P b R a w:=λa d=>.inl (Ft e vs c f h a d)
theorem NS{P:Program}{b:Func}{R:Value->World->Prop}{n:Nat}{L:List (Nat×Value)}{w:World}(H:Sep z (YtkblhjdljaoghaaGreatDoor.bk m (.deferred (some []))::Γ) w){rs:List ResultVar}(e:b.results=rs.toArray)(vs:List Value)(d:∀w,EO P L w rs vs){v:Value}(f:G6 vs=v)(h:∀w,Sep z Γ w->R v w):∀a,Fr n [mark m] L a->KN P b R a w:=λa c=>
 .inr ⟨m,w.putObj m (.deferred none),c.defers,run_takeDeferred (H.bk 0 Z),v,by rw[<-f];exact Hr c e (d _),h _ ((H.setObj 0 (.deferred none) Z).pick 1 [] Z)⟩
end
section
def GM(r m clk:Nat)(seen:List Nat):Ai:=bk r (.mapIter (some m) clk seen.toArray clk)
def Cm(l:List IE)(seen:List Nat):List IE:=l.filter λp=> !seen.contains p.2.2
theorem C8{l:List IE}{p:IE}(h:p∈Cm l R):p∈l/\p.2.2∉R:=by
 simpa [Cm] using h
theorem SS(l:List IE)(seen:List Nat):(l.map Cw).toArray.filter (λe=> !seen.toArray.contains e.born)=((Cm l seen).map Cw).toArray:=by
 simp[Cm,Agm,Function.comp_def];rfl
theorem EC{l:List IE}{p:IE}(h:p∈Cm l R):(Cm l (R++[p.2.2])).length<(Cm l R).length:=by
 obtain ⟨b,c⟩:=C8 h;unfold Cm;refine filter_lt _ _ (λx a=>?_) p ?_ ?_ l b
 ·simp only[List.contains_eq_mem,Aes,Bool.not_eq_true',decide_eq_false_iff_not,not_or] at a ⊢;exact a.1
 ·simpa using c
 simp
def ST:Option IE->Value
 | none=>.tuple #[.bool false]
 | some p=>.tuple #[.bool true,.int .i64 p.1,p.2.1]
def JR(seen:List Nat):Option IE->List Nat
 | none=>seen
 | some p=>seen++[p.2.2]
def nxP(l:List IE)(seen:List Nat):Option IE->Prop
 | none=>Cm l seen=[]
 | some p=>p∈Cm l seen
section
variable{P:Program}{C:World->Prop}{o:Oper}{w z:World}{Γ:List Ai}{n:Nat}{ds:List Deferred}{L:List (Nat×Value)}{x y:Operand}
theorem Px{l:List IE}(o:w.heap[r]?=some (.mapIter (some m) i R.toArray i))(hm:w.heap[m]?=some (.map (l.map Cw).toArray i))(c:∀p∈l,p.2.2<i)(ty:TypeId):
  ∃q:Option IE,nxP l R q/\∃a:World,(a=w\/a=w.drew)/\(Instr.next (Y r) false ty).run P w=.ok (ST q) {a with heap:=a.heap.setIfInBounds r (.mapIter (some m) i (JR R q).toArray i)} :=by
 have a0:r<w.heap.size:=(Ae4.1 o).1;have hE:∀x∈(l.map Cw).toArray.toList,x.born<i:=λx d=>by
  simp only[Aen] at d;obtain ⟨p,hp,rfl⟩:=d;exact c p hp
 simp only[Instr.next,getObj,Aex,Sem.run,o,hm,Result.andThen,next_test_false R.toArray _ i i hE (Ael _),Afu,if_false];rw[SS];have b:∀p∈Cm l R,p.2.2<i:=λp hp=>c p (C8 hp).1;generalize hG:Cm l R=G at b;have e1:((G.map Cw).toArray).filter (λx=>decide (x.born<i))=(G.map Cw).toArray:=Array.filter_eq_self.2 (λx d=>by
  simp only[List.mem_toArray,Aen] at d;obtain ⟨p,hp,rfl⟩:=d;exact decide_eq_true (b p hp))
 have e2:((G.map Cw).toArray).filter (λx=>decide (x.born>=i))= #[]:=by
  rw[Array.filter_eq_empty_iff];intro x d;simp only[List.mem_toArray,Aen] at d;obtain ⟨p,hp,rfl⟩:=d;have:=b p hp;simp[Cw];omega
 simp only[e1,e2,Array.append_empty];have g:∀u:World,u.heap=w.heap->({u with heap:=u.heap.setIfInBounds r (.mapIter (some m) i R.toArray i)} :World)=u:=λu hu=>by
  have:u.heap.setIfInBounds r (.mapIter (some m) i R.toArray i)=u.heap:=by
   rw[hu];apply Array.ext_getElem?;intro k;rw[Array.getElem?_setIfInBounds];split
   ·rename_i e;subst e;exact o.symm
   rfl
  rw[this]
 cases G with
 | nil=>
  refine ⟨none,hG,w,.inl Z,?_⟩;show _=Result.ok _ ({w with heap:=w.heap.setIfInBounds r (.mapIter (some m) i R.toArray i)} :World);rw[g w Z];simp[choose,Sem.run,Question.forced,ST]
 | cons p0 G=>
  have y:((((p0::G).map Cw).toArray).isEmpty)=false:=by simp[Array.isEmpty]
  simp only[y,Afu,if_false,Array.empty_append,Array.size_map];generalize hK:(p0::G)=K at hG;have t:0<K.length:=by rw[<-hK];simp
  have z:∃(j:Nat) (a:World),j<K.length/\(a=w\/a=w.drew)/\(choose (Question.mapNext ((K.map Cw).toArray).size)).run P w=.ok j a:=by
   by_cases hf:((K.map Cw).toArray).size<=1
   ·exact ⟨0,w,by omega,.inl Z,by simp only[choose,Sem.run,Question.forced,hf,decide_true,if_true]⟩
   rw[List.size_toArray,Aei] at hf ⊢;exact ⟨(Question.mapNext K.length).cut (w.tape w.drawn (Question.mapNext K.length)),w.drew,Nat.mod_lt _ t,.inr Z,by
    simp only[choose,Sem.run,Question.forced,decide_eq_true_eq,hf,if_false,Afu];rfl⟩
  obtain ⟨j,a,hj,f,h⟩:=z;have v:a.heap=w.heap:=by rcases f with rfl|rfl<;>rfl
  refine ⟨some K[j],by show K[j]∈Cm l R;rw[hG];exact AfR hj,a,f,?_⟩;have n:∀o':Obj,(setObj r o').run P a=.ok () {a with heap:=a.heap.setIfInBounds r o'} :=λo'=>by
   simp[setObj,Sem.run,v,o]
  have s:((K.map Cw).toArray)[j]?=some (Cw K[j]):=by simp[hj]
  simp only[h,Array.getElem?_map,s,AeV,Aex,n,Result.andThen];simp[ST,JR,Cw,Sem.run]
theorem HK(j:Nat){e:TypeId}{l:List IE}(H:Sep z Γ w)(k:Γ[j]?=some (AJ m l i))(d:o.op=.range T x)(h:EP P T=some e)(f:ev L x=some (.map (some m))):
  CA P n ds L o w (λv w'=>∃r,v=Y r/\Sep z (GM r m i []::Γ) w'):=λa c=>by
 obtain ⟨g,p,b,q⟩:=D5 h;refine ⟨_,_,?_,w.heap.size,Z,H.new (Dv w (.mapIter (some m) i #[] i)) (Ael _) (by show (w.heap.push _)[w.heap.size]?=_;simp)⟩;simp only[execOp,d,c.ev f,Aex,run_range_map w T g e m _ i b (H.bk j k),Aet,AeC];rfl
theorem IT(i j:Nat){l:List IE}(H:Sep z Γ w)(hi:Γ[i]?=some (GM r m e R))(hj:Γ[j]?=some (AJ m l e))(ho:o.op=.next x false)(t:ev L x=some (Y r))(c:∀p∈l,p.2.2<e):
  CA P n ds L o w (λv w'=>∃q:Option IE,v=ST q/\nxP l R q/\Sep z (Γ.set i (GM r m e (JR R q))) w'):=λa y=>by
 have s:=H.bk i hi;obtain ⟨q,hq,b,h,d⟩:=Px (P:=P) s (H.bk j hj) c o.type;have g:r<w.heap.size:=(Ae4.1 s).1;have f:b.heap=w.heap/\b.os=w.os/\b.tape=w.tape/\b.output=w.output:=by rcases h with rfl|rfl<;>exact ⟨Z,Z,Z,Z⟩
 refine ⟨_,{b with heap:=b.heap.setIfInBounds r (.mapIter (some m) e (JR R q).toArray e)},?_,q,Z,hq,H.write i hi f.2.1 f.2.2.1 f.2.2.2 (o':=.mapIter (some m) e (JR R q).toArray e) (by show (b.heap.setIfInBounds r _)[r]?=_;rw[f.1];simp[g]) (λk u=>by show (b.heap.setIfInBounds r _)[k]?=_;rw[f.1];rw[AfS (AfV u)])⟩;simp only[execOp,ho,y.ev t,Aex,d,Aet,AeC]
theorem KO{q:Option IE}(b:o.op=.extract x 0)(a:ev L x=some (ST q)):Av P C n ds L o (.bool q.isSome):=by
 cases q with
 | none=>exact Ff b a Z
 | some p=>exact Ff b a Z
theorem HL{l:List IE}{p:IE}(e:o.op=.entry x)(h:ev L x=some (Y r))(b:∀w,C w->w.heap[r]?=some (.mapIter (some m) i (R++[p.2.2]).toArray i)/\w.heap[m]?=some (.map (l.map Cw).toArray i))(hp:p∈l)(g:(l.map (·.2.2)).Nodup):
  Av P C n ds L o (.tuple #[I p.1,p.2.1]):=λa d w c=>by
 obtain ⟨f,j⟩:=b w c;have k:((l.map Cw).toArray).find? (λx=>x.born==p.2.2)=some (Cw p):=by
  rw[<-Array.find?_toList];exact find_born (Cw p) _ (by simpa [Function.comp_def,Cw] using g) (AeD hp)
 simp only[execOp,e,d.ev h,Instr.entry,getObj,Aex,Sem.run,f,j,Result.andThen,<-List.push_toArray,Array.back?_push,bne_self_eq_false,Afu,if_false,k];rfl
theorem Jo(i:Nat){t e:TypeId}{m clk:Nat}{l:List IE}(H:Sep z Γ w)(hi:Γ[i]?=some (AJ m l clk))(j:o.op=.call {callee:=.builtin .clear,args:= #[x],argTypes:= #[t]})(k:EP P t=some e)(g:ev L x=some (.map (some m))):
  CA P n ds L o w (λv w'=>v=.tuple #[]/\Sep z (Γ.set i (AJ m [] clk)) w'):=λa h=>by
 obtain ⟨s,r,f,p⟩:=D5 k;have b:w.heap[m]?=some (.map (l.map Cw).toArray clk):=H.bk i hi;have d:m<w.heap.size:=(Ae4.1 b).1;have c:(Builtin.clear_ #[t] o.type #[.map (some m)]).run P w=.ok (.tuple #[]) {w with heap:=w.heap.setIfInBounds m (.map #[] clk)} :=by
  simp[Builtin.clear_,run_underlying f,getObj,setObj,Sem.run,b]
 refine ⟨_,{w with heap:=w.heap.setIfInBounds m (.map #[] clk)},?_,Z,H.write i hi Z Z Z (by show (w.heap.setIfInBounds m (.map #[] clk))[m]?=_;simp[d]) (λq hq=>by show (w.heap.setIfInBounds m _)[q]?=_;rw[AfS (AfV hq)])⟩;simp only[execOp,j,resolve,invoke,builtin,Aex,AeC,Aet,AeZ,AeM,AfB,h.ev g,c]
end
def Xq(P:Program)(gf:FuncId)(lb:List Value)(pre:List Ai){σ:Type}(stp:σ->Value->σ->Prop)(s0:σ)(fin:σ->Prop):Prop:=
 ∀(z:World) (l:Nat) (J_:σ->List Ai),(∀s v s' F,stp s v s'->∀w,Sep z (pre++(F++J_ s)) w->YieldAt (FX none) 0 P l #[v] w (λe w'=>e=.returned (.bool true)/\Sep z (pre++(F++J_ s')) w'))->
  ∀w,Sep z (pre++J_ s0) w->CallsIn (FX none) 0 P gf (#[Value.func (.yield l) #[] #[]]++lb.toArray) w (λe w'=>(∃v,e=.returned v)/\∃s,fin s/\Sep z (pre++J_ s) w')
theorem NT{P:Program}{R:Act->World->Prop}{X:Nat->Act->World->Prop}{z w:World}{n:Nat}{ds:List Deferred}{L:List (Nat×Value)}{g:Operand}{assign body:Code}{gf:FuncId}{pre:List Ai}{σ:Type}{stp:σ->Value->σ->Prop}{y:σ}{fin:σ->Prop}
  (J_:σ->List Ai)(hg:ev L g=some (.func (.func gf) #[] V.toArray))(eg:∀args w,(callFunc gf args).run P w=.ok (.enter gf args) w)(ht:Nat.blt m n=true)(a0:Xq P gf V pre stp y fin)(H:Sep z (J_ y++pre) w)
  (c:∀(ro:Option Nat) (i:σ) (v:Value) (f:σ),stp i v f->∀w a,Fr n [] ((m,v)::L) a->
   RW P ro assign (Qp (λa1 w1=>w1=w/\∀(F:List Ai) (w:World),Sep z (J_ i++(pre++F)) w->RW P ro body (Qp (λ_ w3=>Sep z (J_ f++(pre++F)) w3) IJ (λ_ _=>False)) a1 w) IJ (λ_ _=>False)) a w)
  (K:∀D w' s,fin s->Sep z (YtkblhjdljaoghaaGreatDoor.bk D (.deferred (some []))::(J_ s++pre)) w'->∀a,Fr n (mark D::ds) L a->N a w'):
  ∀a,Fr n ds L a->(Code.rangeFunc g #[m] assign body).wp P (Qp N X R) a w:=by
 intro a r;refine (wpIn_wide (n:=0)).1 ?_;refine wpIn_rangeFunc ?_;intro fn _;have a2:Fence.wide.round=none:=rfl;rw[a2];obtain ⟨W1,k⟩:∃W1,(w.alloc (.deferred (some []))).alloc (B7 .ready fn a.tmps m assign body w.heap.size)=W1:=⟨_,Z⟩;obtain ⟨D,hD⟩:∃D,D=w.heap.size:=⟨_,Z⟩;obtain ⟨T,hT⟩:∃T:List Ai,T=[YtkblhjdljaoghaaGreatDoor.bk D (.deferred (some [])),YtkblhjdljaoghaaGreatDoor.bk (D+1) (B7 .ready fn a.tmps m assign body D)]:=⟨_,Z⟩;have H1:Sep z (pre++(T++J_ y)) W1:=by
  have h1:=H.new (b:=w.heap.size) (o:=.deferred (some [])) (Dv w (.deferred (some []))) (Ael _) (by show (w.heap.push _)[w.heap.size]?=_;simp);have h2:=h1.new (b:=w.heap.size+1) (o:=B7 .ready fn a.tmps m assign body w.heap.size) (Dv _ (B7 .ready fn a.tmps m assign body w.heap.size)) O (by
   show ((w.heap.push _).push _)[w.heap.size+1]?=_;rw[Ahe,if_pos O])
  have h3:Sep z (YtkblhjdljaoghaaGreatDoor.bk (w.heap.size+1) (B7 .ready fn a.tmps m assign body w.heap.size)::YtkblhjdljaoghaaGreatDoor.bk w.heap.size (.deferred (some []))::(J_ y++pre)) W1:=k▸h2;have h4:=(h3.pick 2 [1,0] Z);have h5:Sep z (T++(J_ y++pre)) W1:=by rw[hT,hD];exact h4
  exact (Sep.swap (As:=T++J_ y) (Bs:=pre) (by rw[Aek];exact h5))
 refine ⟨w.heap.size+1,[mark w.heap.size],W1,{target:=.fn (.func gf) V.toArray,args:= #[.func (.yield (w.heap.size+1)) #[] #[]]},W1,gf,#[.func (.yield (w.heap.size+1)) #[] #[]]++V.toArray,W1,?_,?_,λ_ _=>trivial,?_,λq=>(by cases q),?_⟩
 ·rw[<-k];exact run_enterLoop_outer _ _ _ _ _
 ·simp only[resolve,r.ev hg]
  simp[go_sem]
 ·simp[invoke,go_sem,eg]
 rw[<-hD] at k ⊢;have d:∀{G:List Ai} {i:σ} {w:World},Sep z (G++(T++J_ i)) w->Sep z (YtkblhjdljaoghaaGreatDoor.bk D (.deferred (some []))::YtkblhjdljaoghaaGreatDoor.bk (D+1) (B7 .ready fn a.tmps m assign body D)::(J_ i++G)) w:=λh=>by
  have:=h.swap;rw[Aek,hT] at this;exact this
 have j:∀(G:List Ai) (i:σ) (w:World),Sep z (YtkblhjdljaoghaaGreatDoor.bk D (.deferred (some []))::YtkblhjdljaoghaaGreatDoor.bk (D+1) (B7 .ready fn a.tmps m assign body D)::(J_ i++G)) w->Sep z (G++(T++J_ i)) w:=λG i w h=>by
  have h':Sep z (T++(J_ i++G)) w:=by rw[hT];exact h
  exact (Sep.swap (As:=T++J_ i) (Bs:=G) (by rw[Aek];exact h'))
 have key:=a0 z (D+1) (λi=>T++J_ i) ?_ W1 H1
 ·refine CallsIn.mono (show CallsIn Fence.wide 0 P gf _ W1 _ from key) ?_
  rintro e w2 ⟨⟨v,rfl⟩,s,hs,H2⟩;have H2:=d H2;refine ⟨none,_,run_endLoop (H2.bk 1 Z) O,?_⟩;refine K D _ s hs ?_ _ ⟨r.size,by show [mark D]++a.defers=_;rw[r.defers];rfl,r.get⟩;have H3:=H2.setObj 1 (.loop {state:=.exhausted,pending:=none,fn,tmps:=a.tmps,params:= #[m],assign,body,defers:=D}) Z;exact H3.pick 2 [0] Z
 intro i u f F hu w2 H2;rw[<-Aek] at H2;have H2:=d H2;have hy:=run_yield (P:=P) (args:=[u].toArray) (H2.bk 1 Z) O;refine ⟨fn,_,assign,body,hy,?_⟩;refine roundIn_of_wpIn (F:=FX none) trivial ?_;have a4:Fr n [] ((m,u)::L) {tmps:=(((#[m]:Array Tmp).zip [u].toArray).foldl (λtmps (x:Tmp×Value)=>tmps.setIfInBounds x.1 x.2) a.tmps),defers:=[]} :=by
  have h0:Fr n [] L {tmps:=a.tmps,defers:=[]} :=⟨r.size,Z,r.get⟩;have:=h0.put m u ht;simpa [Act.put] using this
 have hr:=c (some (D+1)) i u f hu w2 _ a4;refine wpIn_mono (show assign.wpIn ((FX none).inRound (D+1)) 0 P _ _ w2 from hr) ?_;intro e a1 w1 q
 cases e with
 | normal=>
  obtain ⟨rfl,p⟩:=q;refine ⟨_,run_beginRound (H2.bk 1 Z) Z,?_⟩;have H3:=H2.setObj 1 (B7 .busy fn a.tmps m assign body D) Z;have H4:Sep z ([YtkblhjdljaoghaaGreatDoor.bk D (.deferred (some [])),YtkblhjdljaoghaaGreatDoor.bk (D+1) (B7 .busy fn a.tmps m assign body D)]++(J_ i++(pre++F))) _:=H3;have H5:=H4.swap;rw[Aek,Aek] at H5;refine wpIn_mono (show body.wpIn ((FX none).inRound (D+1)) 0 P _ _ _ from p _ _ H5) ?_;intro e a3 w3 t
  cases e with
  | normal=>
   have H6:Sep z (J_ f++(pre++(F++[YtkblhjdljaoghaaGreatDoor.bk D (.deferred (some [])),YtkblhjdljaoghaaGreatDoor.bk (D+1) (B7 .busy fn a.tmps m assign body D)]))) w3:=t;rw[<-Aek pre,<-Aek (J_ f)] at H6;have H7:Sep z (YtkblhjdljaoghaaGreatDoor.bk D (.deferred (some []))::YtkblhjdljaoghaaGreatDoor.bk (D+1) (B7 .busy fn a.tmps m assign body D)::(J_ f++(pre++F))) w3:=H6.swap;refine ⟨_,_,run_endRound none (H7.bk 1 Z),Z,?_⟩;rw[<-Aek];refine j _ _ _ ?_;exact H7.setObj 1 (B7 .ready fn a.tmps m assign body D) Z
  | exit id=>exact t.elim
  | ret=>exact t.elim
  | goto l=>exact t.elim
  | panic ch=>exact t.elim
  | outgrown=>exact t.elim
 | exit id=>exact q.elim
 | ret=>exact q.elim
 | goto l=>exact q.elim
 | panic ch=>exact q.elim
 | outgrown=>exact q.elim
theorem UQ{P:Program}{R:Act->World->Prop}{X:Nat->Act->World->Prop}{z w:World}{n:Nat}{ds:List Deferred}{L:List (Nat×Value)}{g:Operand}{b f:Code}{gf:FuncId}{pre:List Ai}{σ:Type}{stp:σ->Value->σ->Prop}{r:σ}{fin:σ->Prop}
  (J_:σ->List Ai)(y:ev L g=some (.func (.func gf) #[] V.toArray))(u:∀args w,(callFunc gf args).run P w=.ok (.enter gf args) w)(x:Nat.blt m n=true)(k:Xq P gf V pre stp r fin)(H:Sep z (J_ r++pre) w)
  (d:∀(ro:Option Nat) (i:σ) (v:Value) (j:σ),stp i v j->∀w a,Fr n [] ((m,v)::L) a->
   RW P ro b (Qp (λa1 p=>p=w/\∀(F:List Ai) (w:World),Sep z (J_ i++F) w->RW P ro f (Qp (λ_ w3=>Sep z (J_ j++F) w3) IJ (λ_ _=>False)) a1 w) IJ (λ_ _=>False)) a w)
  (K:∀D o s,fin s->Sep z (YtkblhjdljaoghaaGreatDoor.bk D (.deferred (some []))::(J_ s++pre)) o->∀a,Fr n (mark D::ds) L a->N a o):
  ∀a,Fr n ds L a->(Code.rangeFunc g #[m] b f).wp P (Qp N X R) a w:=
 NT J_ y u x k H (λro i v j h w a t=>by
  refine wpIn_mono (d ro i v j h w a t) ?_;intro e a1 p q
  cases e with
  | normal=>exact ⟨q.1,λF w hs=>q.2 _ w hs⟩
  | exit id=>exact q.elim
  | ret=>exact q.elim
  | goto l=>exact q.elim
  | panic c=>exact q.elim
  | outgrown=>exact q.elim) K
end
end Go.Proofs.YtkblhjdljaoghaaGreatDoor
