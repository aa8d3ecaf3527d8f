/-
  For every input the law TreeRefuses answers true: what may not be is refused. No condition.
-/
import Derived.Test.YtglgbkpniipjbaaGreatDoorPart5
import Derived.Test.YtglgbkpniipjbaaGreatDoorCards
import Derived.Test.YtglgbkpniipjbaaGreatDoorTie
import Derived.WalkKit
import Derived.WalkSpells
import Derived.Deep.Quiet
import Derived.KernelRfl
import Derived.IntWalk
import Derived.Maps.AppendAt
import Derived.Laws.AppendOwnNone
import Derived.Laws.CopyRow
import Derived.StillTail
import Derived.Deep.RegionHeld
import Derived.Laws.IdiomStrings
import Derived.Laws.BytesArg
import Derived.Laws.OwnMore
import Derived.Lib.Strings
import Derived.ArgAppend
import Derived.Test.YtglgbkpniipjbaaGreatDoorRows
import Derived.RangeFuncLeaves
import Derived.RangeFuncRecord
import Derived.RangeFuncCalls
import Derived.RangeFuncSeq
import Derived.OrdersIn
import Derived.TacticsIn
import Derived.Laws.IdiomRangeMap
import Derived.Defers
import Derived.Laws.LoneSync
import Derived.LoopN
import Derived.Lib.TrailingZeros
import Derived.Test.YtglgbkpniipjbaaGreatDoorProg
import Derived.Shelf.Sort.Plain
import Derived.Shelf.Slices.In.SortNone
import Derived.DataReads
import Derived.ProofKit
import Derived.OpenShut
import Derived.Lib.SmallJoins
import Derived.Deep.DeepHandedRow
import Derived.Lib.LaidTab
set_option maxRecDepth 100000
set_option linter.unusedSimpArgs false
set_option linter.unusedVariables false
open Go.Proofs.Tryz
namespace Go.Proofs.YtglgbkpniipjbaaGreatDoor
section
open Go.ChangeShapes Go.WideShapes Go.ChangeAt Go.RowKit Go.Joins
theorem own:ownKnob prog.godebug=none:=by kernel_rfl
theorem Wo:laidOutB prog=true:=by kernel_rfl
theorem HH:prog.cellsOf 3=1:=by kernel_rfl
def K6:DataW Unit→List Value
 | .lit (.int k n)=>[.int k n]
 | .agg parts=>flatWs parts
 | _=>[]
where flatWs:List (DataW Unit)→List Value
 | []=>[]
 | d::ds=>K6 d++flatWs ds
def Tu:Obj→Obj
 | .cells c t frozen=> .cells (if c.size=32 then (K6 Rows.laid_unicode_utf8_acceptRanges).toArray else if c.size=64 then (K6 Rows.laid_math_bits_deBruijn64tab).toArray else (K6 Rows.laid_unicode_utf8_first).toArray) t frozen
 | o=>o
noncomputable def HI (os:Os):World:=
 { World.holding prog os ⟨#[],#[],[]⟩ with heap:=(((World.holding prog os ⟨#[],#[],[]⟩).heap.modify 0 Tu).modify 1 Tu).modify 2 Tu }
theorem Ix {α:Type} (P:Nat→α→Prop):∀ n,(∀ i,i<n→∃ a,P i a)→∃ l:List α,l.length=n∧∀ i a,l[i]? =some a→P i a
 | 0,_=>⟨[],rfl,fun i a h=>by simp at h⟩
 | n+1,h=>by
  obtain ⟨l,hl,hp⟩:=Ix P n (fun i hi=>h i (by omega))
  obtain ⟨a,ha⟩:=h n (by omega)
  refine ⟨l++[a],by simp[hl],fun i b hb=> ?_⟩
  rcases Nat.lt_or_ge i n with q|q
  ·rw[List.getElem?_append_left (by omega)] at hb;exact hp i b hb
  ·rw[List.getElem?_append_right (by omega)] at hb
   obtain rfl:i=n:=by have:=(List.getElem?_eq_some_iff.1 hb).1;simp at this;omega
   simp[hl] at hb;subst hb;exact ha
abbrev K7 (x:Int):Prop:= -9223372036854775808≤x∧x≤9223372036854775807
theorem YY {n:Int} (h:(Lit.int .i64 n).wf=true):K7 n:=by
 simp only[Lit.wf,Bool.and_eq_true,decide_eq_true_eq] at h
 have h1:IntKind.i64.min= -9223372036854775808:=by decide
 have h2:IntKind.i64.max=9223372036854775807:=by decide
 rw[h1,h2] at h
 exact h
theorem Tv {H:Type} (d:DataW H):1≤Rows.uptoBulk d:=by
 cases d with
 | lit l=>cases l<;>simp[Rows.uptoBulk]
 | nil=>simp[Rows.uptoBulk]
 | ptr d=>simp[Rows.uptoBulk]
 | slice elems spare=>simp[Rows.uptoBulk]
 | agg parts=>simp[Rows.uptoBulk]
 | iface t d=>simp[Rows.uptoBulk]
 | map entries=>simp[Rows.uptoBulk]
 | held h=>simp[Rows.uptoBulk]
theorem Tw {H:Type} (l:List (DataW H)):l.length≤Rows.uptoBulkAll l:=by
 induction l with
 | nil=>simp
 | cons x r ih=>have:=Tv x;simp only[Rows.uptoBulkAll,List.length_cons];omega
theorem M6:prog.cellsOf 35=3:=by kernel_rfl
theorem Wp {H:Type} {enc:TypeId×Value→H} {W:World} {fuel:Nat} {cs:List Value} {d:DataW H} {p:List MemPlace} (h:DataW.trod enc prog W 0 (fun _=>true) true fuel 35 cs=some (d,p)):
  ∃ e:OtE,cs=OtE.cells e∧K7 e.k:=by
 obtain ⟨xs,n,rfl,hx,hl,hxl,hf⟩:=DataW.trod_struct underlying35 h
 rw[M6] at hl
 match cs,hl with
 | [c0,c1,c2],_=>
  have f0:=hf 0 _ rfl
  have f1:=hf 1 _ rfl
  have f2:=hf 2 _ rfl
  match xs,hxl with
  | [y0,y1,y2],_=>
   have kb:prog.cellsOf 4=1:=by kernel_rfl
   try dsimp only at f0
   try simp only[HH,kb,List.drop_zero,List.drop_succ_cons,List.take_succ_cons,List.take_zero,List.getElem?_cons_zero,List.getElem?_cons_succ] at f0
   try dsimp only at f1
   try simp only[HH,kb,List.drop_zero,List.drop_succ_cons,List.take_succ_cons,List.take_zero,List.getElem?_cons_zero,List.getElem?_cons_succ] at f1
   try dsimp only at f2
   try simp only[HH,kb,List.drop_zero,List.drop_succ_cons,List.take_succ_cons,List.take_zero,List.getElem?_cons_zero,List.getElem?_cons_succ] at f2
   obtain ⟨z0,e0,_,w0⟩:=DataW.trod_int underlying3 f0
   obtain ⟨z1,e1,_⟩:=DataW.trod_bool underlying4 f1
   obtain ⟨z2,e2,_,w2⟩:=DataW.trod_int underlying3 f2
   have g0:=congrArg (fun l=>l.headD .nilFunc) e0
   try simp at g0
   subst g0
   have g1:=congrArg (fun l=>l.headD .nilFunc) e1
   try simp at g1
   subst g1
   have g2:=congrArg (fun l=>l.headD .nilFunc) e2
   try simp at g2
   subst g2
   exact ⟨⟨z0,z1,z2⟩,rfl,YY w0⟩
theorem Oy:∀ (es:List OtE) (k:Nat) (u:Value),(GD es)[k]? =some u→∃ e,es[k / 3]? =some e∧(OtE.cells e)[k % 3]? =some u
 | [],k,u,h=>by simp[GD] at h
 | x::es,k,u,h=>by
  have hl:(OtE.cells x).length=3:=rfl
  simp only[GD,List.flatMap_cons] at h
  rcases Nat.lt_or_ge k 3 with q|q
  ·rw[List.getElem?_append_left (by omega)] at h
   exact ⟨x,by rw[Nat.div_eq_of_lt q];rfl,by rw[Nat.mod_eq_of_lt q];exact h⟩
  ·rw[List.getElem?_append_right (by omega),hl] at h
   obtain ⟨e,h1,h2⟩:=Oy es (k - 3) u h
   refine ⟨e,?_,?_⟩
   ·rw[show k / 3=(k - 3) / 3+1 from by omega];simpa using h1
   ·rw[show k % 3=(k - 3) % 3 from by omega];exact h2
theorem Tx {H:Type} {enc:TypeId×Value→H} {W:World} {fuel:Nat} {v:Value} {d:DataW H} {p:List MemPlace} (h:DataW.trod enc prog W 0 (fun _=>true) true fuel 22 [v]=some (d,p)):
  ∃ es:List OtE,Rd 3 v es.length (GD es) W∧(∀ e∈es,K7 e.k)∧es.length≤Rows.uptoBulk d:=by
 rcases DataW.trod_slice underlying22 h with ⟨hcs,_⟩|⟨a,len,cap,elems,rest,n,rfl,hcs,hx,_,hlc,hcm,hel,hg,_,_⟩
 ·simp only[List.cons.injEq,and_true] at hcs;subst hcs
  exact ⟨[],by simpa [GD] using Rd.nil 3 W,fun e he=>absurd he (by simp),by simp⟩
 ·simp only[List.cons.injEq,and_true] at hcs;subst hcs
  have hd:d= .slice (elems.map (·.1)) (rest.map (·.1)):=by have:=congrArg Prod.fst hx;simpa using this
  obtain ⟨es,hes,hP⟩:=Ix (fun i (e:OtE)=>(∀ j,j<3→W.cell? ((a.add (i * 3)).add j)=(OtE.cells e)[j]?)∧K7 e.k) len (fun i hi=>by
   have hb:=hg i hi
   rw[M6] at hb
   obtain ⟨y,hy⟩:∃ y,elems[i]? =some y:=⟨_,List.getElem?_eq_getElem (by omega)⟩
   rw[hy,Option.bind_eq_some_iff] at hb
   obtain ⟨cs,hc,ht⟩:=hb
   obtain ⟨e,rfl,h1⟩:=Wp (d:=y.1) (p:=y.2) ht
   exact ⟨e,(World.cells?_some hc).2.2,h1⟩)
  refine ⟨es,⟨some a,cap,by rw[hes],by omega,(by unfold maxLen at hcm;omega),by rw[Wn],fun k u hk=> ?_⟩,fun e he=> ?_,?_⟩
  ·obtain ⟨e,h1,h2⟩:=Oy _ k u hk
   have hc:=(hP _ e h1).1 (k % 3) (Nat.mod_lt _ (by omega))
   rw[h2] at hc
   obtain ⟨b,off,spot⟩:=a
   have hspot:spot=none:=by
    have hlt:=(List.getElem?_eq_some_iff.1 h1).1
    obtain ⟨e0,he0⟩:∃ e0,es[0]? =some e0:=⟨_,List.getElem?_eq_getElem (by omega)⟩
    have hc0:=(hP _ e0 he0).1 0 (by omega)
    have h0:W.cell? ⟨b,off,spot⟩=some (.int .i64 e0.k):=by simpa [Addr.add,OtE.cells] using hc0
    exact World.cell?_spot h0
   subst hspot
   refine ⟨b,off,rfl,?_⟩
   unfold EF
   have e2:((Addr.add ⟨b,off,none⟩ (k / 3 * 3)).add (k % 3))=⟨b,off+k,none⟩:=by
    rw[Go.WideShapes.add_plain,Go.WideShapes.add_plain]
    congr 1;omega
   rw[←e2];exact hc
  ·obtain ⟨i,hi⟩:=List.getElem?_of_mem he
   exact (hP i e hi).2
  ·rw[hes,hd]
   have:=Tw (elems.map (·.1))
   simp only[Rows.uptoBulk,List.length_map] at this ⊢;omega
/-! ### the library's K8 -/
theorem Yk:prog.globalNamed "math/bits.deBruijn64tab"=some 0:=by kernel_rfl
theorem Ty:(prog.globals[0]?).map (·.type)=some 257:=by kernel_rfl
theorem Wq:prog.cellsOf 257=64:=by kernel_rfl
theorem Wr:prog.cellsOf 5=1:=by kernel_rfl
def tzL:List Int:=Lib.deBruijn64tab.map Int.ofNat
theorem K8 {W:World} (h:laidMetH prog Rows.treeMapUptoRow.laid W):Lib.TabIs prog W "math/bits.deBruijn64tab" .u8 tzL:=
 Lib.tabIs_of_head (rest:=[("unicode/utf8.acceptRanges",Rows.laid_unicode_utf8_acceptRanges),("unicode/utf8.first",Rows.laid_unicode_utf8_first)]) Yk Ty underlying257 underlying5 Wr Wq h
theorem Kk {W:World} (h:Lib.TabIs prog W "math/bits.deBruijn64tab" .u8 tzL):∃ t fr,W.heap[0]? =some (.cells (tzL.map fun z=>Value.int .u8 z).toArray t fr):=by
 unfold Lib.TabIs World.var? at h
 rw[Yk] at h
 simp only[Option.bind_some] at h
 cases e:W.heap[0]? with
 | none=>rw[e] at h;cases h
 | some o=>
  rw[e] at h
  cases o<;>simp at h
  subst h;exact ⟨_,_,rfl⟩
def Io (W:World):Ae:=fun h=>∀ k,k<W.heap.size→k≠0→h k=W.heap[k]?
def M7 (W:World):Ae:=fun h=>h 0=W.heap[0]?
theorem Yl:(List.range 64).all (fun j=>tzL[j]? == some ((P1 j).toNat:Int))=true:=by decide+kernel
theorem YZ {W:World} (ht:Lib.TabIs prog W "math/bits.deBruijn64tab" .u8 tzL):GT (M7 W):=fun h hh j hj=>by
 obtain ⟨t,fr,e⟩:=Kk ht
 have:=List.all_eq_true.1 Yl j (List.mem_range.2 hj)
 have h2:tzL[j]? =some ((P1 j).toNat:Int):=by simpa using this
 exact ⟨_,t,fr,(show h 0=_ from hh).trans e,by simp[h2,u8]⟩
theorem Ws {W:World} (ht:Lib.TabIs prog W "math/bits.deBruijn64tab" .u8 tzL):0<W.heap.size:=by
 obtain ⟨t,fr,e⟩:=Kk ht
 rcases Nat.eq_zero_or_pos W.heap.size with q|q
 ·rw[Array.getElem?_eq_none (by omega)] at e;cases e
 ·exact q
theorem Q6 {W:World} (ht:Lib.TabIs prog W "math/bits.deBruijn64tab" .u8 tzL) {b o:Nat} {v:Value} (hc:EF b o v W) (hv:∀ x,v≠ .int .u8 x):∀ h,Io W h→celH h b o v:=fun h hb=>by
 have hne:b≠0:=fun e=>by
  subst e
  obtain ⟨t,fr,e⟩:=Kk ht
  unfold EF World.cell? at hc
  rw[e] at hc
  simp at hc
  obtain ⟨z,_,hz⟩:=hc
  exact hv _ hz.symm
 unfold EF World.cell? at hc
 cases hh:W.heap[b]? with
 | none=>rw[hh] at hc;simp at hc
 | some o'=>
  rw[hh] at hc
  cases o' with
  | cells cs ty fr=>
   simp at hc
   have hlt:b<W.heap.size:=by
    rcases Nat.lt_or_ge b W.heap.size with q|q
    ·exact q
    ·rw[Array.getElem?_eq_none q] at hh;cases hh
   exact ⟨cs,ty,fr,(hb b hlt hne).trans hh,hc⟩
  | _=>simp at hc
theorem Tz {sz:Nat} {v:Value} {n:Nat} {xs:List Value} {W:World} (ht:Lib.TabIs prog W "math/bits.deBruijn64tab" .u8 tzL) (r:Rd sz v n xs W) (hx:∀ u∈xs,∀ x,u≠ .int .u8 x):∀ h,Io W h→rdH sz v n xs h:=fun h hb=>by
 obtain ⟨ao,c,e,h1,h2,h3,h4⟩:=r
 exact ⟨ao,c,e,h1,h2,h3,fun j u hj=>by
  obtain ⟨b,p,e',hc⟩:=h4 j u hj
  exact ⟨b,p,e',Q6 ht hc (hx u (List.mem_of_getElem? hj)) h hb⟩⟩
theorem Y0 (es:List OtE):∀ u∈GD es,∀ x,u≠ .int .u8 x:=fun u hu x=>by
 simp only[GD,List.mem_flatMap] at hu
 obtain ⟨e,_,he⟩:=hu
 simp[OtE.cells] at he
 rcases he with rfl|rfl|rfl<;>simp
theorem Oz {h:Hp} {own:Nat→Nat} {i k:Nat} {o:Obj} (e:h.part own i k=some o):h k=some o:=by
 unfold Hp.part at e
 split at e
 ·exact e
 ·cases e
theorem Cn.run2 {P:Program} {f:FuncId} {args:List Value} {W:World} {u:Value} (h0:0<W.heap.size) (h:Cn P f args [Io W,M7 W] (fun v Γ=>v=u∧Γ=[Io W,M7 W])):Calls P f args.toArray W (Ret fun v W'=>v=u∧Ext No W W'):=by
 have hS:Sep W [Io W,M7 W] W:=⟨rfl,rfl,rfl,fun q=>if q=0 then 1 else 0,fun i A hA=>by
  match i,hA with
  | 0,hA=>cases hA;intro k hk hne;simp[Hp.part,hp,hne]
  | 1,hA=>cases hA;show Hp.part _ _ _ 0=_;simp[Hp.part,hp]⟩
 refine Ret.mono (h W [] W hS) ?_
 rintro v W' ⟨Γ,⟨rfl,rfl⟩,H⟩
 obtain ⟨own,hown⟩:=H.own
 have hb:=hown 0 _ rfl
 have ht:=hown 1 _ rfl
 have hall:∀ k,k<W.heap.size→hp W' k=W.heap[k]? :=fun k hk=>by
  obtain ⟨o,ho⟩:∃ o,W.heap[k]? =some o:=⟨_,Array.getElem?_eq_getElem hk⟩
  rw[ho]
  by_cases q:k=0
  ·subst q;exact Oz ((show _=_ from ht).trans ho)
  ·exact Oz ((hb k hk q).trans ho)
 have H2:Sep W [base W] W':=⟨H.os,H.tape,H.output,fun k=>if k<W.heap.size then 0 else 1,fun i A hA=>by
  match i,hA with
  | 0,hA=>cases hA;intro k hk;unfold Hp.part;rw[if_pos (by simp[hk])];exact hall k hk⟩
 exact ⟨rfl,Sep.done 0 H2 rfl⟩
section
variable {H:Type} {enc:TypeId×Value→H} {P:Program} {w:World} {base:Nat} {spare:Nat→Bool} {held:Bool}
end
section
variable {H:Type} {enc:TypeId×Value→H} {P:Program} {w:World} {base:Nat} {spare:Nat→Bool} {held:Bool}
end
section
variable {H:Type} {enc:TypeId×Value→H} {P:Program} {w:World} {base:Nat} {spare:Nat→Bool} {held:Bool}
theorem Y1 {t0 t1 t2:TypeId} {args:Array Value} {ds:List (DataW H)} {ps:List MemPlace} (h:DataW.TrodAll enc P w base spare held [t0,t1,t2] args.toList ds ps):
  ∃ v0 v1 v2 d0 d1 d2 p0 p1 p2,args= #[v0,v1,v2]∧ds=[d0,d1,d2]∧ps=p0++(p1++p2)∧DataW.Trod enc P w base spare held t0 v0 d0 p0∧DataW.Trod enc P w base spare held t1 v1 d1 p1∧DataW.Trod enc P w base spare held t2 v2 d2 p2:=by
 obtain ⟨v0,vs0,d0,ds0,p0,q0,hargs,rfl,rfl,hd0,hr0⟩:=trodAll_cons h
 obtain ⟨v1,vs1,d1,ds1,p1,q1,rfl,rfl,rfl,hd1,hr1⟩:=trodAll_cons hr0
 obtain ⟨v2,vs2,d2,ds2,p2,q2,rfl,rfl,rfl,hd2,hr2⟩:=trodAll_cons hr1
 obtain ⟨rfl,rfl,rfl⟩:=trodAll_nil hr2
 exact ⟨v0,v1,v2,d0,d1,d2,p0,p1,p2,by cases args;simp_all,rfl,by simp,hd0,hd1,hd2⟩
theorem Wt {t0 t1 t2:TypeId} {v0 v1 v2:Value} {d0 d1 d2:DataW H} {p0 p1 p2:List MemPlace} (h0:DataW.Trod enc P w base spare held t0 v0 d0 p0) (h1:DataW.Trod enc P w base spare held t1 v1 d1 p1) (h2:DataW.Trod enc P w base spare held t2 v2 d2 p2):DataW.TrodAll enc P w base spare held [t0,t1,t2] [v0,v1,v2] [d0,d1,d2] (p0++(p1++p2)):=
 ⟨p0,_,h0,⟨p1,_,h1,(trodAll_mk1 h2),rfl⟩,rfl⟩
end
end
section
open Go.RowKit
variable {Tb:Ae}
end
section
open Go.RowKit
variable {Tb:Ae}
def cntV (n:Nat) (o:TB) (T:TT) (p:Int):Nat:=if 0≤p∧p<n then curC o T p.toNat else 0
theorem M8 (pp mb n:Nat) (o:TB) (T:TT) (p:Int):Cn prog 20 [.pointer (some ⟨pp,0,none⟩),.int .i64 p] [trA Tb pp mb n o T] (fun v Γ=>v= .int .i64 (cntV n o T p:Int)∧Γ=[trA Tb pp mb n o T]):=by
 unfold cntV
 by_cases h:0≤p∧p<n
 ·rw[if_pos h]
  have:=Ig (Tb:=Tb) pp mb n o T p.toNat (by omega)
  rwa[show ((p.toNat:Nat):Int)=p from by omega] at this
 ·rw[if_neg h]
  exact Td pp mb n o T p (by omega)
theorem M9 (pp mb n:Nat) (o:TB) (s:TS×List Nat) (r key val:Int) (hb:key<0∨1048576≤key∨cntV n o (some s) val=0):Cn prog 17 [.pointer (some ⟨pp,0,none⟩),.int .i64 r,.int .i64 key,.int .i64 val] [trA Tb pp mb n o (some s)] (fun v Γ=>v= .tuple #[.int .i64 0,.int .i64 1]∧Γ=[trA Tb pp mb n o (some s)]):=by
 intro z R w H;replace H:=H.l1;refine Ad func17 rfl ntmps17 rfl (Zc 10 rfl (z_C rfl (call45 _) (HG _ _ _ _ _) H ?_));rintro _ w _ ⟨rfl,rfl⟩ H;refine Z0 18 [4,0] rfl (Ak 21 rfl (fun h1=> ?_) (fun h1=> ?_))
 ·refine Zc 19 rfl (Zr rfl ?_);exact ⟨_,⟨rfl,rfl⟩,H⟩
 ·refine Z0 4 [0] rfl (Ak 25 rfl (fun h2=> ?_) (fun h2=> ?_))
  ·refine Zc 15 rfl (Zr rfl ?_);exact ⟨_,⟨rfl,rfl⟩,H⟩
  ·refine Zc 2 rfl (z_C rfl (call20 _) (M8 _ _ _ _ _ _) H ?_);rintro _ w _ ⟨rfl,rfl⟩ H;refine Z0 4 [0] rfl (Af rfl (fun h3=> ?_) (fun h3=> ?_))
   ·refine Zc 7 rfl (Zr rfl ?_);exact ⟨_,⟨rfl,rfl⟩,H⟩
   ·(exfalso;omega)
end
section
open Go.RowKit
variable {Tb:Ae}
set_option maxHeartbeats 4000000 in
theorem KX (A Tb:Ae) (hT:GT Tb) (v:Value) (es:List OtE) (hes:es.length≤1048576) (hA:ZJ v es A) (key val:Int):Cn prog 4 [v,.int .i64 key,.int .i64 val] [A,Tb] (fun v Γ=>v= .bool true∧Γ=[A,Tb]):=by
 intro z R w H;replace H:=H.l2;obtain ⟨ao,oc,rfl⟩:=H.says 0 rfl (fun h q=>(hA h q).1.slc);refine Ad func4 rfl ntmps4 rfl (Zc 7 rfl (z_C rfl (call10 _) (MW 200 (by omega) Tb hT) H.f1 ?_));rintro _ w _ ⟨pp,rfl,rfl⟩ H;refine Za 17 [] H rfl ?_;intro b1 w H;refine Za 1 [] H rfl ?_;intro b2 w H;refine Zc 5 rfl ?_;replace H:=(H.nilg 87 2).l5
 have H':Sep z (mpA b1 ([])::blk b2 [.pointer (some ⟨pp,0,none⟩),.int .i64 0,.pointer (some ⟨b1,0,none⟩)] 32::trA Tb pp 6 200 (F5 200) none::A::R) w:=(H.pick 5 [2,0,1,3,4] rfl).toMp (L:=[])
 have H:=H'.l4;clear H';refine Zc 5 rfl ?_;refine AH (σ:=Nat×Nat×List E×TB×Nat) (fun ⟨i,ra,L,o,mb⟩=>[(9,.int .i64 (i:Int)),(0,.slice ao es.length oc),(1,.int .i64 key),(2,.int .i64 val),(7,.pointer (some ⟨pp,0,none⟩)),(8,.pointer (some ⟨b2,0,none⟩))])
   (fun ⟨i,ra,L,o,mb⟩ w=>Sep z (mpA b1 L::blk b2 [.pointer (some ⟨pp,0,none⟩),.int .i64 (ra:Int),.pointer (some ⟨b1,0,none⟩)] 32::trA Tb pp mb 200 o none::A::R) w∧(i≤es.length∧mb≤6+2 * i∧LwI 200 o ra L [])) (fun ⟨i,ra,L,o,mb⟩=>es.length - i) ⟨0,0,[],F5 200,6⟩
   (fun _ hF=>(hF.co rfl (by go_num) (hF.all rfl))) ⟨H,⟨Nat.zero_le _,by omega,T9 (by omega)⟩⟩ ?_
 clear H;rintro ⟨i,ra,L,o,mb⟩ w ⟨H',hI⟩;dsimp only at hI H' ⊢
 have H:=H'.l4;clear H';obtain ⟨hil,hmb,hW⟩:=hI;refine Z0 9 [0] rfl (Af rfl (fun h1=> ?_) (fun h1=> ?_))
 ·refine Zc 5 rfl ?_;obtain ⟨e,he⟩:∃ e,es[i]? =some e:=⟨_,List.getElem?_eq_getElem (by omega)⟩;have hek:=H.says 3 rfl (fun h q=>(hA h q).2 e (List.mem_of_getElem? he))
  have hat:=(H.rd 3 rfl (fun h q=>(hA h q).1)).at (Kj he 0 _ rfl)
  refine Zc 4 rfl (Ac rfl (Ao rfl (z:=3) (j:=i) (r:=i * 3) (by kernel_rfl) rfl rfl rfl (by omega) hat (by omega)) (Ac rfl (Cw rfl rfl (vs:=[.int .i64 e.k,.bool e.d,.int .i64 e.f]) (by kernel_rfl) (by simp) (Ax (fun k u hk=>(H.rd 3 rfl (fun h q=>(hA h q).1)).at (Kj he k u hk)))) (z_C rfl (call12 _) (M5 _ _ _ mb 200 o ra L [] e.k e.d e.f hW (by omega) (by omega)) H.f2.f1.f2 ?_)));rintro _ w _ ⟨a1,L1,o1,m1,hD1,rfl,rfl⟩ H;refine Z1 18 [] [(i:Int)+1] rfl (by omega) ?_;replace H:=H.f3.f3.f2.f3;refine gf ?_;intro _ hF;refine ⟨⟨i+1,a1,L1,o1,m1⟩,(hF.co rfl (by go_num) (hF.all rfl)),⟨H,?_⟩,?_⟩
  ·exact ⟨by show i+1≤es.length;omega,by have:=hD1.m;show m1≤6+2 * (i+1);omega,hD1.I⟩
  ·(dsimp only;omega)
 ·refine Zc 2 rfl (gx (Z2 11 [1,1,0] H rfl (z_C rfl (call17 _) (Q5 _ _ _ _ _ _ _) H.f2 ?_)));rintro _ w _ ⟨rfl,rfl⟩ H;refine Z2 15 [1,2,0] H rfl (z_C rfl (call18 _) (Yi _ _ _ _ _ _) H ?_);rintro _ w _ ⟨rfl,rfl⟩ H;refine Z2 17 [1,2,0] H rfl (z_C rfl (call17 _) (Yj _ _ _) H ?_);rintro _ w _ ⟨rfl,rfl⟩ H;refine Z0 22 [4,4,4] rfl (z_C rfl (call19 _) (Ka _ _ _ _) H ?_);rintro _ w _ ⟨rfl,rfl⟩ H;refine Z0 12 [4,0] rfl (Ak 93 rfl (fun h2=> ?_) (fun h2=> ?_))
  ·refine Z0 4 [0] rfl (Ak 97 rfl (fun h3=> ?_) (fun h3=> ?_))
   ·refine Zc 2 rfl (z_C rfl (call20 _) (M8 _ _ _ _ _ _) H ?_);rintro _ w _ ⟨rfl,rfl⟩ H;refine Z0 9 [0] rfl (Ac rfl (AK rfl rfl) (Zc 2 rfl (Af rfl (fun h4=> ?_) (fun h4=> ?_))))
    ·refine Z2 9 [1,2,0] H rfl (z_C rfl (call17 _) (M9 _ _ _ _ _ _ _ _ (by omega)) H ?_);rintro _ w _ ⟨rfl,rfl⟩ H;refine Zc 10 rfl (z_C rfl (call21 _) (EU _ _ _ _ _) H ?_);rintro _ w _ ⟨rfl,rfl⟩ H;refine Zc 3 rfl ?_;have hll:L.length≤1048576:=by have K:=H.says 0 rfl (fun h a=>trA.k a);have:=GC K.i (by omega) (show ∀ e∈L,∃ b,DM o none e.2=some (.dt b) from hW.root.data) hW.nd;have:=K.hn;omega
     replace H:=H.f2;refine AG (Sep z (blk b2 [.pointer (some ⟨pp,0,none⟩),.int .i64 (ra:Int),.pointer (some ⟨b1,0,none⟩)] 32::R)) 11 rfl (by kernel_rfl) (fun w' x' _=> ?_);have H':=H.ext0 x';clear x' H;revert H';generalize w'=w;intro H'
     have H:=H'.l4;clear H';refine AQ [0,1,2,3,4,5,6,7,8] [1,0,0,2,0,0] [] (by exact (H.pick 4 [0] rfl)) rfl (by kernel_rfl) rfl (Ay [9] (by kernel_rfl) (by simp) (Av (BI rfl rfl rfl rfl rfl rfl (fun w=>call13 _ w) (Tt _ _ _ mb 200 o _ ra L hW.root hW.n hll) H.f1.f2.f2 rfl ?_)));rintro _ w _ ⟨rfl,rfl⟩ H;replace H:=H.l4;refine Ap (H.pick 4 [0] rfl) (AQ [10] [] [] (by exact (H.pick 4 [0] rfl)) rfl (by kernel_rfl) rfl (a_done (by kernel_rfl) (gn (Zc 2 rfl ?_))));replace H:=(((H.pick 4 [2,3] rfl).trTab).2).l2
     refine Z0 7 [3] rfl (z_C rfl (call16 _) (Hc Tb hT) H ?_);rintro _ w _ ⟨rfl,rfl⟩ H;refine Zc 5 rfl (Zr rfl ?_);exact ⟨_,⟨rfl,rfl⟩,H.pick 2 [1,0] rfl⟩
    ·refine Zc 5 rfl (z_C rfl (call21 _) (EU _ _ _ _ _) H ?_);rintro _ w _ ⟨rfl,rfl⟩ H;refine Zc 3 rfl ?_;replace H:=(((H.pick 4 [0,3] rfl).trTab).2).l2
     refine Zc 1 rfl (z_C rfl (call16 _) (Hc Tb hT) H ?_);rintro _ w _ ⟨rfl,rfl⟩ H;refine Zc 4 rfl (Zr rfl ?_);exact ⟨_,⟨rfl,rfl⟩,H.pick 2 [1,0] rfl⟩
   ·refine Z2 25 [1,2,0] H rfl (z_C rfl (call17 _) (M9 _ _ _ _ _ _ _ _ (by omega)) H ?_);rintro _ w _ ⟨rfl,rfl⟩ H;refine Zc 10 rfl (z_C rfl (call21 _) (EU _ _ _ _ _) H ?_);rintro _ w _ ⟨rfl,rfl⟩ H;refine Zc 3 rfl ?_;have hll:L.length≤1048576:=by have K:=H.says 0 rfl (fun h a=>trA.k a);have:=GC K.i (by omega) (show ∀ e∈L,∃ b,DM o none e.2=some (.dt b) from hW.root.data) hW.nd;have:=K.hn;omega
    replace H:=H.f2;refine AG (Sep z (blk b2 [.pointer (some ⟨pp,0,none⟩),.int .i64 (ra:Int),.pointer (some ⟨b1,0,none⟩)] 32::R)) 11 rfl (by kernel_rfl) (fun w' x' _=> ?_);have H':=H.ext0 x';clear x' H;revert H';generalize w'=w;intro H'
    have H:=H'.l4;clear H';refine AQ [0,1,2,3,4,5,6,7,8] [1,0,0,2,0,0] [] (by exact (H.pick 4 [0] rfl)) rfl (by kernel_rfl) rfl (Ay [9] (by kernel_rfl) (by simp) (Av (BI rfl rfl rfl rfl rfl rfl (fun w=>call13 _ w) (Tt _ _ _ mb 200 o _ ra L hW.root hW.n hll) H.f1.f2.f2 rfl ?_)));rintro _ w _ ⟨rfl,rfl⟩ H;replace H:=H.l4;refine Ap (H.pick 4 [0] rfl) (AQ [10] [] [] (by exact (H.pick 4 [0] rfl)) rfl (by kernel_rfl) rfl (a_done (by kernel_rfl) (gn (Zc 2 rfl ?_))));replace H:=(((H.pick 4 [2,3] rfl).trTab).2).l2
    refine Z0 7 [3] rfl (z_C rfl (call16 _) (Hc Tb hT) H ?_);rintro _ w _ ⟨rfl,rfl⟩ H;refine Zc 5 rfl (Zr rfl ?_);exact ⟨_,⟨rfl,rfl⟩,H.pick 2 [1,0] rfl⟩
  ·refine Z2 29 [1,2,0] H rfl (z_C rfl (call17 _) (M9 _ _ _ _ _ _ _ _ (by omega)) H ?_);rintro _ w _ ⟨rfl,rfl⟩ H;refine Zc 10 rfl (z_C rfl (call21 _) (EU _ _ _ _ _) H ?_);rintro _ w _ ⟨rfl,rfl⟩ H;refine Zc 3 rfl ?_;have hll:L.length≤1048576:=by have K:=H.says 0 rfl (fun h a=>trA.k a);have:=GC K.i (by omega) (show ∀ e∈L,∃ b,DM o none e.2=some (.dt b) from hW.root.data) hW.nd;have:=K.hn;omega
   replace H:=H.f2;refine AG (Sep z (blk b2 [.pointer (some ⟨pp,0,none⟩),.int .i64 (ra:Int),.pointer (some ⟨b1,0,none⟩)] 32::R)) 11 rfl (by kernel_rfl) (fun w' x' _=> ?_);have H':=H.ext0 x';clear x' H;revert H';generalize w'=w;intro H'
   have H:=H'.l4;clear H';refine AQ [0,1,2,3,4,5,6,7,8] [1,0,0,2,0,0] [] (by exact (H.pick 4 [0] rfl)) rfl (by kernel_rfl) rfl (Ay [9] (by kernel_rfl) (by simp) (Av (BI rfl rfl rfl rfl rfl rfl (fun w=>call13 _ w) (Tt _ _ _ mb 200 o _ ra L hW.root hW.n hll) H.f1.f2.f2 rfl ?_)));rintro _ w _ ⟨rfl,rfl⟩ H;replace H:=H.l4;refine Ap (H.pick 4 [0] rfl) (AQ [10] [] [] (by exact (H.pick 4 [0] rfl)) rfl (by kernel_rfl) rfl (a_done (by kernel_rfl) (gn (Zc 2 rfl ?_))));replace H:=(((H.pick 4 [2,3] rfl).trTab).2).l2
   refine Z0 7 [3] rfl (z_C rfl (call16 _) (Hc Tb hT) H ?_);rintro _ w _ ⟨rfl,rfl⟩ H;refine Zc 5 rfl (Zr rfl ?_);exact ⟨_,⟨rfl,rfl⟩,H.pick 2 [1,0] rfl⟩
end
open Go.ChangeShapes Go.WideShapes Go.ChangeAt Go.RowKit Go.Joins
theorem Wu (os:Os):laidMet prog Rows.treeRefusesUptoRow.laid ((HI os).forCall (fun _ _=>0) ⟨#[],#[.slice none 0 0,.int .i64 0,.int .i64 0],[]⟩).memory:=
 laidMet_of_run' 8 (by kernel_rfl) (by kernel_rfl)
theorem Q7 (os:Os) {H:Type} (enc:TypeId×Value→H):∃ places,DataW.whole enc prog ((HI os).forCall (fun _ _=>0) ⟨#[],#[.slice none 0 0,.int .i64 0,.int .i64 0],[]⟩).memory f4.params.toList Rows.treeRefusesSpec.vars false #[Value.slice none 0 0,.int .i64 0,.int .i64 0].toList 8=some ([.nil,.lit (.int .i64 0),.lit (.int .i64 0)],[],places):=
 ⟨[],by kernel_rfl⟩
theorem tlr_contract (H:Type) (enc:TypeId×Value→H) (W:World) (base:Nat) (args:Array Value) (ds gs:List (DataW H)) (before:List MemPlace)
  (hval:∀ (j:Nat) t v,f4.params[j]? =some t→args[j]? =some v→Value.okWide prog W .any base t v)
  (hW:DataW.Whole enc prog f4.params.toList Rows.treeRefusesSpec.vars false W args.toList ds gs before) (hk:Rows.uptoSmall H (ds++gs)=true) (hL:laidMetH prog Rows.treeRefusesUptoRow.laid W):
  Calls prog 4 args W fun e W'=>∃ v,e= .returned v∧Rows.treeRefusesSpec.post enc prog f4 false true false false W args v W':=by
 have hW0:=hW
 obtain ⟨p,q,hA0,hV,rfl,_,_⟩:=hW
 have hA:DataW.TrodAll enc prog W 0 (fun _=>true) true f4.params.toList args.toList ds p:=hA0
 rw[params4] at hA hval
 obtain ⟨v0,v1,v2,d0,d1,d2,p0,p1,p2,rfl,rfl,rfl,h0,h1,h2⟩:=Y1 hA
 obtain ⟨rfl,rfl⟩:=trodVars_none hV
 simp only[List.append_nil] at hW0 hk
 have t0:∀ x∈p0,x.block<W.heap.size:=fun x hx=>by have:=hW0.lt x (by simp[hx]);simpa using this
 have hb:Rows.uptoBulkAll [d0,d1,d2]≤1048576:=of_decide_eq_true hk
 simp only[Rows.uptoBulkAll] at hb
 obtain ⟨ao0,l0,c0,rfl⟩:=okWide_slice underlying22 (hval 0 22 v0 rfl rfl)
 obtain ⟨fuel0,hf0⟩:=id h0
 obtain ⟨es0,hr0,hes0,hlen0⟩:=Tx (h:=hf0)
 obtain ⟨i1,rfl,rfl,rfl,wi1⟩:=open_int underlying3 (hval 1 3 v1 rfl rfl) h1
 obtain ⟨i2,rfl,rfl,rfl,wi2⟩:=open_int underlying3 (hval 2 3 v2 rfl rfl) h2
 refine (Cn.run2 (Ws (K8 hL)) (KX (Io W) (M7 W) (YZ (K8 hL)) _ es0 (by omega) (fun h hh=>⟨Tz (K8 hL) hr0 (Y0 _) h hh,hes0⟩) i1 i2)).mono fun e W' hR=> ?_
 obtain ⟨u,rfl,rfl,x⟩:∃ u,e=Ending.returned u∧u= .bool true∧Ext No W W':=by cases e<;>first|exact ⟨_,rfl,hR⟩|exact hR.elim
 exact ⟨_,rfl,_,_,_,[],_,[],hW0,trodAll_mk1 (shut_bool underlying4 true),Wt (Below.trod Wo (by kernel_rfl) (of_decide_eq_true (by kernel_rfl)) h0 x.below t0) (shut_int underlying3 wi1) (shut_int underlying3 wi2),rfl,x.below.frame _,fun h=>by cases h⟩
theorem Pm (os:Os) (started:os.Started) (H:Type) (enc:TypeId×Value→H) (F:Stop.Interp):
  ReturnsInHanded {} checked os 4 .any ((Rows.OpenSpec.upto Rows.treeRefusesSpec).preRow enc prog f4 Rows.treeRefusesUptoRow.domain false Rows.treeRefusesUptoRow.laid) (((Rows.OpenSpec.upto Rows.treeRefusesSpec).at F).post enc prog f4 false true false false):=by
 obtain ⟨places,hx⟩:=Q7 os enc
 refine returnsInHanded_of_row (C:=checked) (s:=Rows.OpenSpec.upto Rows.treeRefusesSpec) own started (by kernel_rfl) func4
  (witness_row_at (enc:=enc) (C:=checked) false (HI os) #[.slice none 0 0,.int .i64 0,.int .i64 0] rfl (by kernel_rfl) (by kernel_rfl) (by kernel_rfl)
   (OpenSpec.preRow_of_cond 8 hx (by kernel_rfl) (fun k hk=>by cases hk;kernel_rfl) (by kernel_rfl) (Wu os))) ?_
 intro W base args ds gs before hval hW _ hcond _ hL _ _
 exact tlr_contract H enc W base args ds gs before hval hW (hcond _ rfl) hL
theorem tlr_said:Rows.TreeRefusesUptoSaid:=
 OpenClaim.holds_of_cond 4 f4 rfl rfl rfl rfl rfl rfl rfl ⟨rfl,rfl,rfl,rfl,rfl⟩ rfl rfl rfl rfl rfl (by kernel_rfl) func4 (by kernel_rfl)
  (of_decide_eq_true (by kernel_rfl)) (by unfold Func.isWrapper;first|(rw[if_pos (by decide+kernel)];kernel_rfl)|(rw[if_neg (by decide+kernel)];exact ⟨rfl,rfl⟩))
  (fun os started H enc _ F=>by rw[OpenClaim.pre_eq_preRow];exact Pm os started H enc F)
theorem Q8 (f:FuncId) (fn:Func) (hf:Tryz.pinned.checked.prog.funcNamed "polder/polderlaw12.TreeRefuses"=some f) (hfn:Tryz.pinned.checked.prog.funcs[f]? =some fn):
  false=Tryz.pinned.checked.prog.looks []∧∀ (j:Nat) t,fn.params[j]? =some t→Tryz.pinned.checked.prog.wantsStandIn t=false:=by
 obtain rfl:f=4:=Option.some.inj ((show prog.funcNamed "polder/polderlaw12.TreeRefuses"=some 4 by kernel_rfl).symm.trans hf) |>.symm
 obtain rfl:fn=f4:=(Option.some.inj (func4.symm.trans hfn)).symm
 refine ⟨by kernel_rfl,fun j t ht=> ?_⟩
 rw[params4] at ht
 have hm:=Array.mem_of_getElem? ht
 simp at hm
 rcases hm with rfl|rfl|rfl<;>first|exact (show prog.wantsStandIn 22=false by kernel_rfl)|exact (show prog.wantsStandIn 3=false by kernel_rfl)
theorem treeRefuses_holds:Rows.TreeRefusesUptoCardSaid:=
 Claim7.holds_tied_plain_at .later [] _ _ _ _ tlr_said (fun _ h=>by cases h) (by kernel_rfl) (fun _ h=>by cases h) treeRefusesUpto_row_tie rfl ⟨rfl,rfl⟩ (by kernel_rfl) rfl Q8 (by kernel_rfl)
end Go.Proofs.YtglgbkpniipjbaaGreatDoor
