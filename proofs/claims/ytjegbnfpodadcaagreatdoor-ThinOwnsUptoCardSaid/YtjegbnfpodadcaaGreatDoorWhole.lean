/-
  What is written is copied, what is read is the caller's. No condition.
-/
import Derived.Test.YtjegbnfpodadcaaGreatDoorPart5
import Derived.Test.YtjegbnfpodadcaaGreatDoorCards
import Derived.Test.YtjegbnfpodadcaaGreatDoorTie
import Derived.WalkKit
import Derived.WalkSpells
import Derived.Deep.Quiet
import Derived.KernelRfl
import Derived.IntWalk
import Derived.Maps.AppendAt
import Derived.Laws.AppendOwnNone
import Derived.Laws.CopyRow
import Derived.StillTail
import Derived.Deep.RegionHeld
import Derived.Laws.IdiomStrings
import Derived.Laws.BytesArg
import Derived.Laws.OwnMore
import Derived.Lib.Strings
import Derived.ArgAppend
import Derived.Test.YtjegbnfpodadcaaGreatDoorRows
import Derived.RangeFuncLeaves
import Derived.RangeFuncRecord
import Derived.RangeFuncCalls
import Derived.RangeFuncSeq
import Derived.OrdersIn
import Derived.TacticsIn
import Derived.Laws.IdiomRangeMap
import Derived.Defers
import Derived.Laws.LoneSync
import Derived.LoopN
import Derived.Lib.TrailingZeros
import Derived.Test.YtjegbnfpodadcaaGreatDoorProg
import Derived.Shelf.Sort.Plain
import Derived.Shelf.Slices.In.SortNone
import Derived.DataReads
import Derived.ProofKit
import Derived.OpenShut
import Derived.Lib.SmallJoins
import Derived.Deep.DeepHandedRow
import Derived.Lib.LaidTab
set_option maxRecDepth 100000
set_option linter.unusedSimpArgs false
set_option linter.unusedVariables false
open Go.Proofs.Tryz
namespace Go.Proofs.YtjegbnfpodadcaaGreatDoor
section
open Go.RowKit
variable {Tb:Ae}
theorem HP (pp mb n:Nat) (o:TB) (id st sz q r mp kk:Int) (dv:Value) (hv:Cu id st sz q r mp) (hb:0≤kk∧kk<sz):Cn prog 16 [Pt_ pp,.agg #[Iv_ id,Iv_ st,Iv_ sz,Iv_ q,Iv_ r,Iv_ mp],Iv_ kk,dv] [trA Tb pp mb n o none] (fun v Γ=>v= .tuple #[.agg #[Iv_ 0,Iv_ 0,Iv_ 0,Iv_ 0,Iv_ 0,Iv_ 0],Iv_ 18]∧Γ=[trA Tb pp mb n o none]):=by
 intro z R w H
 obtain ⟨M0,u,⟨_,_,hu,_⟩,H,back⟩:=H.trP
 obtain rfl:u=none:=by cases u with|none=>rfl|some=>cases hu
 refine Ret.mono (Cn.at (RB pp mb n M0 o.C id st sz q r mp kk dv) H 1 [0] rfl rfl) ?_
 rintro v w' ⟨Γ',⟨rfl,rfl⟩,H'⟩
 have e:BS id st sz q r mp kk=0:=by unfold BS;rw[if_pos hv,if_pos (by omega)]
 exact ⟨_,⟨by rw[e];rfl,rfl⟩,back _ _ H'⟩
theorem Ux:cnt (AT 64 (ID 64).C) 0 1024=62:=by decide+kernel
set_option maxHeartbeats 2000000 in
theorem TV (Tb:Ae) (hT:G9 Tb):Cn prog 11 [] [Tb] (fun v Γ=>v= .bool true∧Γ=[Tb]):=by
 intro z R w H;replace H:=H.l1;refine Ad func11 rfl ntmps11 rfl (Zc 7 rfl (Ax rfl (call7 _) (Nx 64 (by omega) Tb hT) H ?_));rintro _ w _ ⟨pp,rfl,rfl⟩ H;refine Zc 16 rfl (Ac rfl (AJ rfl rfl (out:=[Iv_ 1,Iv_ 1,Iv_ 9,Iv_ 9,Iv_ 0,Iv_ 0]) (by kernel_rfl)) (Zc 1 rfl (Ac rfl (AJ rfl rfl (out:=[Pt_ pp,Iv_ 1,Iv_ 1,Iv_ 9,Iv_ 9,Iv_ 0,Iv_ 0,Iv_ 1,Iv_ 9,Iv_ 9,.slice none 0 0]) (by kernel_rfl)) (Za 0 [] H rfl ?_))));intro b1 w H;refine Zc 4 rfl ?_;replace H:=(H.nilg 123 2).l3
 refine Zc 3 rfl (Ax rfl (call9 _) (Yy _ _ 6 64 (ID 64) 0 ([]) [] (grow 123 2 (.slice none 0 0) 0 []) (.slice none 0 0) 1 9 9 1 3 7 0 false (Uw (by omega)) (fun h q=>q.rd) (by unfold Cu;rw[List.length_nil];omega) (by omega) (by omega) (by omega) (by omega)) H.f2.f1.f2 ?_);rintro _ w _ ⟨a1,L1,o1,m1,u1,A1,⟨hD1,hd1⟩,rfl,rfl⟩ H;replace H:=H.l3;obtain ⟨val,hL1⟩:=hd1 rfl (by rw[Ux];decide) (by omega) rfl (.inr (by show ((0:Nat):Int)<9;omega));have hl1:L1.length=1:=by rw[hL1];rfl
 have ha1:a1≠0:=fun e=>by have:=hD1.I.root;rw[e] at this;rcases this with ⟨_,q⟩|⟨q,_⟩;(rw[q] at hl1;cases hl1);exact q rfl
 have K1:=H.says 2 rfl (fun h a=>trA.k a)
 have hv1:Cu 1 1 9 9 (a1:Int) (L1.length:Int):=by have h:=K1.i.rin a1 (by simp[Cq,hD1.I.r,DB ha1]);unfold Cu;omega
 refine Zc 6 rfl (z_E_ rfl (call10 _) (WM _ _ _ _ o1 _ L1 A1 u1 _ _ _ _ hD1.I.root hD1.A hv1) H ?_);intro w H;refine Zc 4 rfl (AH (Sep z (blk b1 [Pt_ pp,Iv_ 1,Iv_ 1,Iv_ 9,Iv_ 9,Iv_ (a1:Int),Iv_ (L1.length:Int),Iv_ 1,Iv_ 9,Iv_ 9,u1] 33::R)) 14 rfl (by kernel_rfl) (Bc H fun w H'=> ?_))
 have H:=H'.l3;refine AL [0,1,2,3,4,5] [1,0,6] [] (by exact (H.pick 3 [0] rfl)) rfl (by kernel_rfl) rfl (Au [6,11] (by kernel_rfl) (by simp) (Hx ?_ ?_))
 ·refine BB rfl rfl rfl rfl rfl rfl (fun w=>call19 _ w) (GT _ _ _ _ (by omega) (by omega)) H rfl ?_;rintro _ w _ ⟨db,bs,hbs,rfl,rfl⟩ H;replace H:=H.l4;refine Ak (H.pick 4 [1] rfl) (Au [7,11] (by kernel_rfl) (by simp) (Hx ?_ ?_))
  ·refine BB rfl rfl rfl rfl rfl rfl (fun w=>call16 _ w) (HP _ _ _ _ _ _ _ _ _ _ _ _ hv1 (by omega)) H.f3 rfl ?_;rintro _ w _ ⟨rfl,rfl⟩ H;replace H:=H.l4;refine Ak (H.pick 4 [2] rfl) (AL [8,9,10] [] [] (by exact (H.pick 4 [2] rfl)) rfl (by kernel_rfl) rfl (Au [11] (by kernel_rfl) (by simp) (Aq (Cg rfl rfl rfl rfl (BO (P:=prog) H rfl (zs:=[Iv_ 0,Iv_ 0,Iv_ 0,Iv_ 0,Iv_ 0,Iv_ 0]) (by kernel_rfl)) ?_))));rintro _ w ⟨b2,rfl,H⟩;replace H:=H.l5;refine Ak (H.pick 5 [3] rfl) (Au [12] (by kernel_rfl) (by simp) (Aq (A8 rfl rfl rfl (Ag 0 H rfl rfl rfl rfl (vs:=[Iv_ 0,Iv_ 0,Iv_ 0,Iv_ 0,Iv_ 0,Iv_ 0]) rfl (by simp[u8,u32,Value.oneCell']) (by kernel_rfl) (by simp) (out:=[Iv_ 0,Iv_ 0,Iv_ 0,Iv_ 0,Iv_ 0,Iv_ 0]) rfl) ?_)));rintro w H;replace H:=H.l5;refine Ak (H.pick 5 [3] rfl) (AL [13] [] [] (by exact (H.pick 5 [3] rfl)) rfl (by kernel_rfl) rfl (a_done (by kernel_rfl) (gn (Z2 16 [1,6,3,0,0] H rfl (Al 43 rfl (fun h1=> ?_) (fun h1=> ?_))))))
   ·refine Z2 8 [1,5,3,0,0] H rfl (Al 51 rfl (fun h2=> ?_) (fun h2=> ?_))
    ·refine Z0 7 [3] rfl (Zr rfl ?_);exact ⟨_,⟨rfl,rfl⟩,((H.pick 5 [1] rfl).trTab).2⟩
    ·(exfalso;omega)
   ·(exfalso;omega)
  ·refine Cg rfl rfl rfl rfl (BO (P:=prog) H rfl (zs:=[Iv_ 0,Iv_ 0,Iv_ 0,Iv_ 0,Iv_ 0,Iv_ 0]) (by kernel_rfl)) ?_;rintro _ w ⟨b3,rfl,H⟩;replace H:=H.l5;refine Ak (H.pick 5 [2] rfl) (Au [7] (by kernel_rfl) (by simp) (Aq (BB rfl rfl rfl rfl rfl rfl (fun w=>call16 _ w) (HP _ _ _ _ _ _ _ _ _ _ _ _ hv1 (by omega)) H.f4 rfl ?_)));rintro _ w _ ⟨rfl,rfl⟩ H;replace H:=H.l5;refine Ak (H.pick 5 [3] rfl) (AL [8,9,10] [] [] (by exact (H.pick 5 [3] rfl)) rfl (by kernel_rfl) rfl (Au [12] (by kernel_rfl) (by simp) (Aq (A8 rfl rfl rfl (Ag 1 H rfl rfl rfl rfl (vs:=[Iv_ 0,Iv_ 0,Iv_ 0,Iv_ 0,Iv_ 0,Iv_ 0]) rfl (by simp[u8,u32,Value.oneCell']) (by kernel_rfl) (by simp) (out:=[Iv_ 0,Iv_ 0,Iv_ 0,Iv_ 0,Iv_ 0,Iv_ 0]) rfl) ?_))));rintro w H;replace H:=H.l5;refine Ak (H.pick 5 [3] rfl) (AL [13] [] [] (by exact (H.pick 5 [3] rfl)) rfl (by kernel_rfl) rfl (a_done (by kernel_rfl) (gn (Z2 16 [1,6,3,0,0] H rfl (Al 43 rfl (fun h3=> ?_) (fun h3=> ?_))))))
   ·refine Z2 8 [1,5,3,0,0] H rfl (Al 51 rfl (fun h4=> ?_) (fun h4=> ?_))
    ·refine Z0 7 [3] rfl (Zr rfl ?_);exact ⟨_,⟨rfl,rfl⟩,((H.pick 5 [0] rfl).trTab).2⟩
    ·(exfalso;omega)
   ·(exfalso;omega)
 ·refine Cg rfl rfl rfl rfl (BO (P:=prog) H rfl (zs:=[Iv_ 0,Iv_ 0,Iv_ 0,Iv_ 0,Iv_ 0,Iv_ 0]) (by kernel_rfl)) ?_;rintro _ w ⟨b4,rfl,H⟩;replace H:=H.l4;refine Ak (H.pick 4 [1] rfl) (Au [6] (by kernel_rfl) (by simp) (Aq (BB rfl rfl rfl rfl rfl rfl (fun w=>call19 _ w) (GT _ _ _ _ (by omega) (by omega)) H rfl ?_)));rintro _ w _ ⟨db,bs,hbs,rfl,rfl⟩ H;replace H:=H.l5;refine Ak (H.pick 5 [2] rfl) (Au [7] (by kernel_rfl) (by simp) (Aq (BB rfl rfl rfl rfl rfl rfl (fun w=>call16 _ w) (HP _ _ _ _ _ _ _ _ _ _ _ _ hv1 (by omega)) H.f4 rfl ?_)));rintro _ w _ ⟨rfl,rfl⟩ H;replace H:=H.l5;refine Ak (H.pick 5 [3] rfl) (AL [8,9,10] [] [] (by exact (H.pick 5 [3] rfl)) rfl (by kernel_rfl) rfl (Au [12] (by kernel_rfl) (by simp) (Aq (A8 rfl rfl rfl (Ag 2 H rfl rfl rfl rfl (vs:=[Iv_ 0,Iv_ 0,Iv_ 0,Iv_ 0,Iv_ 0,Iv_ 0]) rfl (by simp[u8,u32,Value.oneCell']) (by kernel_rfl) (by simp) (out:=[Iv_ 0,Iv_ 0,Iv_ 0,Iv_ 0,Iv_ 0,Iv_ 0]) rfl) ?_))));rintro w H;replace H:=H.l5;refine Ak (H.pick 5 [3] rfl) (AL [13] [] [] (by exact (H.pick 5 [3] rfl)) rfl (by kernel_rfl) rfl (a_done (by kernel_rfl) (gn (Z2 16 [1,6,3,0,0] H rfl (Al 43 rfl (fun h5=> ?_) (fun h5=> ?_))))))
  ·refine Z2 8 [1,5,3,0,0] H rfl (Al 51 rfl (fun h6=> ?_) (fun h6=> ?_))
   ·refine Z0 7 [3] rfl (Zr rfl ?_);exact ⟨_,⟨rfl,rfl⟩,((H.pick 5 [0] rfl).trTab).2⟩
   ·(exfalso;omega)
  ·(exfalso;omega)
end
section
open Go.RowKit
variable {Tb:Ae}
structure OwE where
 k:Int
 d:Bool
 f:Int
 l:Int
def OwE.cells (e:OwE):List Value:=[.int .i64 e.k,.bool e.d,.int .i64 e.f,.int .i64 e.l]
theorem LwI.vok {n:Nat} {o:TB} {ra:Nat} {L:List E} {Q:List Nat} (hI:LwI n o ra L Q) (K:TrK n o none) {id sz q:Int} (h:(1≤id∧id≤1000)∧(1≤sz∧sz≤1000)∧0≤q∧q≤1000):Cu id 1 sz q (ra:Int) (L.length:Int):=by
 have h1:=hI.n
 have h2:=Kw K.i (by omega) (show ∀ e∈L,∃ b,CW o none e.2=some (.dt b) from hI.root.data) hI.nd
 have h3:ra<n:=by
  by_cases e:ra=0
  ·have:=K.hn;omega
  ·exact (K.i.rin ra (by simp[Cq,hI.r,DB e])).2
 unfold Cu;omega
end
section
open Go.ChangeShapes Go.WideShapes Go.ChangeAt Go.RowKit Go.Joins
theorem own:ownKnob prog.godebug=none:=by kernel_rfl
def Lw:DataW Unit→List Value
 | .lit (.int k n)=>[.int k n]
 | .agg parts=>flatWs parts
 | _=>[]
where flatWs:List (DataW Unit)→List Value
 | []=>[]
 | d::ds=>Lw d++flatWs ds
def TW:Obj→Obj
 | .cells c t frozen=> .cells (if c.size=32 then (Lw Rows.laid_unicode_utf8_acceptRanges).toArray else if c.size=64 then (Lw Rows.laid_math_bits_deBruijn64tab).toArray else (Lw Rows.laid_unicode_utf8_first).toArray) t frozen
 | o=>o
noncomputable def HQ (os:Os):World:=
 { World.holding prog os ⟨#[],#[],[]⟩ with heap:=(((World.holding prog os ⟨#[],#[],[]⟩).heap.modify 0 TW).modify 1 TW).modify 2 TW }
abbrev Y8 (x:Int):Prop:= -9223372036854775808≤x∧x≤9223372036854775807
theorem Uy {n:Int} (h:(Lit.int .i64 n).wf=true):Y8 n:=by
 simp only[Lit.wf,Bool.and_eq_true,decide_eq_true_eq] at h
 have h1:IntKind.i64.min= -9223372036854775808:=by decide
 have h2:IntKind.i64.max=9223372036854775807:=by decide
 rw[h1,h2] at h
 exact h
theorem Yz:prog.globalNamed "math/bits.deBruijn64tab"=some 0:=by kernel_rfl
theorem TX:(prog.globals[0]?).map (·.type)=some 252:=by kernel_rfl
theorem WN:prog.cellsOf 252=64:=by kernel_rfl
theorem WO:prog.cellsOf 5=1:=by kernel_rfl
def tzL:List Int:=Lib.deBruijn64tab.map Int.ofNat
theorem Uz {W:World} (h:laidMetH prog Rows.thinPlaysUptoRow.laid W):Lib.TabIs prog W "math/bits.deBruijn64tab" .u8 tzL:=
 Lib.tabIs_of_head (rest:=[("unicode/utf8.acceptRanges",Rows.laid_unicode_utf8_acceptRanges),("unicode/utf8.first",Rows.laid_unicode_utf8_first)]) Yz TX underlying252 underlying5 WO WN h
theorem OV {W:World} (h:Lib.TabIs prog W "math/bits.deBruijn64tab" .u8 tzL):∃ t fr,W.heap[0]? =some (.cells (tzL.map fun z=>Value.int .u8 z).toArray t fr):=by
 unfold Lib.TabIs World.var? at h
 rw[Yz] at h
 simp only[Option.bind_some] at h
 cases e:W.heap[0]? with
 | none=>rw[e] at h;cases h
 | some o=>
  rw[e] at h
  cases o<;>simp at h
  subst h;exact ⟨_,_,rfl⟩
def Lz (W:World):Ae:=fun h=>∀ k,k<W.heap.size→k≠0→h k=W.heap[k]?
def Nz (W:World):Ae:=fun h=>h 0=W.heap[0]?
theorem YA:(List.range 64).all (fun j=>tzL[j]? == some ((Qw j).toNat:Int))=true:=by decide+kernel
theorem Y9 {W:World} (ht:Lib.TabIs prog W "math/bits.deBruijn64tab" .u8 tzL):G9 (Nz W):=fun h hh j hj=>by
 obtain ⟨t,fr,e⟩:=OV ht
 have:=List.all_eq_true.1 YA j (List.mem_range.2 hj)
 have h2:tzL[j]? =some ((Qw j).toNat:Int):=by simpa using this
 exact ⟨_,t,fr,(show h 0=_ from hh).trans e,by simp[h2,u8]⟩
theorem WP {W:World} (ht:Lib.TabIs prog W "math/bits.deBruijn64tab" .u8 tzL):0<W.heap.size:=by
 obtain ⟨t,fr,e⟩:=OV ht
 rcases Nat.eq_zero_or_pos W.heap.size with q|q
 ·rw[Array.getElem?_eq_none (by omega)] at e;cases e
 ·exact q
theorem OW {h:Hp} {own:Nat→Nat} {i k:Nat} {o:Obj} (e:h.part own i k=some o):h k=some o:=by
 unfold Hp.part at e
 split at e
 ·exact e
 ·cases e
theorem Cn.run2 {P:Program} {f:FuncId} {args:List Value} {W:World} {u:Value} (h0:0<W.heap.size) (h:Cn P f args [Lz W,Nz W] (fun v Γ=>v=u∧Γ=[Lz W,Nz W])):Calls P f args.toArray W (Ret fun v W'=>v=u∧Ext No W W'):=by
 have hS:Sep W [Lz W,Nz W] W:=⟨rfl,rfl,rfl,fun q=>if q=0 then 1 else 0,fun i A hA=>by
  match i,hA with
  | 0,hA=>cases hA;intro k hk hne;simp[Hp.part,hp,hne]
  | 1,hA=>cases hA;show Hp.part _ _ _ 0=_;simp[Hp.part,hp]⟩
 refine Ret.mono (h W [] W hS) ?_
 rintro v W' ⟨Γ,⟨rfl,rfl⟩,H⟩
 obtain ⟨own,hown⟩:=H.own
 have hb:=hown 0 _ rfl
 have ht:=hown 1 _ rfl
 have hall:∀ k,k<W.heap.size→hp W' k=W.heap[k]? :=fun k hk=>by
  obtain ⟨o,ho⟩:∃ o,W.heap[k]? =some o:=⟨_,Array.getElem?_eq_getElem hk⟩
  rw[ho]
  by_cases q:k=0
  ·subst q;exact OW ((show _=_ from ht).trans ho)
  ·exact OW ((hb k hk q).trans ho)
 have H2:Sep W [base W] W':=⟨H.os,H.tape,H.output,fun k=>if k<W.heap.size then 0 else 1,fun i A hA=>by
  match i,hA with
  | 0,hA=>cases hA;intro k hk;unfold Hp.part;rw[if_pos (by simp[hk])];exact hall k hk⟩
 exact ⟨rfl,Sep.done 0 H2 rfl⟩
section
variable {H:Type} {enc:TypeId×Value→H} {P:Program} {w:World} {base:Nat} {spare:Nat→Bool} {held:Bool}
end
section
variable {H:Type} {enc:TypeId×Value→H} {P:Program} {w:World} {base:Nat} {spare:Nat→Bool} {held:Bool}
theorem Zb {t0 t1:TypeId} {args:Array Value} {ds:List (DataW H)} {ps:List MemPlace} (h:DataW.TrodAll enc P w base spare held [t0,t1] args.toList ds ps):
  ∃ v0 v1 d0 d1 p0 p1,args= #[v0,v1]∧ds=[d0,d1]∧ps=p0++p1∧DataW.Trod enc P w base spare held t0 v0 d0 p0∧DataW.Trod enc P w base spare held t1 v1 d1 p1:=by
 obtain ⟨v0,vs0,d0,ds0,p0,q0,hargs,rfl,rfl,hd0,hr0⟩:=trodAll_cons h
 obtain ⟨v1,vs1,d1,ds1,p1,q1,rfl,rfl,rfl,hd1,hr1⟩:=trodAll_cons hr0
 obtain ⟨rfl,rfl,rfl⟩:=trodAll_nil hr1
 exact ⟨v0,v1,d0,d1,p0,p1,by cases args;simp_all,rfl,by simp,hd0,hd1⟩
theorem WQ {t0 t1:TypeId} {v0 v1:Value} {d0 d1:DataW H} {p0 p1:List MemPlace} (h0:DataW.Trod enc P w base spare held t0 v0 d0 p0) (h1:DataW.Trod enc P w base spare held t1 v1 d1 p1):DataW.TrodAll enc P w base spare held [t0,t1] [v0,v1] [d0,d1] (p0++p1):=
 ⟨p0,_,h0,(trodAll_mk1 h1),rfl⟩
end
section
variable {H:Type} {enc:TypeId×Value→H} {P:Program} {w:World} {base:Nat} {spare:Nat→Bool} {held:Bool}
end
end
section
open Go.RowKit
variable {Tb:Ae}
def TB.as (o:TB) (R:List Nat):TB:=⟨o.N,o.C,R⟩
section
variable {o o2:TB} {a a2 b:Nat} {L L2 M:List E} {mb m2:Nat} {Vw A2:Ae} {u u2 x:Value}
end
end
section
open Go.RowKit
variable {Tb:Ae}
section late
variable {P:Program} {ops:Array Oper} {Q:Exit→Act→World→Prop} {S:World→Prop} {E:List Nat}
theorem ready_un {listed:Array Bool} {j:Nat} (hj:j∈Region.ready .any ops listed) (hsz:listed.size=ops.size):listed.getD j false=true→False:=fun h2=>by
 have h0:=(mem_ready.1 hj).1
 obtain ⟨_,oj,hoj,_⟩:=mem_ready.1 hj
 have hb:=(Array.getElem?_eq_some_iff.1 hoj).1
 have hh:j<listed.size:=by omega
 simp[hh] at h2 h0
 rw[h2] at h0;cases h0
theorem Lo {i:Nat} {oi:Oper} {v:Value} (hi:ops[i]? =some oi) {f:Nat} (hsel:∀ (j:Nat) (o:Oper) cs b,ops[j]? =some o→o.op≠ .select cs b)
  (hQ:∀ c a w,Q (.panic c) (a.put oi.dst v) w→Q (.panic c) a w):
  ∀ (fuel:Nat) (listed:Array Bool) (a:Act) (w:World),Dc ops listed→listed.size=ops.size→(∀ j∈E,listed.getD j false=true∨En ops f j i=true)→
   (∀ j oj,ops[j]? =some oj→j≠i→listed.getD j true=false→(∀ e∈oj.after,Region.binds .any e=true→e.on≠i)→oi.apart ops oj=true)→
   i∈Region.ready .any ops listed→YieldsIf P ops S oi v a→S w→
   Eo P ops Q S E fuel (listed.setIfInBounds i true) (a.put oi.dst v) w→Eo P ops Q S E (fuel+1) listed a w:=by
 intro fuel
 induction fuel with
 | zero=>
  intro listed a w hd hsz _ _ hr hy hS H
  refine ⟨fun h=>(by rw[h] at hr;cases hr),fun j hj=> ?_⟩
  by_cases hji:j=i
  ·subst hji;exact hy.wpOp hi hS ⟨fun _=>hS,H⟩
  ·have:=ready_mono hj hji
   rw[H.1] at this
   cases this
 | succ fuel ih=>
  intro listed a w hd hsz hE hfree hr hy hS H
  refine ⟨fun h=>(by rw[h] at hr;cases hr),fun j hj=> ?_⟩
  by_cases hji:j=i
  ·subst hji;exact hy.wpOp hi hS ⟨fun _=>hS,H⟩
  ·have h1:=H.2 j (ready_mono hj hji)
   have hjl:E.contains j=false:=by
    cases hc:E.contains j with
    | false=>rfl
    | true=>
     have hm:j∈E:=by simpa using hc
     rcases hE j hm with h|h
     ·exact (ready_un hj hsz h).elim
     ·exact (ready_un hr hsz (ready_waits hd hsz h hj)).elim
   obtain ⟨hjun,oj,hoj,hall⟩:=mem_ready.1 hj
   have hnot:∀ e∈oj.after,Region.binds .any e=true→e.on≠i:=fun e he hb heq=>by
    have h1:=hall e he hb
    rw[heq] at h1
    exact ready_un hr hsz h1
   have h2:=wpOp_putIf hoj (hfree j oj hoj hji hjun hnot) (fun cs b=>hsel i oi cs b hi) (fun cs b=>hsel j oj cs b hoj) hQ hy h1
   have hfree':∀ k ok,ops[k]? =some ok→k≠i→(listed.setIfInBounds j true).getD k true=false→
     (∀ e∈ok.after,Region.binds .any e=true→e.on≠i)→oi.apart ops ok=true:=fun k ok hk hki hun hno=>by
    refine hfree k ok hk hki ?_ hno
    by_cases hjk:j=k
    ·subst hjk;exact hjun
    ·rw[getD_set_ne true hjk] at hun;exact hun
   have hE':∀ k∈E,(listed.setIfInBounds j true).getD k false=true∨En ops f k i=true:=fun k hk=>by
    by_cases hjk:j=k
    ·subst hjk
     have hm:E.contains j=true:=by simpa using hk
     rw[hm] at hjl;cases hjl
    ·rw[getD_set_ne false hjk];exact hE k hk
   refine wpOp_mono (fun a' w' h3=>⟨fun _=>h3.2.1 hjl,ih (listed.setIfInBounds j true) a' w' (hd.next hj) (by simpa using hsz) hE' hfree' (ready_mono hr (Ne.symm hji)) h3.1 (h3.2.1 hjl) ?_⟩) h2
   rw[Array.setIfInBounds_comm _ _ hji]
   exact h3.2.2
theorem NP {i:Nat} {oi:Oper} {v:Value} (hi:ops[i]? =some oi) (hEi:E.contains i=true) (hsel:∀ (j:Nat) (o:Oper) cs b,ops[j]? =some o→o.op≠ .select cs b)
  (hQ:∀ c a w,Q (.panic c) (a.put oi.dst v) w→Q (.panic c) a w):
  ∀ (fuel:Nat) (listed:Array Bool) (a:Act) (w:World),Dc ops listed→listed.size=ops.size→
   (∀ j oj,ops[j]? =some oj→j≠i→listed.getD j true=false→(∀ e∈oj.after,Region.binds .any e=true→e.on≠i)→oi.apart ops oj=true)→
   i∈Region.ready .any ops listed→YieldsIf P ops (fun _=>True) oi v a→
   Eo P ops Q S E fuel (listed.setIfInBounds i true) (a.put oi.dst v) w→Eo P ops Q S E (fuel+1) listed a w:=by
 intro fuel
 induction fuel with
 | zero=>
  intro listed a w hd hsz _ hr hy H
  refine ⟨fun h=>(by rw[h] at hr;cases hr),fun j hj=> ?_⟩
  by_cases hji:j=i
  ·subst hji;exact hy.wpOp hi trivial ⟨fun e=>(by rw[hEi] at e;cases e),H⟩
  ·have:=ready_mono hj hji
   rw[H.1] at this
   cases this
 | succ fuel ih=>
  intro listed a w hd hsz hfree hr hy H
  refine ⟨fun h=>(by rw[h] at hr;cases hr),fun j hj=> ?_⟩
  by_cases hji:j=i
  ·subst hji;exact hy.wpOp hi trivial ⟨fun e=>(by rw[hEi] at e;cases e),H⟩
  ·have h1:=H.2 j (ready_mono hj hji)
   obtain ⟨hjun,oj,hoj,hall⟩:=mem_ready.1 hj
   have hnot:∀ e∈oj.after,Region.binds .any e=true→e.on≠i:=fun e he hb heq=>by
    have h1:=hall e he hb
    rw[heq] at h1
    exact ready_un hr hsz h1
   have h2:=wpOp_putIf hoj (hfree j oj hoj hji hjun hnot) (fun cs b=>hsel i oi cs b hi) (fun cs b=>hsel j oj cs b hoj) hQ hy h1
   have hfree':∀ k ok,ops[k]? =some ok→k≠i→(listed.setIfInBounds j true).getD k true=false→
     (∀ e∈ok.after,Region.binds .any e=true→e.on≠i)→oi.apart ops ok=true:=fun k ok hk hki hun hno=>by
    refine hfree k ok hk hki ?_ hno
    by_cases hjk:j=k
    ·subst hjk;exact hjun
    ·rw[getD_set_ne true hjk] at hun;exact hun
   refine wpOp_mono (fun a' w' h3=>⟨h3.2.1,ih (listed.setIfInBounds j true) a' w' (hd.next hj) (by simpa using hsz) hfree' (ready_mono hr (Ne.symm hji)) h3.1 ?_⟩) h2
   rw[Array.setIfInBounds_comm _ _ hji]
   exact h3.2.2
end late
section late2
variable {P:Program} {ops:List Oper} {N R:Act→World→Prop} {X:Nat→Act→World→Prop} {S:World→Prop} {E:List Nat} {a:Act} {w:World} {fuel:Nat} {listed:Array Bool} {n d i:Nat} {ds:List Deferred} {L:List (Nat×Value)} {v:Value} {o:Oper}
theorem JR (i:Nat) (hi:ops[i]? =some o) (hE:(E.all fun j=>listed.getD j false || En ops.toArray ops.length j i)=true) (hs:Region.noSelect ops.toArray=true) (hf:Region.free .any ops.toArray listed i=true) (hr:(Region.ready .any ops.toArray listed).contains i=true)
  (hw:Bz ops L o.guard=true) (hd:o.dst=some d) (hlt:Nat.blt d n=true) (hdo:Am P S n ds L o v) (hS:S w)
  (K:∀ a',Fr n ds ((d,v)::L) a'→Gt P ops (Qp N X R) S E fuel (listed.setIfInBounds i true) a' w):∀ a,Fr n ds L a→Gt P ops (Qp N X R) S E (fuel+1) listed a w:=fun a hF hdc hsz=>
 have hi':ops.toArray[i]? =some o:=by simpa using hi
 have hr':i∈Region.ready .any ops.toArray listed:=by simpa using hr
 Lo (i:=i) (oi:=o) (v:=v) hi' (Region.noSelect_spec hs) (fun _ _ _ h=>h.elim) fuel listed a w hdc (by simpa using hsz) (fun j hj=>by simpa using (List.all_eq_true.1 hE) j hj) (Region.free_spec hi' hf) hr' (.inl ⟨wantL_ok hF hw,fun w' h=>hdo a hF w' h⟩) hS
  (by rw[hd];exact K _ (hF.put d v hlt) (hdc.next hr') (by simpa using hsz))
theorem NA (i:Nat) (hi:ops[i]? =some o) (hE:E.contains i=true) (hs:Region.noSelect ops.toArray=true) (hf:Region.free .any ops.toArray listed i=true) (hr:(Region.ready .any ops.toArray listed).contains i=true)
  (hw:Bz ops L o.guard=true) (hd:o.dst=some d) (hlt:Nat.blt d n=true) (hdo:Am P (fun _=>True) n ds L o v)
  (K:∀ a',Fr n ds ((d,v)::L) a'→Gt P ops (Qp N X R) S E fuel (listed.setIfInBounds i true) a' w):∀ a,Fr n ds L a→Gt P ops (Qp N X R) S E (fuel+1) listed a w:=fun a hF hdc hsz=>
 have hi':ops.toArray[i]? =some o:=by simpa using hi
 have hr':i∈Region.ready .any ops.toArray listed:=by simpa using hr
 NP (i:=i) (oi:=o) (v:=v) hi' hE (Region.noSelect_spec hs) (fun _ _ _ h=>h.elim) fuel listed a w hdc (by simpa using hsz) (Region.free_spec hi' hf) hr' (.inl ⟨wantL_ok hF hw,fun w' h=>hdo a hF w' h⟩)
  (by rw[hd];exact K _ (hF.put d v hlt) (hdc.next hr') (by simpa using hsz))
end late2
set_option maxHeartbeats 6000000 in
theorem PM (c fl:Int) (hc: -9223372036854775808≤c∧c≤9223372036854775807) (hfl: -9223372036854775808≤fl∧fl≤9223372036854775807) (A Tb:Ae) (hT:G9 Tb):Cn prog 6 [Iv_ c,Iv_ fl] [A,Tb] (fun v Γ=>v= .bool true∧Γ=[A,Tb]):=by
 intro z R w H;replace H:=H.l2;have hp60:=Nq c (N:=60) (by omega)
 refine Ad func6 rfl ntmps6 rfl (Zc 7 rfl (Ax rfl (call7 _) (Nx 64 (by omega) Tb hT) H.f1 ?_));rintro _ w _ ⟨pp,rfl,rfl⟩ H;refine Zc 15 rfl (Ac rfl (AJ rfl rfl (out:=[Iv_ 1,Iv_ 1,Iv_ 60,Iv_ 60,Iv_ 0,Iv_ 0]) (by kernel_rfl)) (Za 0 [] H rfl ?_));intro b1 w H;refine Z4 7 [0] H rfl ?_;intro w H;refine Ax rfl (call19 _) (GT _ _ _ _ hfl (by omega)) H ?_;rintro _ w _ ⟨db,bs,hbs,rfl,rfl⟩ H;replace H:=H.l4;have hm64:bs.length=64:=hbs
 refine Zc 6 rfl (Ac rfl (Ca (l:=bs) rfl (by kernel_rfl) (by kernel_rfl) rfl (AA (H.rd 0 rfl (fun h q=>by have q2:=q.rd (l:=64) (c:=64) (sz:=1) (off:=0) (xs:=bs.map u8) (Nat.le_refl _) (by omega) (by rw[List.length_map];omega) (by rw[List.drop_zero,Nat.mul_one];exact List.take_of_length_le (by rw[List.length_map];omega));rw[hm64];exact q2)))) (Zc 7 rfl (z_E_ rfl (call12 _) (Km _ _ _ _) H.f2 ?_)));intro w H;refine Z0 7 [4] rfl ?_;replace H:=H.f2;refine MR (Sep z (blk b1 [Iv_ 1,Iv_ 1,Iv_ 60,Iv_ 60,Iv_ 0,Iv_ 0] 28::R)) [7,8,9,10] 11 rfl (by kernel_rfl) (Bc H fun w H'=> ?_)
 have H:=H'.l4;refine JR 0 rfl (by kernel_rfl) (by kernel_rfl) (by kernel_rfl) (by kernel_rfl) rfl rfl rfl (Ce rfl rfl) (H.pick 4 [0] rfl) (JR 1 rfl (by kernel_rfl) (by kernel_rfl) (by kernel_rfl) (by kernel_rfl) rfl rfl rfl (BC rfl rfl (vs:=[Iv_ 1,Iv_ 1,Iv_ 60,Iv_ 60,Iv_ 0,Iv_ 0]) (by kernel_rfl) (fun _ hx=>(hx.blk 0 rfl).part 0 6 _ rfl)) (H.pick 4 [0] rfl) (JR 2 rfl (by kernel_rfl) (by kernel_rfl) (by kernel_rfl) (by kernel_rfl) rfl rfl rfl (Ce rfl rfl) (H.pick 4 [0] rfl) (JR 4 rfl (by kernel_rfl) (by kernel_rfl) (by kernel_rfl) (by kernel_rfl) rfl rfl rfl (Ce rfl rfl) (H.pick 4 [0] rfl) (CC [3] (by kernel_rfl) (by simp) (Aq (BB rfl rfl rfl rfl rfl rfl (fun w=>call8 _ w) (Iv _ 60 hc (by omega)) H rfl ?_))))));rintro _ w _ ⟨rfl,rfl⟩ H;replace H:=H.l4;refine Bj (fun _=>(H.pick 4 [0] rfl)) (CC [5] (by kernel_rfl) (by simp) (Aq (BB rfl rfl rfl rfl rfl rfl (fun w=>call16 _ w) (Lj _ _ 64 (ID 64) _ 60 60 (pkI c 60:Int) 0 [] [] _ _ bs (Uw (by omega)) (by unfold Cu;rw[List.length_nil];omega) (fun h a=>by have q2:=a.rd (l:=64) (c:=64) (sz:=1) (off:=0) (xs:=bs.map u8) (Nat.le_refl _) (by omega) (by rw[List.length_map];omega) (by rw[List.drop_zero,Nat.mul_one];exact List.take_of_length_le (by rw[List.length_map];omega));rw[hm64];exact q2)) H.f2.f2 rfl ?_)));rintro _ w _ (⟨hb,rfl,rfl⟩|⟨hb,hm,rfl,rfl⟩|⟨⟨hb,hm⟩,hq,rfl,rfl⟩|⟨⟨hb,hm,hq⟩,hf3,s3,rfl,rfl⟩|⟨⟨hb,hm,hq⟩,t3,r,val,hW,rfl,rfl⟩) H'
 ·(exfalso;omega)
 ·(exfalso;omega)
 ·(exfalso;simp only[List.length_nil] at hq;omega)
 ·(exfalso;rw[Ux] at hf3;omega)
 ·have H:=H'.l4;have hWk:=hW.k
  have hvv:[((pkI c 60:Int),bs)]=A5 t3.N (putE (pkI c 60:Int) val []):=hW.vol _ ⟨0,by simp,by simp[Ba,A5],rfl⟩
  refine Bj (fun _=>(H.pick 4 [2] rfl)) (JR 6 rfl (by kernel_rfl) (by kernel_rfl) (by kernel_rfl) (by kernel_rfl) rfl rfl rfl (Ce rfl rfl) (H.pick 4 [2] rfl) (NA 7 rfl (by kernel_rfl) (by kernel_rfl) (by kernel_rfl) (by kernel_rfl) rfl rfl rfl (Dp rfl rfl rfl) (NA 8 rfl (by kernel_rfl) (by kernel_rfl) (by kernel_rfl) (by kernel_rfl) rfl rfl rfl (Dp rfl rfl rfl) (CC [9] (by kernel_rfl) (by simp) (Aq (A8 rfl rfl rfl (Ag 2 H rfl rfl rfl rfl (vs:=[Iv_ 1,Iv_ 1,Iv_ 60,Iv_ 60,Iv_ (r:Int),Iv_ ((putE (pkI c 60:Int) val []).length:Int)]) rfl (by simp[u8,u32,Value.oneCell']) (by kernel_rfl) (by simp) (out:=[Iv_ 1,Iv_ 1,Iv_ 60,Iv_ 60,Iv_ (r:Int),Iv_ ((putE (pkI c 60:Int) val []).length:Int)]) rfl) ?_))))));rintro w H;replace H:=H.l4;refine Bj (fun h=>absurd h (by decide)) (NA 10 rfl (by kernel_rfl) (by kernel_rfl) (by kernel_rfl) (by kernel_rfl) rfl rfl rfl (DK rfl rfl) (JF (by kernel_rfl) (gn (Z0 8 [4] rfl (z_E_ rfl (call14 _) (F9 _ _ _ _ _ _ (by have e1:manyN 64=1:=rfl;omega) (by omega)) H ?_)))));intro w H;refine Z0 14 [4] rfl ?_;refine AI (σ:=Nat×List UInt8) (fun ⟨i,ys⟩=>[(10,Iv_ (i:Int)),(0,Iv_ c),(4,.bool false),(5,Pt_ pp),(6,Pt_ b1),(7,.slice (some ⟨db,0,none⟩) 64 64),(8,BV bs)])
    (fun ⟨i,ys⟩ w=>Sep z (trA Tb pp (6+2) 64 ⟨t3.N,t3.C,Be r++[]⟩ none::blk db (ys.map u8) 5::blk b1 [Iv_ 1,Iv_ 1,Iv_ 60,Iv_ 60,Iv_ (r:Int),Iv_ ((putE (pkI c 60:Int) val []).length:Int)] 28::A::R) w∧(i≤64∧ys.length=64)) (fun ⟨i,ys⟩=>64 - i) ⟨0,bs⟩
    (fun _ hF=>(hF.co rfl (by go_num) (hF.all rfl))) ⟨H,⟨Nat.zero_le _,by first|exact hm64|exact hg64|exact hg65⟩⟩ ?_
  clear H;rintro ⟨i,ys⟩ w ⟨H',hI⟩;dsimp only at hI H' ⊢
  have H:=H'.l4;obtain ⟨hi6,hxl⟩:=hI;refine Z0 9 [0] rfl (Af rfl (fun h1=> ?_) (fun h1=> ?_))
  ·refine Z1 8 [1,i,i] [] rfl (by omega) (Az rfl rfl (Ag 1 H rfl rfl rfl rfl (vs:=[u8 99]) rfl (Ab rfl Ar) (by kernel_rfl) (by simp only[List.length_map,List.length_cons,List.length_nil];omega) (out:=(ys.set i 99).map u8) (JQ (by omega))) ?_);rintro w H;replace H:=H.l4;refine Z1 8 [] [(i:Int)+1] rfl (by omega) (gf ?_);intro _ hF;refine ⟨⟨i+1,ys.set i 99⟩,(hF.co rfl (by go_num) (hF.all rfl)),⟨H,?_⟩,?_⟩
   ·exact ⟨by show i+1≤64;omega,by show (ys.set i _).length=64;rw[List.length_set];exact hxl⟩
   ·(dsimp only;omega)
  ·refine Zc 2 rfl (gx (Zc 4 rfl ?_));have K2:=H.says 0 rfl (fun h a=>trA.k a)
   have hv2:Cu 1 1 60 60 (r:Int) ((putE (pkI c 60:Int) val []).length:Int):=LwI.vok (o:=⟨t3.N,t3.C,Be r++[]⟩) (Q:=[]) ⟨by omega,by simp,hW.root,hW.nd,rfl⟩ K2 (by omega)
   have hp6:=Nq c (N:=60) (by omega)
   have hg1:BF (pkI c 60:Int) (A5 t3.N (putE (pkI c 60:Int) val []))=bs:=by rw[←hvv];simp[BF]
   have hk2:(((pkI c 60:Int)+1).tmod 60)≠(pkI c 60:Int)∧0≤(((pkI c 60:Int)+1).tmod 60)∧(((pkI c 60:Int)+1).tmod 60)<60:=by have h1:=Int.tmod_nonneg 60 (show 0≤(pkI c 60:Int)+1 by omega);have h2:=Int.tmod_lt_of_pos ((pkI c 60:Int)+1) (show (0:Int)<60 by omega);have h3:=Int.tmod_add_mul_tdiv ((pkI c 60:Int)+1) 60;omega
   have hg2:BF (((pkI c 60:Int)+1).tmod 60) (A5 t3.N (putE (pkI c 60:Int) val []))=E3:=by rw[←hvv];simp only[BF];rw[if_neg (fun e=>hk2.1 e.symm)]
   refine Zc 5 rfl ?_;refine AI (σ:=Nat) (fun m=>[(11,Iv_ (m:Int)),(0,Iv_ c),(5,Pt_ pp),(6,Pt_ b1),(8,BV bs)])
     (fun m w=>Sep z (trA Tb pp (6+2) 64 ⟨t3.N,t3.C,Be r++[]⟩ none::blk db (ys.map u8) 5::blk b1 [Iv_ 1,Iv_ 1,Iv_ 60,Iv_ 60,Iv_ (r:Int),Iv_ ((putE (pkI c 60:Int) val []).length:Int)] 28::A::R) w∧(m≤2)) (fun m=>2 - m) 0
     (fun _ hF=>(hF.co rfl (by go_num) (hF.all rfl))) ⟨H,Nat.zero_le _⟩ ?_
   clear H;rintro m w ⟨H',hI⟩;have H:=H'.l4;have hm2:m≤2:=hI
   refine Z0 7 [0] rfl (Af rfl (fun h2=> ?_) (fun h2=> ?_))
   ·refine Zc 5 rfl ?_;replace H:=H.f2;refine AH (Sep z (blk b1 [Iv_ 1,Iv_ 1,Iv_ 60,Iv_ 60,Iv_ (r:Int),Iv_ ((putE (pkI c 60:Int) val []).length:Int)] 28::R)) 10 rfl (by kernel_rfl) (Bc H fun w H'=> ?_)
    have H:=H'.l4;refine AL [0,1,2] [0,6] [] (by exact (H.pick 4 [0] rfl)) rfl (by kernel_rfl) rfl (Au [3] (by kernel_rfl) (by simp) (Aq (BB rfl rfl rfl rfl rfl rfl (fun w=>call8 _ w) (Iv _ 60 hc (by omega)) H rfl ?_)));rintro _ w _ ⟨rfl,rfl⟩ H;replace H:=H.l4;refine Ak (H.pick 4 [0] rfl) (Au [4] (by kernel_rfl) (by simp) (Aq (BB rfl rfl rfl rfl rfl rfl (fun w=>call15 _ w) (KA _ _ _ ⟨t3.N,t3.C,Be r++[]⟩ none _ _ _ _ _ (pkI c 60:Int) _ (putE (pkI c 60:Int) val []) hW.root hv2) H.f1 rfl ?_)));rintro _ w _ (⟨hb2,rb,hg64,rfl,rfl⟩|⟨hb2,rfl,rfl⟩) H'
    ·have H:=H'.l5;have hg64:(BF (pkI c 60:Int) (A5 t3.N (putE (pkI c 60:Int) val []))).length=64:=hg64
     refine Ak (H.pick 5 [2] rfl) (AL [5,6,7,8,9] [] [] (by exact (H.pick 5 [2] rfl)) rfl (by kernel_rfl) rfl (a_done (by kernel_rfl) (gn (Z0 8 [4] rfl (Ac rfl (Ca (l:=BF (pkI c 60:Int) (A5 t3.N (putE (pkI c 60:Int) val []))) rfl (by kernel_rfl) (by kernel_rfl) rfl (AA (H.rd 0 rfl (fun h q=>by have q2:=q.rd (l:=64) (c:=64) (sz:=1) (off:=0) (xs:=(BF (pkI c 60:Int) (A5 t3.N (putE (pkI c 60:Int) val []))).map u8) (Nat.le_refl _) (by omega) (by rw[List.length_map];omega) (by rw[List.drop_zero,Nat.mul_one];exact List.take_of_length_le (by rw[List.length_map];omega));rw[hg64];exact q2)))) (Zc 1 rfl (Ac rfl (Je (l:=BF (pkI c 60:Int) (A5 t3.N (putE (pkI c 60:Int) val []))) (m:=bs) rfl (by kernel_rfl) rfl rfl) (Zc 3 rfl (Af rfl (fun h3=> ?_) (fun h3=> ?_))))))))))
     ·exact absurd hg1 h3
     ·refine Zc 9 rfl ?_;refine AI (σ:=Nat×List UInt8) (fun ⟨i2,zs⟩=>[(14,Iv_ (i2:Int)),(0,Iv_ c),(5,Pt_ pp),(6,Pt_ b1),(8,BV bs),(11,Iv_ (m:Int)),(12,.slice (some ⟨rb,0,none⟩) 64 64),(13,Iv_ 0),(54,Iv_ (m:Int)),(55,.bool (decide ((m:Int)<2))),(58,.tuple #[.slice (some ⟨rb,0,none⟩) 64 64,Iv_ 0]),(59,Pt_ pp),(60,.agg #[Iv_ 1,Iv_ 1,Iv_ 60,Iv_ 60,Iv_ (r:Int),Iv_ ((putE (pkI c 60:Int) val []).length:Int)]),(61,Iv_ c),(62,Iv_ (pkI c 60:Int)),(63,.tuple #[.slice (some ⟨rb,0,none⟩) 64 64,Iv_ 0]),(64,.slice (some ⟨rb,0,none⟩) 64 64),(65,Iv_ 0),(66,Iv_ 0),(67,.bool false),(68,.bool false),(69,.slice (some ⟨rb,0,none⟩) 64 64),(70,BV (BF (pkI c 60:Int) (A5 t3.N (putE (pkI c 60:Int) val [])))),(71,BV bs),(72,.bool (decide ((BF (pkI c 60:Int) (A5 t3.N (putE (pkI c 60:Int) val [])):List UInt8)≠bs))),(73,.bool (decide ((BF (pkI c 60:Int) (A5 t3.N (putE (pkI c 60:Int) val [])):List UInt8)≠bs)))])
        (fun ⟨i2,zs⟩ w=>Sep z (blk rb (zs.map u8) 5::trA Tb pp (6+2) 64 ⟨t3.N,t3.C,Be r++[]⟩ none::blk b1 [Iv_ 1,Iv_ 1,Iv_ 60,Iv_ 60,Iv_ (r:Int),Iv_ ((putE (pkI c 60:Int) val []).length:Int)] 28::blk db (ys.map u8) 5::A::R) w∧(i2≤64∧zs.length=64)) (fun ⟨i2,zs⟩=>64 - i2) ⟨0,BF (pkI c 60:Int) (A5 t3.N (putE (pkI c 60:Int) val []))⟩
        (fun _ hF=>(hF.co rfl (by go_num) (hF.all rfl))) ⟨H,⟨Nat.zero_le _,by first|exact hm64|exact hg64|exact hg65⟩⟩ ?_
      clear H;rintro ⟨i2,zs⟩ w ⟨H',hI⟩;dsimp only at hI H' ⊢
      have H:=H'.l5;obtain ⟨hi6,hxl⟩:=hI;refine Z0 9 [0] rfl (Af rfl (fun h4=> ?_) (fun h4=> ?_))
      ·refine Z1 8 [1,i2,i2] [] rfl (by omega) (Az rfl rfl (Ag 0 H rfl rfl rfl rfl (vs:=[u8 98]) rfl (Ab rfl Ar) (by kernel_rfl) (by simp only[List.length_map,List.length_cons,List.length_nil];omega) (out:=(zs.set i2 98).map u8) (JQ (by omega))) ?_);rintro w H;replace H:=H.l5;refine Z1 8 [] [(i2:Int)+1] rfl (by omega) (gf ?_);intro _ hF;refine ⟨⟨i2+1,zs.set i2 98⟩,(hF.co rfl (by go_num) (hF.all rfl)),⟨H,?_⟩,?_⟩
       ·exact ⟨by show i2+1≤64;omega,by show (zs.set i2 _).length=64;rw[List.length_set];exact hxl⟩
       ·(dsimp only;omega)
      ·refine Zc 2 rfl (gx (Zc 3 rfl ?_));replace H:=H.f2;refine AH (Sep z (blk b1 [Iv_ 1,Iv_ 1,Iv_ 60,Iv_ 60,Iv_ (r:Int),Iv_ ((putE (pkI c 60:Int) val []).length:Int)] 28::R)) 12 rfl (by kernel_rfl) (Bc H fun w H'=> ?_)
       have H:=H'.l5;refine AL [0,1,2] [0,6] [] (by exact (H.pick 5 [0] rfl)) rfl (by kernel_rfl) rfl (Au [3] (by kernel_rfl) (by simp) (Aq (BB rfl rfl rfl rfl rfl rfl (fun w=>call8 _ w) (Iv _ 60 hc (by omega)) H rfl ?_)));rintro _ w _ ⟨rfl,rfl⟩ H;replace H:=H.l5;refine Ak (H.pick 5 [0] rfl) (Hz [4] [] [(pkI c 60:Int)+1] (by exact (H.pick 5 [0] rfl)) rfl (by kernel_rfl) (by omega) rfl (BU 5 rfl (by kernel_rfl) (by kernel_rfl) (by kernel_rfl) rfl rfl rfl (I9 rfl rfl rfl (by omega)) (H.pick 5 [0] rfl) (Au [6] (by kernel_rfl) (by simp) (Aq (BB rfl rfl rfl rfl rfl rfl (fun w=>call15 _ w) (KA _ _ _ ⟨t3.N,t3.C,Be r++[]⟩ none _ _ _ _ _ (((pkI c 60:Int)+1).tmod 60) _ (putE (pkI c 60:Int) val []) hW.root hv2) H.f2 rfl ?_)))));rintro _ w _ (⟨hb2,rc,hg65,rfl,rfl⟩|⟨hb2,rfl,rfl⟩) H'
       ·have H:=H'.l6;have hg65:(BF (((pkI c 60:Int)+1).tmod 60) (A5 t3.N (putE (pkI c 60:Int) val []))).length=64:=hg65
        refine Ak (H.pick 6 [2] rfl) (AL [7,8,9,10,11] [] [] (by exact (H.pick 6 [2] rfl)) rfl (by kernel_rfl) rfl (a_done (by kernel_rfl) (gn (Zc 3 rfl (AH (Sep z (blk rc ((BF (((pkI c 60:Int)+1).tmod 60) (A5 t3.N (putE (pkI c 60:Int) val []))).map u8) 5::R)) 9 rfl (by kernel_rfl) (Bc H fun w H'=> ?_))))))
        have H:=H'.l6;refine AL [0,1,2,3] [4] [] (by exact (H.pick 6 [0] rfl)) rfl (by kernel_rfl) rfl (BU 4 rfl (by kernel_rfl) (by kernel_rfl) (by kernel_rfl) rfl rfl rfl (Ca (l:=BF (((pkI c 60:Int)+1).tmod 60) (A5 t3.N (putE (pkI c 60:Int) val []))) rfl (by kernel_rfl) (by kernel_rfl) rfl (fun _ hx'=>(hx'.rd (0 * 0) rfl (fun h q=>by have q2:=q.rd (l:=64) (c:=64) (sz:=1) (off:=0) (xs:=(BF (((pkI c 60:Int)+1).tmod 60) (A5 t3.N (putE (pkI c 60:Int) val []))).map u8) (Nat.le_refl _) (by omega) (by rw[List.length_map];omega) (by rw[List.drop_zero,Nat.mul_one];exact List.take_of_length_le (by rw[List.length_map];omega));rw[hg65];exact q2)))) (H.pick 6 [0] rfl) (Au [5] (by kernel_rfl) (by simp) (Aq (Cg rfl rfl rfl rfl (DC (k:=64) H rfl (by kernel_rfl) Ch rfl rfl rfl (by omega)) ?_))));rintro _ w ⟨b2,rfl,H⟩;replace H:=H.l7;refine Ak (H.pick 7 [1] rfl) (Au [6] (by kernel_rfl) (by simp) (Aq (O5 rfl rfl rfl rfl (Ca (l:=E3) rfl (by kernel_rfl) (by kernel_rfl) rfl (AA (H.rd 0 rfl (fun h q=>q.rd (by omega) (by omega) (by simp) (by rfl))))) (Ak (H.pick 7 [1] rfl) (BU 7 rfl (by kernel_rfl) (by kernel_rfl) (by kernel_rfl) rfl rfl rfl (Je (l:=BF (((pkI c 60:Int)+1).tmod 60) (A5 t3.N (putE (pkI c 60:Int) val []))) (m:=E3) rfl (by kernel_rfl) rfl rfl) (H.pick 7 [1] rfl) (AL [8] [] [] (by exact (H.pick 7 [1] rfl)) rfl (by kernel_rfl) rfl (a_done (by kernel_rfl) (gn (Zc 1 rfl (Af rfl (fun h5=> ?_) (fun h5=> ?_)))))))))))
        ·exact absurd hg2 h5
        ·refine Zc 8 rfl ?_;refine AI (σ:=Nat×List UInt8) (fun ⟨i3,ws⟩=>[(16,Iv_ (i3:Int)),(0,Iv_ c),(5,Pt_ pp),(6,Pt_ b1),(8,BV bs),(11,Iv_ (m:Int)),(12,.slice (some ⟨rb,0,none⟩) 64 64),(13,Iv_ 0),(14,Iv_ (i2:Int)),(15,.slice (some ⟨rc,0,none⟩) 64 64),(54,Iv_ (m:Int)),(55,.bool (decide ((m:Int)<2))),(58,.tuple #[.slice (some ⟨rb,0,none⟩) 64 64,Iv_ 0]),(59,Pt_ pp),(60,.agg #[Iv_ 1,Iv_ 1,Iv_ 60,Iv_ 60,Iv_ (r:Int),Iv_ ((putE (pkI c 60:Int) val []).length:Int)]),(61,Iv_ c),(62,Iv_ (pkI c 60:Int)),(63,.tuple #[.slice (some ⟨rb,0,none⟩) 64 64,Iv_ 0]),(64,.slice (some ⟨rb,0,none⟩) 64 64),(65,Iv_ 0),(66,Iv_ 0),(67,.bool false),(68,.bool false),(69,.slice (some ⟨rb,0,none⟩) 64 64),(70,BV (BF (pkI c 60:Int) (A5 t3.N (putE (pkI c 60:Int) val [])))),(71,BV bs),(72,.bool (decide ((BF (pkI c 60:Int) (A5 t3.N (putE (pkI c 60:Int) val [])):List UInt8)≠bs))),(73,.bool (decide ((BF (pkI c 60:Int) (A5 t3.N (putE (pkI c 60:Int) val [])):List UInt8)≠bs))),(74,Iv_ (i2:Int)),(75,.slice (some ⟨rb,0,none⟩) 64 64),(76,Iv_ 64),(77,.bool (decide ((i2:Int)<64))),(83,.tuple #[.slice (some ⟨rc,0,none⟩) 64 64,Iv_ 0]),(84,Pt_ pp),(85,.agg #[Iv_ 1,Iv_ 1,Iv_ 60,Iv_ 60,Iv_ (r:Int),Iv_ ((putE (pkI c 60:Int) val []).length:Int)]),(86,Iv_ c),(87,Iv_ (pkI c 60:Int)),(88,Iv_ ((pkI c 60:Int)+1)),(89,Iv_ (((pkI c 60:Int)+1).tmod 60)),(90,.tuple #[.slice (some ⟨rc,0,none⟩) 64 64,Iv_ 0]),(91,.slice (some ⟨rc,0,none⟩) 64 64),(92,Iv_ 0),(93,Iv_ 0),(94,.bool false),(95,.bool false),(96,.slice (some ⟨rc,0,none⟩) 64 64),(97,BV (BF (((pkI c 60:Int)+1).tmod 60) (A5 t3.N (putE (pkI c 60:Int) val [])))),(98,.slice (some ⟨b2,0,none⟩) 64 64),(99,BV E3),(100,.bool (decide ((BF (((pkI c 60:Int)+1).tmod 60) (A5 t3.N (putE (pkI c 60:Int) val [])):List UInt8)≠E3))),(101,.bool (decide ((BF (((pkI c 60:Int)+1).tmod 60) (A5 t3.N (putE (pkI c 60:Int) val [])):List UInt8)≠E3)))])
           (fun ⟨i3,ws⟩ w=>Sep z (blk b2 (List.replicate 64 (u8 0)) 5::blk rc (ws.map u8) 5::trA Tb pp (6+2) 64 ⟨t3.N,t3.C,Be r++[]⟩ none::blk b1 [Iv_ 1,Iv_ 1,Iv_ 60,Iv_ 60,Iv_ (r:Int),Iv_ ((putE (pkI c 60:Int) val []).length:Int)] 28::blk rb (zs.map u8) 5::blk db (ys.map u8) 5::A::R) w∧(i3≤64∧ws.length=64)) (fun ⟨i3,ws⟩=>64 - i3) ⟨0,BF (((pkI c 60:Int)+1).tmod 60) (A5 t3.N (putE (pkI c 60:Int) val []))⟩
           (fun _ hF=>(hF.co rfl (by go_num) (hF.all rfl))) ⟨H,⟨Nat.zero_le _,by first|exact hm64|exact hg64|exact hg65⟩⟩ ?_
         clear H;rintro ⟨i3,ws⟩ w ⟨H',hI⟩;dsimp only at hI H' ⊢
         have H:=H'.l7;obtain ⟨hi6,hxl⟩:=hI;refine Z0 9 [0] rfl (Af rfl (fun h6=> ?_) (fun h6=> ?_))
         ·refine Z1 8 [1,i3,i3] [] rfl (by omega) (Az rfl rfl (Ag 1 H rfl rfl rfl rfl (vs:=[u8 97]) rfl (Ab rfl Ar) (by kernel_rfl) (by simp only[List.length_map,List.length_cons,List.length_nil];omega) (out:=(ws.set i3 97).map u8) (JQ (by omega))) ?_);rintro w H;replace H:=H.l7;refine Z1 8 [] [(i3:Int)+1] rfl (by omega) (gf ?_);intro _ hF;refine ⟨⟨i3+1,ws.set i3 97⟩,(hF.co rfl (by go_num) (hF.all rfl)),⟨H,?_⟩,?_⟩
          ·exact ⟨by show i3+1≤64;omega,by show (ws.set i3 _).length=64;rw[List.length_set];exact hxl⟩
          ·(dsimp only;omega)
         ·refine Zc 2 rfl (gx (Z1 8 [] [(m:Int)+1] rfl (by omega) ?_));replace H:=H.f4.d.f1.d.d.f3.f2.f3.f3;refine gf ?_;intro _ hF;refine ⟨(m+1),(hF.co rfl (by go_num) (hF.all rfl)),⟨H,?_⟩,?_⟩
          ·omega
          ·omega
       ·(exfalso;omega)
    ·(exfalso;omega)
   ·refine Zc 2 rfl (gx (Zc 3 rfl ?_));replace H:=(((H.pick 4 [0,3] rfl).trTab).2).l2
    refine Zc 1 rfl (z_E_ rfl (call11 _) (TV Tb hT) H ?_);intro w H;refine Zc 4 rfl (Zr rfl ?_);exact ⟨_,⟨rfl,rfl⟩,H.pick 2 [1,0] rfl⟩
end
open Go.ChangeShapes Go.WideShapes Go.ChangeAt Go.RowKit Go.Joins
theorem WR (os:Os):laidMet prog Rows.thinOwnsUptoRow.laid ((HQ os).forCall (fun _ _=>0) ⟨#[],#[.int .i64 0,.int .i64 0],[]⟩).memory:=
 laidMet_of_run' 8 (by kernel_rfl) (by kernel_rfl)
theorem RC (os:Os) {H:Type} (enc:TypeId×Value→H):∃ places,DataW.whole enc prog ((HQ os).forCall (fun _ _=>0) ⟨#[],#[.int .i64 0,.int .i64 0],[]⟩).memory f6.params.toList Rows.thinOwnsSpec.vars false #[Value.int .i64 0,.int .i64 0].toList 8=some ([.lit (.int .i64 0),.lit (.int .i64 0)],[],places):=
 ⟨[],by kernel_rfl⟩
theorem two_contract (H:Type) (enc:TypeId×Value→H) (W:World) (base:Nat) (args:Array Value) (ds gs:List (DataW H)) (before:List MemPlace)
  (hval:∀ (j:Nat) t v,f6.params[j]? =some t→args[j]? =some v→Value.okWide prog W .any base t v)
  (hW:DataW.Whole enc prog f6.params.toList Rows.thinOwnsSpec.vars false W args.toList ds gs before) (hk:Rows.uptoSmall H (ds++gs)=true) (hL:laidMetH prog Rows.thinOwnsUptoRow.laid W):
  Calls prog 6 args W fun e W'=>∃ v,e= .returned v∧Rows.thinOwnsSpec.post enc prog f6 false true false false W args v W':=by
 have hW0:=hW
 obtain ⟨p,q,hA0,hV,rfl,_,_⟩:=hW
 have hA:DataW.TrodAll enc prog W 0 (fun _=>true) true f6.params.toList args.toList ds p:=hA0
 rw[params6] at hA hval
 obtain ⟨v0,v1,d0,d1,p0,p1,rfl,rfl,rfl,h0,h1⟩:=Zb hA
 obtain ⟨rfl,rfl⟩:=trodVars_none hV
 simp only[List.append_nil] at hW0 hk
 have hb:Rows.uptoBulkAll [d0,d1]≤1048576:=of_decide_eq_true hk
 simp only[Rows.uptoBulkAll] at hb
 obtain ⟨i0,rfl,rfl,rfl,wi0⟩:=open_int underlying3 (hval 0 3 v0 rfl rfl) h0
 obtain ⟨i1,rfl,rfl,rfl,wi1⟩:=open_int underlying3 (hval 1 3 v1 rfl rfl) h1
 refine (Cn.run2 (WP (Uz hL)) (PM i0 i1 (Uy wi0) (Uy wi1) (Lz W) (Nz W) (Y9 (Uz hL)))).mono fun e W' hR=> ?_
 obtain ⟨u,rfl,rfl,x⟩:∃ u,e=Ending.returned u∧u= .bool true∧Ext No W W':=by cases e<;>first|exact ⟨_,rfl,hR⟩|exact hR.elim
 exact ⟨_,rfl,_,_,_,[],_,[],hW0,trodAll_mk1 (shut_bool underlying4 true),WQ (shut_int underlying3 wi0) (shut_int underlying3 wi1),rfl,x.below.frame _,fun h=>by cases h⟩
theorem PN (os:Os) (started:os.Started) (H:Type) (enc:TypeId×Value→H) (F:Stop.Interp):
  ReturnsInHanded {} checked os 6 .any ((Rows.OpenSpec.upto Rows.thinOwnsSpec).preRow enc prog f6 Rows.thinOwnsUptoRow.domain false Rows.thinOwnsUptoRow.laid) (((Rows.OpenSpec.upto Rows.thinOwnsSpec).at F).post enc prog f6 false true false false):=by
 obtain ⟨places,hx⟩:=RC os enc
 refine returnsInHanded_of_row (C:=checked) (s:=Rows.OpenSpec.upto Rows.thinOwnsSpec) own started (by kernel_rfl) func6
  (witness_row_at (enc:=enc) (C:=checked) false (HQ os) #[.int .i64 0,.int .i64 0] rfl (by kernel_rfl) (by kernel_rfl) (by kernel_rfl)
   (OpenSpec.preRow_of_cond 8 hx (by kernel_rfl) (fun k hk=>by cases hk;kernel_rfl) (by kernel_rfl) (WR os))) ?_
 intro W base args ds gs before hval hW _ hcond _ hL _ _
 exact two_contract H enc W base args ds gs before hval hW (hcond _ rfl) hL
theorem two_said:Rows.ThinOwnsUptoSaid:=
 OpenClaim.holds_of_cond 6 f6 rfl rfl rfl rfl rfl rfl rfl ⟨rfl,rfl,rfl,rfl,rfl⟩ rfl rfl rfl rfl rfl (by kernel_rfl) func6 (by kernel_rfl)
  (of_decide_eq_true (by kernel_rfl)) (by unfold Func.isWrapper;first|(rw[if_pos (by decide+kernel)];kernel_rfl)|(rw[if_neg (by decide+kernel)];exact ⟨rfl,rfl⟩))
  (fun os started H enc _ F=>by rw[OpenClaim.pre_eq_preRow];exact PN os started H enc F)
theorem RD (f:FuncId) (fn:Func) (hf:Tryz.pinned.checked.prog.funcNamed "polder/polderlaw14.ThinOwns"=some f) (hfn:Tryz.pinned.checked.prog.funcs[f]? =some fn):
  false=Tryz.pinned.checked.prog.looks []∧∀ (j:Nat) t,fn.params[j]? =some t→Tryz.pinned.checked.prog.wantsStandIn t=false:=by
 obtain rfl:f=6:=Option.some.inj ((show prog.funcNamed "polder/polderlaw14.ThinOwns"=some 6 by kernel_rfl).symm.trans hf) |>.symm
 obtain rfl:fn=f6:=(Option.some.inj (func6.symm.trans hfn)).symm
 refine ⟨by kernel_rfl,fun j t ht=> ?_⟩
 rw[params6] at ht
 have hm:=Array.mem_of_getElem? ht
 simp at hm
 rcases hm with rfl|rfl<;>first|exact (show prog.wantsStandIn 3=false by kernel_rfl)
theorem thinOwns_holds:Rows.ThinOwnsUptoCardSaid:=
 Claim7.holds_tied_plain_at .later [] _ _ _ _ two_said (fun _ h=>by cases h) (by kernel_rfl) (fun _ h=>by cases h) thinOwnsUpto_row_tie rfl ⟨rfl,rfl⟩ (by kernel_rfl) rfl RD (by kernel_rfl)
end Go.Proofs.YtjegbnfpodadcaaGreatDoor
