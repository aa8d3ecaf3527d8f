/-
  The law ThinRefuses holds. No condition.
-/
import Derived.Test.YtjegbnfpodadcaaGreatDoorPart5
import Derived.Test.YtjegbnfpodadcaaGreatDoorCards
import Derived.Test.YtjegbnfpodadcaaGreatDoorTie
import Derived.WalkKit
import Derived.WalkSpells
import Derived.Deep.Quiet
import Derived.KernelRfl
import Derived.IntWalk
import Derived.Maps.AppendAt
import Derived.Laws.AppendOwnNone
import Derived.Laws.CopyRow
import Derived.StillTail
import Derived.Deep.RegionHeld
import Derived.Laws.IdiomStrings
import Derived.Laws.BytesArg
import Derived.Laws.OwnMore
import Derived.Lib.Strings
import Derived.ArgAppend
import Derived.Test.YtjegbnfpodadcaaGreatDoorRows
import Derived.RangeFuncLeaves
import Derived.RangeFuncRecord
import Derived.RangeFuncCalls
import Derived.RangeFuncSeq
import Derived.OrdersIn
import Derived.TacticsIn
import Derived.Laws.IdiomRangeMap
import Derived.Defers
import Derived.Laws.LoneSync
import Derived.LoopN
import Derived.Lib.TrailingZeros
import Derived.Test.YtjegbnfpodadcaaGreatDoorProg
import Derived.Shelf.Sort.Plain
import Derived.Shelf.Slices.In.SortNone
import Derived.DataReads
import Derived.ProofKit
import Derived.OpenShut
import Derived.Lib.SmallJoins
import Derived.Deep.DeepHandedRow
import Derived.Lib.LaidTab
set_option maxRecDepth 100000
set_option linter.unusedSimpArgs false
set_option linter.unusedVariables false
open Go.Proofs.Tryz
namespace Go.Proofs.YtjegbnfpodadcaaGreatDoor
section
open Go.RowKit
variable {Tb:Ae}
theorem HP (pp mb n:Nat) (o:TB) (id st sz q r mp kk:Int) (dv:Value) (hv:BH id st sz q r mp) (hb:0≤kk∧kk<sz):Cn prog 16 [Pt_ pp,.agg #[Iv_ id,Iv_ st,Iv_ sz,Iv_ q,Iv_ r,Iv_ mp],Iv_ kk,dv] [trA Tb pp mb n o none] (fun v Γ=>v= .tuple #[.agg #[Iv_ 0,Iv_ 0,Iv_ 0,Iv_ 0,Iv_ 0,Iv_ 0],Iv_ 18]∧Γ=[trA Tb pp mb n o none]):=by
 intro z R w H
 obtain ⟨M0,u,⟨_,_,hu,_⟩,H,back⟩:=H.trP
 obtain rfl:u=none:=by cases u with|none=>rfl|some=>cases hu
 refine Ret.mono (Cn.at (HO pp mb n M0 o.C id st sz q r mp kk dv) H 1 [0] rfl rfl) ?_
 rintro v w' ⟨Γ',⟨rfl,rfl⟩,H'⟩
 have e:A9 id st sz q r mp kk=0:=by unfold A9;rw[if_pos hv,if_pos (by omega)]
 exact ⟨_,⟨by rw[e];rfl,rfl⟩,back _ _ H'⟩
theorem Zp:cnt (AS 64 (JL 64).C) 0 1024=62:=by decide+kernel
set_option maxHeartbeats 2000000 in
theorem Hi (Tb:Ae) (hT:Gp Tb):Cn prog 11 [] [Tb] (fun v Γ=>v= .bool true∧Γ=[Tb]):=by
 intro z R w H;replace H:=H.l1;refine Ad func11 rfl ntmps11 rfl (Zc 7 rfl (Aw rfl (call7 _) (TZ 64 (by omega) Tb hT) H ?_));rintro _ w _ ⟨pp,rfl,rfl⟩ H;refine Zc 16 rfl (Ac rfl (AF rfl rfl (out:=[Iv_ 1,Iv_ 1,Iv_ 9,Iv_ 9,Iv_ 0,Iv_ 0]) (by kernel_rfl)) (Zc 1 rfl (Ac rfl (AF rfl rfl (out:=[Pt_ pp,Iv_ 1,Iv_ 1,Iv_ 9,Iv_ 9,Iv_ 0,Iv_ 0,Iv_ 1,Iv_ 9,Iv_ 9,.slice none 0 0]) (by kernel_rfl)) (Za 0 [] H rfl ?_))));intro b1 w H;refine Zc 4 rfl ?_;replace H:=(H.nilg 123 2).l3
 refine Zc 3 rfl (Aw rfl (call9 _) (YJ _ _ 6 64 (JL 64) 0 ([]) [] (grow 123 2 (.slice none 0 0) 0 []) (.slice none 0 0) 1 9 9 1 3 7 0 false (Zo (by omega)) (fun h q=>q.rd) (by unfold BH;rw[List.length_nil];omega) (by omega) (by omega) (by omega) (by omega)) H.f2.f1.f2 ?_);rintro _ w _ ⟨a1,L1,o1,m1,u1,A1,⟨hD1,hd1⟩,rfl,rfl⟩ H;replace H:=H.l3;obtain ⟨val,hL1⟩:=hd1 rfl (by rw[Zp];decide) (by omega) rfl (.inr (by show ((0:Nat):Int)<9;omega));have hl1:L1.length=1:=by rw[hL1];rfl
 have ha1:a1≠0:=fun e=>by have:=hD1.I.root;rw[e] at this;rcases this with ⟨_,q⟩|⟨q,_⟩;(rw[q] at hl1;cases hl1);exact q rfl
 have K1:=H.says 2 rfl (fun h a=>trA.k a)
 have hv1:BH 1 1 9 9 (a1:Int) (L1.length:Int):=by have h:=K1.i.rin a1 (by simp[Cs,hD1.I.r,DU ha1]);unfold BH;omega
 refine Zc 6 rfl (z_E_ rfl (call10 _) (WW _ _ _ _ o1 _ L1 A1 u1 _ _ _ _ hD1.I.root hD1.A hv1) H ?_);intro w H;refine Zc 4 rfl (AI (Sep z (blk b1 [Pt_ pp,Iv_ 1,Iv_ 1,Iv_ 9,Iv_ 9,Iv_ (a1:Int),Iv_ (L1.length:Int),Iv_ 1,Iv_ 9,Iv_ 9,u1] 33::R)) 14 rfl (by kernel_rfl) (Bc H fun w H'=> ?_))
 have H:=H'.l3;refine AM [0,1,2,3,4,5] [1,0,6] [] (by exact (H.pick 3 [0] rfl)) rfl (by kernel_rfl) rfl (Av [6,11] (by kernel_rfl) (by simp) (Hx ?_ ?_))
 ·refine BL rfl rfl rfl rfl rfl rfl (fun w=>call19 _ w) (Iu _ _ _ _ (by omega) (by omega)) H rfl ?_;rintro _ w _ ⟨db,bs,hbs,rfl,rfl⟩ H;replace H:=H.l4;refine Ap (H.pick 4 [1] rfl) (Av [7,11] (by kernel_rfl) (by simp) (Hx ?_ ?_))
  ·refine BL rfl rfl rfl rfl rfl rfl (fun w=>call16 _ w) (HP _ _ _ _ _ _ _ _ _ _ _ _ hv1 (by omega)) H.f3 rfl ?_;rintro _ w _ ⟨rfl,rfl⟩ H;replace H:=H.l4;refine Ap (H.pick 4 [2] rfl) (AM [8,9,10] [] [] (by exact (H.pick 4 [2] rfl)) rfl (by kernel_rfl) rfl (Av [11] (by kernel_rfl) (by simp) (Au (Ce rfl rfl rfl rfl (BO (P:=prog) H rfl (zs:=[Iv_ 0,Iv_ 0,Iv_ 0,Iv_ 0,Iv_ 0,Iv_ 0]) (by kernel_rfl)) ?_))));rintro _ w ⟨b2,rfl,H⟩;replace H:=H.l5;refine Ap (H.pick 5 [3] rfl) (Av [12] (by kernel_rfl) (by simp) (Au (A8 rfl rfl rfl (Ag 0 H rfl rfl rfl rfl (vs:=[Iv_ 0,Iv_ 0,Iv_ 0,Iv_ 0,Iv_ 0,Iv_ 0]) rfl (by simp[u8,u32,Value.oneCell']) (by kernel_rfl) (by simp) (out:=[Iv_ 0,Iv_ 0,Iv_ 0,Iv_ 0,Iv_ 0,Iv_ 0]) rfl) ?_)));rintro w H;replace H:=H.l5;refine Ap (H.pick 5 [3] rfl) (AM [13] [] [] (by exact (H.pick 5 [3] rfl)) rfl (by kernel_rfl) rfl (a_done (by kernel_rfl) (gn (Z2 16 [1,6,3,0,0] H rfl (Ak 43 rfl (fun h1=> ?_) (fun h1=> ?_))))))
   ·refine Z2 8 [1,5,3,0,0] H rfl (Ak 51 rfl (fun h2=> ?_) (fun h2=> ?_))
    ·refine Z0 7 [3] rfl (Zr rfl ?_);exact ⟨_,⟨rfl,rfl⟩,((H.pick 5 [1] rfl).trTab).2⟩
    ·(exfalso;omega)
   ·(exfalso;omega)
  ·refine Ce rfl rfl rfl rfl (BO (P:=prog) H rfl (zs:=[Iv_ 0,Iv_ 0,Iv_ 0,Iv_ 0,Iv_ 0,Iv_ 0]) (by kernel_rfl)) ?_;rintro _ w ⟨b3,rfl,H⟩;replace H:=H.l5;refine Ap (H.pick 5 [2] rfl) (Av [7] (by kernel_rfl) (by simp) (Au (BL rfl rfl rfl rfl rfl rfl (fun w=>call16 _ w) (HP _ _ _ _ _ _ _ _ _ _ _ _ hv1 (by omega)) H.f4 rfl ?_)));rintro _ w _ ⟨rfl,rfl⟩ H;replace H:=H.l5;refine Ap (H.pick 5 [3] rfl) (AM [8,9,10] [] [] (by exact (H.pick 5 [3] rfl)) rfl (by kernel_rfl) rfl (Av [12] (by kernel_rfl) (by simp) (Au (A8 rfl rfl rfl (Ag 1 H rfl rfl rfl rfl (vs:=[Iv_ 0,Iv_ 0,Iv_ 0,Iv_ 0,Iv_ 0,Iv_ 0]) rfl (by simp[u8,u32,Value.oneCell']) (by kernel_rfl) (by simp) (out:=[Iv_ 0,Iv_ 0,Iv_ 0,Iv_ 0,Iv_ 0,Iv_ 0]) rfl) ?_))));rintro w H;replace H:=H.l5;refine Ap (H.pick 5 [3] rfl) (AM [13] [] [] (by exact (H.pick 5 [3] rfl)) rfl (by kernel_rfl) rfl (a_done (by kernel_rfl) (gn (Z2 16 [1,6,3,0,0] H rfl (Ak 43 rfl (fun h3=> ?_) (fun h3=> ?_))))))
   ·refine Z2 8 [1,5,3,0,0] H rfl (Ak 51 rfl (fun h4=> ?_) (fun h4=> ?_))
    ·refine Z0 7 [3] rfl (Zr rfl ?_);exact ⟨_,⟨rfl,rfl⟩,((H.pick 5 [0] rfl).trTab).2⟩
    ·(exfalso;omega)
   ·(exfalso;omega)
 ·refine Ce rfl rfl rfl rfl (BO (P:=prog) H rfl (zs:=[Iv_ 0,Iv_ 0,Iv_ 0,Iv_ 0,Iv_ 0,Iv_ 0]) (by kernel_rfl)) ?_;rintro _ w ⟨b4,rfl,H⟩;replace H:=H.l4;refine Ap (H.pick 4 [1] rfl) (Av [6] (by kernel_rfl) (by simp) (Au (BL rfl rfl rfl rfl rfl rfl (fun w=>call19 _ w) (Iu _ _ _ _ (by omega) (by omega)) H rfl ?_)));rintro _ w _ ⟨db,bs,hbs,rfl,rfl⟩ H;replace H:=H.l5;refine Ap (H.pick 5 [2] rfl) (Av [7] (by kernel_rfl) (by simp) (Au (BL rfl rfl rfl rfl rfl rfl (fun w=>call16 _ w) (HP _ _ _ _ _ _ _ _ _ _ _ _ hv1 (by omega)) H.f4 rfl ?_)));rintro _ w _ ⟨rfl,rfl⟩ H;replace H:=H.l5;refine Ap (H.pick 5 [3] rfl) (AM [8,9,10] [] [] (by exact (H.pick 5 [3] rfl)) rfl (by kernel_rfl) rfl (Av [12] (by kernel_rfl) (by simp) (Au (A8 rfl rfl rfl (Ag 2 H rfl rfl rfl rfl (vs:=[Iv_ 0,Iv_ 0,Iv_ 0,Iv_ 0,Iv_ 0,Iv_ 0]) rfl (by simp[u8,u32,Value.oneCell']) (by kernel_rfl) (by simp) (out:=[Iv_ 0,Iv_ 0,Iv_ 0,Iv_ 0,Iv_ 0,Iv_ 0]) rfl) ?_))));rintro w H;replace H:=H.l5;refine Ap (H.pick 5 [3] rfl) (AM [13] [] [] (by exact (H.pick 5 [3] rfl)) rfl (by kernel_rfl) rfl (a_done (by kernel_rfl) (gn (Z2 16 [1,6,3,0,0] H rfl (Ak 43 rfl (fun h5=> ?_) (fun h5=> ?_))))))
  ·refine Z2 8 [1,5,3,0,0] H rfl (Ak 51 rfl (fun h6=> ?_) (fun h6=> ?_))
   ·refine Z0 7 [3] rfl (Zr rfl ?_);exact ⟨_,⟨rfl,rfl⟩,((H.pick 5 [0] rfl).trTab).2⟩
   ·(exfalso;omega)
  ·(exfalso;omega)
end
section
open Go.RowKit
variable {Tb:Ae}
structure OwE where
 k:Int
 d:Bool
 f:Int
 l:Int
def OwE.cells (e:OwE):List Value:=[.int .i64 e.k,.bool e.d,.int .i64 e.f,.int .i64 e.l]
end
section
open Go.ChangeShapes Go.WideShapes Go.ChangeAt Go.RowKit Go.Joins
theorem own:ownKnob prog.godebug=none:=by kernel_rfl
theorem OS:laidOutB prog=true:=by kernel_rfl
theorem EL:prog.cellsOf 3=1:=by kernel_rfl
def Lz:DataW Unit→List Value
 | .lit (.int k n)=>[.int k n]
 | .agg parts=>flatWs parts
 | _=>[]
where flatWs:List (DataW Unit)→List Value
 | []=>[]
 | d::ds=>Lz d++flatWs ds
def T3:Obj→Obj
 | .cells c t frozen=> .cells (if c.size=32 then (Lz Rows.laid_unicode_utf8_acceptRanges).toArray else if c.size=64 then (Lz Rows.laid_math_bits_deBruijn64tab).toArray else (Lz Rows.laid_unicode_utf8_first).toArray) t frozen
 | o=>o
noncomputable def HQ (os:Os):World:=
 { World.holding prog os ⟨#[],#[],[]⟩ with heap:=(((World.holding prog os ⟨#[],#[],[]⟩).heap.modify 0 T3).modify 1 T3).modify 2 T3 }
theorem YK:prog.globalNamed "math/bits.deBruijn64tab"=some 0:=by kernel_rfl
theorem T4:(prog.globals[0]?).map (·.type)=some 252:=by kernel_rfl
theorem WX:prog.cellsOf 252=64:=by kernel_rfl
theorem WY:prog.cellsOf 5=1:=by kernel_rfl
def tzL:List Int:=Lib.deBruijn64tab.map Int.ofNat
theorem UJ {W:World} (h:laidMetH prog Rows.thinPlaysUptoRow.laid W):Lib.TabIs prog W "math/bits.deBruijn64tab" .u8 tzL:=
 Lib.tabIs_of_head (rest:=[("unicode/utf8.acceptRanges",Rows.laid_unicode_utf8_acceptRanges),("unicode/utf8.first",Rows.laid_unicode_utf8_first)]) YK T4 underlying252 underlying5 WY WX h
theorem OT {W:World} (h:Lib.TabIs prog W "math/bits.deBruijn64tab" .u8 tzL):∃ t fr,W.heap[0]? =some (.cells (tzL.map fun z=>Value.int .u8 z).toArray t fr):=by
 unfold Lib.TabIs World.var? at h
 rw[YK] at h
 simp only[Option.bind_some] at h
 cases e:W.heap[0]? with
 | none=>rw[e] at h;cases h
 | some o=>
  rw[e] at h
  cases o<;>simp at h
  subst h;exact ⟨_,_,rfl⟩
def LA (W:World):Ae:=fun h=>∀ k,k<W.heap.size→k≠0→h k=W.heap[k]?
def Nw (W:World):Ae:=fun h=>h 0=W.heap[0]?
theorem YL:(List.range 64).all (fun j=>tzL[j]? == some ((Qw j).toNat:Int))=true:=by decide+kernel
theorem Zq {W:World} (ht:Lib.TabIs prog W "math/bits.deBruijn64tab" .u8 tzL):Gp (Nw W):=fun h hh j hj=>by
 obtain ⟨t,fr,e⟩:=OT ht
 have:=List.all_eq_true.1 YL j (List.mem_range.2 hj)
 have h2:tzL[j]? =some ((Qw j).toNat:Int):=by simpa using this
 exact ⟨_,t,fr,(show h 0=_ from hh).trans e,by simp[h2,u8]⟩
theorem WZ {W:World} (ht:Lib.TabIs prog W "math/bits.deBruijn64tab" .u8 tzL):0<W.heap.size:=by
 obtain ⟨t,fr,e⟩:=OT ht
 rcases Nat.eq_zero_or_pos W.heap.size with q|q
 ·rw[Array.getElem?_eq_none (by omega)] at e;cases e
 ·exact q
theorem OU {h:Hp} {own:Nat→Nat} {i k:Nat} {o:Obj} (e:h.part own i k=some o):h k=some o:=by
 unfold Hp.part at e
 split at e
 ·exact e
 ·cases e
theorem Cn.run2 {P:Program} {f:FuncId} {args:List Value} {W:World} {u:Value} (h0:0<W.heap.size) (h:Cn P f args [LA W,Nw W] (fun v Γ=>v=u∧Γ=[LA W,Nw W])):Calls P f args.toArray W (Ret fun v W'=>v=u∧Ext No W W'):=by
 have hS:Sep W [LA W,Nw W] W:=⟨rfl,rfl,rfl,fun q=>if q=0 then 1 else 0,fun i A hA=>by
  match i,hA with
  | 0,hA=>cases hA;intro k hk hne;simp[Hp.part,hp,hne]
  | 1,hA=>cases hA;show Hp.part _ _ _ 0=_;simp[Hp.part,hp]⟩
 refine Ret.mono (h W [] W hS) ?_
 rintro v W' ⟨Γ,⟨rfl,rfl⟩,H⟩
 obtain ⟨own,hown⟩:=H.own
 have hb:=hown 0 _ rfl
 have ht:=hown 1 _ rfl
 have hall:∀ k,k<W.heap.size→hp W' k=W.heap[k]? :=fun k hk=>by
  obtain ⟨o,ho⟩:∃ o,W.heap[k]? =some o:=⟨_,Array.getElem?_eq_getElem hk⟩
  rw[ho]
  by_cases q:k=0
  ·subst q;exact OU ((show _=_ from ht).trans ho)
  ·exact OU ((hb k hk q).trans ho)
 have H2:Sep W [base W] W':=⟨H.os,H.tape,H.output,fun k=>if k<W.heap.size then 0 else 1,fun i A hA=>by
  match i,hA with
  | 0,hA=>cases hA;intro k hk;unfold Hp.part;rw[if_pos (by simp[hk])];exact hall k hk⟩
 exact ⟨rfl,Sep.done 0 H2 rfl⟩
section
variable {H:Type} {enc:TypeId×Value→H} {P:Program} {w:World} {base:Nat} {spare:Nat→Bool} {held:Bool}
end
section
variable {H:Type} {enc:TypeId×Value→H} {P:Program} {w:World} {base:Nat} {spare:Nat→Bool} {held:Bool}
end
section
variable {H:Type} {enc:TypeId×Value→H} {P:Program} {w:World} {base:Nat} {spare:Nat→Bool} {held:Bool}
theorem Zs {t0 t1 t2:TypeId} {args:Array Value} {ds:List (DataW H)} {ps:List MemPlace} (h:DataW.TrodAll enc P w base spare held [t0,t1,t2] args.toList ds ps):
  ∃ v0 v1 v2 d0 d1 d2 p0 p1 p2,args= #[v0,v1,v2]∧ds=[d0,d1,d2]∧ps=p0++(p1++p2)∧DataW.Trod enc P w base spare held t0 v0 d0 p0∧DataW.Trod enc P w base spare held t1 v1 d1 p1∧DataW.Trod enc P w base spare held t2 v2 d2 p2:=by
 obtain ⟨v0,vs0,d0,ds0,p0,q0,hargs,rfl,rfl,hd0,hr0⟩:=trodAll_cons h
 obtain ⟨v1,vs1,d1,ds1,p1,q1,rfl,rfl,rfl,hd1,hr1⟩:=trodAll_cons hr0
 obtain ⟨v2,vs2,d2,ds2,p2,q2,rfl,rfl,rfl,hd2,hr2⟩:=trodAll_cons hr1
 obtain ⟨rfl,rfl,rfl⟩:=trodAll_nil hr2
 exact ⟨v0,v1,v2,d0,d1,d2,p0,p1,p2,by cases args;simp_all,rfl,by simp,hd0,hd1,hd2⟩
theorem W0 {t0 t1 t2:TypeId} {v0 v1 v2:Value} {d0 d1 d2:DataW H} {p0 p1 p2:List MemPlace} (h0:DataW.Trod enc P w base spare held t0 v0 d0 p0) (h1:DataW.Trod enc P w base spare held t1 v1 d1 p1) (h2:DataW.Trod enc P w base spare held t2 v2 d2 p2):DataW.TrodAll enc P w base spare held [t0,t1,t2] [v0,v1,v2] [d0,d1,d2] (p0++(p1++p2)):=
 ⟨p0,_,h0,⟨p1,_,h1,(trodAll_mk1 h2),rfl⟩,rfl⟩
end
end
section
open Go.RowKit
variable {Tb:Ae}
theorem T5 (n:Nat) (bs:List UInt8) (p:Nat):(Db (fun _=>noPg) (some (gF n (bs.take 240) (manyN n),1+manyN n)) p).kind≤2:=by
 simp only[Db,gF]
 split
 ·show (1:Int)≤2;omega
 ·split
  ·show (2:Int)≤2;omega
  ·show (0:Int)≤2;omega
theorem T6 (ps pd pt md:Nat) (x:Sup) (lp:Value) (un:Bool) (p:Int) (hp:x.pages≤p):Cn prog 42 [Pt_ ps,Iv_ p] [stB ps pd pt x lp md un (.map none)] (fun v Γ=>v= .tuple #[.agg #[Iv_ 0,.slice none 0 0],Iv_ 2]∧Γ=[stB ps pd pt x lp md un (.map none)]):=by
 intro z R w H;replace H:=H.l1;refine Ad func42 rfl ntmps42 rfl (Za 2 [] H rfl ?_);intro b1 w H;refine Z0 9 [0] rfl (Ak 16 rfl (fun h1=> ?_) (fun h1=> ?_))
 ·refine Z4 19 [0] H rfl ?_;intro w H;refine Zl [0,2] H rfl ?_;exact ⟨_,⟨rfl,rfl⟩,H.perm 2 [1] rfl rfl⟩
 ·refine Z2 10 [2,4,1,0,0] H rfl (Af rfl (fun h2=> ?_) (fun h2=> ?_))
  ·refine Z4 8 [0] H rfl ?_;intro w H;refine Zl [0,2] H rfl ?_;exact ⟨_,⟨rfl,rfl⟩,H.perm 2 [1] rfl rfl⟩
  ·(exfalso;omega)
theorem W3 (ps pd:Nat) (D:Dsk) (G:StG) (p:Int) (hp:G.x.pages≤p):Cn prog 42 [Pt_ ps,Iv_ p] [stoA ps pd D G none] (fun v Γ=>v= .tuple #[.agg #[Iv_ 0,.slice none 0 0],Iv_ 2]∧Γ=[stoA ps pd D G none]):=by
 intro z R w H
 obtain ⟨X,hX,H⟩:=H.sto
 refine Ret.mono (Cn.at (T6 ps pd X.pt X.md G.x _ _ p hp) H 1 [0] rfl rfl) ?_
 rintro v w' ⟨Γ',⟨rfl,rfl⟩,H'⟩
 exact ⟨_,⟨rfl,rfl⟩,H'.toSto (X:=X) (ps:=ps) (pd:=pd) (D:=D) (G:=G) (own:=none) 6 hX rfl⟩
set_option maxHeartbeats 2000000 in
theorem T7 (n:Nat) (hn:16≤n∧n≤1024) (Tb:Ae) (hT:Gp Tb):Cn prog 7 [Iv_ (n:Int)] [Tb] (fun v Γ=>∃ (pp:Nat) (M0:Nat→Pg),(∀ p,(M0 p).kind≤2)∧v=Pt_ pp∧Γ=[poA Tb pp 6 n M0 (C1 (manyN n+1)) none]):=by
 intro z R w H;replace H:=H.l1;refine Ad func7 rfl ntmps7 rfl (Zc 7 rfl (Aw rfl (call20 _) (QU 1200) H ?_));rintro _ w _ (⟨hn_,rfl,rfl⟩|⟨_,pd,rfl,rfl⟩) H'
 ·exact absurd (by omega) hn_
 ·have H:=H'.l2;refine Z0 19 [4] rfl (Aw rfl (call21 _) (KV _ 1200 n _ _ hn (Ru (by omega))) H ?_);rintro _ w _ ⟨D2,G2,bs,hbs,hO,hcl,hge,hdn,hpg,hM,rfl,rfl⟩ H;refine Z0 10 [4] rfl (Aw rfl (call22 _) (M4 _ _ _ _ _ _ hO hcl hge (by omega)) H ?_);rintro _ w _ ⟨ps,D3,got,hgd3,fi3,hn3,rfl,rfl⟩ H;replace H:=H.l2;have hM2:pgMap (ov got) G2.B=G2.M:=by rw[hgd3];rfl
  obtain ⟨hc0,hcp⟩:=K9 (n:=n) hbs (hM2.trans hM);refine Z0 24 [4] rfl (Aw rfl (call23 _) (OA _ _ _ _ 6 n (C1 (manyN n+1)) fi3 hn hpg (bs.take 240) hc0 hcp (fun k=>JD _ k) (fun p hp=>by unfold C1;rw[if_pos (by omega)])) H ?_);rintro _ w _ ⟨pp,pc,bn,m,pa,rfl,rfl⟩ H;refine Z0 24 [4] rfl (Zr rfl ?_);have H8:=(H.pick 7 [1,0,2,3,4,5,6] rfl).toPo (X:=⟨ps,pd,pc,bn,m,pa,D3,(M3 G2.x (pgMap (ov got) G2.B)),CV,[],0,BB,Tb⟩) (mb:=6) (n:=n) (M0:=pgMap (ov got) G2.B) (C0:=C1 (manyN n+1)) (t:=none) ⟨hn,fi3,hpg,⟨hT,rfl⟩,fun p _=>rfl,hcp,fun k=>JD _ k,fun p hp=>(by unfold C1;rw[if_pos (by omega)]),fun _=>⟨rfl,rfl⟩,fun _ e=>(by cases e)⟩ rfl
  exact ⟨_,⟨pp,_,fun p=>by rw[hM2.trans hM];exact T5 n bs p,rfl,rfl⟩,H8⟩
theorem T8 (pp ps pc pa pd n:Nat) (un:Bool) (D:Dsk) (G:StG) (p:Nat) (x:Pg) (hpG:(p:Int)<G.x.pages) (hf1:D.f1=0) (hx:x=Db G.M none p) (hk:x.kind≤2):Cn prog 72 [Pt_ pp,Iv_ (p:Int)] [plB pp ps pc pa n un,stoA ps pd D G none] (fun v Γ=>∃ e:Int,e≠0∧v= .tuple #[.agg #[.bool false,.slice none 0 0,.slice none 0 0],Iv_ e]∧Γ=[plB pp ps pc pa n un,stoA ps pd D G none]):=by
 intro z R w H;replace H:=H.l2;refine Ad func72 rfl ntmps72 rfl (Za 2 [] H rfl ?_);intro b1 w H;refine Z2 21 [0,0,1,0] H rfl (Aw rfl (call42 _) (JC ps pd D G none p hpG hf1 x hx) H.f2 ?_);rintro _ w _ (⟨hno,rfl,rfl⟩|⟨hyes,rv,rfl,rfl⟩) H'
 ·have H:=H'.l3;refine Za 3 [] H rfl ?_;intro b2 w H;refine Z4 36 [0,4,0,0,0,3,0,0,0,3,2] H rfl ?_;intro w H;refine Zl [2,3] H rfl ?_;exact ⟨_,⟨14,by decide,rfl,rfl⟩,H.pick 4 [3,1] rfl⟩
 ·have H:=H'.l4;have srv:=H.says 0 rfl (fun h q=>q.slc)
  refine Za 3 [] H rfl ?_;intro b3 w H;refine Az rfl rfl (Ag 0 H rfl rfl rfl rfl (vs:=[Iv_ x.kind,rv]) rfl (Ab rfl (Ab srv.one Ar)) (by kernel_rfl) (by simp) (out:=[Iv_ x.kind,rv]) rfl) ?_;rintro w H;replace H:=H.l5;refine Z2 20 [4,0,0,0,0] H rfl (Ak 30 rfl (fun h1=> ?_) (fun h1=> ?_))
  ·refine Z2 6 [0,0,0,0] H rfl (Af rfl (fun h2=> ?_) (fun h2=> ?_))
   ·refine Z4 8 [3] H rfl ?_;intro w H;refine Zl [3,3] H rfl ?_;exact ⟨_,⟨14,by decide,rfl,rfl⟩,H.pick 5 [4,2] rfl⟩
   ·(exfalso;omega)
  ·(exfalso;omega)
theorem T9 (pp ps pc pa pd n:Nat) (un:Bool) (D:Dsk) (G:StG) (p:Int) (hp:G.x.pages≤p):Cn prog 72 [Pt_ pp,Iv_ p] [plB pp ps pc pa n un,stoA ps pd D G none] (fun v Γ=>∃ e:Int,e≠0∧v= .tuple #[.agg #[.bool false,.slice none 0 0,.slice none 0 0],Iv_ e]∧Γ=[plB pp ps pc pa n un,stoA ps pd D G none]):=by
 intro z R w H;replace H:=H.l2;refine Ad func72 rfl ntmps72 rfl (Za 2 [] H rfl ?_);intro b1 w H;refine Z2 21 [0,0,1,0] H rfl (z_E_ rfl (call42 _) (W3 _ _ _ _ p hp) H.f2 ?_);intro w H;refine Za 3 [] H rfl ?_;intro b2 w H;refine Z4 21 [0,3,2] H rfl ?_;intro w H;refine Zl [2,3] H rfl ?_;exact ⟨_,⟨2,by decide,rfl,rfl⟩,H.pick 4 [3,1] rfl⟩
end
section
open Go.RowKit
variable {Tb:Ae}
theorem YM {id st sz q r mp kk:Int} (h:A9 id st sz q r mp kk=0):0≤r:=by
 unfold A9 at h
 split at h
 ·rename_i h2;unfold BH at h2;omega
 ·cases h
theorem W4 (pp mb n:Nat) (M0:Nat→Pg) (C0:Nat→Nat) (hM:∀ p,(M0 p).kind≤2) (r:Int) (hr:0≤r):Cn prog 72 [Pt_ pp,Iv_ r] [poA Tb pp mb n M0 C0 none] (fun v Γ=>∃ e:Int,e≠0∧v= .tuple #[.agg #[.bool false,.slice none 0 0,.slice none 0 0],Iv_ e]∧Γ=[poA Tb pp mb n M0 C0 none]):=by
 intro z R w H
 obtain ⟨X,hX,H⟩:=H.po
 have fin:∀ (v:Value) (w':World),(∃ Γ',(∃ e:Int,e≠0∧v= .tuple #[.agg #[.bool false,.slice none 0 0,.slice none 0 0],Iv_ e]∧Γ'=[plB pp X.ps X.pc X.pa n (none:Option PoT).isSome,stoA X.ps X.pd X.D X.G none])∧Sep z (Γ'++List.drop 2 (Rk pp n C0 none X++([]++R))) w')→∃ Γ',(∃ e:Int,e≠0∧v= .tuple #[.agg #[.bool false,.slice none 0 0,.slice none 0 0],Iv_ e]∧Γ'=[poA Tb pp mb n M0 C0 none])∧Sep z (Γ'++R) w':=by
  rintro v w' ⟨Γ',⟨e,he,rfl,rfl⟩,H'⟩
  exact ⟨_,⟨e,he,rfl,rfl⟩,H'.toPo (X:=X) hX rfl⟩
 rcases Int.lt_or_le r n with h|h
 ·obtain ⟨p,rfl⟩:∃ p:Nat,r=(p:Int):=⟨r.toNat,by omega⟩
  have hk:(Db X.G.M none p).kind≤2:=by
   show (X.G.M p).kind≤2
   by_cases hp:p=0∨manyN n<p
   ·rw[←hX.m0 p hp];exact hM p
   ·have:=hX.cp (p - 1) (by omega)
    rw[show 1+(p - 1)=p by omega] at this
    rw[this];show (2:Int)≤2;omega
  exact Ret.mono (Cn.at (T8 pp X.ps X.pc X.pa X.pd n _ X.D X.G p _ (by rw[hX.pg];omega) hX.fine.clean.f1 rfl hk) H 2 [0,1] rfl rfl) fin
 ·exact Ret.mono (Cn.at (T9 pp X.ps X.pc X.pa X.pd n _ X.D X.G r (by rw[hX.pg];omega)) H 2 [0,1] rfl rfl) fin
theorem Sep.poTab {z w:World} {Γ:List Ae} {pp mb n:Nat} {M0:Nat→Pg} {C0:Nat→Nat} (H:Sep z (poA Tb pp mb n M0 C0 none::Γ) w):Sep z (Tb::Γ) w:=by
 obtain ⟨X,hX,H⟩:=H.po
 have h:=H.pick 7 [6] rfl
 rw[←hX.tab.2];exact h
theorem Ua (pp mb n:Nat) (M0:Nat→Pg) (C0:Nat→Nat) (hM:∀ p,(M0 p).kind≤2) (r kk:Int) (hr:0≤r):Cn prog 41 [Pt_ pp,Iv_ r,Iv_ kk] [poA Tb pp mb n M0 C0 none] (fun v Γ=>∃ e:Int,v= .tuple #[Iv_ 0,Iv_ e]∧Γ=[poA Tb pp mb n M0 C0 none]):=by
 intro z R w H;replace H:=H.l1;refine Ad func41 rfl ntmps41 rfl (Zc 18 rfl ?_);refine AJ (σ:=Nat) (fun q=>[(1,Iv_ r),(0,Pt_ pp),(2,Iv_ kk)])
   (fun q w=>Sep z (poA Tb pp mb n M0 C0 none::R) w∧(True)) (fun q=>q) 0
   (fun _ hF=>(hF.all rfl)) ⟨H,trivial⟩ ?_
 clear H;rintro q w ⟨H',hI⟩;have H:=H'.l1;refine Z0 7 [0] rfl (Af rfl (fun h1=> ?_) (fun h1=> ?_))
 ·refine Zc 7 rfl (Aw rfl (call72 _) (W4 pp mb n M0 C0 hM r (by omega)) H ?_);rintro _ w _ ⟨e,he,rfl,rfl⟩ H;refine Za 3 [] H rfl ?_;intro b1 w H;refine Z4 11 [0,0] H rfl ?_;intro w H;refine Af rfl (fun h2=> ?_) (fun h2=> ?_)
  ·refine Zc 8 rfl (Zr rfl ?_);exact ⟨_,⟨e,rfl,rfl⟩,H.pick 2 [1] rfl⟩
  ·(exfalso;omega)
 ·refine Zc 2 rfl (gx (Zc 9 rfl (Zr rfl ?_)));exact ⟨_,⟨0,rfl,rfl⟩,H.pick 1 [0] rfl⟩
theorem Ub (pp mb n:Nat) (M0:Nat→Pg) (C0:Nat→Nat) (hM:∀ p,(M0 p).kind≤2) (id st sz q r mp kk:Int):Cn prog 15 [Pt_ pp,.agg #[Iv_ id,Iv_ st,Iv_ sz,Iv_ q,Iv_ r,Iv_ mp],Iv_ kk] [poA Tb pp mb n M0 C0 none] (fun v Γ=>(A9 id st sz q r mp kk≠0∧v= .tuple #[.slice none 0 0,Iv_ (A9 id st sz q r mp kk)]∧Γ=[poA Tb pp mb n M0 C0 none])∨(A9 id st sz q r mp kk=0∧∃ (u:Value) (e:Int),v= .tuple #[u,Iv_ e]∧Γ=[poA Tb pp mb n M0 C0 none])):=by
 intro z R w H;replace H:=H.l1;refine Ad func15 rfl ntmps15 rfl (Za 2 [] H rfl ?_);intro b1 w H;refine Z2 10 [0,6] H rfl (z_E_ rfl (call40 _) (tmay_c _ _ _ _ _ _ _ _) H ?_);intro w H;refine Z0 9 [0] rfl (Af rfl (fun h1=> ?_) (fun h1=> ?_))
 ·refine Zc 8 rfl (Zr rfl ?_);exact ⟨_,.inl ⟨by omega,rfl,rfl⟩,H.pick 2 [1] rfl⟩
 ·refine Z2 8 [4,0,0] H rfl (Aw rfl (call41 _) (Ua pp mb n M0 C0 hM r kk (YM (id:=id) (st:=st) (sz:=sz) (q:=q) (r:=r) (mp:=mp) (kk:=kk) (by omega))) H.f1 ?_);rintro _ w _ ⟨e,rfl,rfl⟩ H;refine Z0 14 [0] rfl (Af rfl (fun h2=> ?_) (fun h2=> ?_))
  ·refine Zc 8 rfl (Zr rfl ?_);exact ⟨_,.inr ⟨by omega,.slice none 0 0,e,rfl,rfl⟩,H.pick 2 [0] rfl⟩
  ·refine Zc 4 rfl (AL rfl (DA (k:=64) H rfl (by kernel_rfl) Cf rfl rfl rfl (by omega)) ?_);rintro _ w ⟨b2,rfl,H⟩;replace H:=H.l3;refine Z0 19 [3] rfl (Zr rfl ?_);exact ⟨_,.inr ⟨by omega,.slice (some ⟨b2,0,none⟩) 64 64,0,rfl,rfl⟩,H.pick 3 [1] rfl⟩
theorem Uc (id st sz q r mp kk:Int):Cn prog 15 [.pointer none,.agg #[Iv_ id,Iv_ st,Iv_ sz,Iv_ q,Iv_ r,Iv_ mp],Iv_ kk] [] (fun v Γ=>v= .tuple #[.slice none 0 0,Iv_ 1]∧Γ=[]):=by
 intro z R w H;replace H:=H.l0;refine Ad func15 rfl ntmps15 rfl (Za 2 [] H rfl ?_);intro b1 w H;refine Z2 10 [0,6] H rfl (z_E_ rfl (call40 _) (Kx _ _ _ _ _ _ _) H ?_);intro w H;refine Z0 18 [3] rfl (Zr rfl ?_);exact ⟨_,⟨rfl,rfl⟩,H.perm 1 [] rfl rfl⟩
theorem RC (id st sz q r mp kk:Int):Cn prog 17 [.pointer none,.agg #[Iv_ id,Iv_ st,Iv_ sz,Iv_ q,Iv_ r,Iv_ mp],Iv_ kk] [] (fun v Γ=>v= .tuple #[.agg #[Iv_ 0,Iv_ 0,Iv_ 0,Iv_ 0,Iv_ 0,Iv_ 0],Iv_ 1]∧Γ=[]):=by
 intro z R w H;replace H:=H.l0;refine Ad func17 rfl ntmps17 rfl (Za 2 [] H rfl ?_);intro b1 w H;refine Za 0 [] H rfl ?_;intro b2 w H;refine Z2 9 [1,6] H rfl (z_E_ rfl (call40 _) (Kx _ _ _ _ _ _ _) H ?_);intro w H;refine Z0 12 [3] rfl (Ac rfl (AF rfl rfl (out:=[Iv_ 0,Iv_ 0,Iv_ 0,Iv_ 0,Iv_ 0,Iv_ 0]) (by kernel_rfl)) (Z4 6 [0] H rfl ?_));intro w H;refine Zl [0,6] H rfl ?_;exact ⟨_,⟨rfl,rfl⟩,H.perm 2 [] rfl rfl⟩
theorem RD (id st sz q r mp kk:Int) (dv:Value):Cn prog 16 [.pointer none,.agg #[Iv_ id,Iv_ st,Iv_ sz,Iv_ q,Iv_ r,Iv_ mp],Iv_ kk,dv] [] (fun v Γ=>v= .tuple #[.agg #[Iv_ 0,Iv_ 0,Iv_ 0,Iv_ 0,Iv_ 0,Iv_ 0],Iv_ 1]∧Γ=[]):=by
 intro z R w H;replace H:=H.l0;refine Ad func16 rfl ntmps16 rfl (Za 2 [] H rfl ?_);intro b1 w H;refine Za 0 [] H rfl ?_;intro b2 w H;refine Z2 9 [1,6] H rfl (z_E_ rfl (call40 _) (Kx _ _ _ _ _ _ _) H ?_);intro w H;refine Z0 12 [3] rfl (Ac rfl (AF rfl rfl (out:=[Iv_ 0,Iv_ 0,Iv_ 0,Iv_ 0,Iv_ 0,Iv_ 0]) (by kernel_rfl)) (Z4 6 [0] H rfl ?_));intro w H;refine Zl [0,6] H rfl ?_;exact ⟨_,⟨rfl,rfl⟩,H.perm 2 [] rfl rfl⟩
end
open Go.RowKit
set_option maxHeartbeats 6000000 in
theorem Lo (id st sz q r mp kk:Int) (dv:Value) (A Tb:Ae) (hT:Gp Tb):Cn prog 5 [.agg #[Iv_ id,Iv_ st,Iv_ sz,Iv_ q,Iv_ r,Iv_ mp],Iv_ kk,dv] [A,Tb] (fun v Γ=>v= .bool true∧Γ=[A,Tb]):=by
 intro z R w H;replace H:=H.l2;refine Ad func5 rfl ntmps5 rfl (Za 2 [] H rfl ?_);intro b1 w H;refine Zc 5 rfl (Aw rfl (call7 _) (T7 64 (by omega) Tb hT) H.f2 ?_);rintro _ w _ ⟨pp,M0,hM,rfl,rfl⟩ H;refine Zc 13 rfl (Lt (fun a w=>Fr 203 [] [(8,.bool (decide ((1≤id∧id≤1073741824)∧(st=1∨st=2)∧1≤sz∧sz≤1048576))),(0,.agg #[Iv_ id,Iv_ st,Iv_ sz,Iv_ q,Iv_ r,Iv_ mp]),(1,Iv_ kk),(2,dv),(3,Pt_ b1),(6,.bool false),(7,Pt_ pp),(22,Pt_ pp),(23,Pt_ pp),(24,.bool false)] a∧Sep z (poA Tb pp 6 64 M0 (C1 (manyN 64+1)) none::blk b1 [Iv_ id,Iv_ st,Iv_ sz,Iv_ q,Iv_ r,Iv_ mp] 28::A::R) w) ?_ ?_)
 ·refine Z2 5 [0,1,0,0] H rfl (Ak 28 rfl (fun h1=> ?_) (fun h1=> ?_))
  ·refine Z2 5 [0,1,0,0] H rfl (Ak 33 rfl (fun h2=> ?_) (fun h2=> ?_))
   ·refine Z2 4 [1,1,0,0] H rfl (Ak 37 rfl (fun h3=> ?_) (fun h3=> ?_))
    ·refine Z2 11 [2,1,0,0] H rfl (Ak 48 rfl (fun h4=> ?_) (fun h4=> ?_))
     ·refine Z2 6 [2,1,0,0] H rfl ?_;exact gf fun _ hF=>⟨(hF.co rfl (congrArg Value.bool (by first|exact (decide_eq_true (by omega)).symm|exact (decide_eq_false (by omega)).symm|exact decide_eq_decide.2 (by omega))) (hF.all rfl)),H⟩
     ·refine Zc 6 rfl ?_;exact gf fun _ hF=>⟨(hF.co rfl (congrArg Value.bool (by first|exact (decide_eq_true (by omega)).symm|exact (decide_eq_false (by omega)).symm|exact decide_eq_decide.2 (by omega))) (hF.all rfl)),H⟩
    ·refine Z2 6 [1,1,0,0] H rfl (Ak 43 rfl (fun h5=> ?_) (fun h5=> ?_))
     ·refine Z2 5 [2,1,0,0] H rfl (Ak 48 rfl (fun h6=> ?_) (fun h6=> ?_))
      ·refine Z2 6 [2,1,0,0] H rfl ?_;exact gf fun _ hF=>⟨(hF.co rfl (congrArg Value.bool (by first|exact (decide_eq_true (by omega)).symm|exact (decide_eq_false (by omega)).symm|exact decide_eq_decide.2 (by omega))) (hF.all rfl)),H⟩
      ·refine Zc 6 rfl ?_;exact gf fun _ hF=>⟨(hF.co rfl (congrArg Value.bool (by first|exact (decide_eq_true (by omega)).symm|exact (decide_eq_false (by omega)).symm|exact decide_eq_decide.2 (by omega))) (hF.all rfl)),H⟩
     ·refine Zc 11 rfl ?_;exact gf fun _ hF=>⟨(hF.co rfl (congrArg Value.bool (by first|exact (decide_eq_true (by omega)).symm|exact (decide_eq_false (by omega)).symm|exact decide_eq_decide.2 (by omega))) (hF.all rfl)),H⟩
   ·refine Zc 21 rfl ?_;exact gf fun _ hF=>⟨(hF.co rfl (congrArg Value.bool (by first|exact (decide_eq_true (by omega)).symm|exact (decide_eq_false (by omega)).symm|exact decide_eq_decide.2 (by omega))) (hF.all rfl)),H⟩
  ·refine Zc 26 rfl ?_;exact gf fun _ hF=>⟨(hF.co rfl (congrArg Value.bool (by first|exact (decide_eq_true (by omega)).symm|exact (decide_eq_false (by omega)).symm|exact decide_eq_decide.2 (by omega))) (hF.all rfl)),H⟩
 rintro a w ⟨hF,H⟩;revert a;refine Lt (fun a w=>Fr 203 [] [(8,.bool (decide (BH id st sz q r mp))),(0,.agg #[Iv_ id,Iv_ st,Iv_ sz,Iv_ q,Iv_ r,Iv_ mp]),(1,Iv_ kk),(2,dv),(3,Pt_ b1),(6,.bool false),(7,Pt_ pp),(22,Pt_ pp),(23,Pt_ pp),(24,.bool false)] a∧Sep z (poA Tb pp 6 64 M0 (C1 (manyN 64+1)) none::blk b1 [Iv_ id,Iv_ st,Iv_ sz,Iv_ q,Iv_ r,Iv_ mp] 28::A::R) w) ?_ ?_
 ·refine Zc 3 rfl (Ak 54 rfl (fun h7=> ?_) (fun h7=> ?_))
  ·refine Z2 5 [3,1,0,0] H rfl (Ak 59 rfl (fun h8=> ?_) (fun h8=> ?_))
   ·refine Z2 5 [3,1,0,0] H rfl (Ak 64 rfl (fun h9=> ?_) (fun h9=> ?_))
    ·refine Z2 5 [4,1,0,0] H rfl (Ak 69 rfl (fun h10=> ?_) (fun h10=> ?_))
     ·refine Z2 5 [4,1,0,0] H rfl (Ak 74 rfl (fun h11=> ?_) (fun h11=> ?_))
      ·refine Z2 5 [5,1,0,0] H rfl (Ak 79 rfl (fun h12=> ?_) (fun h12=> ?_))
       ·refine Z2 6 [5,1,0,0] H rfl ?_;exact gf fun _ hF=>⟨(hF.co rfl (congrArg Value.bool (by first|exact (decide_eq_true (by unfold BH;omega)).symm|exact (decide_eq_false (by unfold BH;omega)).symm|exact decide_eq_decide.2 (by unfold BH;omega))) (hF.all rfl)),H⟩
       ·refine Zc 6 rfl ?_;exact gf fun _ hF=>⟨(hF.co rfl (congrArg Value.bool (by first|exact (decide_eq_true (by unfold BH;omega)).symm|exact (decide_eq_false (by unfold BH;omega)).symm|exact decide_eq_decide.2 (by unfold BH;omega))) (hF.all rfl)),H⟩
      ·refine Zc 11 rfl ?_;exact gf fun _ hF=>⟨(hF.co rfl (congrArg Value.bool (by first|exact (decide_eq_true (by unfold BH;omega)).symm|exact (decide_eq_false (by unfold BH;omega)).symm|exact decide_eq_decide.2 (by unfold BH;omega))) (hF.all rfl)),H⟩
     ·refine Zc 16 rfl ?_;exact gf fun _ hF=>⟨(hF.co rfl (congrArg Value.bool (by first|exact (decide_eq_true (by unfold BH;omega)).symm|exact (decide_eq_false (by unfold BH;omega)).symm|exact decide_eq_decide.2 (by unfold BH;omega))) (hF.all rfl)),H⟩
    ·refine Zc 21 rfl ?_;exact gf fun _ hF=>⟨(hF.co rfl (congrArg Value.bool (by first|exact (decide_eq_true (by unfold BH;omega)).symm|exact (decide_eq_false (by unfold BH;omega)).symm|exact decide_eq_decide.2 (by unfold BH;omega))) (hF.all rfl)),H⟩
   ·refine Zc 26 rfl ?_;exact gf fun _ hF=>⟨(hF.co rfl (congrArg Value.bool (by first|exact (decide_eq_true (by unfold BH;omega)).symm|exact (decide_eq_false (by unfold BH;omega)).symm|exact decide_eq_decide.2 (by unfold BH;omega))) (hF.all rfl)),H⟩
  ·refine Zc 31 rfl ?_;exact gf fun _ hF=>⟨(hF.co rfl (congrArg Value.bool (by first|exact (decide_eq_true (by unfold BH;omega)).symm|exact (decide_eq_false (by unfold BH;omega)).symm|exact decide_eq_decide.2 (by unfold BH;omega))) (hF.all rfl)),H⟩
 rintro a w ⟨hF,H⟩;revert a;refine Z2 4 [1,6] H rfl (z_E_ rfl (call15 _) (Uc _ _ _ _ _ _ _) H ?_);intro w H;refine Z2 12 [1,6] H rfl (z_E_ rfl (call16 _) (RD _ _ _ _ _ _ _ _) H ?_);intro w H;refine Za 3 [] H rfl ?_;intro b2 w H;refine Z4 8 [0,2,6] H rfl ?_;intro w H;refine z_E_ rfl (call17 _) (RC _ _ _ _ _ _ _) H ?_;intro w H;refine Za 3 [] H rfl ?_;intro b3 w H;refine Z4 25 [0,4,4,4] H rfl ?_;intro w H;refine z_E_ rfl (call18 _) (M9 _ _ _ _ _ none) H.f2 ?_;intro w H;refine Z2 8 [3,6] H rfl (Aw rfl (call15 _) (Ub _ _ _ _ _ hM _ _ _ _ _ _ _) H ?_);rintro _ w _ (⟨hm,rfl,rfl⟩|⟨hm,uu,ee,rfl,rfl⟩) H'
 ·have H:=H'.l5;refine Z2 13 [3,6] H rfl (z_E_ rfl (call16 _) (HO _ _ _ _ _ _ _ _ _ _ _ _ _) H ?_);intro w H;refine Za 3 [] H rfl ?_;intro b4 w H;refine Z4 9 [0,4,6] H rfl ?_;intro w H;refine z_E_ rfl (call17 _) (Lj _ _ _ _ _ _ _ _ _ _ _ _) H.f1 ?_;intro w H;refine Za 3 [] H rfl ?_;intro b5 w H;refine Z4 8 [0] H rfl ?_;intro w H;refine Ac rfl (Ax rfl rfl) (Zc 2 rfl (Af rfl (fun h13=> ?_) (fun h13=> ?_)))
  ·refine Zc 1 rfl ?_;have eM:A9 id st sz q r mp kk=1:=by unfold A9;rw[if_neg (by assumption)]
   refine Al 19 (v:=Iv_ 1) rfl (congrArg Iv_ (by rw[eM];rfl)) (Al 21 (v:=Iv_ 1) rfl (congrArg Iv_ (by rw[eM];rfl)) (Al 17 (v:=Iv_ 1) rfl (congrArg Iv_ (by rw[eM])) (Z2 18 [3,3,3,3,2,6] H rfl (Ac rfl (AF rfl rfl (out:=[Iv_ 0,Iv_ 0,Iv_ 0,Iv_ 0,Iv_ 0,Iv_ 0]) (by kernel_rfl)) (Ac rfl (Cb (cs:= #[Iv_ 0,Iv_ 0,Iv_ 0,Iv_ 0,Iv_ 0,Iv_ 0]) rfl (by kernel_rfl) (by kernel_rfl) (by kernel_rfl) rfl rfl) (Z2 3 [0,6] H rfl (Ac rfl (AF rfl rfl (out:=[Iv_ 0,Iv_ 0,Iv_ 0,Iv_ 0,Iv_ 0,Iv_ 0]) (by kernel_rfl)) (Ac rfl (Cb (cs:= #[Iv_ 0,Iv_ 0,Iv_ 0,Iv_ 0,Iv_ 0,Iv_ 0]) rfl (by kernel_rfl) (by kernel_rfl) (by kernel_rfl) rfl rfl) (Zc 3 rfl (z_E_ rfl (call18 _) (M9 _ _ _ _ _ none) H.f1 ?_))))))))));intro w H;refine Z0 2 [0] rfl (Al 168 (v:= .bool true) rfl (congrArg Value.bool (by simp)) (Zc 2 rfl ?_));replace H:=((H.pick 7 [0,6] rfl).poTab).l2
   refine z_E_ rfl (call11 _) (Hi Tb hT) H ?_;intro w H;refine Zc 5 rfl (Zr rfl ?_);exact ⟨_,⟨rfl,rfl⟩,H.pick 2 [1,0] rfl⟩
  ·have hV:=Classical.not_not.1 h13
   refine Z0 8 [0] rfl (Ak 175 rfl (fun h14=> ?_) (fun h14=> ?_))
   ·refine Zc 9 rfl ?_;have eM:A9 id st sz q r mp kk=34:=by unfold A9;rw[if_pos hV,if_neg (by omega)]
    refine Al 19 (v:=Iv_ 34) rfl (congrArg Iv_ (by rw[eM];rfl)) (Al 21 (v:=Iv_ 34) rfl (congrArg Iv_ (by rw[eM];rfl)) (Al 17 (v:=Iv_ 34) rfl (congrArg Iv_ (by rw[eM])) (Z0 12 [3,3,3] rfl ?_)));replace H:=((H.pick 7 [1,6] rfl).poTab).l2
    refine z_E_ rfl (call11 _) (Hi Tb hT) H ?_;intro w H;refine Zc 5 rfl (Zr rfl ?_);exact ⟨_,⟨rfl,rfl⟩,H.pick 2 [1,0] rfl⟩
   ·refine Z2 7 [2,5,0,0] H rfl (Af rfl (fun h15=> ?_) (fun h15=> ?_))
    ·refine Zc 1 rfl ?_;have eM:A9 id st sz q r mp kk=34:=by unfold A9;rw[if_pos hV,if_neg (by omega)]
     refine Al 19 (v:=Iv_ 34) rfl (congrArg Iv_ (by rw[eM];rfl)) (Al 21 (v:=Iv_ 34) rfl (congrArg Iv_ (by rw[eM];rfl)) (Al 17 (v:=Iv_ 34) rfl (congrArg Iv_ (by rw[eM])) (Z0 12 [3,3,3] rfl ?_)));replace H:=((H.pick 7 [1,6] rfl).poTab).l2
     refine z_E_ rfl (call11 _) (Hi Tb hT) H ?_;intro w H;refine Zc 5 rfl (Zr rfl ?_);exact ⟨_,⟨rfl,rfl⟩,H.pick 2 [1,0] rfl⟩
    ·(exfalso;unfold A9 at hm;rw[if_pos hV,if_pos (by omega)] at hm;omega)
 ·have H:=H'.l5;refine Z2 13 [3,6] H rfl (z_E_ rfl (call16 _) (HO _ _ _ _ _ _ _ _ _ _ _ _ _) H ?_);intro w H;refine Za 3 [] H rfl ?_;intro b6 w H;refine Z4 9 [0,4,6] H rfl ?_;intro w H;refine z_E_ rfl (call17 _) (Lj _ _ _ _ _ _ _ _ _ _ _ _) H.f1 ?_;intro w H;refine Za 3 [] H rfl ?_;intro b7 w H;refine Z4 8 [0] H rfl ?_;intro w H;refine Ac rfl (Ax rfl rfl) (Zc 2 rfl (Af rfl (fun h16=> ?_) (fun h16=> ?_)))
  ·(exfalso;unfold A9 at hm;rw[if_neg h16] at hm;omega)
  ·have hV:=Classical.not_not.1 h16
   refine Z0 8 [0] rfl (Ak 175 rfl (fun h17=> ?_) (fun h17=> ?_))
   ·(exfalso;unfold A9 at hm;rw[if_pos hV,if_neg (by omega)] at hm;omega)
   ·refine Z2 7 [2,5,0,0] H rfl (Af rfl (fun h18=> ?_) (fun h18=> ?_))
    ·(exfalso;unfold A9 at hm;rw[if_pos hV,if_neg (by omega)] at hm;omega)
    ·refine Zc 3 rfl ?_;have eM:A9 id st sz q r mp kk=0:=by unfold A9;rw[if_pos hV,if_pos (by omega)]
     refine Al 19 (v:=Iv_ 18) rfl (congrArg Iv_ (by rw[eM];rfl)) (Al 21 (v:=Iv_ 18) rfl (congrArg Iv_ (by rw[eM];rfl)) (Z0 8 [3,3] rfl ?_));replace H:=((H.pick 7 [1,6] rfl).poTab).l2
     refine z_E_ rfl (call11 _) (Hi Tb hT) H ?_;intro w H;refine Zc 5 rfl (Zr rfl ?_);exact ⟨_,⟨rfl,rfl⟩,H.pick 2 [1,0] rfl⟩
open Go.ChangeShapes Go.WideShapes Go.ChangeAt Go.RowKit Go.Joins
theorem RE:prog.cellsOf 28=6:=by kernel_rfl
theorem Ud {H:Type} {enc:TypeId×Value→H} {W:World} {base:Nat} {v:Value} {d:DataW H} {p:List MemPlace} (hv:Value.okWide prog W .any base 28 v)
  (h:DataW.Trod enc prog W 0 (fun _=>true) true 28 v d p):∃ a b c e f g:Int,v= .agg #[.int .i64 a,.int .i64 b,.int .i64 c,.int .i64 e,.int .i64 f,.int .i64 g]:=by
 obtain ⟨cs,rfl,hsz⟩:=okWide_struct underlying28 hv
 rw[RE] at hsz
 obtain ⟨l,rfl⟩:∃ l:List Value,cs=l.toArray:=⟨cs.toList,by simp⟩
 obtain ⟨fuel,hf0⟩:=h
 obtain ⟨xs,n,-,hx,hl,hxl,hf⟩:=DataW.trod_struct underlying28 hf0
 match l,hsz with
 | [c0,c1,c2,c3,c4,c5],_=>
  match xs,hxl with
  | [y0,y1,y2,y3,y4,y5],_=>
   have f0:=hf 0 _ rfl
   try dsimp only at f0
   try simp only[EL,Value.cells,List.drop_zero,List.drop_succ_cons,List.take_succ_cons,List.take_zero,List.getElem?_cons_zero,List.getElem?_cons_succ] at f0
   obtain ⟨z0,e0,_⟩:=DataW.trod_int underlying3 f0
   have g0:=congrArg (fun l=>l.headD .nilFunc) e0
   try simp at g0
   subst g0
   have f1:=hf 1 _ rfl
   try dsimp only at f1
   try simp only[EL,Value.cells,List.drop_zero,List.drop_succ_cons,List.take_succ_cons,List.take_zero,List.getElem?_cons_zero,List.getElem?_cons_succ] at f1
   obtain ⟨z1,e1,_⟩:=DataW.trod_int underlying3 f1
   have g1:=congrArg (fun l=>l.headD .nilFunc) e1
   try simp at g1
   subst g1
   have f2:=hf 2 _ rfl
   try dsimp only at f2
   try simp only[EL,Value.cells,List.drop_zero,List.drop_succ_cons,List.take_succ_cons,List.take_zero,List.getElem?_cons_zero,List.getElem?_cons_succ] at f2
   obtain ⟨z2,e2,_⟩:=DataW.trod_int underlying3 f2
   have g2:=congrArg (fun l=>l.headD .nilFunc) e2
   try simp at g2
   subst g2
   have f3:=hf 3 _ rfl
   try dsimp only at f3
   try simp only[EL,Value.cells,List.drop_zero,List.drop_succ_cons,List.take_succ_cons,List.take_zero,List.getElem?_cons_zero,List.getElem?_cons_succ] at f3
   obtain ⟨z3,e3,_⟩:=DataW.trod_int underlying3 f3
   have g3:=congrArg (fun l=>l.headD .nilFunc) e3
   try simp at g3
   subst g3
   have f4:=hf 4 _ rfl
   try dsimp only at f4
   try simp only[EL,Value.cells,List.drop_zero,List.drop_succ_cons,List.take_succ_cons,List.take_zero,List.getElem?_cons_zero,List.getElem?_cons_succ] at f4
   obtain ⟨z4,e4,_⟩:=DataW.trod_int underlying3 f4
   have g4:=congrArg (fun l=>l.headD .nilFunc) e4
   try simp at g4
   subst g4
   have f5:=hf 5 _ rfl
   try dsimp only at f5
   try simp only[EL,Value.cells,List.drop_zero,List.drop_succ_cons,List.take_succ_cons,List.take_zero,List.getElem?_cons_zero,List.getElem?_cons_succ] at f5
   obtain ⟨z5,e5,_⟩:=DataW.trod_int underlying3 f5
   have g5:=congrArg (fun l=>l.headD .nilFunc) e5
   try simp at g5
   subst g5
   exact ⟨z0,z1,z2,z3,z4,z5,rfl⟩
theorem W5 (os:Os):laidMet prog Rows.thinRefusesUptoRow.laid ((HQ os).forCall (fun _ _=>0) ⟨#[],#[.agg #[.int .i64 0,.int .i64 0,.int .i64 0,.int .i64 0,.int .i64 0,.int .i64 0],.int .i64 0,.slice none 0 0],[]⟩).memory:=
 laidMet_of_run' 8 (by kernel_rfl) (by kernel_rfl)
theorem RF (os:Os) {H:Type} (enc:TypeId×Value→H):∃ places,DataW.whole enc prog ((HQ os).forCall (fun _ _=>0) ⟨#[],#[.agg #[.int .i64 0,.int .i64 0,.int .i64 0,.int .i64 0,.int .i64 0,.int .i64 0],.int .i64 0,.slice none 0 0],[]⟩).memory f5.params.toList Rows.thinRefusesSpec.vars false #[Value.agg #[.int .i64 0,.int .i64 0,.int .i64 0,.int .i64 0,.int .i64 0,.int .i64 0],.int .i64 0,.slice none 0 0].toList 8=some ([.agg [.lit (.int .i64 0),.lit (.int .i64 0),.lit (.int .i64 0),.lit (.int .i64 0),.lit (.int .i64 0),.lit (.int .i64 0)],.lit (.int .i64 0),.nil],[],places):=
 ⟨[],by kernel_rfl⟩
theorem twr_contract (H:Type) (enc:TypeId×Value→H) (W:World) (base:Nat) (args:Array Value) (ds gs:List (DataW H)) (before:List MemPlace)
  (hval:∀ (j:Nat) t v,f5.params[j]? =some t→args[j]? =some v→Value.okWide prog W .any base t v)
  (hW:DataW.Whole enc prog f5.params.toList Rows.thinRefusesSpec.vars false W args.toList ds gs before) (hk:Rows.uptoSmall H (ds++gs)=true) (hL:laidMetH prog Rows.thinRefusesUptoRow.laid W):
  Calls prog 5 args W fun e W'=>∃ v,e= .returned v∧Rows.thinRefusesSpec.post enc prog f5 false true false false W args v W':=by
 have hW0:=hW
 obtain ⟨p,q,hA0,hV,rfl,_,_⟩:=hW
 have hA:DataW.TrodAll enc prog W 0 (fun _=>true) true f5.params.toList args.toList ds p:=hA0
 rw[params5] at hA hval
 obtain ⟨v0,v1,v2,d0,d1,d2,p0,p1,p2,rfl,rfl,rfl,h0,h1,h2⟩:=Zs hA
 obtain ⟨rfl,rfl⟩:=trodVars_none hV
 simp only[List.append_nil] at hW0 hk
 have t0:∀ x∈p0,x.block<W.heap.size:=fun x hx=>by have:=hW0.lt x (by simp[hx]);simpa using this
 have t2:∀ x∈p2,x.block<W.heap.size:=fun x hx=>by have:=hW0.lt x (by simp[hx]);simpa using this
 have hb:Rows.uptoBulkAll [d0,d1,d2]≤1048576:=of_decide_eq_true hk
 simp only[Rows.uptoBulkAll] at hb
 obtain ⟨a0_0,a0_1,a0_2,a0_3,a0_4,a0_5,rfl⟩:=Ud (hval 0 28 v0 rfl rfl) h0
 obtain ⟨i1,rfl,rfl,rfl,wi1⟩:=open_int underlying3 (hval 1 3 v1 rfl rfl) h1
 refine (Cn.run2 (WZ (UJ hL)) (Lo a0_0 a0_1 a0_2 a0_3 a0_4 a0_5 i1 v2 (LA W) (Nw W) (Zq (UJ hL)))).mono fun e W' hR=> ?_
 obtain ⟨u,rfl,rfl,x⟩:∃ u,e=Ending.returned u∧u= .bool true∧Ext No W W':=by cases e<;>first|exact ⟨_,rfl,hR⟩|exact hR.elim
 exact ⟨_,rfl,_,_,_,[],_,[],hW0,trodAll_mk1 (shut_bool underlying4 true),W0 (Below.trod OS (by kernel_rfl) (of_decide_eq_true (by kernel_rfl)) h0 x.below t0) (shut_int underlying3 wi1) (Below.trod OS (by kernel_rfl) (of_decide_eq_true (by kernel_rfl)) h2 x.below t2),rfl,x.below.frame _,fun h=>by cases h⟩
theorem PH (os:Os) (started:os.Started) (H:Type) (enc:TypeId×Value→H) (F:Stop.Interp):
  ReturnsInHanded {} checked os 5 .any ((Rows.OpenSpec.upto Rows.thinRefusesSpec).preRow enc prog f5 Rows.thinRefusesUptoRow.domain false Rows.thinRefusesUptoRow.laid) (((Rows.OpenSpec.upto Rows.thinRefusesSpec).at F).post enc prog f5 false true false false):=by
 obtain ⟨places,hx⟩:=RF os enc
 refine returnsInHanded_of_row (C:=checked) (s:=Rows.OpenSpec.upto Rows.thinRefusesSpec) own started (by kernel_rfl) func5
  (witness_row_at (enc:=enc) (C:=checked) false (HQ os) #[.agg #[.int .i64 0,.int .i64 0,.int .i64 0,.int .i64 0,.int .i64 0,.int .i64 0],.int .i64 0,.slice none 0 0] rfl (by kernel_rfl) (by kernel_rfl) (by kernel_rfl)
   (OpenSpec.preRow_of_cond 8 hx (by kernel_rfl) (fun k hk=>by cases hk;kernel_rfl) (by kernel_rfl) (W5 os))) ?_
 intro W base args ds gs before hval hW _ hcond _ hL _ _
 exact twr_contract H enc W base args ds gs before hval hW (hcond _ rfl) hL
theorem twr_said:Rows.ThinRefusesUptoSaid:=
 OpenClaim.holds_of_cond 5 f5 rfl rfl rfl rfl rfl rfl rfl ⟨rfl,rfl,rfl,rfl,rfl⟩ rfl rfl rfl rfl rfl (by kernel_rfl) func5 (by kernel_rfl)
  (of_decide_eq_true (by kernel_rfl)) (by unfold Func.isWrapper;first|(rw[if_pos (by decide+kernel)];kernel_rfl)|(rw[if_neg (by decide+kernel)];exact ⟨rfl,rfl⟩))
  (fun os started H enc _ F=>by rw[OpenClaim.pre_eq_preRow];exact PH os started H enc F)
theorem RG (f:FuncId) (fn:Func) (hf:Tryz.pinned.checked.prog.funcNamed "polder/polderlaw14.ThinRefuses"=some f) (hfn:Tryz.pinned.checked.prog.funcs[f]? =some fn):
  false=Tryz.pinned.checked.prog.looks []∧∀ (j:Nat) t,fn.params[j]? =some t→Tryz.pinned.checked.prog.wantsStandIn t=false:=by
 obtain rfl:f=5:=Option.some.inj ((show prog.funcNamed "polder/polderlaw14.ThinRefuses"=some 5 by kernel_rfl).symm.trans hf) |>.symm
 obtain rfl:fn=f5:=(Option.some.inj (func5.symm.trans hfn)).symm
 refine ⟨by kernel_rfl,fun j t ht=> ?_⟩
 rw[params5] at ht
 have hm:=Array.mem_of_getElem? ht
 simp at hm
 rcases hm with rfl|rfl|rfl<;>first|exact (show prog.wantsStandIn 28=false by kernel_rfl)|exact (show prog.wantsStandIn 3=false by kernel_rfl)|exact (show prog.wantsStandIn 43=false by kernel_rfl)
theorem thinRefuses_holds:Rows.ThinRefusesUptoCardSaid:=
 Claim7.holds_tied_plain_at .later [] _ _ _ _ twr_said (fun _ h=>by cases h) (by kernel_rfl) (fun _ h=>by cases h) thinRefusesUpto_row_tie rfl ⟨rfl,rfl⟩ (by kernel_rfl) rfl RG (by kernel_rfl)
end Go.Proofs.YtjegbnfpodadcaaGreatDoor
