/-
  Volumes that share a root read on as they did. No condition.
-/
import Derived.Test.YtjegbnfpodadcaaGreatDoorPart5
import Derived.Test.YtjegbnfpodadcaaGreatDoorCards
import Derived.Test.YtjegbnfpodadcaaGreatDoorTie
import Derived.WalkKit
import Derived.WalkSpells
import Derived.Deep.Quiet
import Derived.KernelRfl
import Derived.IntWalk
import Derived.Maps.AppendAt
import Derived.Laws.AppendOwnNone
import Derived.Laws.CopyRow
import Derived.StillTail
import Derived.Deep.RegionHeld
import Derived.Laws.IdiomStrings
import Derived.Laws.BytesArg
import Derived.Laws.OwnMore
import Derived.Lib.Strings
import Derived.ArgAppend
import Derived.Test.YtjegbnfpodadcaaGreatDoorRows
import Derived.RangeFuncLeaves
import Derived.RangeFuncRecord
import Derived.RangeFuncCalls
import Derived.RangeFuncSeq
import Derived.OrdersIn
import Derived.TacticsIn
import Derived.Laws.IdiomRangeMap
import Derived.Defers
import Derived.Laws.LoneSync
import Derived.LoopN
import Derived.Lib.TrailingZeros
import Derived.Test.YtjegbnfpodadcaaGreatDoorProg
import Derived.Shelf.Sort.Plain
import Derived.Shelf.Slices.In.SortNone
import Derived.DataReads
import Derived.ProofKit
import Derived.OpenShut
import Derived.Lib.SmallJoins
import Derived.Deep.DeepHandedRow
import Derived.Lib.LaidTab
set_option maxRecDepth 100000
set_option linter.unusedSimpArgs false
set_option linter.unusedVariables false
open Go.Proofs.Tryz
namespace Go.Proofs.YtjegbnfpodadcaaGreatDoor
section
open Go.RowKit
variable {Tb:Ae}
theorem HS (pp mb n:Nat) (o:TB) (id st sz q r mp kk:Int) (dv:Value) (hv:Cm id st sz q r mp) (hb:0≤kk∧kk<sz):Cn prog 16 [Pt_ pp,.agg #[Iv_ id,Iv_ st,Iv_ sz,Iv_ q,Iv_ r,Iv_ mp],Iv_ kk,dv] [trA Tb pp mb n o none] (fun v Γ=>v= .tuple #[.agg #[Iv_ 0,Iv_ 0,Iv_ 0,Iv_ 0,Iv_ 0,Iv_ 0],Iv_ 18]∧Γ=[trA Tb pp mb n o none]):=by
 intro z R w H
 obtain ⟨M0,u,⟨_,_,hu,_⟩,H,back⟩:=H.trP
 obtain rfl:u=none:=by cases u with|none=>rfl|some=>cases hu
 refine Ret.mono (Cn.at (RK pp mb n M0 o.C id st sz q r mp kk dv) H 1 [0] rfl rfl) ?_
 rintro v w' ⟨Γ',⟨rfl,rfl⟩,H'⟩
 have e:BR id st sz q r mp kk=0:=by unfold BR;rw[if_pos hv,if_pos (by omega)]
 exact ⟨_,⟨by rw[e];rfl,rfl⟩,back _ _ H'⟩
theorem Zt:cnt (AT 64 (IK 64).C) 0 1024=62:=by decide+kernel
set_option maxHeartbeats 2000000 in
theorem Jd (Tb:Ae) (hT:Hc Tb):Cn prog 11 [] [Tb] (fun v Γ=>v= .bool true∧Γ=[Tb]):=by
 intro z R w H;replace H:=H.l1;refine Ad func11 rfl ntmps11 rfl (Zc 7 rfl (Ax rfl (call7 _) (ND 64 (by omega) Tb hT) H ?_));rintro _ w _ ⟨pp,rfl,rfl⟩ H;refine Zc 16 rfl (Ac rfl (AI rfl rfl (out:=[Iv_ 1,Iv_ 1,Iv_ 9,Iv_ 9,Iv_ 0,Iv_ 0]) (by kernel_rfl)) (Zc 1 rfl (Ac rfl (AI rfl rfl (out:=[Pt_ pp,Iv_ 1,Iv_ 1,Iv_ 9,Iv_ 9,Iv_ 0,Iv_ 0,Iv_ 1,Iv_ 9,Iv_ 9,.slice none 0 0]) (by kernel_rfl)) (Za 0 [] H rfl ?_))));intro b1 w H;refine Zc 4 rfl ?_;replace H:=(H.nilg 123 2).l3
 refine Zc 3 rfl (Ax rfl (call9 _) (JY _ _ 6 64 (IK 64) 0 ([]) [] (grow 123 2 (.slice none 0 0) 0 []) (.slice none 0 0) 1 9 9 1 3 7 0 false (UK (by omega)) (fun h q=>q.rd) (by unfold Cm;rw[List.length_nil];omega) (by omega) (by omega) (by omega) (by omega)) H.f2.f1.f2 ?_);rintro _ w _ ⟨a1,L1,o1,m1,u1,A1,⟨hD1,hd1⟩,rfl,rfl⟩ H;replace H:=H.l3;obtain ⟨val,hL1⟩:=hd1 rfl (by rw[Zt];decide) (by omega) rfl (.inr (by show ((0:Nat):Int)<9;omega));have hl1:L1.length=1:=by rw[hL1];rfl
 have ha1:a1≠0:=fun e=>by have:=hD1.I.root;rw[e] at this;rcases this with ⟨_,q⟩|⟨q,_⟩;(rw[q] at hl1;cases hl1);exact q rfl
 have K1:=H.says 2 rfl (fun h a=>trA.k a)
 have hv1:Cm 1 1 9 9 (a1:Int) (L1.length:Int):=by have h:=K1.i.rin a1 (by simp[Cc,hD1.I.r,Cs ha1]);unfold Cm;omega
 refine Zc 6 rfl (z_E_ rfl (call10 _) (Ff _ _ _ _ o1 _ L1 A1 u1 _ _ _ _ hD1.I.root hD1.A hv1) H ?_);intro w H;refine Zc 4 rfl (AK (Sep z (blk b1 [Pt_ pp,Iv_ 1,Iv_ 1,Iv_ 9,Iv_ 9,Iv_ (a1:Int),Iv_ (L1.length:Int),Iv_ 1,Iv_ 9,Iv_ 9,u1] 33::R)) 14 rfl (by kernel_rfl) (Bc H fun w H'=> ?_))
 have H:=H'.l3;refine AN [0,1,2,3,4,5] [1,0,6] [] (by exact (H.pick 3 [0] rfl)) rfl (by kernel_rfl) rfl (Aw [6,11] (by kernel_rfl) (by simp) (HA ?_ ?_))
 ·refine BK rfl rfl rfl rfl rfl rfl (fun w=>call19 _ w) (Iy _ _ _ _ (by omega) (by omega)) H rfl ?_;rintro _ w _ ⟨db,bs,hbs,rfl,rfl⟩ H;replace H:=H.l4;refine Ao (H.pick 4 [1] rfl) (Aw [7,11] (by kernel_rfl) (by simp) (HA ?_ ?_))
  ·refine BK rfl rfl rfl rfl rfl rfl (fun w=>call16 _ w) (HS _ _ _ _ _ _ _ _ _ _ _ _ hv1 (by omega)) H.f3 rfl ?_;rintro _ w _ ⟨rfl,rfl⟩ H;replace H:=H.l4;refine Ao (H.pick 4 [2] rfl) (AN [8,9,10] [] [] (by exact (H.pick 4 [2] rfl)) rfl (by kernel_rfl) rfl (Aw [11] (by kernel_rfl) (by simp) (Au (Cd rfl rfl rfl rfl (BN (P:=prog) H rfl (zs:=[Iv_ 0,Iv_ 0,Iv_ 0,Iv_ 0,Iv_ 0,Iv_ 0]) (by kernel_rfl)) ?_))));rintro _ w ⟨b2,rfl,H⟩;replace H:=H.l5;refine Ao (H.pick 5 [3] rfl) (Aw [12] (by kernel_rfl) (by simp) (Au (A9 rfl rfl rfl (Ag 0 H rfl rfl rfl rfl (vs:=[Iv_ 0,Iv_ 0,Iv_ 0,Iv_ 0,Iv_ 0,Iv_ 0]) rfl (by simp[u8,u32,Value.oneCell']) (by kernel_rfl) (by simp) (out:=[Iv_ 0,Iv_ 0,Iv_ 0,Iv_ 0,Iv_ 0,Iv_ 0]) rfl) ?_)));rintro w H;replace H:=H.l5;refine Ao (H.pick 5 [3] rfl) (AN [13] [] [] (by exact (H.pick 5 [3] rfl)) rfl (by kernel_rfl) rfl (a_done (by kernel_rfl) (gn (Z2 16 [1,6,3,0,0] H rfl (Ak 43 rfl (fun h1=> ?_) (fun h1=> ?_))))))
   ·refine Z2 8 [1,5,3,0,0] H rfl (Ak 51 rfl (fun h2=> ?_) (fun h2=> ?_))
    ·refine Z0 7 [3] rfl (Zr rfl ?_);exact ⟨_,⟨rfl,rfl⟩,((H.pick 5 [1] rfl).trTab).2⟩
    ·(exfalso;omega)
   ·(exfalso;omega)
  ·refine Cd rfl rfl rfl rfl (BN (P:=prog) H rfl (zs:=[Iv_ 0,Iv_ 0,Iv_ 0,Iv_ 0,Iv_ 0,Iv_ 0]) (by kernel_rfl)) ?_;rintro _ w ⟨b3,rfl,H⟩;replace H:=H.l5;refine Ao (H.pick 5 [2] rfl) (Aw [7] (by kernel_rfl) (by simp) (Au (BK rfl rfl rfl rfl rfl rfl (fun w=>call16 _ w) (HS _ _ _ _ _ _ _ _ _ _ _ _ hv1 (by omega)) H.f4 rfl ?_)));rintro _ w _ ⟨rfl,rfl⟩ H;replace H:=H.l5;refine Ao (H.pick 5 [3] rfl) (AN [8,9,10] [] [] (by exact (H.pick 5 [3] rfl)) rfl (by kernel_rfl) rfl (Aw [12] (by kernel_rfl) (by simp) (Au (A9 rfl rfl rfl (Ag 1 H rfl rfl rfl rfl (vs:=[Iv_ 0,Iv_ 0,Iv_ 0,Iv_ 0,Iv_ 0,Iv_ 0]) rfl (by simp[u8,u32,Value.oneCell']) (by kernel_rfl) (by simp) (out:=[Iv_ 0,Iv_ 0,Iv_ 0,Iv_ 0,Iv_ 0,Iv_ 0]) rfl) ?_))));rintro w H;replace H:=H.l5;refine Ao (H.pick 5 [3] rfl) (AN [13] [] [] (by exact (H.pick 5 [3] rfl)) rfl (by kernel_rfl) rfl (a_done (by kernel_rfl) (gn (Z2 16 [1,6,3,0,0] H rfl (Ak 43 rfl (fun h3=> ?_) (fun h3=> ?_))))))
   ·refine Z2 8 [1,5,3,0,0] H rfl (Ak 51 rfl (fun h4=> ?_) (fun h4=> ?_))
    ·refine Z0 7 [3] rfl (Zr rfl ?_);exact ⟨_,⟨rfl,rfl⟩,((H.pick 5 [0] rfl).trTab).2⟩
    ·(exfalso;omega)
   ·(exfalso;omega)
 ·refine Cd rfl rfl rfl rfl (BN (P:=prog) H rfl (zs:=[Iv_ 0,Iv_ 0,Iv_ 0,Iv_ 0,Iv_ 0,Iv_ 0]) (by kernel_rfl)) ?_;rintro _ w ⟨b4,rfl,H⟩;replace H:=H.l4;refine Ao (H.pick 4 [1] rfl) (Aw [6] (by kernel_rfl) (by simp) (Au (BK rfl rfl rfl rfl rfl rfl (fun w=>call19 _ w) (Iy _ _ _ _ (by omega) (by omega)) H rfl ?_)));rintro _ w _ ⟨db,bs,hbs,rfl,rfl⟩ H;replace H:=H.l5;refine Ao (H.pick 5 [2] rfl) (Aw [7] (by kernel_rfl) (by simp) (Au (BK rfl rfl rfl rfl rfl rfl (fun w=>call16 _ w) (HS _ _ _ _ _ _ _ _ _ _ _ _ hv1 (by omega)) H.f4 rfl ?_)));rintro _ w _ ⟨rfl,rfl⟩ H;replace H:=H.l5;refine Ao (H.pick 5 [3] rfl) (AN [8,9,10] [] [] (by exact (H.pick 5 [3] rfl)) rfl (by kernel_rfl) rfl (Aw [12] (by kernel_rfl) (by simp) (Au (A9 rfl rfl rfl (Ag 2 H rfl rfl rfl rfl (vs:=[Iv_ 0,Iv_ 0,Iv_ 0,Iv_ 0,Iv_ 0,Iv_ 0]) rfl (by simp[u8,u32,Value.oneCell']) (by kernel_rfl) (by simp) (out:=[Iv_ 0,Iv_ 0,Iv_ 0,Iv_ 0,Iv_ 0,Iv_ 0]) rfl) ?_))));rintro w H;replace H:=H.l5;refine Ao (H.pick 5 [3] rfl) (AN [13] [] [] (by exact (H.pick 5 [3] rfl)) rfl (by kernel_rfl) rfl (a_done (by kernel_rfl) (gn (Z2 16 [1,6,3,0,0] H rfl (Ak 43 rfl (fun h5=> ?_) (fun h5=> ?_))))))
  ·refine Z2 8 [1,5,3,0,0] H rfl (Ak 51 rfl (fun h6=> ?_) (fun h6=> ?_))
   ·refine Z0 7 [3] rfl (Zr rfl ?_);exact ⟨_,⟨rfl,rfl⟩,((H.pick 5 [0] rfl).trTab).2⟩
   ·(exfalso;omega)
  ·(exfalso;omega)
end
section
open Go.RowKit
variable {Tb:Ae}
structure OwE where
 k:Int
 d:Bool
 f:Int
 l:Int
def OwE.cells (e:OwE):List Value:=[.int .i64 e.k,.bool e.d,.int .i64 e.f,.int .i64 e.l]
def GV (es:List OwE):List Value:=es.flatMap OwE.cells
theorem W0 (es:List OwE):(GV es).length=es.length * 4:=by
 induction es with
 | nil=>rfl
 | cons e es ih=>simp only[GV,List.flatMap_cons,List.length_append] at ih ⊢;rw[ih];simp[OwE.cells];omega
theorem Fg:∀ {es:List OwE} {j:Nat} {e:OwE},es[j]? =some e→∀ k u,(OwE.cells e)[k]? =some u→(GV es)[j * 4+k]? =some u
 | x::es,0,e,h,k,u,hk=>by
  simp at h;subst h
  have hl:=(List.getElem?_eq_some_iff.1 hk).1
  simp only[GV,List.flatMap_cons]
  rw[List.getElem?_append_left (by omega)];simpa using hk
 | x::es,j+1,e,h,k,u,hk=>by
  have:=Fg (es:=es) (j:=j) (by simpa using h) k u hk
  simp only[GV,List.flatMap_cons] at this ⊢
  rw[List.getElem?_append_right (by simp[OwE.cells];omega)]
  rw[show (j+1) * 4+k - (OwE.cells x).length=j * 4+k from by simp[OwE.cells];omega]
  exact this
def YP (v:Value) (es:List OwE) (A:Ae):Prop:=∀ h,A h→rdH 4 v es.length (GV es) h∧∀ e∈es,(-9223372036854775808≤e.k∧e.k≤9223372036854775807)∧(-9223372036854775808≤e.f∧e.f≤9223372036854775807)∧ -9223372036854775808≤e.l∧e.l≤9223372036854775807
theorem LwI.vok {n:Nat} {o:TB} {ra:Nat} {L:List E} {Q:List Nat} (hI:LwI n o ra L Q) (K:TrK n o none) {id sz q:Int} (h:(1≤id∧id≤1000)∧(1≤sz∧sz≤1000)∧0≤q∧q≤1000):Cm id 1 sz q (ra:Int) (L.length:Int):=by
 have h1:=hI.n
 have h2:=KE K.i (by omega) (show ∀ e∈L,∃ b,CW o none e.2=some (.dt b) from hI.root.data) hI.nd
 have h3:ra<n:=by
  by_cases e:ra=0
  ·have:=K.hn;omega
  ·exact (K.i.rin ra (by simp[Cc,hI.r,Cs e])).2
 unfold Cm;omega
end
section
open Go.ChangeShapes Go.WideShapes Go.ChangeAt Go.RowKit Go.Joins
theorem own:ownKnob prog.godebug=none:=by kernel_rfl
theorem KI:laidOutB prog=true:=by kernel_rfl
theorem Gr:prog.cellsOf 3=1:=by kernel_rfl
def LH:DataW Unit→List Value
 | .lit (.int k n)=>[.int k n]
 | .agg parts=>flatWs parts
 | _=>[]
where flatWs:List (DataW Unit)→List Value
 | []=>[]
 | d::ds=>LH d++flatWs ds
def Ua:Obj→Obj
 | .cells c t frozen=> .cells (if c.size=32 then (LH Rows.laid_unicode_utf8_acceptRanges).toArray else if c.size=64 then (LH Rows.laid_math_bits_deBruijn64tab).toArray else (LH Rows.laid_unicode_utf8_first).toArray) t frozen
 | o=>o
noncomputable def HT (os:Os):World:=
 { World.holding prog os ⟨#[],#[],[]⟩ with heap:=(((World.holding prog os ⟨#[],#[],[]⟩).heap.modify 0 Ua).modify 1 Ua).modify 2 Ua }
theorem IL {α:Type} (P:Nat→α→Prop):∀ n,(∀ i,i<n→∃ a,P i a)→∃ l:List α,l.length=n∧∀ i a,l[i]? =some a→P i a
 | 0,_=>⟨[],rfl,fun i a h=>by simp at h⟩
 | n+1,h=>by
  obtain ⟨l,hl,hp⟩:=IL P n (fun i hi=>h i (by omega))
  obtain ⟨a,ha⟩:=h n (by omega)
  refine ⟨l++[a],by simp[hl],fun i b hb=> ?_⟩
  rcases Nat.lt_or_ge i n with q|q
  ·rw[List.getElem?_append_left (by omega)] at hb;exact hp i b hb
  ·rw[List.getElem?_append_right (by omega)] at hb
   obtain rfl:i=n:=by have:=(List.getElem?_eq_some_iff.1 hb).1;simp at this;omega
   simp[hl] at hb;subst hb;exact ha
abbrev Fl (x:Int):Prop:= -9223372036854775808≤x∧x≤9223372036854775807
theorem PT {n:Int} (h:(Lit.int .i64 n).wf=true):Fl n:=by
 simp only[Lit.wf,Bool.and_eq_true,decide_eq_true_eq] at h
 have h1:IntKind.i64.min= -9223372036854775808:=by decide
 have h2:IntKind.i64.max=9223372036854775807:=by decide
 rw[h1,h2] at h
 exact h
theorem Ub {H:Type} (d:DataW H):1≤Rows.uptoBulk d:=by
 cases d with
 | lit l=>cases l<;>simp[Rows.uptoBulk]
 | nil=>simp[Rows.uptoBulk]
 | ptr d=>simp[Rows.uptoBulk]
 | slice elems spare=>simp[Rows.uptoBulk]
 | agg parts=>simp[Rows.uptoBulk]
 | iface t d=>simp[Rows.uptoBulk]
 | map entries=>simp[Rows.uptoBulk]
 | held h=>simp[Rows.uptoBulk]
theorem Uc {H:Type} (l:List (DataW H)):l.length≤Rows.uptoBulkAll l:=by
 induction l with
 | nil=>simp
 | cons x r ih=>have:=Ub x;simp only[Rows.uptoBulkAll,List.length_cons];omega
theorem NF:prog.cellsOf 36=4:=by kernel_rfl
theorem W3 {H:Type} {enc:TypeId×Value→H} {W:World} {fuel:Nat} {cs:List Value} {d:DataW H} {p:List MemPlace} (h:DataW.trod enc prog W 0 (fun _=>true) true fuel 36 cs=some (d,p)):
  ∃ e:OwE,cs=OwE.cells e∧(Fl e.k∧Fl e.f∧Fl e.l):=by
 obtain ⟨xs,n,rfl,hx,hl,hxl,hf⟩:=DataW.trod_struct underlying36 h
 rw[NF] at hl
 match cs,hl with
 | [c0,c1,c2,c3],_=>
  have f0:=hf 0 _ rfl
  have f1:=hf 1 _ rfl
  have f2:=hf 2 _ rfl
  have f3:=hf 3 _ rfl
  match xs,hxl with
  | [y0,y1,y2,y3],_=>
   have kb:prog.cellsOf 4=1:=by kernel_rfl
   try dsimp only at f0
   try simp only[Gr,kb,List.drop_zero,List.drop_succ_cons,List.take_succ_cons,List.take_zero,List.getElem?_cons_zero,List.getElem?_cons_succ] at f0
   try dsimp only at f1
   try simp only[Gr,kb,List.drop_zero,List.drop_succ_cons,List.take_succ_cons,List.take_zero,List.getElem?_cons_zero,List.getElem?_cons_succ] at f1
   try dsimp only at f2
   try simp only[Gr,kb,List.drop_zero,List.drop_succ_cons,List.take_succ_cons,List.take_zero,List.getElem?_cons_zero,List.getElem?_cons_succ] at f2
   try dsimp only at f3
   try simp only[Gr,kb,List.drop_zero,List.drop_succ_cons,List.take_succ_cons,List.take_zero,List.getElem?_cons_zero,List.getElem?_cons_succ] at f3
   obtain ⟨z0,e0,_,w0⟩:=DataW.trod_int underlying3 f0
   obtain ⟨z1,e1,_⟩:=DataW.trod_bool underlying4 f1
   obtain ⟨z2,e2,_,w2⟩:=DataW.trod_int underlying3 f2
   obtain ⟨z3,e3,_,w3⟩:=DataW.trod_int underlying3 f3
   have g3:=congrArg (fun l=>l.headD .nilFunc) e3
   try simp at g3
   subst g3
   have g0:=congrArg (fun l=>l.headD .nilFunc) e0
   try simp at g0
   subst g0
   have g1:=congrArg (fun l=>l.headD .nilFunc) e1
   try simp at g1
   subst g1
   have g2:=congrArg (fun l=>l.headD .nilFunc) e2
   try simp at g2
   subst g2
   exact ⟨⟨z0,z1,z2,z3⟩,rfl,PT w0,PT w2,PT w3⟩
theorem O5:∀ (es:List OwE) (k:Nat) (u:Value),(GV es)[k]? =some u→∃ e,es[k / 4]? =some e∧(OwE.cells e)[k % 4]? =some u
 | [],k,u,h=>by simp[GV] at h
 | x::es,k,u,h=>by
  have hl:(OwE.cells x).length=4:=rfl
  simp only[GV,List.flatMap_cons] at h
  rcases Nat.lt_or_ge k 4 with q|q
  ·rw[List.getElem?_append_left (by omega)] at h
   exact ⟨x,by rw[Nat.div_eq_of_lt q];rfl,by rw[Nat.mod_eq_of_lt q];exact h⟩
  ·rw[List.getElem?_append_right (by omega),hl] at h
   obtain ⟨e,h1,h2⟩:=O5 es (k - 4) u h
   refine ⟨e,?_,?_⟩
   ·rw[show k / 4=(k - 4) / 4+1 from by omega];simpa using h1
   ·rw[show k % 4=(k - 4) % 4 from by omega];exact h2
theorem Je {H:Type} {enc:TypeId×Value→H} {W:World} {fuel:Nat} {v:Value} {d:DataW H} {p:List MemPlace} (h:DataW.trod enc prog W 0 (fun _=>true) true fuel 22 [v]=some (d,p)):
  ∃ es:List OwE,Rd 4 v es.length (GV es) W∧(∀ e∈es,Fl e.k∧Fl e.f∧Fl e.l)∧es.length≤Rows.uptoBulk d:=by
 rcases DataW.trod_slice underlying22 h with ⟨hcs,_⟩|⟨a,len,cap,elems,rest,n,rfl,hcs,hx,_,hlc,hcm,hel,hg,_,_⟩
 ·simp only[List.cons.injEq,and_true] at hcs;subst hcs
  exact ⟨[],by simpa [GV] using Rd.nil 4 W,fun e he=>absurd he (by simp),by simp⟩
 ·simp only[List.cons.injEq,and_true] at hcs;subst hcs
  have hd:d= .slice (elems.map (·.1)) (rest.map (·.1)):=by have:=congrArg Prod.fst hx;simpa using this
  obtain ⟨es,hes,hP⟩:=IL (fun i (e:OwE)=>(∀ j,j<4→W.cell? ((a.add (i * 4)).add j)=(OwE.cells e)[j]?)∧(Fl e.k∧Fl e.f∧Fl e.l)) len (fun i hi=>by
   have hb:=hg i hi
   rw[NF] at hb
   obtain ⟨y,hy⟩:∃ y,elems[i]? =some y:=⟨_,List.getElem?_eq_getElem (by omega)⟩
   rw[hy,Option.bind_eq_some_iff] at hb
   obtain ⟨cs,hc,ht⟩:=hb
   obtain ⟨e,rfl,h1⟩:=W3 (d:=y.1) (p:=y.2) ht
   exact ⟨e,(World.cells?_some hc).2.2,h1⟩)
  refine ⟨es,⟨some a,cap,by rw[hes],by omega,(by unfold maxLen at hcm;omega),by rw[W0],fun k u hk=> ?_⟩,fun e he=> ?_,?_⟩
  ·obtain ⟨e,h1,h2⟩:=O5 _ k u hk
   have hc:=(hP _ e h1).1 (k % 4) (Nat.mod_lt _ (by omega))
   rw[h2] at hc
   obtain ⟨b,off,spot⟩:=a
   have hspot:spot=none:=by
    have hlt:=(List.getElem?_eq_some_iff.1 h1).1
    obtain ⟨e0,he0⟩:∃ e0,es[0]? =some e0:=⟨_,List.getElem?_eq_getElem (by omega)⟩
    have hc0:=(hP _ e0 he0).1 0 (by omega)
    have h0:W.cell? ⟨b,off,spot⟩=some (.int .i64 e0.k):=by simpa [Addr.add,OwE.cells] using hc0
    exact World.cell?_spot h0
   subst hspot
   refine ⟨b,off,rfl,?_⟩
   unfold E1
   have e2:((Addr.add ⟨b,off,none⟩ (k / 4 * 4)).add (k % 4))=⟨b,off+k,none⟩:=by
    rw[Go.WideShapes.add_plain,Go.WideShapes.add_plain]
    congr 1;omega
   rw[←e2];exact hc
  ·obtain ⟨i,hi⟩:=List.getElem?_of_mem he
   exact (hP i e hi).2
  ·rw[hes,hd]
   have:=Uc (elems.map (·.1))
   simp only[Rows.uptoBulk,List.length_map] at this ⊢;omega
/-! ### the library's Iz -/
theorem YQ:prog.globalNamed "math/bits.deBruijn64tab"=some 0:=by kernel_rfl
theorem Ud:(prog.globals[0]?).map (·.type)=some 252:=by kernel_rfl
theorem W4:prog.cellsOf 252=64:=by kernel_rfl
theorem W5:prog.cellsOf 5=1:=by kernel_rfl
def tzL:List Int:=Lib.deBruijn64tab.map Int.ofNat
theorem Iz {W:World} (h:laidMetH prog Rows.thinPlaysUptoRow.laid W):Lib.TabIs prog W "math/bits.deBruijn64tab" .u8 tzL:=
 Lib.tabIs_of_head (rest:=[("unicode/utf8.acceptRanges",Rows.laid_unicode_utf8_acceptRanges),("unicode/utf8.first",Rows.laid_unicode_utf8_first)]) YQ Ud underlying252 underlying5 W5 W4 h
theorem KJ {W:World} (h:Lib.TabIs prog W "math/bits.deBruijn64tab" .u8 tzL):∃ t fr,W.heap[0]? =some (.cells (tzL.map fun z=>Value.int .u8 z).toArray t fr):=by
 unfold Lib.TabIs World.var? at h
 rw[YQ] at h
 simp only[Option.bind_some] at h
 cases e:W.heap[0]? with
 | none=>rw[e] at h;cases h
 | some o=>
  rw[e] at h
  cases o<;>simp at h
  subst h;exact ⟨_,_,rfl⟩
def IA (W:World):Ae:=fun h=>∀ k,k<W.heap.size→k≠0→h k=W.heap[k]?
def NG (W:World):Ae:=fun h=>h 0=W.heap[0]?
theorem YR:(List.range 64).all (fun j=>tzL[j]? == some ((QE j).toNat:Int))=true:=by decide+kernel
theorem Zu {W:World} (ht:Lib.TabIs prog W "math/bits.deBruijn64tab" .u8 tzL):Hc (NG W):=fun h hh j hj=>by
 obtain ⟨t,fr,e⟩:=KJ ht
 have:=List.all_eq_true.1 YR j (List.mem_range.2 hj)
 have h2:tzL[j]? =some ((QE j).toNat:Int):=by simpa using this
 exact ⟨_,t,fr,(show h 0=_ from hh).trans e,by simp[h2,u8]⟩
theorem W6 {W:World} (ht:Lib.TabIs prog W "math/bits.deBruijn64tab" .u8 tzL):0<W.heap.size:=by
 obtain ⟨t,fr,e⟩:=KJ ht
 rcases Nat.eq_zero_or_pos W.heap.size with q|q
 ·rw[Array.getElem?_eq_none (by omega)] at e;cases e
 ·exact q
theorem RL {W:World} (ht:Lib.TabIs prog W "math/bits.deBruijn64tab" .u8 tzL) {b o:Nat} {v:Value} (hc:E1 b o v W) (hv:∀ x,v≠ .int .u8 x):∀ h,IA W h→celH h b o v:=fun h hb=>by
 have hne:b≠0:=fun e=>by
  subst e
  obtain ⟨t,fr,e⟩:=KJ ht
  unfold E1 World.cell? at hc
  rw[e] at hc
  simp at hc
  obtain ⟨z,_,hz⟩:=hc
  exact hv _ hz.symm
 unfold E1 World.cell? at hc
 cases hh:W.heap[b]? with
 | none=>rw[hh] at hc;simp at hc
 | some o'=>
  rw[hh] at hc
  cases o' with
  | cells cs ty fr=>
   simp at hc
   have hlt:b<W.heap.size:=by
    rcases Nat.lt_or_ge b W.heap.size with q|q
    ·exact q
    ·rw[Array.getElem?_eq_none q] at hh;cases hh
   exact ⟨cs,ty,fr,(hb b hlt hne).trans hh,hc⟩
  | _=>simp at hc
theorem Jf {sz:Nat} {v:Value} {n:Nat} {xs:List Value} {W:World} (ht:Lib.TabIs prog W "math/bits.deBruijn64tab" .u8 tzL) (r:Rd sz v n xs W) (hx:∀ u∈xs,∀ x,u≠ .int .u8 x):∀ h,IA W h→rdH sz v n xs h:=fun h hb=>by
 obtain ⟨ao,c,e,h1,h2,h3,h4⟩:=r
 exact ⟨ao,c,e,h1,h2,h3,fun j u hj=>by
  obtain ⟨b,p,e',hc⟩:=h4 j u hj
  exact ⟨b,p,e',RL ht hc (hx u (List.mem_of_getElem? hj)) h hb⟩⟩
theorem PU (es:List OwE):∀ u∈GV es,∀ x,u≠ .int .u8 x:=fun u hu x=>by
 simp only[GV,List.mem_flatMap] at hu
 obtain ⟨e,_,he⟩:=hu
 simp[OwE.cells] at he
 rcases he with rfl|rfl|rfl|rfl<;>simp
theorem O6 {h:Hp} {own:Nat→Nat} {i k:Nat} {o:Obj} (e:h.part own i k=some o):h k=some o:=by
 unfold Hp.part at e
 split at e
 ·exact e
 ·cases e
theorem Cn.run2 {P:Program} {f:FuncId} {args:List Value} {W:World} {u:Value} (h0:0<W.heap.size) (h:Cn P f args [IA W,NG W] (fun v Γ=>v=u∧Γ=[IA W,NG W])):Calls P f args.toArray W (Ret fun v W'=>v=u∧Ext No W W'):=by
 have hS:Sep W [IA W,NG W] W:=⟨rfl,rfl,rfl,fun q=>if q=0 then 1 else 0,fun i A hA=>by
  match i,hA with
  | 0,hA=>cases hA;intro k hk hne;simp[Hp.part,hp,hne]
  | 1,hA=>cases hA;show Hp.part _ _ _ 0=_;simp[Hp.part,hp]⟩
 refine Ret.mono (h W [] W hS) ?_
 rintro v W' ⟨Γ,⟨rfl,rfl⟩,H⟩
 obtain ⟨own,hown⟩:=H.own
 have hb:=hown 0 _ rfl
 have ht:=hown 1 _ rfl
 have hall:∀ k,k<W.heap.size→hp W' k=W.heap[k]? :=fun k hk=>by
  obtain ⟨o,ho⟩:∃ o,W.heap[k]? =some o:=⟨_,Array.getElem?_eq_getElem hk⟩
  rw[ho]
  by_cases q:k=0
  ·subst q;exact O6 ((show _=_ from ht).trans ho)
  ·exact O6 ((hb k hk q).trans ho)
 have H2:Sep W [base W] W':=⟨H.os,H.tape,H.output,fun k=>if k<W.heap.size then 0 else 1,fun i A hA=>by
  match i,hA with
  | 0,hA=>cases hA;intro k hk;unfold Hp.part;rw[if_pos (by simp[hk])];exact hall k hk⟩
 exact ⟨rfl,Sep.done 0 H2 rfl⟩
section
variable {H:Type} {enc:TypeId×Value→H} {P:Program} {w:World} {base:Nat} {spare:Nat→Bool} {held:Bool}
end
section
variable {H:Type} {enc:TypeId×Value→H} {P:Program} {w:World} {base:Nat} {spare:Nat→Bool} {held:Bool}
end
section
variable {H:Type} {enc:TypeId×Value→H} {P:Program} {w:World} {base:Nat} {spare:Nat→Bool} {held:Bool}
theorem Zv {t0 t1 t2:TypeId} {args:Array Value} {ds:List (DataW H)} {ps:List MemPlace} (h:DataW.TrodAll enc P w base spare held [t0,t1,t2] args.toList ds ps):
  ∃ v0 v1 v2 d0 d1 d2 p0 p1 p2,args= #[v0,v1,v2]∧ds=[d0,d1,d2]∧ps=p0++(p1++p2)∧DataW.Trod enc P w base spare held t0 v0 d0 p0∧DataW.Trod enc P w base spare held t1 v1 d1 p1∧DataW.Trod enc P w base spare held t2 v2 d2 p2:=by
 obtain ⟨v0,vs0,d0,ds0,p0,q0,hargs,rfl,rfl,hd0,hr0⟩:=trodAll_cons h
 obtain ⟨v1,vs1,d1,ds1,p1,q1,rfl,rfl,rfl,hd1,hr1⟩:=trodAll_cons hr0
 obtain ⟨v2,vs2,d2,ds2,p2,q2,rfl,rfl,rfl,hd2,hr2⟩:=trodAll_cons hr1
 obtain ⟨rfl,rfl,rfl⟩:=trodAll_nil hr2
 exact ⟨v0,v1,v2,d0,d1,d2,p0,p1,p2,by cases args;simp_all,rfl,by simp,hd0,hd1,hd2⟩
theorem W7 {t0 t1 t2:TypeId} {v0 v1 v2:Value} {d0 d1 d2:DataW H} {p0 p1 p2:List MemPlace} (h0:DataW.Trod enc P w base spare held t0 v0 d0 p0) (h1:DataW.Trod enc P w base spare held t1 v1 d1 p1) (h2:DataW.Trod enc P w base spare held t2 v2 d2 p2):DataW.TrodAll enc P w base spare held [t0,t1,t2] [v0,v1,v2] [d0,d1,d2] (p0++(p1++p2)):=
 ⟨p0,_,h0,⟨p1,_,h1,(trodAll_mk1 h2),rfl⟩,rfl⟩
end
end
section
open Go.RowKit
variable {Tb:Ae}
def TB.as (o:TB) (R:List Nat):TB:=⟨o.N,o.C,R⟩
theorem Sep.trSwap {Tb:Ae} {z w:World} {Γ:List Ae} {pp mb n:Nat} {o:TB} {R:List Nat} (H:Sep z (trA Tb pp mb n o none::Γ) w) (h:o.R.Perm R):Sep z (trA Tb pp mb n (o.as R) none::Γ) w:=by
 obtain ⟨M0,hr,H⟩:=H.tr0
 exact Sep.toTr0 (o:=o.as R) H ⟨hr.m,hr.i.perm h⟩
theorem Kp.root3 {N N':Hm} {b:Nat} {M:List E} (h:Kp N N' (AA b)) (r:Root N b M):Root N' b M:=by
 by_cases e:b=0
 ·subst e;rcases r with ⟨_,q⟩|⟨q,_⟩;exact .inl ⟨rfl,q⟩;exact absurd rfl q
 ·exact h b (by rw[Cs e];simp) M r
structure Tws (o:TB) (a:Nat) (L:List E) (b:Nat) (M:List E) (Vw:Ae) (u x:Value):Prop where
 ra:Root o.N a L
 na:(vals L).Nodup
 rb:Root o.N b M
 nb:(vals M).Nodup
 r:o.R.Perm (AA a++AA b)
 u:InB Vw u (Bi o.N L)
 x:InB Vw x (Bi o.N M)
theorem RM (a:Nat):(AA a).length≤100:=by unfold AA;split<;>simp
section
variable {o o2:TB} {a a2 b:Nat} {L L2 M:List E} {mb m2:Nat} {Vw A2:Ae} {u u2 x:Value}
theorem Tws.lw (h:Tws o a L b M Vw u x):LwI 500 (o.as (AA a++AA b)) a L (AA b):=⟨by omega,RM _,h.ra,h.na,rfl⟩
theorem Tws.swap (h:Tws o a L b M Vw u x):Tws o b M a L Vw x u:=⟨h.rb,h.nb,h.ra,h.na,h.r.trans List.perm_append_comm,h.x,h.u⟩
theorem DoF.two {R:List Nat} (hD:DoF 500 (o.as R) o2 a2 L2 (AA b) mb m2 Vw A2 u2) (h:Tws o a L b M Vw u x):Tws o2 a2 L2 b M A2 u2 x:=
 have hr:Root o2.N b M:=Kp.root3 (N:=o.N) hD.kp h.rb
 ⟨hD.I.root,hD.I.nd,hr,h.nb,by rw[hD.I.r],hD.A,by rw[Dt.vol (N:=o.N) hD.dt h.rb hr];exact hD.ik _ _ h.x⟩
theorem LwI.tws0 (h:LwI 500 o a L []) (h0:a=0) (hu:InB Vw u (Bi o.N L)):Tws o a L a L Vw u u:=⟨h.root,h.nd,h.root,h.nd,by rw[h.r,h0];simp[AA],hu,hu⟩
theorem LwI.tws1 (h:LwI 500 o a L []) (h0:a≠0) (C:Nat→Nat) (hu:InB Vw u (Bi o.N L)):Tws ⟨o.N,C,a::o.R⟩ a L a L Vw u u:=⟨h.root,h.nd,h.root,h.nd,by show (a::o.R).Perm _;rw[h.r,Cs h0];simp,hu,hu⟩
end
set_option maxHeartbeats 6000000 in
theorem NH (A Tb:Ae) (hT:Hc Tb) (v:Value) (es:List OwE) (hes:es.length≤1048576) (hA:YP v es A) (vx:Value) (esx:List OwE) (hesx:esx.length≤1048576) (hAx:YP vx esx A) (vy:Value) (esy:List OwE) (hesy:esy.length≤1048576) (hAy:YP vy esy A):Cn prog 4 [v,vx,vy] [A,Tb] (fun v Γ=>v= .bool true∧Γ=[A,Tb]):=by
 intro z R w H;replace H:=H.l2;obtain ⟨ao,oc,rfl⟩:=H.says 0 rfl (fun h q=>(hA h q).1.slc);obtain ⟨aox,ocx,rfl⟩:=H.says 0 rfl (fun h q=>(hAx h q).1.slc);obtain ⟨aoy,ocy,rfl⟩:=H.says 0 rfl (fun h q=>(hAy h q).1.slc);refine Ad func4 rfl ntmps4 rfl (Zc 7 rfl (Ax rfl (call7 _) (ND 500 (by omega) Tb hT) H.f1 ?_));rintro _ w _ ⟨pp,rfl,rfl⟩ H;refine Zc 16 rfl (Ac rfl (AI rfl rfl (out:=[Iv_ 1,Iv_ 1,Iv_ 60,Iv_ 60,Iv_ 0,Iv_ 0]) (by kernel_rfl)) (Zc 1 rfl (Ac rfl (AI rfl rfl (out:=[Pt_ pp,Iv_ 1,Iv_ 1,Iv_ 60,Iv_ 60,Iv_ 0,Iv_ 0,Iv_ 1,Iv_ 60,Iv_ 60,.slice none 0 0]) (by kernel_rfl)) (Za 0 [] H rfl ?_))));intro b1 w H;refine Zc 3 rfl ?_;replace H:=(H.nilg 123 2).l4
 refine G7 (fun a w=>∃ (ra:Nat) (L:List E) (o:TB) (mb:Nat) (u:Value) (Vw:Ae),Fr 139 [] [(0,.slice ao es.length oc),(1,.slice aox esx.length ocx),(2,.slice aoy esy.length ocy),(7,Pt_ pp),(8,Pt_ b1)] a∧Sep z (Vw::blk b1 [Pt_ pp,Iv_ 1,Iv_ 1,Iv_ 60,Iv_ 60,Iv_ (ra:Int),Iv_ (L.length:Int),Iv_ 1,Iv_ 60,Iv_ 60,u] 33::trA Tb pp mb 500 o none::A::R) w∧(LwI 500 o ra L []∧InB Vw u (Bi o.N L)∧mb≤200)) ?_ ?_
 ·refine Zc 6 rfl ?_;refine AM (σ:=Nat×Nat×List E×TB×Nat×Value×Ae) (fun ⟨i,ra,L,o,mb,u,Vw⟩=>[(9,Iv_ (i:Int)),(0,.slice ao es.length oc),(1,.slice aox esx.length ocx),(2,.slice aoy esy.length ocy),(7,Pt_ pp),(8,Pt_ b1)])
    (fun ⟨i,ra,L,o,mb,u,Vw⟩ w=>Sep z (Vw::blk b1 [Pt_ pp,Iv_ 1,Iv_ 1,Iv_ 60,Iv_ 60,Iv_ (ra:Int),Iv_ (L.length:Int),Iv_ 1,Iv_ 60,Iv_ 60,u] 33::trA Tb pp mb 500 o none::A::R) w∧(i≤60∧mb≤6+2 * i∧LwI 500 o ra L []∧InB Vw u (Bi o.N L))) (fun ⟨i,ra,L,o,mb,u,Vw⟩=>60 - i) ⟨0,0,[],IK 500,6,.slice none 0 0,grow 123 2 (.slice none 0 0) 0 []⟩
    (fun _ hF=>(hF.co rfl (by go_num) (hF.all rfl))) ⟨H,⟨Nat.zero_le _,by omega,UK (by omega),fun h q=>q.rd⟩⟩ ?_
  clear H;rintro ⟨i,ra,L,o,mb,u,Vw⟩ w ⟨H',hI⟩;dsimp only at hI H' ⊢
  have H:=H'.l4;obtain ⟨hil,hmb,hW,hX⟩:=hI;refine Z0 8 [0] rfl (Ak 29 rfl (fun h1=> ?_) (fun h1=> ?_))
  ·refine Z0 5 [0] rfl (Af rfl (fun h2=> ?_) (fun h2=> ?_))
   ·refine Zc 5 rfl ?_;obtain ⟨e,he⟩:∃ e,es[i]? =some e:=⟨_,List.getElem?_eq_getElem (by omega)⟩;have hek:=H.says 3 rfl (fun h q=>(hA h q).2 e (List.mem_of_getElem? he))
    have hat:=(H.rd 3 rfl (fun h q=>(hA h q).1)).at (Fg he 0 _ rfl)
    have K9:=H.says 2 rfl (fun h a=>trA.k a)
    refine Zc 4 rfl (Ac rfl (Az rfl (z:=4) (j:=i) (r:=i * 4) (by kernel_rfl) rfl rfl rfl (by omega) hat (by omega)) (Ac rfl (CO rfl rfl (vs:=[Iv_ e.k,.bool e.d,Iv_ e.f,Iv_ e.l]) (by kernel_rfl) (by simp) (AB (fun k u hk=>(H.rd 3 rfl (fun h q=>(hA h q).1)).at (Fg he k u hk)))) (Ax rfl (call9 _) (JY _ _ mb 500 o ra L [] Vw u 1 60 60 1 e.k e.f e.l e.d hW hX (hW.vok K9 (by omega)) (by omega) hek.1 hek.2.1 hek.2.2) H.f2.f1.f2 ?_)));rintro _ w _ ⟨a1,L1,o1,m1,u1,A1,⟨hD1,hd1⟩,rfl,rfl⟩ H;refine Z1 18 [] [(i:Int)+1] rfl (by omega) ?_;replace H:=H.f3.f3.f2.f3;refine gf ?_;intro _ hF;refine ⟨⟨i+1,a1,L1,o1,m1,u1,A1⟩,(hF.co rfl (by go_num) (hF.all rfl)),⟨H,?_⟩,?_⟩
    ·exact ⟨by show i+1≤60;omega,by have:=hD1.m;show m1≤6+2 * (i+1);omega,hD1.I,hD1.A⟩
    ·(dsimp only;omega)
   ·refine Zc 2 rfl (gx (Zc 1 rfl ?_));exact gf fun _ hF=>⟨ra,L,o,mb,u,Vw,(hF.all rfl),H,⟨hW,hX,by omega⟩⟩
  ·refine Zc 8 rfl (gx (Zc 1 rfl ?_));exact gf fun _ hF=>⟨ra,L,o,mb,u,Vw,(hF.all rfl),H,⟨hW,hX,by omega⟩⟩
 rintro a w ⟨ra,L,o,mb,u,Vw,hF,H,hI⟩;revert a;obtain ⟨hW,hX,hmb⟩:=hI;refine Zc 1 rfl (BC 10 (by kernel_rfl) (by kernel_rfl) (Bc H fun w H'=> ?_))
 have H:=H'.l4;refine Og 9 [1,1,6,7,1,4] [] H rfl (by kernel_rfl) (Ca rfl rfl rfl (AI rfl rfl (out:=[Pt_ pp,Iv_ 1,Iv_ 1,Iv_ 60,Iv_ 60,Iv_ (ra:Int),Iv_ (L.length:Int),Iv_ 1,Iv_ 60,Iv_ 60,u]) (by kernel_rfl)) (Cv (gw (Za 0 [] H rfl ?_))));intro b2 w H;refine Z4 21 [1,1,0,7,7,0] H rfl ?_;intro w H;have K1:=H.says 3 rfl (fun h a=>trA.k a)
 have hrr:o.R=AA ra:=by rw[hW.r,List.append_nil]
 have hrp:ra≠0→(manyN 500<ra∧ra<500)∧1≤o.C ra:=fun h0=>by have hm:ra∈Cc o none:=(by show ra∈o.R;rw[hrr,Cs h0];simp);exact ⟨K1.i.rin ra hm,K1.i.pos hm⟩
 refine G7 (fun a w=>∃ (o2:TB) (mb2:Nat),Fr 139 [] [(0,.slice ao es.length oc),(1,.slice aox esx.length ocx),(2,.slice aoy esy.length ocy),(7,Pt_ pp),(8,Pt_ b1),(11,Pt_ b2)] a∧Sep z (blk b2 [Pt_ pp,Iv_ 2,Iv_ 1,Iv_ 60,Iv_ 60,Iv_ (ra:Int),Iv_ (L.length:Int),Iv_ 2,Iv_ 60,Iv_ 60,u] 33::Vw::blk b1 [Pt_ pp,Iv_ 1,Iv_ 1,Iv_ 60,Iv_ 60,Iv_ (ra:Int),Iv_ (L.length:Int),Iv_ 1,Iv_ 60,Iv_ 60,u] 33::trA Tb pp mb2 500 o2 none::A::R) w∧(Tws o2 ra L ra L Vw u u∧mb2≤mb+2)) ?_ ?_
 ·refine Zc 1 rfl ?_;have K1:=H.says 3 rfl (fun h a=>trA.k a)
  have hrr:o.R=AA ra:=by rw[hW.r,List.append_nil]
  have hrp:ra≠0→(manyN 500<ra∧ra<500)∧1≤o.C ra:=fun h0=>by have hm:ra∈Cc o none:=(by show ra∈o.R;rw[hrr,Cs h0];simp);exact ⟨K1.i.rin ra hm,K1.i.pos hm⟩
  refine Z2 8 [1,5,2,0,0] H rfl (Ak 68 rfl (fun h3=> ?_) (fun h3=> ?_))
  ·refine Zc 1 rfl (z_E_ rfl (call12 _) (Kv _ _ _ _) H.f3 ?_);intro w H;refine Z2 8 [4,1,5,3,0] H rfl ?_;have hrp2:=hrp (by omega)
   have hrl:o.R.length=1:=by rw[hrr,Cs (by omega)];rfl
   refine z_E_ rfl (call13 _) (UI _ _ _ _ _ _ ra hrp2.1 hrp2.2 (by rw[hrl];omega)) H ?_;intro w H;refine Z0 4 [4] rfl (z_E_ rfl (call14 _) (Gb _ _ _ _ _ _ (by show 0+manyN 500≤40;decide) (by omega)) H ?_);intro w H;refine Z0 7 [4] rfl ?_;replace H:=H.f4.f1.f4.f4.f4;exact gf fun _ hF=>⟨⟨o.N,fup o.C ra (o.C ra+1),ra::o.R⟩,(mb+2),(hF.all rfl),H,⟨hW.tws1 (by omega) _ hX,by omega⟩⟩
  ·refine Zc 23 rfl ?_;exact gf fun _ hF=>⟨o,mb,(hF.all rfl),H,⟨hW.tws0 (by omega) hX,by omega⟩⟩
 rintro a w ⟨o2,mb2,hF,H,hI⟩;revert a;clear hX;obtain ⟨hX0,hm0⟩:=hI;refine Zc 7 rfl ?_;refine AM (σ:=Nat×Nat×List E×Nat×List E×TB×Nat×Value×Value×Ae) (fun ⟨j,ta,L,tb,M,o,mb,u,x,Vw⟩=>[(12,Iv_ (j:Int)),(1,.slice aox esx.length ocx),(2,.slice aoy esy.length ocy),(8,Pt_ b1),(11,Pt_ b2)])
   (fun ⟨j,ta,L,tb,M,o,mb,u,x,Vw⟩ w=>Sep z (blk b2 [Pt_ pp,Iv_ 2,Iv_ 1,Iv_ 60,Iv_ 60,Iv_ (tb:Int),Iv_ (M.length:Int),Iv_ 2,Iv_ 60,Iv_ 60,x] 33::Vw::blk b1 [Pt_ pp,Iv_ 1,Iv_ 1,Iv_ 60,Iv_ 60,Iv_ (ta:Int),Iv_ (L.length:Int),Iv_ 1,Iv_ 60,Iv_ 60,u] 33::trA Tb pp mb 500 o none::A::R) w∧(j≤60∧mb≤300+4 * j∧Tws o ta L tb M Vw u x)) (fun ⟨j,ta,L,tb,M,o,mb,u,x,Vw⟩=>60 - j) ⟨0,ra,L,ra,L,o2,mb2,u,u,Vw⟩
   (fun _ hF=>(hF.co rfl (by go_num) (hF.all rfl))) ⟨H,⟨Nat.zero_le _,by omega,hX0⟩⟩ ?_
 clear H;rintro ⟨j,ta,L,tb,M,o,mb,u,x,Vw⟩ w ⟨H',hI⟩;dsimp only at hI H' ⊢
 have H:=H'.l5;obtain ⟨hj,hmb2,hX⟩:=hI;refine G7 (fun a w=>Fr 139 [] [(1,.slice aox esx.length ocx),(2,.slice aoy esy.length ocy),(8,Pt_ b1),(11,Pt_ b2),(12,Iv_ (j:Int))] a∧Sep z (blk b2 [Pt_ pp,Iv_ 2,Iv_ 1,Iv_ 60,Iv_ 60,Iv_ (tb:Int),Iv_ (M.length:Int),Iv_ 2,Iv_ 60,Iv_ 60,x] 33::Vw::blk b1 [Pt_ pp,Iv_ 1,Iv_ 1,Iv_ 60,Iv_ 60,Iv_ (ta:Int),Iv_ (L.length:Int),Iv_ 1,Iv_ 60,Iv_ 60,u] 33::trA Tb pp mb 500 o none::A::R) w∧((j<esx.length∨j<esy.length)∧j<60)) ?_ ?_
 ·refine Z0 7 [0] rfl (Ak 92 rfl (fun h4=> ?_) (fun h4=> ?_))
  ·refine Z0 11 [0] rfl (Af rfl (fun h5=> ?_) (fun h5=> ?_))
   ·refine Zc 1 rfl ?_;exact gf fun _ hF=>⟨(hF.all rfl),H,(by omega)⟩
   ·refine Zc 1 rfl (gx (gx (Zc 3 rfl ?_)));have K9b:=H.says 3 rfl (fun h a=>trA.k a)
    have hvm:Cm 2 1 60 60 (tb:Int) (M.length:Int):=LwI.vok (Q:=AA ta) (o:=o.as (AA tb++AA ta)) hX.swap.lw ⟨K9b.hn,K9b.i.perm hX.swap.r,K9b.one,K9b.fr⟩ (by omega)
    replace H:=H.f3;have H':Sep z (trA Tb pp mb 500 (TB.as o (AA ta++AA tb)) none::blk b2 [Pt_ pp,Iv_ 2,Iv_ 1,Iv_ 60,Iv_ 60,Iv_ (tb:Int),Iv_ (M.length:Int),Iv_ 2,Iv_ 60,Iv_ 60,x] 33::Vw::blk b1 [Pt_ pp,Iv_ 1,Iv_ 1,Iv_ 60,Iv_ 60,Iv_ (ta:Int),Iv_ (L.length:Int),Iv_ 1,Iv_ 60,Iv_ 60,u] 33::A::R) w:=Sep.trSwap H hX.r
    have H:=H'.l5;have K9:=H.says 0 rfl (fun h a=>trA.k a)
    refine Zc 2 rfl (z_E_ rfl (call10 _) (Ff _ _ _ _ (TB.as o (AA ta++AA tb)) _ L Vw u _ _ _ _ hX.ra hX.u (hX.lw.vok K9 (by omega))) H.f2.f3 ?_);intro w H;refine Zc 6 rfl (z_E_ rfl (call10 _) (Ff _ _ _ _ (TB.as o (AA ta++AA tb)) _ M Vw x _ _ _ _ hX.rb hX.x hvm) H.f2.f2.f3 ?_);intro w H;refine Zc 4 rfl ?_;replace H:=(((H.pick 5 [2,4] rfl).trTab).2).l2
    refine Zc 6 rfl (z_E_ rfl (call11 _) (Jd Tb hT) H ?_);intro w H;refine Zc 5 rfl (Zr rfl ?_);exact ⟨_,⟨rfl,rfl⟩,H.pick 2 [1,0] rfl⟩
  ·refine Z0 6 [0] rfl (Ak 98 rfl (fun h6=> ?_) (fun h6=> ?_))
   ·refine Z0 5 [0] rfl (Af rfl (fun h7=> ?_) (fun h7=> ?_))
    ·refine Zc 1 rfl ?_;exact gf fun _ hF=>⟨(hF.all rfl),H,(by omega)⟩
    ·refine Zc 1 rfl (gx (gx (Zc 3 rfl ?_)));have K9b:=H.says 3 rfl (fun h a=>trA.k a)
     have hvm:Cm 2 1 60 60 (tb:Int) (M.length:Int):=LwI.vok (Q:=AA ta) (o:=o.as (AA tb++AA ta)) hX.swap.lw ⟨K9b.hn,K9b.i.perm hX.swap.r,K9b.one,K9b.fr⟩ (by omega)
     replace H:=H.f3;have H':Sep z (trA Tb pp mb 500 (TB.as o (AA ta++AA tb)) none::blk b2 [Pt_ pp,Iv_ 2,Iv_ 1,Iv_ 60,Iv_ 60,Iv_ (tb:Int),Iv_ (M.length:Int),Iv_ 2,Iv_ 60,Iv_ 60,x] 33::Vw::blk b1 [Pt_ pp,Iv_ 1,Iv_ 1,Iv_ 60,Iv_ 60,Iv_ (ta:Int),Iv_ (L.length:Int),Iv_ 1,Iv_ 60,Iv_ 60,u] 33::A::R) w:=Sep.trSwap H hX.r
     have H:=H'.l5;have K9:=H.says 0 rfl (fun h a=>trA.k a)
     refine Zc 2 rfl (z_E_ rfl (call10 _) (Ff _ _ _ _ (TB.as o (AA ta++AA tb)) _ L Vw u _ _ _ _ hX.ra hX.u (hX.lw.vok K9 (by omega))) H.f2.f3 ?_);intro w H;refine Zc 6 rfl (z_E_ rfl (call10 _) (Ff _ _ _ _ (TB.as o (AA ta++AA tb)) _ M Vw x _ _ _ _ hX.rb hX.x hvm) H.f2.f2.f3 ?_);intro w H;refine Zc 4 rfl ?_;replace H:=(((H.pick 5 [2,4] rfl).trTab).2).l2
     refine Zc 6 rfl (z_E_ rfl (call11 _) (Jd Tb hT) H ?_);intro w H;refine Zc 5 rfl (Zr rfl ?_);exact ⟨_,⟨rfl,rfl⟩,H.pick 2 [1,0] rfl⟩
   ·refine Zc 7 rfl (gx (gx (Zc 3 rfl ?_)));have K9b:=H.says 3 rfl (fun h a=>trA.k a)
    have hvm:Cm 2 1 60 60 (tb:Int) (M.length:Int):=LwI.vok (Q:=AA ta) (o:=o.as (AA tb++AA ta)) hX.swap.lw ⟨K9b.hn,K9b.i.perm hX.swap.r,K9b.one,K9b.fr⟩ (by omega)
    replace H:=H.f3;have H':Sep z (trA Tb pp mb 500 (TB.as o (AA ta++AA tb)) none::blk b2 [Pt_ pp,Iv_ 2,Iv_ 1,Iv_ 60,Iv_ 60,Iv_ (tb:Int),Iv_ (M.length:Int),Iv_ 2,Iv_ 60,Iv_ 60,x] 33::Vw::blk b1 [Pt_ pp,Iv_ 1,Iv_ 1,Iv_ 60,Iv_ 60,Iv_ (ta:Int),Iv_ (L.length:Int),Iv_ 1,Iv_ 60,Iv_ 60,u] 33::A::R) w:=Sep.trSwap H hX.r
    have H:=H'.l5;have K9:=H.says 0 rfl (fun h a=>trA.k a)
    refine Zc 2 rfl (z_E_ rfl (call10 _) (Ff _ _ _ _ (TB.as o (AA ta++AA tb)) _ L Vw u _ _ _ _ hX.ra hX.u (hX.lw.vok K9 (by omega))) H.f2.f3 ?_);intro w H;refine Zc 6 rfl (z_E_ rfl (call10 _) (Ff _ _ _ _ (TB.as o (AA ta++AA tb)) _ M Vw x _ _ _ _ hX.rb hX.x hvm) H.f2.f2.f3 ?_);intro w H;refine Zc 4 rfl ?_;replace H:=(((H.pick 5 [2,4] rfl).trTab).2).l2
    refine Zc 6 rfl (z_E_ rfl (call11 _) (Jd Tb hT) H ?_);intro w H;refine Zc 5 rfl (Zr rfl ?_);exact ⟨_,⟨rfl,rfl⟩,H.pick 2 [1,0] rfl⟩
 rintro a w ⟨hF,H,hI⟩;revert a;refine G7 (fun a w=>∃ (a1:Nat) (L1:List E) (u1:Value) (c1:Nat) (M1:List E) (o2:TB) (m2:Nat) (x1:Value) (V2:Ae),Fr 139 [] [(1,.slice aox esx.length ocx),(2,.slice aoy esy.length ocy),(8,Pt_ b1),(11,Pt_ b2),(12,Iv_ (j:Int))] a∧Sep z (blk b2 [Pt_ pp,Iv_ 2,Iv_ 1,Iv_ 60,Iv_ 60,Iv_ (c1:Int),Iv_ (M1.length:Int),Iv_ 2,Iv_ 60,Iv_ 60,x1] 33::V2::blk b1 [Pt_ pp,Iv_ 1,Iv_ 1,Iv_ 60,Iv_ 60,Iv_ (a1:Int),Iv_ (L1.length:Int),Iv_ 1,Iv_ 60,Iv_ 60,u1] 33::trA Tb pp m2 500 o2 none::A::R) w∧(Tws o2 a1 L1 c1 M1 V2 u1 x1∧m2≤mb+4)) ?_ ?_
 ·refine Zc 1 rfl (G7 (fun a w=>∃ (a1:Nat) (L1:List E) (o1:TB) (m1:Nat) (u1:Value) (V1:Ae),Fr 139 [] [(1,.slice aox esx.length ocx),(2,.slice aoy esy.length ocy),(8,Pt_ b1),(11,Pt_ b2),(12,Iv_ (j:Int))] a∧Sep z (blk b2 [Pt_ pp,Iv_ 2,Iv_ 1,Iv_ 60,Iv_ 60,Iv_ (tb:Int),Iv_ (M.length:Int),Iv_ 2,Iv_ 60,Iv_ 60,x] 33::V1::blk b1 [Pt_ pp,Iv_ 1,Iv_ 1,Iv_ 60,Iv_ 60,Iv_ (a1:Int),Iv_ (L1.length:Int),Iv_ 1,Iv_ 60,Iv_ 60,u1] 33::trA Tb pp m1 500 o1 none::A::R) w∧(Tws o1 a1 L1 tb M V1 u1 x∧m1≤mb+2)) ?_ ?_)
  ·refine Z0 8 [0] rfl (Af rfl (fun h8=> ?_) (fun h8=> ?_))
   ·refine Zc 1 rfl ?_;replace H:=H.f3;have H':Sep z (trA Tb pp mb 500 (TB.as o (AA ta++AA tb)) none::blk b2 [Pt_ pp,Iv_ 2,Iv_ 1,Iv_ 60,Iv_ 60,Iv_ (tb:Int),Iv_ (M.length:Int),Iv_ 2,Iv_ 60,Iv_ 60,x] 33::Vw::blk b1 [Pt_ pp,Iv_ 1,Iv_ 1,Iv_ 60,Iv_ 60,Iv_ (ta:Int),Iv_ (L.length:Int),Iv_ 1,Iv_ 60,Iv_ 60,u] 33::A::R) w:=Sep.trSwap H hX.r
    have H:=H'.l5;obtain ⟨e,he⟩:∃ e,esx[j]? =some e:=⟨_,List.getElem?_eq_getElem (by omega)⟩;have hek:=H.says 4 rfl (fun h q=>(hAx h q).2 e (List.mem_of_getElem? he))
    have hatx:=(H.rd 4 rfl (fun h q=>(hAx h q).1)).at (Fg he 0 _ rfl)
    have K9:=H.says 0 rfl (fun h a=>trA.k a)
    refine Zc 4 rfl (Ac rfl (Az rfl (z:=4) (j:=j) (r:=j * 4) (by kernel_rfl) rfl rfl rfl (by omega) hatx (by omega)) (Ac rfl (CO rfl rfl (vs:=[Iv_ e.k,.bool e.d,Iv_ e.f,Iv_ e.l]) (by kernel_rfl) (by simp) (AB (fun k u hk=>(H.rd 4 rfl (fun h q=>(hAx h q).1)).at (Fg he k u hk)))) (Ax rfl (call9 _) (JY _ _ mb 500 (TB.as o (AA ta++AA tb)) ta L (AA tb) Vw u 1 60 60 1 e.k e.f e.l e.d hX.lw hX.u (hX.lw.vok K9 (by omega)) (by omega) hek.1 hek.2.1 hek.2.2) H.f2.f3 ?_)));rintro _ w _ ⟨a1,L1,o1,m1,u1,A1,⟨hD1,hd1⟩,rfl,rfl⟩ H;replace H:=H.l5;have hX1:=hD1.two hX
    refine Zc 11 rfl ?_;replace H:=H.f4.f3.f2.f3.f4;exact gf fun _ hF=>⟨a1,L1,o1,m1,u1,A1,(hF.all rfl),H,⟨hX1,by have:=hD1.m;omega⟩⟩
   ·refine Zc 1 rfl ?_;exact gf fun _ hF=>⟨ta,L,o,mb,u,Vw,(hF.all rfl),H,⟨hX,by omega⟩⟩
  rintro a w ⟨a1,L1,o1,m1,u1,V1,hF,H,hI⟩;revert a;clear hX;obtain ⟨hX,hm1⟩:=hI;refine Z0 8 [0] rfl (Af rfl (fun h9=> ?_) (fun h9=> ?_))
  ·refine Zc 1 rfl ?_;replace H:=H.f3;have H':Sep z (trA Tb pp m1 500 (TB.as o1 (AA tb++AA a1)) none::blk b2 [Pt_ pp,Iv_ 2,Iv_ 1,Iv_ 60,Iv_ 60,Iv_ (tb:Int),Iv_ (M.length:Int),Iv_ 2,Iv_ 60,Iv_ 60,x] 33::V1::blk b1 [Pt_ pp,Iv_ 1,Iv_ 1,Iv_ 60,Iv_ 60,Iv_ (a1:Int),Iv_ (L1.length:Int),Iv_ 1,Iv_ 60,Iv_ 60,u1] 33::A::R) w:=Sep.trSwap H hX.swap.r
   have H:=H'.l5;obtain ⟨e,he⟩:∃ e,esy[j]? =some e:=⟨_,List.getElem?_eq_getElem (by omega)⟩;have hek:=H.says 4 rfl (fun h q=>(hAy h q).2 e (List.mem_of_getElem? he))
   have haty:=(H.rd 4 rfl (fun h q=>(hAy h q).1)).at (Fg he 0 _ rfl)
   have K9:=H.says 0 rfl (fun h a=>trA.k a)
   refine Zc 4 rfl (Ac rfl (Az rfl (z:=4) (j:=j) (r:=j * 4) (by kernel_rfl) rfl rfl rfl (by omega) haty (by omega)) (Ac rfl (CO rfl rfl (vs:=[Iv_ e.k,.bool e.d,Iv_ e.f,Iv_ e.l]) (by kernel_rfl) (by simp) (AB (fun k u hk=>(H.rd 4 rfl (fun h q=>(hAy h q).1)).at (Fg he k u hk)))) (Ax rfl (call9 _) (JY _ _ m1 500 (TB.as o1 (AA tb++AA a1)) tb M (AA a1) V1 x 2 60 60 2 e.k e.f e.l e.d hX.swap.lw hX.x (hX.swap.lw.vok K9 (by omega)) (by omega) hek.1 hek.2.1 hek.2.2) H.f2.f2 ?_)));rintro _ w _ ⟨a2,L2,o2,m2,u2,A2,⟨hD2,hd2⟩,rfl,rfl⟩ H;replace H:=H.l5;have hX2:=(hD2.two hX.swap).swap
   refine Zc 12 rfl ?_;replace H:=H.f4.f3.f4.f4.f4;exact gf fun _ hF=>⟨a1,L1,u1,a2,L2,o2,m2,u2,A2,(hF.all rfl),H,⟨hX2,by have:=hD2.m;omega⟩⟩
  ·refine Zc 2 rfl ?_;exact gf fun _ hF=>⟨a1,L1,u1,tb,M,o1,m1,x,V1,(hF.all rfl),H,⟨hX,by omega⟩⟩
 rintro a w ⟨a1,L1,u1,c1,M1,o2,m2,x1,V2,hF,H,hI⟩;revert a;clear hX;obtain ⟨hX,hm2⟩:=hI;refine Z1 5 [] [(j:Int)+1] rfl (by omega) (gf ?_);intro _ hF;refine ⟨⟨j+1,a1,L1,c1,M1,o2,m2,u1,x1,V2⟩,(hF.co rfl (by go_num) (hF.all rfl)),⟨H,?_⟩,?_⟩
 ·exact ⟨by show j+1≤60;omega,by show m2≤300+4 * (j+1);omega,hX⟩
 ·(dsimp only;omega)
end
open Go.ChangeShapes Go.WideShapes Go.ChangeAt Go.RowKit Go.Joins
theorem W8 (os:Os):laidMet prog Rows.thinSharedUptoRow.laid ((HT os).forCall (fun _ _=>0) ⟨#[],#[.slice none 0 0,.slice none 0 0,.slice none 0 0],[]⟩).memory:=
 laidMet_of_run' 8 (by kernel_rfl) (by kernel_rfl)
theorem RN (os:Os) {H:Type} (enc:TypeId×Value→H):∃ places,DataW.whole enc prog ((HT os).forCall (fun _ _=>0) ⟨#[],#[.slice none 0 0,.slice none 0 0,.slice none 0 0],[]⟩).memory f4.params.toList Rows.thinSharedSpec.vars false #[Value.slice none 0 0,.slice none 0 0,.slice none 0 0].toList 8=some ([.nil,.nil,.nil],[],places):=
 ⟨[],by kernel_rfl⟩
theorem tws_contract (H:Type) (enc:TypeId×Value→H) (W:World) (base:Nat) (args:Array Value) (ds gs:List (DataW H)) (before:List MemPlace)
  (hval:∀ (j:Nat) t v,f4.params[j]? =some t→args[j]? =some v→Value.okWide prog W .any base t v)
  (hW:DataW.Whole enc prog f4.params.toList Rows.thinSharedSpec.vars false W args.toList ds gs before) (hk:Rows.uptoSmall H (ds++gs)=true) (hL:laidMetH prog Rows.thinSharedUptoRow.laid W):
  Calls prog 4 args W fun e W'=>∃ v,e= .returned v∧Rows.thinSharedSpec.post enc prog f4 false true false false W args v W':=by
 have hW0:=hW
 obtain ⟨p,q,hA0,hV,rfl,_,_⟩:=hW
 have hA:DataW.TrodAll enc prog W 0 (fun _=>true) true f4.params.toList args.toList ds p:=hA0
 rw[params4] at hA hval
 obtain ⟨v0,v1,v2,d0,d1,d2,p0,p1,p2,rfl,rfl,rfl,h0,h1,h2⟩:=Zv hA
 obtain ⟨rfl,rfl⟩:=trodVars_none hV
 simp only[List.append_nil] at hW0 hk
 have t0:∀ x∈p0,x.block<W.heap.size:=fun x hx=>by have:=hW0.lt x (by simp[hx]);simpa using this
 have t1:∀ x∈p1,x.block<W.heap.size:=fun x hx=>by have:=hW0.lt x (by simp[hx]);simpa using this
 have t2:∀ x∈p2,x.block<W.heap.size:=fun x hx=>by have:=hW0.lt x (by simp[hx]);simpa using this
 have hb:Rows.uptoBulkAll [d0,d1,d2]≤1048576:=of_decide_eq_true hk
 simp only[Rows.uptoBulkAll] at hb
 obtain ⟨ao0,l0,c0,rfl⟩:=okWide_slice underlying22 (hval 0 22 v0 rfl rfl)
 obtain ⟨fuel0,hf0⟩:=id h0
 obtain ⟨es0,hr0,hes0,hlen0⟩:=Je (h:=hf0)
 obtain ⟨ao1,l1,c1,rfl⟩:=okWide_slice underlying22 (hval 1 22 v1 rfl rfl)
 obtain ⟨fuel1,hf1⟩:=id h1
 obtain ⟨es1,hr1,hes1,hlen1⟩:=Je (h:=hf1)
 obtain ⟨ao2,l2,c2,rfl⟩:=okWide_slice underlying22 (hval 2 22 v2 rfl rfl)
 obtain ⟨fuel2,hf2⟩:=id h2
 obtain ⟨es2,hr2,hes2,hlen2⟩:=Je (h:=hf2)
 refine (Cn.run2 (W6 (Iz hL)) (NH (IA W) (NG W) (Zu (Iz hL)) _ es0 (by omega) (fun h hh=>⟨Jf (Iz hL) hr0 (PU _) h hh,hes0⟩) _ es1 (by omega) (fun h hh=>⟨Jf (Iz hL) hr1 (PU _) h hh,hes1⟩) _ es2 (by omega) (fun h hh=>⟨Jf (Iz hL) hr2 (PU _) h hh,hes2⟩))).mono fun e W' hR=> ?_
 obtain ⟨u,rfl,rfl,x⟩:∃ u,e=Ending.returned u∧u= .bool true∧Ext No W W':=by cases e<;>first|exact ⟨_,rfl,hR⟩|exact hR.elim
 exact ⟨_,rfl,_,_,_,[],_,[],hW0,trodAll_mk1 (shut_bool underlying4 true),W7 (Below.trod KI (by kernel_rfl) (of_decide_eq_true (by kernel_rfl)) h0 x.below t0) (Below.trod KI (by kernel_rfl) (of_decide_eq_true (by kernel_rfl)) h1 x.below t1) (Below.trod KI (by kernel_rfl) (of_decide_eq_true (by kernel_rfl)) h2 x.below t2),rfl,x.below.frame _,fun h=>by cases h⟩
theorem PV (os:Os) (started:os.Started) (H:Type) (enc:TypeId×Value→H) (F:Stop.Interp):
  ReturnsInHanded {} checked os 4 .any ((Rows.OpenSpec.upto Rows.thinSharedSpec).preRow enc prog f4 Rows.thinSharedUptoRow.domain false Rows.thinSharedUptoRow.laid) (((Rows.OpenSpec.upto Rows.thinSharedSpec).at F).post enc prog f4 false true false false):=by
 obtain ⟨places,hx⟩:=RN os enc
 refine returnsInHanded_of_row (C:=checked) (s:=Rows.OpenSpec.upto Rows.thinSharedSpec) own started (by kernel_rfl) func4
  (witness_row_at (enc:=enc) (C:=checked) false (HT os) #[.slice none 0 0,.slice none 0 0,.slice none 0 0] rfl (by kernel_rfl) (by kernel_rfl) (by kernel_rfl)
   (OpenSpec.preRow_of_cond 8 hx (by kernel_rfl) (fun k hk=>by cases hk;kernel_rfl) (by kernel_rfl) (W8 os))) ?_
 intro W base args ds gs before hval hW _ hcond _ hL _ _
 exact tws_contract H enc W base args ds gs before hval hW (hcond _ rfl) hL
theorem tws_said:Rows.ThinSharedUptoSaid:=
 OpenClaim.holds_of_cond 4 f4 rfl rfl rfl rfl rfl rfl rfl ⟨rfl,rfl,rfl,rfl,rfl⟩ rfl rfl rfl rfl rfl (by kernel_rfl) func4 (by kernel_rfl)
  (of_decide_eq_true (by kernel_rfl)) (by unfold Func.isWrapper;first|(rw[if_pos (by decide+kernel)];kernel_rfl)|(rw[if_neg (by decide+kernel)];exact ⟨rfl,rfl⟩))
  (fun os started H enc _ F=>by rw[OpenClaim.pre_eq_preRow];exact PV os started H enc F)
theorem RO (f:FuncId) (fn:Func) (hf:Tryz.pinned.checked.prog.funcNamed "polder/polderlaw14.ThinShared"=some f) (hfn:Tryz.pinned.checked.prog.funcs[f]? =some fn):
  false=Tryz.pinned.checked.prog.looks []∧∀ (j:Nat) t,fn.params[j]? =some t→Tryz.pinned.checked.prog.wantsStandIn t=false:=by
 obtain rfl:f=4:=Option.some.inj ((show prog.funcNamed "polder/polderlaw14.ThinShared"=some 4 by kernel_rfl).symm.trans hf) |>.symm
 obtain rfl:fn=f4:=(Option.some.inj (func4.symm.trans hfn)).symm
 refine ⟨by kernel_rfl,fun j t ht=> ?_⟩
 rw[params4] at ht
 have hm:=Array.mem_of_getElem? ht
 simp at hm
 rcases hm with rfl|rfl|rfl<;>first|exact (show prog.wantsStandIn 22=false by kernel_rfl)
theorem thinShared_holds:Rows.ThinSharedUptoCardSaid:=
 Claim7.holds_tied_plain_at .later [] _ _ _ _ tws_said (fun _ h=>by cases h) (by kernel_rfl) (fun _ h=>by cases h) thinSharedUpto_row_tie rfl ⟨rfl,rfl⟩ (by kernel_rfl) rfl RO (by kernel_rfl)
end Go.Proofs.YtjegbnfpodadcaaGreatDoor
