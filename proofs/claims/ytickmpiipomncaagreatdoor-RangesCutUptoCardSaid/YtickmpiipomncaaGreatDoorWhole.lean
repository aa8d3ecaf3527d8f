/-
  A range is cut away bit by bit, and nothing else. No condition.
-/
import Derived.Test.YtickmpiipomncaaGreatDoorPart5
import Derived.Test.YtickmpiipomncaaGreatDoorCards
import Derived.Test.YtickmpiipomncaaGreatDoorTie
import Derived.WalkKit
import Derived.WalkSpells
import Derived.Deep.Quiet
import Derived.KernelRfl
import Derived.IntWalk
import Derived.Maps.AppendAt
import Derived.Laws.AppendOwnNone
import Derived.Laws.CopyRow
import Derived.StillTail
import Derived.Deep.RegionHeld
import Derived.Laws.IdiomStrings
import Derived.Laws.BytesArg
import Derived.Laws.OwnMore
import Derived.Lib.Strings
import Derived.ArgAppend
import Derived.Test.YtickmpiipomncaaGreatDoorRows
import Derived.RangeFuncLeaves
import Derived.RangeFuncRecord
import Derived.RangeFuncCalls
import Derived.RangeFuncSeq
import Derived.OrdersIn
import Derived.TacticsIn
import Derived.Laws.IdiomRangeMap
import Derived.Defers
import Derived.Laws.LoneSync
import Derived.LoopN
import Derived.Lib.TrailingZeros
import Derived.Test.YtickmpiipomncaaGreatDoorProg
import Derived.Shelf.Sort.Plain
import Derived.Shelf.Slices.In.SortNone
import Derived.DataReads
import Derived.ProofKit
import Derived.OpenShut
import Derived.Lib.SmallJoins
import Derived.Deep.DeepHandedRow
import Derived.Lib.LaidTab
set_option maxRecDepth 100000
set_option linter.unusedSimpArgs false
set_option linter.unusedVariables false
open Go.Proofs.Tryz
namespace Go.Proofs.YtickmpiipomncaaGreatDoor
open Go.ChangeShapes Go.WideShapes Go.ChangeAt Go.RowKit Go.Joins
theorem Tw:prog.cellsOf 37=3:=by kernel_rfl
theorem Ww {H:Type} {enc:TypeId×Value→H} {W:World} {base:Nat} {v:Value} {d:DataW H} {p:List MemPlace} (hv:Value.okWide prog W .any base 37 v)
  (h:DataW.Trod enc prog W 0 (fun _=>true) true 37 v d p):∃ x y z:Int,v= .agg #[.int .i64 x,.int .i64 y,.int .i64 z]:=by
 obtain ⟨v0,v1,v2,y0,y1,y2,n,rfl,-,-,h0,h1,h2⟩:=open_agg3 underlying37 (by kernel_rfl) Tw hv h
 obtain ⟨x,hx,-⟩:=DataW.trod_int underlying3 h0
 simp only[List.cons.injEq,and_true] at hx;subst hx
 obtain ⟨y,hy,-⟩:=DataW.trod_int underlying3 h1
 simp only[List.cons.injEq,and_true] at hy;subst hy
 obtain ⟨z,hz,-⟩:=DataW.trod_int underlying3 h2
 simp only[List.cons.injEq,and_true] at hz;subst hz
 exact ⟨x,y,z,rfl⟩
theorem Wx (os:Os):laidMet prog Rows.rangesCutUptoRow.laid ((HF os).forCall (fun _ _=>0) ⟨#[],#[.slice none 0 0,.agg #[.int .i64 0,.int .i64 0,.int .i64 0]],[]⟩).memory:=
 laidMet_of_run' 8 (by kernel_rfl) (by kernel_rfl)
theorem Q6 (os:Os) {H:Type} (enc:TypeId×Value→H):∃ places,DataW.whole enc prog ((HF os).forCall (fun _ _=>0) ⟨#[],#[.slice none 0 0,.agg #[.int .i64 0,.int .i64 0,.int .i64 0]],[]⟩).memory f7.params.toList Rows.rangesCutSpec.vars false #[Value.slice none 0 0,.agg #[.int .i64 0,.int .i64 0,.int .i64 0]].toList 8=some ([.nil,.agg [.lit (.int .i64 0),.lit (.int .i64 0),.lit (.int .i64 0)]],[],places):=
 ⟨[],by kernel_rfl⟩
theorem rcu_contract (H:Type) (enc:TypeId×Value→H) (W:World) (base:Nat) (args:Array Value) (ds gs:List (DataW H)) (before:List MemPlace)
  (hval:∀ (j:Nat) t v,f7.params[j]? =some t→args[j]? =some v→Value.okWide prog W .any base t v)
  (hW:DataW.Whole enc prog f7.params.toList Rows.rangesCutSpec.vars false W args.toList ds gs before) (hk:Rows.uptoSmall H (ds++gs)=true) (hL:laidMetH prog Rows.rangesCutUptoRow.laid W):
  Calls prog 7 args W fun e W'=>∃ v,e= .returned v∧Rows.rangesCutSpec.post enc prog f7 false true false false W args v W':=by
 have hW0:=hW
 obtain ⟨p,q,hA0,hV,rfl,_,_⟩:=hW
 have hA:DataW.TrodAll enc prog W 0 (fun _=>true) true f7.params.toList args.toList ds p:=hA0
 rw[params7] at hA hval
 obtain ⟨v0,v1,d0,d1,p0,p1,rfl,rfl,rfl,h0,h1⟩:=Y4 hA
 obtain ⟨rfl,rfl⟩:=trodVars_none hV
 simp only[List.append_nil] at hW0 hk
 have t0:∀ x∈p0,x.block<W.heap.size:=fun x hx=>by have:=hW0.lt x (by simp[hx]);simpa using this
 have t1:∀ x∈p1,x.block<W.heap.size:=fun x hx=>by have:=hW0.lt x (by simp[hx]);simpa using this
 have hb:Rows.uptoBulkAll [d0,d1]≤1048576:=of_decide_eq_true hk
 simp only[Rows.uptoBulkAll] at hb
 obtain ⟨ao0,l0,c0,rfl⟩:=okWide_slice underlying22 (hval 0 22 v0 rfl rfl)
 obtain ⟨fuel0,hf0⟩:=id h0
 obtain ⟨pk0,hpk0,hlen0,hwf0⟩:=Tp (h:=hf0)
 obtain ⟨x1,y1,z1,rfl⟩:=Ww (hval 1 37 v1 rfl rfl) h1
 refine (Cn.run2 (Wq (Pi hL)) (Nj (Ij W) (MZ W) (Y3 (Pi hL)) _ pk0 (fun h hh=>⟨Tt (Pi hL) hpk0 (by simp) h hh,fun x hx=>Y2 (hwf0 x hx)⟩) x1 y1 z1)).mono fun e W' hR=> ?_
 obtain ⟨u,rfl,rfl,x⟩:∃ u,e=Ending.returned u∧u= .bool true∧Ext No W W':=by cases e<;>first|exact ⟨_,rfl,hR⟩|exact hR.elim
 exact ⟨_,rfl,_,_,_,[],_,[],hW0,trodAll_mk1 (shut_bool underlying4 true),Wr (Below.trod Oq (by kernel_rfl) (of_decide_eq_true (by kernel_rfl)) h0 x.below t0) (Below.trod Oq (by kernel_rfl) (of_decide_eq_true (by kernel_rfl)) h1 x.below t1),rfl,x.below.frame _,fun h=>by cases h⟩
theorem Pj (os:Os) (started:os.Started) (H:Type) (enc:TypeId×Value→H) (F:Stop.Interp):
  ReturnsInHanded {} checked os 7 .any ((Rows.OpenSpec.upto Rows.rangesCutSpec).preRow enc prog f7 Rows.rangesCutUptoRow.domain false Rows.rangesCutUptoRow.laid) (((Rows.OpenSpec.upto Rows.rangesCutSpec).at F).post enc prog f7 false true false false):=by
 obtain ⟨places,hx⟩:=Q6 os enc
 refine returnsInHanded_of_row (C:=checked) (s:=Rows.OpenSpec.upto Rows.rangesCutSpec) own started (by kernel_rfl) func7
  (witness_row_at (enc:=enc) (C:=checked) false (HF os) #[.slice none 0 0,.agg #[.int .i64 0,.int .i64 0,.int .i64 0]] rfl (by kernel_rfl) (by kernel_rfl) (by kernel_rfl)
   (OpenSpec.preRow_of_cond 8 hx (by kernel_rfl) (fun k hk=>by cases hk;kernel_rfl) (by kernel_rfl) (Wx os))) ?_
 intro W base args ds gs before hval hW _ hcond _ hL _ _
 exact rcu_contract H enc W base args ds gs before hval hW (hcond _ rfl) hL
theorem rcu_said:Rows.RangesCutUptoSaid:=
 OpenClaim.holds_of_cond 7 f7 rfl rfl rfl rfl rfl rfl rfl ⟨rfl,rfl,rfl,rfl,rfl⟩ rfl rfl rfl rfl rfl (by kernel_rfl) func7 (by kernel_rfl)
  (of_decide_eq_true (by kernel_rfl)) (by unfold Func.isWrapper;first|(rw[if_pos (by decide+kernel)];kernel_rfl)|(rw[if_neg (by decide+kernel)];exact ⟨rfl,rfl⟩))
  (fun os started H enc _ F=>by rw[OpenClaim.pre_eq_preRow];exact Pj os started H enc F)
theorem Q7 (f:FuncId) (fn:Func) (hf:Tryz.pinned.checked.prog.funcNamed "polder/polderlaw13.RangesCut"=some f) (hfn:Tryz.pinned.checked.prog.funcs[f]? =some fn):
  false=Tryz.pinned.checked.prog.looks []∧∀ (j:Nat) t,fn.params[j]? =some t→Tryz.pinned.checked.prog.wantsStandIn t=false:=by
 obtain rfl:f=7:=Option.some.inj ((show prog.funcNamed "polder/polderlaw13.RangesCut"=some 7 by kernel_rfl).symm.trans hf) |>.symm
 obtain rfl:fn=f7:=(Option.some.inj (func7.symm.trans hfn)).symm
 refine ⟨by kernel_rfl,fun j t ht=> ?_⟩
 rw[params7] at ht
 have hm:=Array.mem_of_getElem? ht
 simp at hm
 rcases hm with rfl|rfl<;>first|exact (show prog.wantsStandIn 22=false by kernel_rfl)|exact (show prog.wantsStandIn 37=false by kernel_rfl)
theorem rangesCut_holds:Rows.RangesCutUptoCardSaid:=
 Claim7.holds_tied_plain_at .later [] _ _ _ _ rcu_said (fun _ h=>by cases h) (by kernel_rfl) (fun _ h=>by cases h) rangesCutUpto_row_tie rfl ⟨rfl,rfl⟩ (by kernel_rfl) rfl Q7 (by kernel_rfl)
end Go.Proofs.YtickmpiipomncaaGreatDoor
