/-
  Steps to: The law ThinRefuses holds. No condition.
-/
import Derived.Test.YtjegbnfpodadcaaGreatDoorPart3
import Derived.Test.YtjegbnfpodadcaaGreatDoorCards
import Derived.Test.YtjegbnfpodadcaaGreatDoorTie
import Derived.WalkKit
import Derived.WalkSpells
import Derived.Deep.Quiet
import Derived.KernelRfl
import Derived.IntWalk
import Derived.Maps.AppendAt
import Derived.Laws.AppendOwnNone
import Derived.Laws.CopyRow
import Derived.StillTail
import Derived.Deep.RegionHeld
import Derived.Laws.IdiomStrings
import Derived.Laws.BytesArg
import Derived.Laws.OwnMore
import Derived.Lib.Strings
import Derived.ArgAppend
import Derived.Test.YtjegbnfpodadcaaGreatDoorRows
import Derived.RangeFuncLeaves
import Derived.RangeFuncRecord
import Derived.RangeFuncCalls
import Derived.RangeFuncSeq
import Derived.OrdersIn
import Derived.TacticsIn
import Derived.Laws.IdiomRangeMap
import Derived.Defers
import Derived.Laws.LoneSync
import Derived.LoopN
import Derived.Lib.TrailingZeros
import Derived.Test.YtjegbnfpodadcaaGreatDoorProg
import Derived.Shelf.Sort.Plain
import Derived.Shelf.Slices.In.SortNone
import Derived.DataReads
import Derived.ProofKit
import Derived.OpenShut
import Derived.Lib.SmallJoins
import Derived.Deep.DeepHandedRow
import Derived.Lib.LaidTab
set_option maxRecDepth 100000
set_option linter.unusedSimpArgs false
set_option linter.unusedVariables false
open Go.Proofs.Tryz
namespace Go.Proofs.YtjegbnfpodadcaaGreatDoor
open Go.RowKit
theorem SameOut.one {s:Sup} {D:Dsk} {x:Nat} {ps:List (List UInt8)} (h1:s.start≤x) (h2:(x:Int)+ps.length≤s.start+s.len):SameOut s D (D.wr x ps):=fun i hi=>⟨by rw[QM],FG _ _ _ _ (by omega)⟩
theorem SameOut.trans {s:Sup} {D D1 D2:Dsk} (h1:SameOut s D D1) (h2:SameOut s D1 D2):SameOut s D D2:=fun i hi=>⟨(h2 i hi).1.trans (h1 i hi).1,(h2 i hi).2.trans (h1 i hi).2⟩
theorem KS (pl pd pt:Nat) (sL x:Sup) (nu:Bool) (v:Value) (ims:List Img) (A:Ae) (hA:∀ h,A h→imgsH v ims h) (D:Dsk) {B:Nat→Pg} {rs:List Rc} {ptl:List (List UInt8)} {a q u:Int} {b:Bool} {sure:Nat} (hS:SInv D x B rs ptl a q u b sure) (hnum:∀ m∈ims,m.num<x.pages) (h1:sL.start=x.start) (h2:sL.len=x.len) (h3:sL.epoch=x.epoch) (hok:sL.Ok (D.n:Int)) (hnu:nu=decide (sL.epoch<4294967296)) (hq:0≤q∧q≤1099511627776) (hver:∀ i,(D.ver i).length≤1000000000000):
  Cn prog 107 [Pt_ pl,v] [blk pl [Pt_ pd,Pt_ pt,Iv_ sL.gen,Iv_ sL.epoch,Iv_ sL.pages,Iv_ sL.start,Iv_ sL.len,Iv_ sL.head,Iv_ sL.seq,Iv_ a,Iv_ q,Iv_ u,.bool b,.bool nu] 188,tblA pt,diskA pd D,A] (fun v Γ=>
   (∃ (Da:Dsk) (a2 q2 u2:Int),(1≤ims.length∧ims.length≤40)∧D7 ims∧SInv Da x B (rs++[⟨q,ims⟩]) [] a2 q2 u2 b sure∧b=false∧(Clean D→Clean Da)∧(Da.n=D.n∧∀ i,(Da.ver i).length≤(D.ver i).length+2)∧q2=q+1∧u2=u+(1+(ims.length:Int))∧v=Iv_ 0∧Γ=[blk pl [Pt_ pd,Pt_ pt,Iv_ sL.gen,Iv_ sL.epoch,Iv_ sL.pages,Iv_ sL.start,Iv_ sL.len,Iv_ sL.head,Iv_ sL.seq,Iv_ a2,Iv_ q2,Iv_ u2,.bool b,.bool nu] 188,tblA pt,diskA pd Da,A])∨
   (∃ c:Int,UE c ims (1+(ims.length:Int)≤(if b then 0 else x.len - u)∧nu=true∧q<1099511627776)∧v=Iv_ c∧Γ=[blk pl [Pt_ pd,Pt_ pt,Iv_ sL.gen,Iv_ sL.epoch,Iv_ sL.pages,Iv_ sL.start,Iv_ sL.len,Iv_ sL.head,Iv_ sL.seq,Iv_ a,Iv_ q,Iv_ u,.bool b,.bool nu] 188,tblA pt,diskA pd D,A])∨
   (∃ (Df:Dsk) (ptl2:List (List UInt8)),¬ Clean D∧SInv Df x B rs ptl2 a (q+1) u true sure∧(Df.n=D.n∧∀ i,(Df.ver i).length≤(D.ver i).length+2)∧v=Iv_ 11∧Γ=[blk pl [Pt_ pd,Pt_ pt,Iv_ sL.gen,Iv_ sL.epoch,Iv_ sL.pages,Iv_ sL.start,Iv_ sL.len,Iv_ sL.head,Iv_ sL.seq,Iv_ a,Iv_ (q+1),Iv_ u,.bool true,.bool nu] 188,tblA pt,diskA pd Df,A])):=by
 have hP:=hS.p
 have hs:=hS.s
 have hat:=hP.at_ok hs
 have hsd:=hs.head
 have hss:=hs.start
 have hu0:=hP.fu
 have hul:=hP.ul
 refine Cn.mono (SN pl pd pt sL a q u b nu v ims A hA D hok hnu (by omega) (by omega) (by omega) hver) ?_
 rintro v Γ (⟨g1,rfl,rfl⟩|⟨g1,g2,rfl,rfl⟩|⟨g1,g2,g3,rfl,rfl⟩|⟨g1,g2,g3,k,hk,g4⟩)
 ·exact .inr (.inl ⟨16,.inl ⟨rfl,g1⟩,rfl,rfl⟩)
 ·exact .inr (.inl ⟨1,.inr (.inl ⟨rfl,g1,g2⟩),rfl,rfl⟩)
 ·exact .inr (.inl ⟨15,.inr (.inr ⟨rfl,g1,g2,by rw[←h2];exact g3⟩),rfl,rfl⟩)
 ·have g3':=g3.1
  cases b with
  | true=>rw[if_pos rfl] at g3';omega
  | false=>
   rw[if_neg (by decide)] at g3'
   have hr:1+(ims.length:Int)≤x.len - u:=by omega
   have hk':(k:Int)=min (1+(ims.length:Int)) (x.len - a):=by rw[←h2];exact hk
   have hpl:=E7 x.epoch q ims
   rw[h1,h3] at g4
   have l1:=fun i=>Dsk.wr_len D (x.start+a).toNat ((Bg x.epoch q ims).take k) i
   have l2:=fun i=>Dsk.wr_len (D.wr (x.start+a).toNat ((Bg x.epoch q ims).take k)) x.start.toNat ((Bg x.epoch q ims).drop k) i
   have o1:SameOut x D (D.wr (x.start+a).toNat ((Bg x.epoch q ims).take k)):=SameOut.one (by omega) (by rw[List.length_take,hpl];omega)
   have o2:SameOut x (D.wr (x.start+a).toNat ((Bg x.epoch q ims).take k)) ((D.wr (x.start+a).toNat ((Bg x.epoch q ims).take k)).wr x.start.toNat ((Bg x.epoch q ims).drop k)):=SameOut.one (by omega) (by rw[List.length_drop,hpl];omega)
   have hap:=hP.app hs g1 g2.1 hr hk'
   have htk:(rs++[(⟨q,ims⟩:Rc)]).take sure=rs.take sure:=List.take_append_of_le_length hP.sure
   have hnum2:∀ r∈rs++[(⟨q,ims⟩:Rc)],∀ m∈r.ims,m.num<x.pages:=fun r hr m hm=>by
    rcases List.mem_append.1 hr with hr|hr
    ·exact hS.num r hr m hm
    ·rw[List.mem_singleton.1 hr] at hm;exact hnum m hm
   rcases g4 with ⟨_,g5,rfl,rfl⟩|⟨_,g5,_,rfl,rfl⟩|⟨g5,rfl,rfl⟩|⟨_,g6,g5,rfl,rfl⟩
   ·unfold Et at hap
    rw[if_neg (by omega)] at hap
    exact .inl ⟨_,(a+(1+(ims.length:Int))) % x.len,q+1,u+(1+(ims.length:Int)),g1,g2,hS.log (Dsk.wr_n _ _ _) o1 hap htk hnum2,rfl,fun hc=>hc.wr _ _,⟨Dsk.wr_n _ _ _,fun i=>by have:=l1 i;omega⟩,rfl,rfl,rfl,by simp only[lgB,h1,h2,h3]⟩
   ·unfold Et at hap
    rw[if_pos (by omega)] at hap
    exact .inl ⟨_,(a+(1+(ims.length:Int))) % x.len,q+1,u+(1+(ims.length:Int)),g1,g2,hS.log (by rw[Dsk.wr_n,Dsk.wr_n]) (o1.trans o2) hap htk hnum2,rfl,fun hc=>(hc.wr _ _).wr _ _,⟨by rw[Dsk.wr_n,Dsk.wr_n],fun i=>by have:=l1 i;have:=l2 i;omega⟩,rfl,rfl,rfl,by simp only[lgB,h1,h2,h3]⟩
   ·exact .inr (.inr ⟨D.wf,_,fun hc=>hc.bad g5,SInv.log (D':=D.wf) hS rfl (fun _ _=>⟨rfl,rfl⟩) hP.fail0 rfl hS.num,⟨rfl,fun i=>by show (D.ver i).length≤_;omega⟩,rfl,by simp only[lgB,h1,h3]⟩)
   ·exact .inr (.inr ⟨Dsk.wf (D.wr (x.start+a).toNat ((Bg x.epoch q ims).take k)),_,fun hc=>(hc.wr _ _).bad g5,SInv.log (D':=Dsk.wf (D.wr (x.start+a).toNat ((Bg x.epoch q ims).take k))) hS (Dsk.wr_n _ _ _) o1 (hP.fail1 hs g1 g2.1 hr hk' g6) rfl hS.num,⟨Dsk.wr_n _ _ _,fun i=>by have:=l1 i;show ((D.wr (x.start+a).toNat ((Bg x.epoch q ims).take k)).ver i).length≤_;omega⟩,rfl,by simp only[lgB,h1,h3]⟩)
open Go.RowKit
def EI (x:Sup) (a q:Int):Sup:= { x with gen:=x.gen+1,head:=a,seq:=q }
theorem Pu (x:Sup) (a q:Int):(EI x a q).gen=x.gen+1∧(EI x a q).epoch=x.epoch∧(EI x a q).pages=x.pages∧(EI x a q).start=x.start∧(EI x a q).len=x.len∧(EI x a q).head=a∧(EI x a q).seq=q:=⟨rfl,rfl,rfl,rfl,rfl,rfl,rfl⟩
theorem Sup.ok_mk {s:Sup} {n:Int} (h1:0≤s.gen∧s.gen≤1099511627776) (h2:0≤s.epoch∧s.epoch≤1099511627776) (h3:16≤s.pages∧s.pages≤1024) (h4:2+s.pages≤s.start∧s.start≤1099511627776) (h5:64≤s.len∧s.len≤1099511627776) (h6:0≤s.head∧s.head<s.len) (h7:0≤s.seq∧s.seq≤1099511627776) (h8:s.start≤n - s.len∧s.len≤n):s.Ok n:=by
 refine ⟨fun y hy=> ?_,by omega,by omega,by omega,by omega,by omega,by omega,by omega⟩
 simp only[Sup.list,List.mem_cons,List.not_mem_nil,or_false] at hy
 omega
theorem HL (ps pd pt md:Nat) (x:Sup) (lp mo:Value) (un:Bool) (f:Bh) (hq:Hp) (y:Sup) (D:Dsk) (hfb:∀ n,(f n).isSome=true→n<1024) (hfn:∀ n,(f n).isSome=true→2+n<D.n) (hoky:y.Ok (D.n:Int)) (hver:∀ i,(D.ver i).length≤1000000000000):
  Cn prog 55 [Pt_ ps,.agg #[Iv_ y.gen,Iv_ y.epoch,Iv_ y.pages,Iv_ y.start,Iv_ y.len,Iv_ y.head,Iv_ y.seq]] [stB ps pd pt x lp md un mo,tblA pt,diskA pd D,pgsA md f hq,poolA hq] (fun v Γ=>(∃ ks:List Int,Ew f ks∧v=Iv_ 0∧Γ=[stB ps pd pt y lp md un mo,tblA pt,diskA pd (EG (hwD D (pgLst f ks)).fl y),pgsA md CV hq,poolA hq])∨(∃ (ks:List Int) (c:Int) (D2:Dsk),Ew f ks∧c≠0∧Ke D (pgLst f ks) c D2∧v=Iv_ c∧Γ=[stB ps pd pt x lp md un mo,tblA pt,diskA pd D2,pgsA md f hq,poolA hq])):=by
 refine Cn.mono (Td ps pd pt md x lp mo un f hq y D hfb hfn hoky hver) ?_
 rintro v Γ ⟨ks,hks,⟨h1,h2⟩|⟨c,D2,h1,h2,h3,h4⟩⟩
 ·exact .inl ⟨ks,hks,h1,h2⟩
 ·exact .inr ⟨ks,c,D2,hks,h1,h2,h3,h4⟩
theorem Q7 {D D2:Dsk} {l:List (Nat×Pg)} {c:Int} (h:Ke D l c D2):D2.n=D.n:=by
 rcases h with ⟨j,_,_,rfl⟩|⟨_,_,rfl⟩|⟨_,_,rfl⟩
 ·exact Ev _ _
 ·exact Ev _ _
 ·exact Ev _ _
theorem MU {D D2:Dsk} {l:List (Nat×Pg)} {c:Int} (hn:(l.map Prod.fst).Nodup) (h:Ke D l c D2) (i:Nat):(D2.ver i).length≤(D.ver i).length+1:=by
 rcases h with ⟨j,_,_,rfl⟩|⟨_,_,rfl⟩|⟨_,_,rfl⟩
 ·exact MF _ D i (hn.sublist ((List.take_sublist _ _).map _))
 ·exact MF _ D i hn
 ·show ([]:List (List UInt8)).length≤_;simp
theorem GN {D:Dsk} (h:∀ i,D.ver i=[]) (x:Sup) (i:Nat):(EG D x).ver i=[]:=by
 by_cases e:i=(x.gen % 2).toNat
 ·rw[e];exact (GG D x).2
 ·rw[(Eh D x i e).2];exact h i
theorem MV {b:Bool} {l u:Int} (h:(0:Int)<(if b then 0 else l - u)):b=false∧u<l:=by
 cases b with
 | true=>rw[if_pos rfl] at h;omega
 | false=>rw[if_neg (by decide)] at h;exact ⟨rfl,by omega⟩
theorem PgsIn.nil_iff {f:Bh} {es:List PgE} {clk:Nat} {hq:Hp} (h:PgsIn f es clk hq):es.length=0↔∀ n,f n=Option.none:=by
 constructor
 ·intro e n
  obtain rfl:=List.length_eq_zero_iff.1 e
  cases hf:f n with
  | none=>rfl
  | some p=>obtain ⟨e,he,_⟩:=h.all n p hf;cases he
 ·intro hf
  cases es with
  | nil=>rfl
  | cons e es=>
   have:=(h.ent e (by simp)).1
   rw[hf] at this;cases this
set_option maxHeartbeats 2000000 in
theorem MW (ps pd pt pl md:Nat) (x sL:Sup) (mo:Value) (un nu:Bool) (hq:Hp) (D:Dsk) (B:Nat→Pg) (rs:List Rc) (ptl:List (List UInt8)) (a q u:Int) (b:Bool) (sure:Nat) (hS:SInv D x B rs ptl a q u b sure) (hL:sL.start=x.start∧sL.len=x.len∧sL.epoch=x.epoch) (hqb:q≤1099511627776) (hver:∀ i,(D.ver i).length≤1000000000000):Cn prog 108 [Pt_ ps] [stB ps pd pt x (Pt_ pl) md un mo,lgB pl pd pt sL a q u b nu,tblA pt,diskA pd D,pgsA md (ov rs) hq,poolA hq] (fun v Γ=>((∀ n,ov rs n=none)∧b=false∧u<x.len∧v=Iv_ 0∧Γ=[stB ps pd pt x (Pt_ pl) md un mo,lgB pl pd pt sL a q u b nu,tblA pt,diskA pd D,pgsA md (ov rs) hq,poolA hq])∨(∃ D2:Dsk,¬ ((∀ n,ov rs n=none)∧b=false∧u<x.len)∧SInv D2 (EI x a q) (pgMap (ov rs) B) [] [] a q 0 false 0∧(Clean D→Clean D2)∧D2.n=D.n∧(∀ i,D2.ver i=[])∧v=Iv_ 0∧Γ=[stB ps pd pt (EI x a q) (Pt_ pl) md un mo,lgB pl pd pt sL a q 0 false nu,tblA pt,diskA pd D2,pgsA md CV hq,poolA hq])∨(∃ (c:Int) (D2:Dsk) (sure2:Nat),c≠0∧(¬ Clean D∨1099511627776<x.gen+1)∧(SInv D2 x B rs ptl a q u b sure2∧sure≤sure2)∧D2.n=D.n∧(∀ i,(D2.ver i).length≤(D.ver i).length+1)∧v=Iv_ c∧Γ=[stB ps pd pt x (Pt_ pl) md un mo,lgB pl pd pt sL a q u b nu,tblA pt,diskA pd D2,pgsA md (ov rs) hq,poolA hq])):=by
 intro z R w H;replace H:=H.l6;have hok:=hS.ok
 have hsg:=Sup.get hok
 have hk2:=hok.2
 have hP:=hS.p
 have hpa:=hP.at_ok hS.s
 have hul:=hP.ul
 have hfu:=hP.fu
 have hgen:=hS.gen
 have hfq:=hP.fq
 have hsq:=hS.s.seq
 have hq0:0≤q:=by split at hfq<;>omega
 have hhd:=hS.s.head
 have hfbb:∀ n,(ov rs n).isSome=true→n<1024:=fun n h=>by have:=hS.ovb h;omega
 have hfnn:∀ n,(ov rs n).isSome=true→2+n<D.n:=fun n h=>by have:=hS.ovb h;omega
 have hn2d:=H.says 3 rfl (fun h q=>(diskA.ok q).n2)
 have hsLl:=hL.2.1
 have hcy:=Pu x a q
 obtain ⟨es,clk,hpg,H⟩:=H.pgs 4 rfl;replace H:=H.l6;refine Ad func108 rfl ntmps108 rfl (Z2 12 [10,0,0] H rfl (Ac rfl (Mi (e:=79) rfl (by kernel_rfl) rfl (AB (H.bk 4 rfl))) (Z0 2 [0] rfl (Ak 12 rfl (fun h1=> ?_) (fun h1=> ?_)))))
 ·refine Z2 4 [9,0,0] H rfl (z_E_ rfl (call152 _) (QR _ _ _ _ _ _ _ _ _ (by omega)) H.f1 ?_);intro w H;refine Z0 4 [0] rfl (Af rfl (fun h2=> ?_) (fun h2=> ?_))
  ·refine Zc 6 rfl (Zr rfl ?_);replace H:=(H.toPgs 4 rfl hpg).l6
   have hn0:=hpg.nil_iff.1 (by simpa using h1)
   exact ⟨_,.inl ⟨hn0,(MV h2).1,by have:=(MV h2).2;omega,rfl,rfl⟩,H.perm 6 [1,0,2,3,4,5] rfl rfl⟩
  ·refine Za 8 [2,1,7] H rfl ?_;intro b1 w H;refine Z5 18 [0,0,0,0,0,0,9,2,0] [x.gen+1] H rfl (by omega) ?_;intro w H;refine z_E_ rfl (call153 _) (QS _ _ _ _ _ _ _ _ _) H.f1 ?_;intro w H;refine Z4 17 [5,1,6,1,0,1,0,0] H rfl ?_;intro w H;refine Af rfl (fun h3=> ?_) (fun h3=> ?_)
   ·refine Zc 6 rfl (Zr rfl ?_);replace H:=(H.toPgs 5 rfl hpg).l7
    exact ⟨_,.inr (.inr ⟨_,D,sure,by decide,.inr (by omega),⟨hS,Nat.le_refl _⟩,rfl,fun i=>by omega,rfl,rfl⟩),H.perm 7 [2,0,3,4,5,6] rfl rfl⟩
   ·refine Zc 4 rfl ?_;have hoky:(EI x a q).Ok (D.n:Int):=Sup.ok_mk (by omega) (by omega) (by omega) (by omega) (by omega) (by omega) (by omega) (by omega)
    refine Z2 5 [0,2,0] H rfl (Aw rfl (call89 _) (GK _ _) H.f4 ?_);rintro _ w _ (⟨hfb_,rfl,rfl⟩|⟨hfb_,rfl,rfl⟩) H'
    ·have H:=H'.l7;refine Z0 17 [3] rfl (Zr rfl ?_);replace H:=(H.toPgs 5 rfl hpg).l7
     exact ⟨_,.inr (.inr ⟨_,_,sure,by decide,.inl (fun hc=>hc.flb hfb_),⟨SInv.f (D':= { D with f3:=AY D.f3 }) hS rfl rfl rfl,Nat.le_refl _⟩,rfl,fun i=>by show (D.ver i).length≤_;omega,rfl,rfl⟩),H.perm 7 [3,1,4,0,5,6] rfl rfl⟩
    ·have H:=H'.l7;refine Z0 14 [4] rfl ?_;replace H:=(H.toPgs 5 rfl hpg).l7
     refine Z2 3 [2,7] H rfl (Aw rfl (call55 _) (HL _ _ _ _ _ _ _ _ (ov rs) _ (EI x a q) D.fl hfbb hfnn hoky (fun i=>by show ([]:List (List UInt8)).length≤_;simp)) H.f6.f6.f2.f6.f6 ?_);rintro _ w _ (⟨ks,hks,rfl,rfl⟩|⟨ks,c,D2,hks,hcne,hsf,rfl,rfl⟩) H'
     ·have H:=H'.l7;refine Z2 18 [4,9,0,0] H rfl (z_E_ rfl (call154 _) (QT _ _ _ _ _ _ _ _ _) H.f5 ?_);intro w H;refine Zc 8 rfl (Zr rfl ?_);exact ⟨_,.inr (.inl ⟨_,(fun e=>by first|exact h1 (by have:=hpg.nil_iff.2 e.1;simpa using this)|exact h2 (by rw[e.2.1];simp;omega)),hS.flush.settled hks (by omega) hoky rfl rfl rfl rfl rfl rfl rfl,fun hc=>((hc.fl.hw _).fl).sv _,by show (hwD _ _).n=_;exact Ev _ _,GN (fun _=>rfl) _,rfl,rfl⟩),H.perm 7 [1,0,2,3,4,5] rfl rfl⟩
     ·have H:=H'.l7;refine Z0 9 [0] rfl (Af rfl (fun h4=> ?_) (fun h4=> ?_))
      ·refine Zc 7 rfl (Zr rfl ?_);exact ⟨_,.inr (.inr ⟨_,D2,rs.length,hcne,.inl (fun hc=>hc.fl.setF hsf),⟨hS.flush.setF hks hsf,hP.sure⟩,Q7 (D:=D.fl) hsf,fun i=>by have:=MU (Ei hks) hsf i;have h0:(D.fl.ver i).length=0:=rfl;omega,rfl,rfl⟩),H.perm 7 [0,5,1,2,3,4] rfl rfl⟩
      ·exact absurd hcne h4
 ·refine Za 18 [2,0,7] H rfl ?_;intro b2 w H;refine Z5 18 [0,0,0,0,0,0,9,1,0] [x.gen+1] H rfl (by omega) ?_;intro w H;refine z_E_ rfl (call153 _) (QS _ _ _ _ _ _ _ _ _) H.f2 ?_;intro w H;refine Z4 17 [5,1,6,1,0,1,0,0] H rfl ?_;intro w H;refine Af rfl (fun h5=> ?_) (fun h5=> ?_)
  ·refine Zc 6 rfl (Zr rfl ?_);replace H:=(H.toPgs 5 rfl hpg).l7
   exact ⟨_,.inr (.inr ⟨_,D,sure,by decide,.inr (by omega),⟨hS,Nat.le_refl _⟩,rfl,fun i=>by omega,rfl,rfl⟩),H.perm 7 [2,0,3,4,5,6] rfl rfl⟩
  ·refine Zc 4 rfl ?_;have hoky:(EI x a q).Ok (D.n:Int):=Sup.ok_mk (by omega) (by omega) (by omega) (by omega) (by omega) (by omega) (by omega) (by omega)
   refine Z2 5 [0,2,0] H rfl (Aw rfl (call89 _) (GK _ _) H.f4 ?_);rintro _ w _ (⟨hfb_,rfl,rfl⟩|⟨hfb_,rfl,rfl⟩) H'
   ·have H:=H'.l7;refine Z0 17 [3] rfl (Zr rfl ?_);replace H:=(H.toPgs 5 rfl hpg).l7
    exact ⟨_,.inr (.inr ⟨_,_,sure,by decide,.inl (fun hc=>hc.flb hfb_),⟨SInv.f (D':= { D with f3:=AY D.f3 }) hS rfl rfl rfl,Nat.le_refl _⟩,rfl,fun i=>by show (D.ver i).length≤_;omega,rfl,rfl⟩),H.perm 7 [3,1,4,0,5,6] rfl rfl⟩
   ·have H:=H'.l7;refine Z0 14 [4] rfl ?_;replace H:=(H.toPgs 5 rfl hpg).l7
    refine Z2 3 [2,7] H rfl (Aw rfl (call55 _) (HL _ _ _ _ _ _ _ _ (ov rs) _ (EI x a q) D.fl hfbb hfnn hoky (fun i=>by show ([]:List (List UInt8)).length≤_;simp)) H.f6.f6.f2.f6.f6 ?_);rintro _ w _ (⟨ks,hks,rfl,rfl⟩|⟨ks,c,D2,hks,hcne,hsf,rfl,rfl⟩) H'
    ·have H:=H'.l7;refine Z2 18 [4,9,0,0] H rfl (z_E_ rfl (call154 _) (QT _ _ _ _ _ _ _ _ _) H.f5 ?_);intro w H;refine Zc 8 rfl (Zr rfl ?_);exact ⟨_,.inr (.inl ⟨_,(fun e=>by first|exact h1 (by have:=hpg.nil_iff.2 e.1;simpa using this)|exact h2 (by rw[e.2.1];simp;omega)),hS.flush.settled hks (by omega) hoky rfl rfl rfl rfl rfl rfl rfl,fun hc=>((hc.fl.hw _).fl).sv _,by show (hwD _ _).n=_;exact Ev _ _,GN (fun _=>rfl) _,rfl,rfl⟩),H.perm 7 [1,0,2,3,4,5] rfl rfl⟩
    ·have H:=H'.l7;refine Z0 9 [0] rfl (Af rfl (fun h6=> ?_) (fun h6=> ?_))
     ·refine Zc 7 rfl (Zr rfl ?_);exact ⟨_,.inr (.inr ⟨_,D2,rs.length,hcne,.inl (fun hc=>hc.fl.setF hsf),⟨hS.flush.setF hks hsf,hP.sure⟩,Q7 (D:=D.fl) hsf,fun i=>by have:=MU (Ei hks) hsf i;have h0:(D.fl.ver i).length=0:=rfl;omega,rfl,rfl⟩),H.perm 7 [0,5,1,2,3,4] rfl rfl⟩
     ·exact absurd hcne h6
open Go.RowKit
def BZ (g:Bh) (ks:List Int):List Img:=ks.map fun k=>⟨k,((g k.toNat).getD noPg).kind,((g k.toNat).getD noPg).body⟩
theorem Pv (g:Bh) (ks:List Int):(BZ g ks).length=ks.length:=by simp[BZ]
theorem NI {g:Bh} {ks:List Int} {j n:Nat} {p:Pg} (hj:ks[j]? =some (n:Int)) (hg:g n=some p):(BZ g ks).take j++[(⟨(n:Int),p.kind,p.body⟩:Img)]=(BZ g ks).take (j+1):=by
 rw[List.take_add_one]
 congr 1
 unfold BZ
 rw[List.getElem?_map,hj]
 simp[hg]
theorem PgsIn.okp {f:Bh} {es:List PgE} {clk:Nat} {hq:Hp} (h:PgsIn f es clk hq) {n:Nat} {p:Pg} (hp:f n=some p):p.Ok:=by
 obtain ⟨e,he,hn⟩:=h.all n p hp
 obtain ⟨h1,h2,_⟩:=h.ent e he
 rw[hn,hp] at h1
 cases h1;exact h2
theorem KT {g:Bh} {ks:List Int} (h:Ew g ks) (hg:∀ n p,g n=some p→p.Ok) (hb:∀ n,(g n).isSome=true→n<1024):D7 (BZ g ks):=by
 have hmem:∀ k∈ks,∃ p,g k.toNat=some p∧0≤k∧k<1024:=fun k hk=>by
  obtain ⟨h1,h2⟩:=(h.2 k).1 hk
  obtain ⟨p,hp⟩:=Option.isSome_iff_exists.1 h2
  have:=hb _ h2
  exact ⟨p,hp,h1,by omega⟩
 refine ⟨fun m hm=> ?_,?_⟩
 ·obtain ⟨k,hk,rfl⟩:=List.mem_map.1 hm
  obtain ⟨p,hp,h1,h2⟩:=hmem k hk
  have:=hg _ p hp
  simp only[hp,Option.getD_some]
  exact ⟨⟨h1,by dsimp only;omega⟩,this.1,this.2⟩
 ·unfold BZ
  rw[List.map_map]
  refine List.pairwise_map.2 (h.1.imp fun hab=> ?_)
  simp only[Function.comp_apply];omega
theorem Pw {g:Bh} {ks:List Int} {b:Int} (h:Ew g ks) (hb:∀ n,(g n).isSome=true→(n:Int)<b):∀ m∈BZ g ks,m.num<b:=fun m hm=>by
 obtain ⟨k,hk,rfl⟩:=List.mem_map.1 hm
 obtain ⟨h1,h2⟩:=(h.2 k).1 hk
 have:=hb _ h2
 dsimp only;omega
theorem Q8 {c:Int} {ims:List Img} {room:Prop} (h:UE c ims room) (h1:1≤ims.length∧ims.length≤40) (h2:D7 ims):c=15∧¬ room:=by
 rcases h with ⟨_,h⟩|⟨_,_,rfl|h⟩|⟨rfl,_,_,h⟩
 ·omega
 ·simp at h1
 ·exact absurd h2 h
 ·exact ⟨rfl,h⟩
theorem V6 (ims:List Img):∀ (f:Bh) (n:Nat),(ims.map Img.num).Nodup→(∀ m∈ims,0≤m.num)→Eb f ims n=((ims.find? fun m=>decide (m.num=(n:Int))).map F0).or (f n):=by
 induction ims with
 | nil=>intro f n _ _;rfl
 | cons m ims ih=>
  intro f n hn hp
  simp only[List.map_cons,List.nodup_cons] at hn
  have:Eb f (m::ims)=Eb (pgSet f m.num.toNat (F0 m)) ims:=rfl
  rw[this,ih _ _ hn.2 (fun m' hm=>hp m' (by simp[hm])),List.find?_cons]
  have hm0:=hp m (by simp)
  by_cases e:m.num=(n:Int)
  ·have hno:(ims.find? fun m=>decide (m.num=(n:Int)))=none:=by
    rw[List.find?_eq_none]
    intro m' hm' e'
    exact hn.1 (List.mem_map.2 ⟨m',hm',by simp at e';omega⟩)
   rw[hno]
   simp[e,pgSet]
  ·have:¬ n=m.num.toNat:=by omega
   simp[e,pgSet,this]
theorem Px {f g:Bh} {ks:List Int} (h:Ew g ks) (hr:D7 (BZ g ks)):Eb f (BZ g ks)=Gq f g:=by
 funext n
 rw[V6 _ _ _ hr.2 (fun m hm=>(hr.1 m hm).1.1)]
 unfold Gq
 congr 1
 cases hg:g n with
 | some p=>
  have hk:(n:Int)∈ks:=(h.2 _).2 ⟨by omega,by rw[Int.toNat_natCast,hg];rfl⟩
  cases hf:(BZ g ks).find? fun m=>decide (m.num=(n:Int)) with
  | none=>
   rw[List.find?_eq_none] at hf
   exact absurd (by simp) (hf _ (List.mem_map.2 ⟨(n:Int),hk,rfl⟩))
  | some m=>
   have h1:=List.find?_some hf
   obtain ⟨k,hk2,rfl⟩:=List.mem_map.1 (List.mem_of_find?_eq_some hf)
   simp only[decide_eq_true_eq] at h1
   subst h1
   simp[hg,F0]
 | none=>
  have hf:((BZ g ks).find? fun m=>decide (m.num=(n:Int)))=none:=by
   rw[List.find?_eq_none]
   intro m hm e
   obtain ⟨k,hk2,rfl⟩:=List.mem_map.1 hm
   simp only[decide_eq_true_eq] at e
   subst e
   have:=((h.2 _).1 hk2).2
   rw[Int.toNat_natCast,hg] at this;cases this
  rw[hf];rfl
theorem V7 {rs:List Rc} (h:∀ n,ov rs n=none) (hr:∀ (j:Nat) (r:Rc),rs[j]? =some r→1≤r.ims.length):rs=[]:=by
 cases rs with
 | nil=>rfl
 | cons r rs=>
  exfalso
  have h1:=hr 0 r rfl
  have h2:(ov [r] ((r.ims[0]'(by omega)).num.toNat)).isSome=true:=by
   show (Eb CV r.ims _).isSome=true
   rw[Oh]
   simp only[CV,Option.isSome_none,Bool.false_or,List.any_eq_true]
   exact ⟨r.ims[0]'(by omega),List.getElem_mem _,by simp⟩
  have h3:=Fw rs [r] h2
  rw[show [r]++rs=r::rs from rfl,h] at h3
  cases h3
set_option maxHeartbeats 4000000 in
theorem Q9 (ps pd pt pl md mo:Nat) (x sL:Sup) (un nu:Bool) (hq:Hp) (g:Bh) (k:Nat) (D:Dsk) (B:Nat→Pg) (rs:List Rc) (ptl:List (List UInt8)) (a q u:Int) (b:Bool) (sure:Nat) (hS:SInv D x B rs ptl a q u b sure) (hL:sL.start=x.start∧sL.len=x.len∧sL.epoch=x.epoch) (hokL:sL.Ok (D.n:Int)) (hnu:nu=decide (sL.epoch<4294967296)) (hqb:q<1099511627775) (hver:∀ i,(D.ver i).length≤1000000000000) (hgb:∀ n,(g n).isSome=true→(n:Int)<x.pages) (hk:1≤k∧k≤40):Cn prog 67 [Pt_ ps] [stB ps pd pt x (Pt_ pl) md un (.map (some mo)),lgB pl pd pt sL a q u b nu,tblA pt,diskA pd D,pgsA md (ov rs) hq,DQ mo g k hq,poolA hq] (fun v Γ=>(∃ (ks:List Int) (hq2:Hp) (D2:Dsk) (x2:Sup) (B2:Nat→Pg) (rs0:List Rc) (a2 u2:Int) (sure2:Nat),Ew g ks∧Ck hq hq2∧SInv D2 x2 B2 (rs0++[⟨q,BZ g ks⟩]) [] a2 (q+1) u2 false sure2∧pgMap (ov rs0) B2=pgMap (ov rs) B∧(x2=x∨x2=EI x a q)∧(Clean D→Clean D2)∧(D2.n=D.n∧∀ i,(D2.ver i).length≤(D.ver i).length+2)∧v=Iv_ 0∧Γ=[stB ps pd pt x2 (Pt_ pl) md un (.map (some mo)),lgB pl pd pt sL a2 (q+1) u2 false nu,tblA pt,diskA pd D2,pgsA md (ov rs0) hq2,DQ mo g k hq2,poolA hq2])∨(∃ (c:Int) (hq2:Hp) (D2:Dsk) (x2:Sup) (B2:Nat→Pg) (rs2:List Rc) (ptl2:List (List UInt8)) (a2 q2 u2:Int) (b2:Bool) (sure2:Nat),c≠0∧(¬ Clean D∨1099511627776<x.gen+1)∧Ck hq hq2∧SInv D2 x2 B2 rs2 ptl2 a2 q2 u2 b2 sure2∧pgMap (ov rs2) B2=pgMap (ov rs) B∧(x2=x∨x2=EI x a q)∧(D2.n=D.n∧∀ i,(D2.ver i).length≤(D.ver i).length+2)∧(q≤q2∧q2≤q+1)∧v=Iv_ c∧Γ=[stB ps pd pt x2 (Pt_ pl) md un (.map (some mo)),lgB pl pd pt sL a2 q2 u2 b2 nu,tblA pt,diskA pd D2,pgsA md (ov rs2) hq2,DQ mo g k hq2,poolA hq2])):=by
 intro z R w H;replace H:=H.l7;have hok:=hS.ok
 have hsg:=Sup.get hok
 have hk2:=hok.2
 have hP:=hS.p
 have hpa:=hP.at_ok hS.s
 have hul:=hP.ul
 have hfu:=hP.fu
 have hgen:=hS.gen
 have hfq:=hP.fq
 have hsq:=hS.s.seq
 have hq0:0≤q:=by split at hfq<;>omega
 have hhd:=hS.s.head
 have hfbb:∀ n,(ov rs n).isSome=true→n<1024:=fun n h=>by have:=hS.ovb h;omega
 have hfnn:∀ n,(ov rs n).isSome=true→2+n<D.n:=fun n h=>by have:=hS.ovb h;omega
 have hn2d:=H.says 3 rfl (fun h q=>(diskA.ok q).n2)
 have hsLl:=hL.2.1
 have hcy:=Pu x a q
 obtain ⟨eso,clko,hpgo,hcno,H⟩:=H.pgsc 5 rfl;replace H:=H.l7;have hsz:eso.length≤1099511627776:=by omega
 refine Ad func67 rfl ntmps67 rfl (Z2 17 [12,0,0] H rfl (Aw rfl (call106 _) (Or _) H ?_));rintro _ w _ ⟨bb,rfl,rfl⟩ H;replace H:=H.l8;have hmm:∀ h:IE→Nat,(eso.map PgE.ie).map h=eso.map fun e=>h e.ie:=fun h=>by simp
 refine Aw rfl (call105 _) (KR _ _ _ _ (fun p hp=>by obtain ⟨e,he,rfl⟩:=List.mem_map.1 hp;exact hpgo.clk e he) (by rw[hmm];exact hpgo.born) (by simp;exact hsz)) H.f6.f1 ?_;rintro v2 w _ ⟨s,hs,rfl⟩ H;replace H:=H.l9;have hks:Ew g ((s.map fun p:IE=>p.1).mergeSort (fun x y=>decide (x≤y))):=hpgo.keys hs
 have hlq:((s.map fun p:IE=>p.1).mergeSort (fun x y=>decide (x≤y))).length=k:=by simp[hs.length_eq,hcno]
 obtain ⟨ks,hkd⟩:∃ ks:List Int,((s.map fun p:IE=>p.1).mergeSort (fun x y=>decide (x≤y)))=ks:=⟨_,rfl⟩;rw[hkd] at H hks hlq;clear hkd hs;have H:Sep z (grow 3 1 v2 ks.length (ks.map Iv_)::blk bb [.map (some mo)] 101::Ay mo (eso.map PgE.ie) clko::stB ps pd pt x (Pt_ pl) md un (.map (some mo))::lgB pl pd pt sL a q u b nu::tblA pt::diskA pd D::pgsA md (ov rs) hq::poolA hq::R) w:=H
 have sv2:=H.says 0 rfl (fun h q=>q.slc)
 have hksm:=H.says 0 rfl (fun h q=>q.rd.small)
 obtain ⟨ao3,c3,rfl⟩:=sv2;have H:Sep z (grow 3 1 (.slice ao3 ks.length c3) ks.length (ks.map Iv_)::blk bb [.map (some mo)] 101::Ay mo (eso.map PgE.ie) clko::stB ps pd pt x (Pt_ pl) md un (.map (some mo))::lgB pl pd pt sL a q u b nu::tblA pt::diskA pd D::pgsA md (ov rs) hq::poolA hq::R) w:=H
 replace H:=(H.nilg 116 3).l10
 have hil:=Pv g ks
 have hgok:∀ n p,g n=some p→p.Ok:=fun n p h=>hpgo.okp h
 have hgb2:∀ n,(g n).isSome=true→n<1024:=fun n h=>by have:=hgb n h;omega
 have hrec:D7 (BZ g ks):=KT hks hgok hgb2
 have hnumI:=Pw hks hgb
 have hik:1≤(BZ g ks).length∧(BZ g ks).length≤40:=by omega
 refine Zc 5 rfl ?_;refine AJ (σ:=Nat×Value×List ImE) (fun ⟨j,v1,ie⟩=>[(15,Iv_ (j:Int)),(3,v1),(0,Pt_ ps),(2,Iv_ 0),(13,.slice ao3 ks.length c3),(14,Iv_ (ks.length:Int))])
   (fun ⟨j,v1,ie⟩ w=>Sep z (grow 116 3 v1 j (Fy ie)::grow 3 1 (.slice ao3 ks.length c3) ks.length (ks.map Iv_)::blk bb [.map (some mo)] 101::Ay mo (eso.map PgE.ie) clko::stB ps pd pt x (Pt_ pl) md un (.map (some mo))::lgB pl pd pt sL a q u b nu::tblA pt::diskA pd D::pgsA md (ov rs) hq::poolA hq::R) w∧(j≤ks.length∧ie.map Prod.fst=(BZ g ks).take j∧imesOk ie hq)) (fun ⟨j,v1,ie⟩=>ks.length - j) ⟨0,.slice none 0 0,[]⟩
   (fun _ hF=>(hF.co rfl (by go_num) (hF.co rfl (by go_num) (hF.all rfl)))) ⟨H,by omega,rfl,fun e he=>absurd he (by simp)⟩ ?_
 clear H;rintro ⟨j,v1,ie⟩ w ⟨H',hI⟩;dsimp only at hI H' ⊢
 have H:=H'.l10;have sv1:=H.says 0 rfl (fun h q=>q.slc)
 obtain ⟨hjn,hies,hiok⟩:=hI;refine Z0 6 [0] rfl (Af rfl (fun h1=> ?_) (fun h1=> ?_))
 ·have hjlt:j<ks.length:=by omega
  refine Zc 6 rfl ?_;obtain ⟨x,hx⟩:∃ x,ks[j]? =some x:=⟨_,List.getElem?_eq_getElem (by omega)⟩;obtain ⟨hx0,hxs⟩:=(hks.2 x).1 (List.mem_of_getElem? hx);obtain ⟨n,rfl⟩:∃ n:Nat,x=(n:Int):=⟨x.toNat,by omega⟩;rw[Int.toNat_natCast] at hxs;obtain ⟨p,pv,hfp,hpok,hpr,hgm⟩:∃ (p:Pg) (v:Value),g n=some p∧p.Ok∧rdH 1 v 240 (p.body.map u8) hq∧Cl (eso.map PgE.ie) (n:Int)=some (.agg #[Iv_ p.kind,v]):=by
    rcases hpgo.get n with ⟨q,_⟩|q
    · rw[q] at hxs;cases hxs
    · exact q
  have spv:Slc pv 240:=hpr.slc
  have hat3:=(H.rd 1 rfl (fun h q=>q.rd)).at (j:=j) (u:=Iv_ (n:Int)) (by simp[hx])
  refine Ac rfl (AD rfl (z:=1) (j:=j) (r:=j) (by kernel_rfl) rfl rfl rfl (by omega) hat3 (by omega)) (Ac rfl (AR rfl rfl (by kernel_rfl) (AB hat3)) (Z2 11 [12,4,0] H rfl (Ac rfl (E5 (e:=79) (zv:= .agg #[Iv_ 0,.slice none 0 0]) rfl (by kernel_rfl) (by kernel_rfl) rfl rfl (AB (H.bk 3 rfl))) (Al 26 (v:= .agg #[Iv_ p.kind,pv]) rfl (by rw[hgm];rfl) (Ac rfl (AF rfl rfl (out:=[Iv_ (n:Int),Iv_ p.kind,pv]) (by kernel_rfl)) (AL rfl (AV H rfl (by kernel_rfl) CU rfl (by decide) (by decide) (out:=[Iv_ (n:Int),Iv_ p.kind,pv]) (by kernel_rfl)) ?_))))));rintro _ w ⟨b1,rfl,H⟩;replace H:=H.l11;refine AL rfl (Bb 1 H rfl rfl (by kernel_rfl) CU rfl rfl (H.rd 0 rfl (fun h q=>q.rd (by omega) (by omega) (by simp) rfl)) (Ab rfl (Ab rfl (Ab spv.one Ar))) (by omega)) ?_;rintro v2 w H';have H':Sep z (blk b1 [Iv_ (n:Int),Iv_ p.kind,pv] 116::grow 116 3 v2 (j+1) (Fy ie++[Iv_ (n:Int),Iv_ p.kind,pv])::grow 3 1 (.slice ao3 ks.length c3) ks.length (ks.map Iv_)::blk bb [.map (some mo)] 101::Ay mo (eso.map PgE.ie) clko::stB ps pd pt x (Pt_ pl) md un (.map (some mo))::lgB pl pd pt sL a q u b nu::tblA pt::diskA pd D::pgsA md (ov rs) hq::poolA hq::R) w:=H'
  have ev2:(Fy ie++[Iv_ (n:Int),Iv_ p.kind,pv]:List Value)=Fy (ie++[(⟨(n:Int),p.kind,p.body⟩,pv)]):=Mx ie (⟨(n:Int),p.kind,p.body⟩,pv)
  rw[ev2] at H';have H:=H'.l11;have sv2:=H.says 1 rfl (fun h q=>q.slc)
  refine Z1 8 [] [(j:Int)+1] rfl (by omega) ?_;replace H:=H.d;refine gf ?_;intro _ hF;refine ⟨⟨j+1,v2,ie++[(⟨(n:Int),p.kind,p.body⟩,pv)]⟩,(hF.co rfl (by go_num) (hF.all rfl)),⟨H,?_⟩,?_⟩
  ·dsimp only
   refine ⟨by omega,by rw[List.map_append,hies,←NI hx hfp];rfl,fun e he=> ?_⟩;rcases List.mem_append.1 he with q|q
   ·exact hiok e q
   ·rw[List.mem_singleton.1 q];show rdH 1 pv p.body.length _ _;rw[hpok.2];exact hpr
  ·(dsimp only;omega)
 ·obtain rfl:j=ks.length:=by omega
  refine Zc 2 rfl (gx (Zc 3 rfl ?_));replace H:=H.f9;obtain ⟨hq2,⟨shq2,hrd2⟩,H⟩:=Dn H (fun h q=>q.rd);replace H:=H.l9;have hies2:ie.map Prod.fst=BZ g ks:=by rw[hies];exact List.take_of_length_le (by omega)
  have him:imgsH v1 (BZ g ks) hq2:=⟨ie,hies2,by rw[hil];exact hrd2,hiok.le shq2⟩
  replace H:=(H.mono 8 (B:=pgsA md (ov rs) hq2) rfl (pgsA.le shq2)).l9
  have hnut:nu=true:=by rw[hnu];have:=hS.s.epoch;simp;omega
  refine Z2 6 [9,4,0] H rfl (Aw rfl (call107 _) (KS _ _ _ sL x _ _ (BZ g ks) _ (fun h q=>him.le q) D hS hnumI hL.1 hL.2.1 hL.2.2 hokL hnu ⟨hq0,by omega⟩ hver) H.f7.f7.f7 ?_);rintro _ w _ (⟨Da,a3,q3,u3,hl1,hrk,hS3,hbf,hcl3,hDa,hq3,hu3,rfl,rfl⟩|⟨cq,hcode,hv,rfl⟩|⟨Df,ptl2,hncl,hS3,hDf,rfl,rfl⟩) H'
  ·have H:=H'.l9;subst hq3;subst hu3;refine Z0 18 [3] rfl (Zr rfl ?_);replace H:=(H.toPgsc 6 rfl (hpgo.le shq2) hcno).l9
   subst hbf;exact ⟨_,.inl ⟨ks,hq2,Da,x,B,rs,a3,_,sure,hks,shq2,hS3,rfl,.inl rfl,hcl3,hDa,rfl,rfl⟩,H.perm 9 [7,0,1,2,8,6,3] rfl rfl⟩
  ·have H:=H'.l9;obtain ⟨hc15,hnr⟩:=Q8 hcode hik hrec;subst hc15;subst hv;refine Z0 16 [4] rfl (Aw rfl (call108 _) (MW _ _ _ _ _ _ _ _ _ _ _ _ _ _ _ _ _ _ _ _ hS hL (by omega) hver) H.f3.f8.f4.f4.f4.f8 ?_);rintro _ w _ (⟨hn0,hbf,hu64,rfl,rfl⟩|⟨D2,hne2,hS2,hcl2,hDn2,hv2,rfl,rfl⟩|⟨c3_,D2,sure2,hcne,hwhy,⟨hS2,hsu2⟩,hDn2,hvl2,rfl,rfl⟩) H'
   ·(obtain rfl:=V7 hn0 (fun j r h=>(hP.recs j r h).2.1.1);exact absurd ⟨by rw[hbf,if_neg (by decide)];have hu0:u=0:=hfu;omega,hnut,by omega⟩ hnr)
   ·have H:=H'.l9;refine Z2 23 [3,9,0,0] H rfl (Aw rfl (call107 _) (KS _ _ _ sL (EI x a q) _ _ (BZ g ks) _ (fun h q=>him.le q) D2 hS2 hnumI hL.1 hL.2.1 hL.2.2 (by rw[hDn2];exact hokL) hnu ⟨hq0,by omega⟩ (fun i=>by rw[hv2];simp)) H.f5.f4.f4.f4 ?_);rintro _ w _ (⟨Da,a3,q3,u3,hl1,hrk,hS3,hbf,hcl3,hDa,hq3,hu3,rfl,rfl⟩|⟨cq,hcode,hv,rfl⟩|⟨Df,ptl2,hncl,hS3,hDf,rfl,rfl⟩) H'
    ·have H:=H'.l9;subst hq3;subst hu3;refine Zc 4 rfl (Zr rfl ?_);replace H:=(H.toPgsc 8 rfl (hpgo.le shq2) hcno).l9
     exact ⟨_,.inl ⟨ks,hq2,Da,_,_,[],a3,_,0,hks,shq2,hS3,rfl,.inr rfl,fun hc=>hcl3 (hcl2 hc),⟨hDa.1.trans hDn2,fun i=>by have h1:=hDa.2 i;rw[hv2] at h1;simp at h1;omega⟩,rfl,rfl⟩,H.perm 9 [4,0,1,2,5,8,3] rfl rfl⟩
    ·exact absurd ⟨by rw[if_neg (by decide)];have:=hcy.2.2.2.2.1;omega,hnut,by omega⟩ (Q8 hcode hik hrec).2
    ·have H:=H'.l9;refine Zc 4 rfl (Zr rfl ?_);replace H:=(H.toPgsc 8 rfl (hpgo.le shq2) hcno).l9
     exact ⟨_,.inr ⟨_,hq2,Df,_,_,[],ptl2,a,q+1,0,true,0,by decide,.inl (fun hc=>hncl (hcl2 hc)),shq2,hS3,rfl,.inr rfl,⟨hDf.1.trans hDn2,fun i=>by have h1:=hDf.2 i;rw[hv2] at h1;simp at h1;omega⟩,by omega,rfl,rfl⟩,H.perm 9 [4,0,1,2,5,8,3] rfl rfl⟩
   ·have H:=H'.l9;refine Z0 15 [0] rfl (Af rfl (fun h2=> ?_) (fun h2=> ?_))
    ·exact absurd h2 hcne
    ·refine Z0 6 [0] rfl (Af rfl (fun h3=> ?_) (fun h3=> ?_))
     ·refine Zc 6 rfl (Zr rfl ?_);replace H:=(H.toPgsc 8 rfl (hpgo.le shq2) hcno).l9
      exact ⟨_,.inr ⟨_,hq2,D2,x,B,rs,ptl,a,q,u,b,sure2,by first|decide|exact hcne,hwhy,shq2,hS2,rfl,.inl rfl,⟨hDn2,fun i=>by have:=hvl2 i;omega⟩,by omega,rfl,rfl⟩,H.perm 9 [0,1,2,3,4,8,5] rfl rfl⟩
     ·refine Zc 7 rfl (Zr rfl ?_);replace H:=(H.toPgsc 8 rfl (hpgo.le shq2) hcno).l9
      exact ⟨_,.inr ⟨_,hq2,D2,x,B,rs,ptl,a,q,u,b,sure2,by first|decide|exact hcne,hwhy,shq2,hS2,rfl,.inl rfl,⟨hDn2,fun i=>by have:=hvl2 i;omega⟩,by omega,rfl,rfl⟩,H.perm 9 [0,1,2,3,4,8,5] rfl rfl⟩
  ·have H:=H'.l9;refine Z0 18 [3] rfl (Zr rfl ?_);replace H:=(H.toPgsc 6 rfl (hpgo.le shq2) hcno).l9
   exact ⟨_,.inr ⟨_,hq2,Df,x,B,rs,ptl2,a,q+1,u,true,sure,by decide,.inl hncl,shq2,hS3,rfl,.inl rfl,hDf,by omega,rfl,rfl⟩,H.perm 9 [7,0,1,2,8,6,3] rfl rfl⟩
open Go.RowKit
def HM (f g:Bh) (S:List IE):Bh:=fun i=>if (i:Int)∈S.map (fun p:IE=>p.1) then g i else f i
theorem Ti (f g:Bh):HM f g []=f:=by funext i;simp[HM]
theorem Ra {f g:Bh} {S:List IE} {n:Nat} {p:Pg} {q:IE} (hq:q.1=(n:Int)) (hg:g n=some p):HM f g (S++[q])=pgSet (HM f g S) n p:=by
 funext i
 unfold HM pgSet
 simp only[List.map_append,List.map_cons,List.map_nil,List.mem_append,List.mem_singleton,hq]
 by_cases h:i=n
 ·subst h;simp[hg]
 ·have:¬ ((i:Int)=(n:Int)):=by omega
  simp only[this,or_false,h,if_false]
theorem Tj {f g:Bh} {es:List PgE} {clk:Nat} {hq:Hp} {S:List IE} (h:PgsIn g es clk hq) (hf:BU (es.map PgE.ie) (S.map fun p:IE=>p.2.2)=[]) (hS:∀ p∈S,p∈es.map PgE.ie):HM f g S=Gq f g:=by
 funext i
 unfold HM Gq
 by_cases hi:(i:Int)∈S.map (fun p:IE=>p.1)
 ·rw[if_pos hi]
  obtain ⟨p,hp,e⟩:=List.mem_map.1 hi
  obtain ⟨e0,he0,rfl⟩:=List.mem_map.1 (hS p hp)
  have h1:=(h.ent e0 he0).1
  have:e0.n=i:=by have:(e0.n:Int)=i:=e;omega
  rw[this] at h1
  rw[h1];rfl
 ·rw[if_neg hi]
  cases hg:g i with
  | none=>rfl
  | some p=>
   exfalso
   obtain ⟨e0,he0,hn⟩:=h.all i p hg
   have hm:e0.ie∈es.map PgE.ie:=List.mem_map_of_mem he0
   by_cases q:e0.born∈S.map fun p:IE=>p.2.2
   ·obtain ⟨p',hp',hb⟩:=List.mem_map.1 q
    obtain ⟨e1,he1,rfl⟩:=List.mem_map.1 (hS p' hp')
    obtain ⟨i1,h1⟩:=List.getElem?_of_mem he0
    obtain ⟨i2,h2⟩:=List.getElem?_of_mem he1
    have:=Fk h.born h1 h2 hb.symm
    subst this
    rw[h1] at h2;cases h2
    exact hi (List.mem_map.2 ⟨_,hp',by show (e0.n:Int)=i;omega⟩)
   ·have:e0.ie∈BU (es.map PgE.ie) (S.map fun p:IE=>p.2.2):=by
     simp only[BU,List.mem_filter]
     exact ⟨hm,by simpa [PgE.ie] using q⟩
    rw[hf] at this;cases this
theorem IW (f g:Bh) (B:Nat→Pg):pgMap (Gq f g) B=fun i=>(g i).getD (pgMap f B i):=by
 funext i
 unfold pgMap Gq
 cases g i<;>rfl
theorem V8 (md mo:Nat) (f g:Bh) (k:Nat) (hq:Hp):Cn prog 68 [.map (some md),.map (some mo)] [pgsA md f hq,DQ mo g k hq] (fun v Γ=>v= .tuple #[]∧Γ=[pgsA md (Gq f g) hq,DQ mo g k hq]):=by
 intro z R w H;replace H:=H.l2;obtain ⟨es,clk,hpg,H⟩:=H.pgs 0 rfl;replace H:=H.l2;obtain ⟨eso,clko,hpgo,hcno,H⟩:=H.pgsc 1 rfl;replace H:=H.l2;have hold:∀ p∈eso.map PgE.ie,p.2.2<clko:=fun p hp=>by obtain ⟨e,he,rfl⟩:=List.mem_map.1 hp;exact hpgo.clk e he
 have hn:((eso.map PgE.ie).map fun p:IE=>p.2.2).Nodup:=by rw[List.map_map];exact hpgo.born
 refine Ad func68 rfl ntmps68 rfl (Zc 3 rfl (AL rfl (GC 1 (e:=79) H rfl rfl (by kernel_rfl) rfl) ?_));rintro _ w ⟨rr,rfl,H⟩;replace H:=H.l3;refine Zc 3 rfl ?_;refine AJ (σ:=List IE×List PgE×Nat) (fun ⟨S,ed,cd⟩=>[(0,.map (some md)),(7,Pt_ rr)])
   (fun ⟨S,ed,cd⟩ w=>Sep z (FS rr mo clko (S.map fun p:IE=>p.2.2)::Ay md (ed.map PgE.ie) cd::Ay mo (eso.map PgE.ie) clko::R) w∧((∀ p∈S,p∈eso.map PgE.ie)∧PgsIn (HM f g S) ed cd hq)) (fun ⟨S,ed,cd⟩=>(BU (eso.map PgE.ie) (S.map fun p:IE=>p.2.2)).length) ⟨[],es,clk⟩
   (fun _ hF=>(hF.all rfl)) ⟨H,fun p hp=>absurd hp (by simp),by rw[Ti];exact hpg⟩ ?_
 clear H;rintro ⟨S,ed,cd⟩ w ⟨H',hI⟩;dsimp only at hI H' ⊢
 have H:=H'.l3;obtain ⟨hS,hpd⟩:=hI;refine Zc 2 rfl (AL rfl (HB 0 2 H rfl rfl rfl rfl hold) ?_);rintro _ w ⟨qx,rfl,hqx,H⟩;replace H:=H.l3;refine Ac rfl (Jk rfl rfl) (Zc 3 rfl (EQ rfl (fun h1=> ?_) (fun h1=> ?_)))
 ·obtain ⟨p1,rfl⟩:=Option.isSome_iff_exists.1 h1;refine Zc 5 rfl ?_;obtain ⟨⟨ke,pg,ve,bo⟩,hee,rfl⟩:=List.mem_map.1 (CB hqx).1;obtain ⟨he1,he2,he3⟩:=hpgo.ent _ hee;dsimp only at he1 he2 he3
  have sve:Slc ve 240:=he3.slc
  obtain ⟨ed2,hpm,hpd2,_⟩:=hpd.put (k:=ke) (p:=pg) (v:=ve) he2 he3;refine Ac rfl (GD (p:=(PgE.ie ⟨ke,pg,ve,bo⟩)) rfl rfl (AB ⟨H.bk 0 rfl,H.bk 2 rfl⟩) (List.mem_map_of_mem hee) hn) (Za 2 [] H rfl ?_);intro b1 w H;refine Zc 1 rfl (Az rfl rfl (Ag 0 H rfl rfl rfl rfl (vs:=[Iv_ pg.kind,ve]) rfl (Ab rfl (Ab sve.one Ar)) (by kernel_rfl) (by simp) (out:=[Iv_ pg.kind,ve]) rfl) ?_);rintro w H;replace H:=H.l4;refine Z2 6 [0,2] H rfl (Az rfl rfl (Dg 2 (e:=79) H rfl rfl (by kernel_rfl) rfl rfl rfl) ?_);rintro w H;replace H:=H.l4;refine Zc 1 rfl ?_;have H':=H
  have H:Sep z (blk b1 [Iv_ pg.kind,ve] 79::FS rr mo clko (IA (S.map fun p:IE=>p.2.2) (some (PgE.ie ⟨ke,pg,ve,bo⟩)))::Ay md (Eq (ed.map PgE.ie) (ke:Int) (.agg #[Iv_ pg.kind,ve]) cd) (putC (ed.map PgE.ie) (ke:Int) cd)::Ay mo (eso.map PgE.ie) clko::R) w:=H'
  clear H';rw[hpm] at H;have H:Sep z (blk b1 [Iv_ pg.kind,ve] 79::FS rr mo clko (IA (S.map fun p:IE=>p.2.2) (some (PgE.ie ⟨ke,pg,ve,bo⟩)))::Ay md (ed2.map PgE.ie) (putC (ed.map PgE.ie) (ke:Int) cd)::Ay mo (eso.map PgE.ie) clko::R) w:=H
  refine Zc 1 rfl ?_;replace H:=H.d;refine gf ?_;intro _ hF;refine ⟨⟨S++[(PgE.ie ⟨ke,pg,ve,bo⟩)],ed2,putC (ed.map PgE.ie) (ke:Int) cd⟩,(hF.all rfl),⟨(by dsimp only;rw[List.map_append];exact H),?_⟩,?_⟩
  ·refine ⟨fun p hp=> ?_,?_⟩
   ·rcases List.mem_append.1 hp with hp|hp
    ·exact hS p hp
    ·simp at hp;subst hp;exact List.mem_map_of_mem hee
   ·dsimp only;rw[Ra (n:=ke) (p:=pg) (q:=(PgE.ie ⟨ke,pg,ve,bo⟩)) rfl he1];exact hpd2
  ·(dsimp only;have:=DY hqx;rwa[show (S++[(PgE.ie ⟨ke,pg,ve,bo⟩)]).map (fun p:IE=>p.2.2)=(S.map fun p:IE=>p.2.2)++[bo] from by simp[PgE.ie]])
 ·obtain rfl:qx=none:=by simpa using h1
  refine Zc 2 rfl (gx (Zc 1 rfl (Zf rfl ?_)));have hpd3:=hpd
  rw[Tj hpgo hqx hS] at hpd3;replace H:=(H.toPgs 1 rfl hpd3).l3
  replace H:=(H.toPgsc 2 rfl hpgo hcno).l3
  exact ⟨_,⟨rfl,rfl⟩,H.perm 3 [1,2] rfl rfl⟩
theorem Kf (ps pd pt md:Nat) (x:Sup) (lp mv:Value) (un:Bool):Ux prog 61 [Pt_ ps] [stB ps pd pt x lp md un mv] (fun v Γ=>v= .tuple #[]∧Γ=[stB ps pd pt x lp md false (.map none)]):=by
 intro z R u w H';have H:=H'.l1;refine Mh func61 rfl 8 ntmps61 rfl (AC (KC 4 [11] rfl (by kernel_rfl) (Fd rfl rfl (YZ 0 H rfl rfl rfl rfl rfl rfl (by kernel_rfl)) ?_)));rintro w H';have H:=H'.l1;refine KC 2 [12] rfl (by kernel_rfl) (Fd rfl rfl (Y0 0 H rfl rfl rfl rfl rfl rfl (by kernel_rfl)) ?_);rintro w H';have H:=H'.l1;refine AH (Xc rfl ?_);exact ⟨[stB ps pd pt x lp md false (.map none)],⟨rfl,rfl⟩,H⟩
open Go.RowKit
set_option maxHeartbeats 4000000 in
theorem Tk (ps pd pt pl md mo:Nat) (x sL:Sup) (nu:Bool) (hq:Hp) (g:Bh) (k:Nat) (D:Dsk) (B:Nat→Pg) (rs:List Rc) (ptl:List (List UInt8)) (a q u:Int) (b:Bool) (sure:Nat) (hS:SInv D x B rs ptl a q u b sure) (hL:sL.start=x.start∧sL.len=x.len∧sL.epoch=x.epoch) (hokL:sL.Ok (D.n:Int)) (hnu:nu=decide (sL.epoch<4294967296)) (hqb:q<1099511627775) (hver:∀ i,(D.ver i).length≤1000000000000) (hgb:∀ n,(g n).isSome=true→(n:Int)<x.pages) (hk:k≤40):Cn prog 36 [Pt_ ps] [stB ps pd pt x (Pt_ pl) md true (.map (some mo)),lgB pl pd pt sL a q u b nu,tblA pt,diskA pd D,pgsA md (ov rs) hq,DQ mo g k hq,poolA hq] (fun v Γ=>(k=0∧v=Iv_ 0∧Γ=[stB ps pd pt x (Pt_ pl) md false (.map none),lgB pl pd pt sL a q u b nu,tblA pt,diskA pd D,pgsA md (ov rs) hq,poolA hq])∨(1≤k∧∃ (hq2:Hp) (D2:Dsk) (x2:Sup) (B2:Nat→Pg) (rs2:List Rc) (a2 u2:Int) (sure2:Nat),Ck hq hq2∧SInv D2 x2 B2 rs2 [] a2 (q+1) u2 false sure2∧(pgMap (ov rs2) B2=pgMap (Gq (ov rs) g) B∧∀ n,(g n).isSome=true→(ov rs2 n).isSome=true)∧(x2=x∨x2=EI x a q)∧(Clean D→Clean D2)∧(D2.n=D.n∧∀ i,(D2.ver i).length≤(D.ver i).length+2)∧v=Iv_ 0∧Γ=[stB ps pd pt x2 (Pt_ pl) md false (.map none),lgB pl pd pt sL a2 (q+1) u2 false nu,tblA pt,diskA pd D2,pgsA md (ov rs2) hq2,poolA hq2])∨(1≤k∧∃ (c:Int) (hq2:Hp) (D2:Dsk) (x2:Sup) (B2:Nat→Pg) (rs2:List Rc) (ptl2:List (List UInt8)) (a2 q2 u2:Int) (b2:Bool) (sure2:Nat),c≠0∧(¬ Clean D∨1099511627776<x.gen+1)∧Ck hq hq2∧SInv D2 x2 B2 rs2 ptl2 a2 q2 u2 b2 sure2∧pgMap (ov rs2) B2=pgMap (ov rs) B∧(x2=x∨x2=EI x a q)∧(D2.n=D.n∧∀ i,(D2.ver i).length≤(D.ver i).length+2)∧(q≤q2∧q2≤q+1)∧v=Iv_ c∧Γ=[stB ps pd pt x2 (Pt_ pl) md false (.map none),lgB pl pd pt sL a2 q2 u2 b2 nu,tblA pt,diskA pd D2,pgsA md (ov rs2) hq2,poolA hq2])):=by
 intro z R w H';have H:=H'.l7;have hk2:=hS.ok.2
 have hgb2:∀ n,(g n).isSome=true→n<1024:=fun n h=>by have:=hgb n h;omega
 obtain ⟨eso,clko,hpgo,hcno,H'⟩:=H.pgsc 5 rfl;clear H;have H:=H'.l7;have hgok:∀ n p,g n=some p→p.Ok:=fun n p h=>hpgo.okp h
 have hlm:(eso.map PgE.ie).length=k:=by simp[hcno]
 refine Qr func36 rfl 30 ntmps36 rfl (AO (AC (BP 1 rfl rfl (AH (AO (AO (AC (FQ 5 [11,0] (AK (H.blk 0 rfl) AW) rfl (by kernel_rfl) rfl (AH (EA rfl (Dk (AO (AC ?_)))))))))))));refine BP 1 rfl rfl (J6 rfl rfl rfl rfl (AH (AO (AO (AC (FQ 4 [12,0] (AK (H.blk 0 rfl) AW) rfl (by kernel_rfl) rfl (s_do rfl rfl rfl (Mi (e:=79) rfl (by kernel_rfl) rfl (AB (H.bk 5 rfl))) (BP 1 rfl rfl (AH (FC rfl (fun h1=> ?_) (fun h1=> ?_)))))))))))
 ·refine AO (AC (BP 1 rfl rfl (AH (Ek ?_))));intro a_ hF;unfold HY;rw[hF.defers];refine FT (fun w=>call61 _ w) (Kf _ _ _ _ _ _ _ _) H 7 [0,1,2,3,4,5,6] rfl rfl ?_;rintro _ w _ ⟨rfl,rfl⟩ H';clear H;have H:=H'.l7;refine Pb hF (rs:=[.tmp 2]) rfl [Iv_ 0] ⟨rfl,trivial⟩ (v:=Iv_ 0) rfl ?_;exact ⟨[stB ps pd pt x (Pt_ pl) md false (.map none),lgB pl pd pt sL a q u b nu,tblA pt,diskA pd D,pgsA md (ov rs) hq,poolA hq],.inl ⟨by omega,rfl,rfl⟩,H.perm 7 [0,1,2,3,4,6] rfl rfl⟩
 ·refine Dk (AO (AO ?_));have hk0:1≤k:=by omega
  have H':=H.toPgsc 5 rfl hpgo hcno
  have H:=H'.l7;refine AC (BP 1 rfl rfl (EZ rfl rfl rfl rfl rfl (fun w=>call67 _ w) (Q9 _ _ _ _ _ _ _ _ _ _ _ _ _ _ _ _ _ _ _ _ _ _ hS hL hokL hnu hqb hver hgb (by omega)) H rfl ?_));rintro _ w _ (⟨ks,hq2,D2,x2,B2,rs0,a2,u2,sure2,hks,shq2,hS2,hM2,hx2,hcl2,hD2,rfl,rfl⟩|⟨c4,hq2,D2,x2,B2,rs2,ptl2,a2,q2,u2,bb2,sure2,hcne,hwhy,shq2,hS2,hM2,hx2,hD2,hqq2,rfl,rfl⟩) H'
  ·have H:=H'.l7;refine BP 1 rfl rfl (AH (AO (AC (BP 2 rfl rfl (ZD 19 rfl rfl (AH (EA rfl (Dk (AO (AI (Sep z (stB ps pd pt x2 (Pt_ pl) md true (.map (some mo))::R)) 9 rfl (by kernel_rfl) (Bc H fun w H'=> ?_)))))))))))
   have H:=H'.l7;refine ZW [0,1,2,3,4,5,6,7] [10,0,12,0] (fun _ hx=>(AK (hx.blk 0 rfl) AW)) (by exact (H.pick 7 [0] rfl)) rfl (by kernel_rfl) rfl rfl (Av [8] (by kernel_rfl) (by simp) (Au (BL rfl rfl rfl rfl rfl rfl (fun w=>call68 _ w) (V8 _ _ _ _ _ _) H.f5.f5 rfl ?_)));rintro _ w _ ⟨rfl,rfl⟩ H';have H:=H'.l7;refine Ap (H.pick 7 [2] rfl) (a_done (by kernel_rfl) (AO (AC (BP 1 rfl rfl (AH (Ek ?_))))));intro a_ hF;unfold HY;rw[hF.defers];refine FT (fun w=>call61 _ w) (Kf _ _ _ _ _ _ _ _) H 7 [2,0,1,3,4,5,6] rfl rfl ?_;rintro _ w _ ⟨rfl,rfl⟩ H';clear H;have H:=H'.l7;refine Pb hF (rs:=[.tmp 2]) rfl [Iv_ 0] ⟨rfl,trivial⟩ (v:=Iv_ 0) rfl ?_;have hov:Gq (ov rs0) g=ov (rs0++[⟨q,BZ g ks⟩]):=by rw[Id,Px hks (KT hks hgok hgb2)]
   rw[hov] at H;have H:Sep z (stB ps pd pt x2 (Pt_ pl) md false (.map none)::pgsA md (ov (rs0++[⟨q,BZ g ks⟩])) hq2::DQ mo g k hq2::lgB pl pd pt sL a2 (q+1) u2 false nu::tblA pt::diskA pd D2::poolA hq2::R) w:=H
   exact ⟨[stB ps pd pt x2 (Pt_ pl) md false (.map none),lgB pl pd pt sL a2 (q+1) u2 false nu,tblA pt,diskA pd D2,pgsA md (ov (rs0++[⟨q,BZ g ks⟩])) hq2,poolA hq2],.inr (.inl ⟨hk0,hq2,D2,x2,B2,_,a2,u2,sure2,shq2,hS2,⟨by rw[←hov,IW,IW,hM2],fun n hn=>by rw[←hov];obtain ⟨p_,hp_⟩:=Option.isSome_iff_exists.1 hn;simp[Gq,hp_]⟩,hx2,hcl2,hD2,rfl,rfl⟩),H.perm 7 [0,3,4,5,1,6] rfl rfl⟩
  ·have H:=H'.l7;refine BP 1 rfl rfl (AH (AO (AC (BP 2 rfl rfl (AH (FC rfl (fun h2=> ?_) (fun h2=> ?_)))))))
   ·refine AO (AC (BP 2 rfl rfl (AH (Ek ?_))));intro a_ hF;unfold HY;rw[hF.defers];refine FT (fun w=>call61 _ w) (Kf _ _ _ _ _ _ _ _) H 7 [0,1,2,3,4,5,6] rfl rfl ?_;rintro _ w _ ⟨rfl,rfl⟩ H';clear H;have H:=H'.l7;refine Pb hF (rs:=[.tmp 2]) rfl [Iv_ c4] ⟨rfl,trivial⟩ (v:=Iv_ c4) rfl ?_;exact ⟨[stB ps pd pt x2 (Pt_ pl) md false (.map none),lgB pl pd pt sL a2 q2 u2 bb2 nu,tblA pt,diskA pd D2,pgsA md (ov rs2) hq2,poolA hq2],.inr (.inr ⟨hk0,_,hq2,D2,x2,B2,rs2,ptl2,a2,q2,u2,bb2,sure2,hcne,hwhy,shq2,hS2,hM2,hx2,hD2,hqq2,rfl,rfl⟩),H.perm 7 [0,1,2,3,4,6] rfl rfl⟩
   ·exact absurd hcne h2
section
def CO (x:Sup):Sup:= { x with gen:=x.gen+1,epoch:=x.epoch+1,head:=0,seq:=1 }
theorem UF (x:Sup):(CO x).gen=x.gen+1∧(CO x).epoch=x.epoch+1∧(CO x).pages=x.pages∧(CO x).start=x.start∧(CO x).len=x.len∧(CO x).head=0∧(CO x).seq=1:=⟨rfl,rfl,rfl,rfl,rfl,rfl,rfl⟩
def Zh (D:Dsk) (s:Sup) (a q u:Int):Prop:=s.len≤u∨∀ ims,¬ nextP (CH D s a) s.epoch q (s.len - u) ims
structure OInv (D:Dsk) (x:Sup) (B:Nat→Pg) (Gd:List Rc→Prop):Prop where
 ok:x.Ok (D.n:Int)
 s:SOk x
 gen:1≤x.gen
 ver:∀ i,D.ver i=[]
 sup:D.dur (x.gen % 2).toNat=C2 x
 oth:∃ y:Sup,y.Ok (D.n:Int)∧y.gen=x.gen - 1∧D.dur ((x.gen+1) % 2).toNat=C2 y
 tags:∀ i:Nat,2+x.pages≤(i:Int)→∀ e q,Tg (D.dur i) e q→e≤x.epoch
 read:∀ (got:List Rc) (a q u:Int),Runs D x x.head x.seq 0 got a q u→Zh D x a q u→Gd got
 recs:∀ got,Gd got→∀ r∈got,(1≤r.ims.length∧r.ims.length≤40)∧∀ m∈r.ims,m.Ok∧m.num<x.pages
 gd:∀ got,Gd got→∀ i:Nat,(i:Int)<x.pages→ov got i=none→HomeP (D.dur (2+i)) i (B i)
theorem Py {rs:List Rc} {k m n:Nat} (hkm:k≤m) (h:(ov (rs.take k) n).isSome=true):(ov (rs.take m) n).isSome=true:=by
 have:=Fw ((rs.take m).drop k) _ (show (ov ((rs.take m).take k) n).isSome=true by rw[List.take_take,Nat.min_eq_left hkm];exact h)
 rwa[List.take_append_drop] at this
theorem SInv.crashed {D D':Dsk} {x:Sup} {B:Nat→Pg} {rs:List Rc} {ptl:List (List UInt8)} {a q u:Int} {b:Bool} {sure:Nat} (h:SInv D x B rs ptl a q u b sure) (hq:q≤1099511627776) (hc:Crashed D D'):OInv D' x B (fun got=>sure≤got.length∧got.length≤rs.length∧got=rs.take got.length):=by
 have hg:=h.gen
 refine ⟨by rw[hc.n];exact h.ok,h.s,hg,hc.ver,?_,?_,fun i hi e q' ht=>h.tags hq hi (hc.dur i) ht,fun got a' q' u' hr hst=>h.p.read h.s hc hq hr hst,fun got hgd r hr=> ?_,fun got hgd i hi ho=> ?_⟩
 ·rcases hc.dur (x.gen % 2).toNat with g|g
  ·rw[g];exact h.sup.1
  ·rw[h.sup.2] at g;cases g
 ·obtain ⟨y,a,b,c,d⟩:=h.oth
  refine ⟨y,by rw[hc.n];exact a,b,?_⟩
  rcases hc.dur ((x.gen+1) % 2).toNat with g|g
  ·rw[g];exact c
  ·rw[d] at g;cases g
 ·rw[hgd.2.2] at hr
  have hr2:=List.mem_of_mem_take hr
  obtain ⟨j,hj⟩:=List.getElem?_of_mem hr2
  obtain ⟨_,h2,h3⟩:=h.p.recs j r hj
  exact ⟨h2,fun m hm=>⟨h3 m hm,h.num r hr2 m hm⟩⟩
 ·rcases h.home i hi _ (hc.dur _) with g|⟨g,_⟩
  ·exact g
  ·have:=Py hgd.1 g
   rw[←hgd.2.2,ho] at this;cases this
variable {D:Dsk} {x:Sup} {B:Nat→Pg} {Gd:List Rc→Prop}
theorem OInv.ovb (h:OInv D x B Gd) {got:List Rc} (hg:Gd got) {n:Nat} (ho:(ov got n).isSome=true):(n:Int)<x.pages:=by
 obtain ⟨p,hp⟩:=Option.isSome_iff_exists.1 ho
 obtain ⟨r,hr,m,hm,hn,_⟩:=Jt _ got rfl hp
 have h1:=((h.recs got hg r hr).2 m hm).2
 have h2:=h.ok.2
 omega
theorem OInv.ovok (h:OInv D x B Gd) {got:List Rc} (hg:Gd got) {n:Nat} {p:Pg} (ho:ov got n=some p):p.Ok:=by
 obtain ⟨r,hr,m,hm,_,rfl⟩:=Jt _ got rfl ho
 exact Og ((h.recs got hg r hr).2 m hm).1
theorem OInv.opened (h:OInv D x B Gd) {got:List Rc} (hg:Gd got) {ks:List Int} (hks:Ew (ov got) ks) (hy:(CO x).Ok (D.n:Int)) (he:x.epoch+1<4294967296):
  SInv (EG (hwD D (pgLst (ov got) ks)).fl (CO x)) (CO x) (pgMap (ov got) B) [] [] 0 1 0 false 0:=by
 have hk:=h.ok.2
 have hgen:=h.gen
 have hf:=UF x
 have hss:=h.s
 have hso:SOk (CO x):=⟨by rw[hf.2.2.2.1];exact hss.start,by have:=hss.head;omega,by have:=hss.epoch;omega,by omega⟩
 have hlb:∀ y∈pgLst (ov got) ks,(y.1:Int)<x.pages:=fun y hy=>h.ovb hg (by rw[(DT hks y.1 y.2).1 hy];rfl)
 have hhas:∀ i c,CM (EG (hwD D (pgLst (ov got) ks)).fl (CO x)) i c→i≠((CO x).gen % 2).toNat→c=(hwD D (pgLst (ov got) ks)).cont i:=fun i c hc hi=>by
  have ho:=Eh (hwD D (pgLst (ov got) ks)).fl (CO x) i hi
  unfold CM at hc
  rw[ho.1,ho.2] at hc
  rcases hc with hc|hc
  ·exact hc
  ·cases hc
 have hlow:∀ i:Nat,i<2→(hwD D (pgLst (ov got) ks)).cont i=D.dur i:=fun i hi=>by
  rw[hw_cont_out _ D i (fun y _ e=>by omega)];exact D8 (h.ver i)
 refine ⟨by show (CO x).Ok ((hwD D _).n:Int);rw[Ev];exact hy,?_,hso,by omega,fun r hr=>(by cases hr),fun i hi c hc=> .inl ?_,GG _ _,?_,fun i hi hr c hc e q' ht=> ?_⟩
 ·have:=PInv.fresh (D:=EG (hwD D (pgLst (ov got) ks)).fl (CO x)) hso (fun i h1 h2 c hc e q' ht=> ?_)
  ·rw[hf.2.2.2.2.2.1,hf.2.2.2.2.2.2] at this;exact this
  ·have hi:=hhas i c hc (by omega)
   rw[hw_cont_out _ D i (fun y hy e=>by have:=hlb y hy;omega),D8 (h.ver i)] at hi
   subst hi
   have:=h.tags i (by omega) e q' ht
   omega
 ·have hi2:=hhas (2+i) c hc (by omega)
  subst hi2
  unfold pgMap
  cases ho:ov got i with
  | some p=>
   have hm:(i,p)∈pgLst (ov got) ks:=(DT hks i p).2 ho
   rw[Uz _ D (Ei hks) (i,p) hm]
   exact .inr ⟨h.ovok hg ho,rfl⟩
  | none=>
   rw[hw_cont_out _ D _ (fun z hz e=>by
    have:=(DT hks z.1 z.2).1 hz
    rw[show z.1=i from by omega,ho] at this;cases this),D8 (h.ver _)]
   exact h.gd got hg i (by omega) ho
 ·refine ⟨x,by show x.Ok ((hwD D _).n:Int);rw[Ev];exact h.ok,by omega,?_⟩
  have ho:=Eh (hwD D (pgLst (ov got) ks)).fl (CO x) (((CO x).gen+1) % 2).toNat (by omega)
  refine ⟨?_,by rw[ho.2];rfl⟩
  rw[ho.1]
  show (hwD D (pgLst (ov got) ks)).cont _=_
  rw[hlow _ (by omega),show ((CO x).gen+1) % 2=x.gen % 2 from by omega]
  exact h.sup
 ·have hi2:=hhas i c hc (by omega)
  rw[hw_cont_out _ D i (fun y hy e=>by have:=hlb y hy;omega),D8 (h.ver i)] at hi2
  subst hi2
  have:=h.tags i (by omega) e q' ht
  omega
/-! ### a formatted disk -/
def Ej (D:Dsk):Nat→Dsk
 | 0=>D
 | k+1=>(Ej D k).wr (2+k) [List.replicate 256 0]
theorem MX (D:Dsk):∀ k,(Ej D k).n=D.n
 | 0=>rfl
 | k+1=>by show ((Ej D k).wr _ _).n=_;rw[Dsk.wr_n];exact MX D k
theorem V9 (n k i:Nat):(Ej (B3 n) k).cont i=List.replicate 256 0:=by
 induction k with
 | zero=>rfl
 | succ k ih=>
  show ((Ej (B3 n) k).wr _ _).cont i=_
  rw[wr_cont,ih]
  by_cases h:2+k≤i
  ·rw[if_pos h]
   rcases Nat.eq_zero_or_pos (i - (2+k)) with e|e
   ·rw[e];rfl
   ·rw[List.getElem?_eq_none (by simp;omega)];rfl
  ·rw[if_neg h];rfl
theorem Fa {D:Dsk} (h:Clean D):∀ k,Clean (Ej D k)
 | 0=>h
 | k+1=>(Fa h k).wr _ _
theorem Rb (n:Nat) (i:Nat):∀ k,((Ej (B3 n) k).ver i).length≤k
 | 0=>by simp[Ej,B3]
 | k+1=>by
  have h1:=Dsk.wr_len (Ej (B3 n) k) (2+k) [List.replicate 256 0] i
  have h2:=Rb n i k
  show (((Ej (B3 n) k).wr _ _).ver i).length≤_
  omega
def B9 (p s l g:Int):Sup:=⟨g,1,p,s,l,0,1⟩
def KU (n:Nat) (p s l:Int):Dsk:=EG (EG (Ej (B3 n) p.toNat).fl (B9 p s l 1)) (B9 p s l 2)
theorem EW (n:Nat):Clean (B3 n):=⟨rfl,rfl,rfl,rfl⟩
theorem Tl (n:Nat) (p s l:Int):Clean (KU n p s l):=((Fa (EW n) _).fl.sv _).sv _
theorem Tm (n:Nat) (p s l:Int):(KU n p s l).n=n:=MX _ _
theorem Re (n:Nat) (p s l:Int) (i:Nat):(KU n p s l).ver i=[]:=GN (GN (fun _=>rfl) _) _ i
theorem MY (n:Nat) (p s l:Int) (i:Nat) (hi:2≤i):(KU n p s l).dur i=List.replicate 256 0:=by
 have h1:=Eh (EG (Ej (B3 n) p.toNat).fl (B9 p s l 1)) (B9 p s l 2) i (by show i≠((2:Int) % 2).toNat;simp;omega)
 have h2:=Eh (Ej (B3 n) p.toNat).fl (B9 p s l 1) i (by show i≠((1:Int) % 2).toNat;simp;omega)
 exact (h1.1.trans h2.1).trans (V9 n _ i)
theorem Wa {n:Nat} {p s l:Int} (hok:(B9 p s l 2).Ok (n:Int)):OInv (KU n p s l) (B9 p s l 2) (fun _=>noPg) (fun got=>got=[]):=by
 have hf:(B9 p s l 2).gen=2∧(B9 p s l 2).epoch=1∧(B9 p s l 2).pages=p∧(B9 p s l 2).start=s∧(B9 p s l 2).len=l∧(B9 p s l 2).head=0∧(B9 p s l 2).seq=1:=⟨rfl,rfl,rfl,rfl,rfl,rfl,rfl⟩
 have hg:=Sup.get hok
 have hk:=hok.2
 have hso:SOk (B9 p s l 2):=⟨by omega,by omega,by omega,by omega⟩
 have hring:∀ z:Int,(KU n p s l).cont (ringAt (B9 p s l 2) z)=List.replicate 256 0:=fun z=>by
  have:=Ik hso z
  rw[D8 (Re _ _ _ _ _)]
  exact MY _ _ _ _ _ (by omega)
 refine ⟨by rw[Tm];exact hok,hso,by omega,Re _ _ _ _,(GG _ _).1,⟨B9 p s l 1,?_,rfl,?_⟩,fun i h1 e q ht=> ?_,fun got a q u hr hst=> ?_,fun got hg' r hr=> ?_,fun got _ i hi _=> ?_⟩
 ·rw[Tm]
  exact Sup.ok_mk (by show 0≤(1:Int)∧(1:Int)≤1099511627776;omega) (by show 0≤(1:Int)∧(1:Int)≤1099511627776;omega) (by show 16≤p∧p≤1024;omega) (by show 2+p≤s∧s≤1099511627776;omega) (by show 64≤l∧l≤1099511627776;omega) (by show 0≤(0:Int)∧(0:Int)<l;omega) (by show 0≤(1:Int)∧(1:Int)≤1099511627776;omega) (by show s≤n - l∧l≤n;omega)
 ·have h1:=Eh (EG (Ej (B3 n) p.toNat).fl (B9 p s l 1)) (B9 p s l 2) 1 (by show 1≠((2:Int) % 2).toNat;decide)
  exact h1.1.trans (GG (Ej (B3 n) p.toNat).fl (B9 p s l 1)).1
 ·rw[MY _ _ _ _ _ (by omega)] at ht
  exact (SE _ _ ht).elim
 ·cases hr with
  | nil=>rfl
  | snoc r hlt hn=>
   exfalso
   have h0:=hn.1
   have e:∀ z,CH (KU n p s l) (B9 p s l 2) z 0=List.replicate 256 0:=fun z=>hring (z+((0:Nat):Int))
   rw[e] at h0
   exact KJ h0
 ·subst hg';cases hr
 ·rw[MY _ _ _ _ _ (by omega)];exact .inl ⟨rfl,rfl⟩
end
open Go.RowKit
theorem OInv.two {D:Dsk} {x:Sup} {B:Nat→Pg} {Gd:List Rc→Prop} (h:OInv D x B Gd):∃ y0 y1:Sup,y0.Ok (D.n:Int)∧y1.Ok (D.n:Int)∧y0.gen % 2=0∧y1.gen % 2=1∧D.cont 0=C2 y0∧D.cont 1=C2 y1∧x=if y0.gen<y1.gen then y1 else y0:=by
 obtain ⟨y,hy,hg,hd⟩:=h.oth
 have hs:=h.sup
 have h1:=h.gen
 have c0:=D8 (h.ver 0)
 have c1:=D8 (h.ver 1)
 rcases (show x.gen % 2=0∨x.gen % 2=1 by omega) with e|e
 ·rw[show (x.gen % 2).toNat=0 by omega] at hs
  rw[show ((x.gen+1) % 2).toNat=1 by omega] at hd
  exact ⟨x,y,h.ok,hy,e,by omega,c0.trans hs,c1.trans hd,by rw[if_neg (by omega)]⟩
 ·rw[show (x.gen % 2).toNat=1 by omega] at hs
  rw[show ((x.gen+1) % 2).toNat=0 by omega] at hd
  exact ⟨y,x,hy,h.ok,by omega,e,c0.trans hd,c1.trans hs,by rw[if_pos (by omega)]⟩
theorem Yb {x:Sup} {n:Int} (h:x.Ok n) (h1:1≤x.gen) (hg:x.gen+1≤1099511627776) (he:x.epoch+1≤1099511627776):(CO x).Ok n:=by
 have hs:=Sup.get h
 have hk:=h.2
 have hf:=UF x
 exact Sup.ok_mk (by omega) (by omega) (by omega) (by omega) (by omega) (by omega) (by omega) (by omega)
theorem MZ {rs:List Rc} {k:Nat} {r:Rc} (h:rs[k]? =some r):Eb (ov (rs.take k)) r.ims=ov (rs.take (k+1)):=by
 rw[List.take_add_one,h]
 exact (Id _ _).symm
theorem Lk {f:Bh} {ims:List Img} {k:Nat} {m:Img} (h:ims[k]? =some m):pgSet (Eb f (ims.take k)) m.num.toNat (F0 m)=Eb f (ims.take (k+1)):=by
 rw[List.take_add_one,h]
 exact (SG _ _ _).symm
set_option maxHeartbeats 4000000 in
theorem sopen_c (pd:Nat) (D:Dsk) (x:Sup) (B:Nat→Pg) (Gd:List Rc→Prop) (hO:OInv D x B Gd) (hcl:Clean D) (hge:x.gen+1≤1099511627776) (hep:x.epoch+1<4294967296):Cn prog 22 [Pt_ pd] [diskA pd D] (fun v Γ=>∃ (ps pl pt md:Nat) (hq:Hp) (D2:Dsk) (got:List Rc),Gd got∧SInv D2 (CO x) (pgMap (ov got) B) [] [] 0 1 0 false 0∧Clean D2∧D2.n=D.n∧(∀ i,D2.ver i=[])∧v= .tuple #[Pt_ ps,Iv_ 0]∧Γ=[stB ps pd pt (CO x) (Pt_ pl) md false (.map none),lgB pl pd pt (CO x) 0 1 0 false (decide ((CO x).epoch<4294967296)),tblA pt,diskA pd D2,pgsA md CV hq,poolA hq]):=by
 intro z R w H;replace H:=H.l1;obtain ⟨y0,y1,ho0,ho1,hp0,hp1,hc0,hc1,hxy⟩:=hO.two;have hok:=hO.ok
 have hsg:=Sup.get hok
 have hk2:=hok.2
 have hgen:=hO.gen
 have hoky:(CO x).Ok (D.n:Int):=Yb hok hgen (by omega) (by omega)
 have hn2d:=H.says 0 rfl (fun h q=>(diskA.ok q).n2)
 refine Ad func22 rfl ntmps22 rfl (Zc 19 rfl (Aw rfl (call52 _) (MH) H ?_));rintro _ w _ ⟨pt,rfl,rfl⟩ H;replace H:=H.l2;refine AL rfl (Fj H rfl) ?_;rintro _ w ⟨m1,rfl,H⟩;replace H:=H.l3;refine Ac rfl (AF rfl rfl (out:=[Pt_ pd,Pt_ pt,Iv_ 0,Iv_ 0,Iv_ 0,Iv_ 0,Iv_ 0,Iv_ 0,Iv_ 0,.pointer none,.map (some m1),.bool false,.map none]) (by kernel_rfl)) (Za 0 [] H rfl ?_);intro b2 w H;refine Z2 10 [1,0,0] H rfl (z_E_ rfl (call53 _) (Ya _ _ _ hcl.f1 x y0 y1 ho0 ho1 hp0 hp1 hc0 hc1 hxy) H.f2.f3 ?_);intro w H;refine Za 3 [] H rfl ?_;intro b3 w H;refine Z4 24 [0,4,0,7,2,3] H rfl ?_;intro w H;replace H:=H.f3;refine AI (Sep z (stB b2 pd pt x (.pointer none) m1 false (.map none)::blk b3 [Iv_ x.gen,Iv_ x.epoch,Iv_ x.pages,Iv_ x.start,Iv_ x.len,Iv_ x.head,Iv_ x.seq] 103::R)) 14 rfl (by kernel_rfl) (Bc H fun w H'=> ?_)
 have H:=H'.l5;refine AM [0,1,2,3,4,5] [1,0,0,1,7] [] (by exact (H.pick 5 [0,1] rfl)) rfl (by kernel_rfl) rfl (Av [6] (by kernel_rfl) (by simp) (Au (BL rfl rfl rfl rfl rfl rfl (fun w=>call54 _ w) (XX _ _ x _ hok hcl.f1) H.f2.f3 rfl ?_)));rintro _ w _ ⟨pl5,rs5,a5,q5,u5,v5,hq5,rfl,hruns5,hstop5,hrecs5,rfl⟩ H;replace H:=H.l7;obtain ⟨ao2,c2,rfl⟩:=hrecs5.slc;obtain ⟨es2,hes2,hrd2,hok2⟩:=hrecs5;have hel2:es2.length=rs5.length:=by rw[←hes2];simp
 have hgd:=hO.read rs5 a5 q5 u5 hruns5 hstop5
 have hrc:=hO.recs rs5 hgd
 have hsm2:=hrd2.small
 have hfbb:∀ n,(ov rs5 n).isSome=true→n<1024:=fun n h=>by have:=hO.ovb hgd h;omega
 have hfnn:∀ n,(ov rs5 n).isSome=true→2+n<D.n:=fun n h=>by have:=hO.ovb hgd h;omega
 have H:Sep z (poolA hq5::lgB pl5 pd pt x a5 q5 u5 false (decide (x.epoch<4294967296))::tblA pt::diskA pd D::stB b2 pd pt x (.pointer none) m1 false (.map none)::blk b3 [Iv_ x.gen,Iv_ x.epoch,Iv_ x.pages,Iv_ x.start,Iv_ x.len,Iv_ x.head,Iv_ x.seq] 103::Ay m1 ([]) 0::R) w:=H
 refine Ap (H.pick 7 [4,5] rfl) (AM [7,8,9,10,11,12,13] [] [] (by exact (H.pick 7 [4,5] rfl)) rfl (by kernel_rfl) rfl (a_done (by kernel_rfl) (gn (Z5 36 [4,0,5,0,0,5,1,5,0,1,5,0,5,0,0] [x.gen+1,x.epoch+1] H rfl (by omega) ?_))));intro w H;refine Ak 62 rfl (fun h1=> ?_) (fun h1=> ?_)
 ·(exfalso;omega)
 ·refine Z2 6 [1,5,0,0] H rfl (Af rfl (fun h2=> ?_) (fun h2=> ?_))
  ·(exfalso;omega)
  ·refine Zc 11 rfl ?_;refine AJ (σ:=Nat×List PgE×Nat) (fun ⟨k,es,cl⟩=>[(69,Iv_ (k:Int)),(0,Pt_ pd),(2,.pointer none),(3,Iv_ 0),(4,Pt_ b2),(5,Pt_ b3),(67,.slice ao2 rs5.length c2),(68,Iv_ (rs5.length:Int))])
     (fun ⟨k,es,cl⟩ w=>Sep z (poolA hq5::lgB pl5 pd pt x a5 q5 u5 false (decide (x.epoch<4294967296))::tblA pt::diskA pd D::stB b2 pd pt x (.pointer none) m1 false (.map none)::blk b3 [Iv_ (x.gen+1),Iv_ (x.epoch+1),Iv_ x.pages,Iv_ x.start,Iv_ x.len,Iv_ x.head,Iv_ x.seq] 103::Ay m1 (es.map PgE.ie) cl::R) w∧(k≤rs5.length∧PgsIn (ov (rs5.take k)) es cl hq5)) (fun ⟨k,es,cl⟩=>rs5.length - k) ⟨0,[],0⟩
     (fun _ hF=>(hF.co rfl (by go_num) (hF.all rfl))) ⟨H,by omega,PgsIn.none _ _⟩ ?_
   clear H;rintro ⟨k,es,cl⟩ w ⟨H',hI⟩;dsimp only at hI H' ⊢
   have H:=H'.l7;obtain ⟨hkr,hpgo⟩:=hI;refine Z0 6 [0] rfl (Af rfl (fun h3=> ?_) (fun h3=> ?_))
   ·refine Zc 6 rfl ?_;obtain ⟨⟨rc,w1⟩,hg1⟩:∃ e:RcE,es2[k]? =some e:=⟨_,List.getElem?_eq_getElem (by omega)⟩;have hrk:rs5[k]? =some rc:=by rw[←hes2];simp[hg1]
    obtain ⟨is1,hs1,hri1,hki1⟩:=hok2 _ (List.mem_of_getElem? hg1);dsimp only at hs1 hri1
    obtain ⟨ao3,c3,rfl⟩:=hri1.slc;have hil1:is1.length=rc.ims.length:=by rw[←hs1];simp
    have hsm3:=hri1.small
    have hrcm:=hrc _ (List.mem_of_getElem? hrk)
    have hat1:=(H.rd 0 rfl (fun h q=>hrd2.le q)).at (J9 hg1 0 _ rfl)
    refine Ac rfl (AD rfl (z:=2) (j:=k) (r:=k * 2) (by kernel_rfl) rfl rfl rfl (by omega) hat1 (by omega)) (Ac rfl (DW rfl rfl (vs:=[Iv_ rc.seq,.slice ao3 rc.ims.length c3]) (by kernel_rfl) (by simp) (AB (fun k u hk=>(H.rd 0 rfl (fun h q=>hrd2.le q)).at (J9 hg1 k u hk)))) (Za 0 [] H rfl ?_));intro b4 w H;refine Z4 12 [0,1,0,0] H rfl ?_;intro w H;refine AJ (σ:=Nat×List PgE×Nat) (fun ⟨j,ei,ci⟩=>[(76,Iv_ (j:Int)),(0,Pt_ pd),(2,.pointer none),(3,Iv_ 0),(4,Pt_ b2),(5,Pt_ b3),(10,Pt_ b4),(67,.slice ao2 rs5.length c2),(68,Iv_ (rs5.length:Int)),(69,Iv_ (k:Int)),(70,.bool (decide ((k:Int)<(rs5.length:Int)))),(71,Hv ao2 (k * 2)),(72,.agg #[Iv_ rc.seq,.slice ao3 rc.ims.length c3]),(73,.pointer (some ⟨b4,1,none⟩)),(74,.slice ao3 rc.ims.length c3),(75,Iv_ (rc.ims.length:Int))])
      (fun ⟨j,ei,ci⟩ w=>Sep z (blk b4 [Iv_ rc.seq,.slice ao3 rc.ims.length c3] 114::poolA hq5::lgB pl5 pd pt x a5 q5 u5 false (decide (x.epoch<4294967296))::tblA pt::diskA pd D::stB b2 pd pt x (.pointer none) m1 false (.map none)::blk b3 [Iv_ (x.gen+1),Iv_ (x.epoch+1),Iv_ x.pages,Iv_ x.start,Iv_ x.len,Iv_ x.head,Iv_ x.seq] 103::Ay m1 (ei.map PgE.ie) ci::R) w∧(j≤rc.ims.length∧PgsIn (Eb (ov (rs5.take k)) (rc.ims.take j)) ei ci hq5)) (fun ⟨j,ei,ci⟩=>rc.ims.length - j) ⟨0,es,cl⟩
      (fun _ hF=>(hF.co rfl (by go_num) (hF.all rfl))) ⟨H,by omega,hpgo⟩ ?_
    clear H;rintro ⟨j,ei,ci⟩ w ⟨H',hI⟩;dsimp only at hI H' ⊢
    have H:=H'.l8;obtain ⟨hjr,hpg⟩:=hI;refine Z0 6 [0] rfl (Af rfl (fun h4=> ?_) (fun h4=> ?_))
    ·refine Zc 6 rfl ?_;obtain ⟨⟨⟨inum,ikd,ibd⟩,u1⟩,hgi1⟩:∃ e:ImE,is1[j]? =some e:=⟨_,List.getElem?_eq_getElem (by omega)⟩;have him:rc.ims[j]? =some ⟨inum,ikd,ibd⟩:=by rw[←hs1];simp[hgi1]
     obtain ⟨⟨him1,him2⟩,him3,him4⟩:=(hrcm.2 _ (List.mem_of_getElem? him)).1;dsimp only at him1 him2 him3 him4
     obtain ⟨n,rfl⟩:∃ n:Nat,inum=(n:Int):=⟨inum.toNat,by omega⟩;have hb1:=hki1 _ (List.mem_of_getElem? hgi1)
     dsimp only at hb1
     rw[him4] at hb1;have su1:=hb1.slc
     have hat3:=(H.rd 1 rfl (fun h q=>hri1.le q)).at (Ic hgi1 0 _ rfl)
     obtain ⟨es4,hpm,hpg4,_⟩:=hpg.put (k:=n) (p:=⟨ikd,ibd⟩) (v:=u1) ⟨him3,him4⟩ hb1;refine Ac rfl (AD rfl (z:=3) (j:=j) (r:=j * 3) (by kernel_rfl) rfl rfl rfl (by omega) hat3 (by omega)) (Ac rfl (DW rfl rfl (vs:=[Iv_ (n:Int),Iv_ ikd,u1]) (by kernel_rfl) (by simp) (AB (fun k u hk=>(H.rd 1 rfl (fun h q=>hri1.le q)).at (Ic hgi1 k u hk)))) (Za 0 [] H rfl ?_));intro b5 w H;refine Az rfl rfl (Ag 0 H rfl rfl rfl rfl (vs:=[Iv_ (n:Int),Iv_ ikd,u1]) rfl (Ab rfl (Ab rfl (Ab su1.one Ar))) (by kernel_rfl) (by simp) (out:=[Iv_ (n:Int),Iv_ ikd,u1]) rfl) ?_;rintro w H;replace H:=H.l9;refine Zc 2 rfl ?_;replace H:=H.f6;refine AI (Sep z (stB b2 pd pt x (.pointer none) m1 false (.map none)::blk b5 [Iv_ (n:Int),Iv_ ikd,u1] 116::R)) 9 rfl (by kernel_rfl) (Bc H fun w H'=> ?_)
     have H:=H'.l9;refine AM [0,1,2,3,4,5,6,7] [10,0,0,0,1,0,1,1,2] [] (by exact (H.pick 9 [0,1] rfl)) rfl (by kernel_rfl) rfl (Av [8] (by kernel_rfl) (by simp) (Au (A8 rfl rfl rfl (Dg 8 (e:=79) H rfl rfl (by kernel_rfl) rfl rfl rfl) ?_)));rintro w H;replace H:=H.l9;refine Ap (H.pick 9 [0,1] rfl) (a_done (by kernel_rfl) (gn ?_));rw[hpm] at H;have H:Sep z (stB b2 pd pt x (.pointer none) m1 false (.map none)::blk b5 [Iv_ (n:Int),Iv_ ikd,u1] 116::blk b4 [Iv_ rc.seq,.slice ao3 rc.ims.length c3] 114::poolA hq5::lgB pl5 pd pt x a5 q5 u5 false (decide (x.epoch<4294967296))::tblA pt::diskA pd D::blk b3 [Iv_ (x.gen+1),Iv_ (x.epoch+1),Iv_ x.pages,Iv_ x.start,Iv_ x.len,Iv_ x.head,Iv_ x.seq] 103::Ay m1 (es4.map PgE.ie) (putC (ei.map PgE.ie) (n:Int) ci)::R) w:=H
     refine Z1 6 [] [(j:Int)+1] rfl (by omega) ?_;replace H:=H.f1.d.f7.f7.f2.f7.f7.f7.f7.f7;refine gf ?_;intro _ hF;refine ⟨⟨j+1,es4,putC (ei.map PgE.ie) (n:Int) ci⟩,(hF.co rfl (by go_num) (hF.all rfl)),⟨H,?_⟩,?_⟩
     ·dsimp only
      exact ⟨by omega,(Lk him)▸hpg4⟩
     ·(dsimp only;omega)
    ·obtain rfl:j=rc.ims.length:=by omega
     refine Zc 2 rfl (gx (Z1 7 [] [(k:Int)+1] rfl (by omega) ?_));replace H:=H.d;refine gf ?_;intro _ hF;refine ⟨⟨k+1,ei,ci⟩,(hF.co rfl (by go_num) (hF.all rfl)),⟨H,?_⟩,?_⟩
     ·dsimp only
      rw[List.take_of_length_le (Nat.le_refl _),MZ hrk] at hpg;exact ⟨by omega,hpg⟩
     ·(dsimp only;omega)
   ·obtain rfl:k=rs5.length:=by omega
    have hpg:=hpgo
    rw[List.take_of_length_le (Nat.le_refl _)] at hpg;refine Zc 2 rfl (gx (Z4 15 [5,5,6,5,5,7] H rfl ?_));intro w H;replace H:=(H.toPgs 6 rfl hpg).l7
    refine Aw rfl (call55 _) (HL _ _ _ _ _ _ _ _ (ov rs5) _ (CO x) D hfbb hfnn hoky (fun i=>by rw[hO.ver];simp)) H.f6.f4.f4.f5 ?_;rintro _ w _ (⟨ks,hks,rfl,rfl⟩|⟨ks,c,D2,hks,hcne,hsf,rfl,rfl⟩) H'
    ·have H:=H'.l7;refine Z0 13 [4] rfl ?_;replace H:=H.f6.f1;refine DJ (Sep z (stB b2 pd pt (CO x) (.pointer none) m1 false (.map none)::blk b3 [Iv_ (x.gen+1),Iv_ (x.epoch+1),Iv_ x.pages,Iv_ x.start,Iv_ x.len,Iv_ 0,Iv_ 1] 103::R)) 11 rfl (by kernel_rfl) (Bc H fun w H'=> ?_)
     have H:=H'.l7;refine DE [0,1,2,3,4,5] [1,0] (by kernel_rfl) (fun _ hx=>(AK (hx.blk 0 rfl) AW)) (by exact (H.pick 7 [0,1] rfl)) rfl (by kernel_rfl) rfl rfl (Dv 6 (by kernel_rfl) rfl rfl (by kernel_rfl) (by kernel_rfl) (by kernel_rfl) rfl rfl rfl (BE rfl rfl (vs:=[Iv_ (x.gen+1),Iv_ (x.epoch+1),Iv_ x.pages,Iv_ x.start,Iv_ x.len,Iv_ 0,Iv_ 1]) (by kernel_rfl) (fun _ hx=>(hx.blk 1 rfl).part 0 7 _ rfl)) (H.pick 7 [0,1] rfl) (Cz [7] (by kernel_rfl) (by simp) (Au (BL rfl rfl rfl rfl rfl rfl (fun w=>call56 _ w) (Oj _ _ _ (CO x) (by show (CO x).Ok ((hwD D _).n:Int);rw[Ev];exact hoky)) H.f3 rfl ?_))));rintro _ w _ ⟨pl,rfl,rfl⟩ H;replace H:=H.l8;refine Bn (fun _=>(H.pick 8 [2,3] rfl)) (DE [8,9] [9] (by kernel_rfl) (fun _ _=>AW) (by exact (H.pick 8 [2,3] rfl)) rfl (by kernel_rfl) rfl rfl (Cz [10] (by kernel_rfl) (by simp) (Au (A8 rfl rfl rfl (ZG 2 H rfl rfl rfl rfl rfl rfl (by kernel_rfl)) ?_))));rintro w H;replace H:=H.l8;refine Bn (fun h=>absurd rfl h) (DK (by kernel_rfl) (gn (Zc 9 rfl (Zr rfl ?_))));exact ⟨_,⟨b2,pl,_,m1,_,_,rs5,hgd,hO.opened hgd hks hoky hep,(((hcl.hw _).fl).sv _),by show (hwD _ _).n=_;exact Ev _ _,GN (fun _=>rfl) _,rfl,rfl⟩,H.perm 8 [2,0,4,1,5,6] rfl rfl⟩
    ·exact absurd hsf hcl.setF
open Go.RowKit
theorem Wb (n k:Nat):wr1 (Ej (B3 n) k) false ((2:Int)+(k:Int)).toNat (List.replicate 256 0)=Ej (B3 n) (k+1):=by
 rw[show ((2:Int)+(k:Int)).toNat=2+k from by omega];rfl
theorem Yc {n:Nat} {p s l:Int} (h:(B9 p s l 2).Ok (n:Int)):(B9 p s l 1).Ok (n:Int):=by
 have hk:=h.2
 have hs:=Sup.get h
 have h2:(B9 p s l 2).pages=p∧(B9 p s l 2).start=s∧(B9 p s l 2).len=l∧(B9 p s l 2).head=0:=⟨rfl,rfl,rfl,rfl⟩
 exact Sup.ok_mk (by show 0≤(1:Int)∧(1:Int)≤1099511627776;omega) (by show 0≤(1:Int)∧(1:Int)≤1099511627776;omega) (by show 16≤p∧p≤1024;omega) (by show 2+p≤s∧s≤1099511627776;omega) (by show 64≤l∧l≤1099511627776;omega) (by show 0≤(0:Int)∧(0:Int)<l;omega) (by show 0≤(1:Int)∧(1:Int)≤1099511627776;omega) (by show s≤n - l∧l≤n;omega)
theorem ZP {n:Nat} {p s l:Int} (h:(B9 p s l 2).Ok (n:Int)):(16≤p∧p≤1024)∧2+p≤s∧s+l≤n∧0≤l:=by
 have hk:=h.2
 have h2:(B9 p s l 2).pages=p∧(B9 p s l 2).start=s∧(B9 p s l 2).len=l∧(B9 p s l 2).head=0:=⟨rfl,rfl,rfl,rfl⟩
 omega
set_option maxHeartbeats 2000000 in
theorem Tn (pd n:Nat) (p s l:Int) (hok:(B9 p s l 2).Ok (n:Int)):Cn prog 48 [Pt_ pd,Iv_ p,Iv_ s,Iv_ l] [diskA pd (B3 n)] (fun v Γ=>v=Iv_ 0∧Γ=[diskA pd (KU n p s l)]):=by
 intro z R w H';have H:Sep z (diskA pd (B3 n)::R) w:=H'
 clear H';have hok1:(B9 p s l 1).Ok (n:Int):=Yc hok
 have hk2:(16≤p∧p≤1024)∧2+p≤s∧s+l≤n∧0≤l:=ZP hok
 have hn2d:=H.says 0 rfl (fun h q=>(diskA.ok q).n2)
 have hn3:n≤4096:=hn2d
 refine enter func48 rfl 57 ntmps48 rfl (AO (AC (BP 1 rfl rfl (AH (AO (AO (AC (BP 1 rfl rfl (s_do rfl rfl rfl (LK rfl (by kernel_rfl) rfl rfl) (AH (EA rfl (Dk (AO ?_)))))))))))));refine AC (BP 3 rfl rfl (s_do rfl rfl rfl (AF rfl rfl (out:=[Iv_ 1,Iv_ 1,Iv_ p,Iv_ s,Iv_ l,Iv_ 0,Iv_ 1]) (by kernel_rfl)) (Eo rfl rfl rfl (BO (P:=prog) H rfl (zs:=[Iv_ 0,Iv_ 0,Iv_ 0,Iv_ 0,Iv_ 0,Iv_ 0,Iv_ 0]) (by kernel_rfl)) ?_)));rintro _ w ⟨b1,rfl,H'⟩;have H:=H'.l2;refine Fd rfl rfl (Ag 0 H rfl rfl rfl rfl (vs:=[Iv_ 1,Iv_ 1,Iv_ p,Iv_ s,Iv_ l,Iv_ 0,Iv_ 1]) rfl (by simp[u8,u32,Value.oneCell']) (by kernel_rfl) (by simp) (out:=[Iv_ 1,Iv_ 1,Iv_ p,Iv_ s,Iv_ l,Iv_ 0,Iv_ 1]) rfl) ?_;rintro w H';have H:=H'.l2;refine AH (AO (AO (AG (Sep z _) (by kernel_rfl) (by kernel_rfl) H.drew (A6 rfl rfl rfl (BE rfl rfl (vs:=[Iv_ 1,Iv_ 1,Iv_ p,Iv_ s,Iv_ l,Iv_ 0,Iv_ 1]) (by kernel_rfl) (fun _ hx=>(hx.blk 0 rfl).part 0 7 _ rfl)) (Br 1 [] rfl (by kernel_rfl) (CJ rfl rfl rfl rfl rfl (fun w=>call87 _ w) (v:=Iv_ ((B3 n).n:Int)) (cq (GL _ _) (by rintro _ _ ⟨rfl,rfl⟩;exact ⟨rfl,rfl⟩) 2 [1,0] [1,0] rfl rfl rfl rfl) (CJ rfl rfl rfl rfl rfl (fun w=>call86 _ w) (v:=Iv_ (if (Sup.mk 1 1 p s l 0 1).Ok ((B3 n).n:Int) then 0 else 1)) (cq (GH (Sup.mk 1 1 p s l 0 1) _ (by omega)) (by rintro _ _ ⟨rfl,rfl⟩;exact ⟨rfl,rfl⟩) 0 [] [] rfl rfl rfl rfl) (Br 1 [] rfl (by kernel_rfl) (AU (fun w H'=> ?_))))))))))
 have H:=H'.l2;refine FC rfl (fun h1=> ?_) (fun h1=> ?_)
 ·exact (h1 (if_pos hok1)).elim
 ·refine Dk (AO (AO (AC (BP 2 rfl rfl (AH (E2 ?_))))));refine PN (σ:=Nat) (fun k=>[(27,Iv_ (k:Int)),(0,Pt_ pd),(9,Pt_ b1),(26,Iv_ p)])
    (fun k w=>Sep z (blk b1 [Iv_ 1,Iv_ 1,Iv_ p,Iv_ s,Iv_ l,Iv_ 0,Iv_ 1] 103::diskA pd (Ej (B3 n) k)::R) w∧(k≤p.toNat)) (fun k=>p.toNat - k) 0
    (fun _ hF=>(hF.co rfl (by go_num) (hF.all rfl))) ⟨H,by omega⟩ ?_
  clear H;rintro k w ⟨H',hI⟩;have H:=H'.l2;have hkp:=hI;clear hI
  refine AO (AC (BP 1 rfl rfl (AH (AO (FC rfl (fun h2=> ?_) (fun h2=> ?_))))))
  ·refine Dk (AO (E2 (AO (AC (BP 2 rfl rfl (AH (AO (AC (BP 2 rfl rfl (s_do rfl rfl rfl (DB rfl rfl rfl (r:=(2:Int)+(k:Int)) (by omega) (by omega)) (Eo rfl rfl rfl (DA (k:=256) H rfl (by kernel_rfl) (Elt.mk (P:=prog) (e:=5) (z:=u8 0) (sz:=1) (by_:=1) (by kernel_rfl) rfl (by omega) (by omega)) rfl rfl rfl (by omega)) ?_)))))))))));rintro _ w ⟨b2,rfl,H'⟩;have H:=H'.l3;refine EZ rfl rfl rfl rfl rfl (fun w=>call88 _ w) (IV _ _ _ _ _ _ _ (List.replicate 256 0) _ (by simp) (fun h q=>by rw[List.map_replicate];exact q.rd (by omega) (by omega) (by simp) rfl) (fun i=>by have:=Rb n i k;omega) (by rw[MX];show 0≤(2:Int)+(k:Int)∧(2:Int)+(k:Int)+1≤(n:Int);omega)) H.f2 rfl ?_;rintro _ w _ (⟨hbad,rfl,rfl⟩|⟨_,rfl,rfl⟩) H'
   ·exact absurd hbad (Fa (EW n) k).bad
   ·have H:=H'.l3;refine BP 1 rfl rfl (AH (AO (AC (BP 2 rfl rfl (Al 36 (u:= .bool (decide ((0:Int)≠0))) (v:= .bool false) rfl (congrArg Value.bool (by decide)) (AH (EA rfl (Dk (AC (s_do rfl rfl rfl (DB rfl rfl rfl (r:=(k:Int)+1) (by omega) (by omega)) (BP 1 rfl rfl (AH ?_))))))))))));replace H:=H.f1.d.f1;intro _ hF;refine ⟨(k+1),(hF.co rfl (by go_num) (hF.all rfl)),⟨(by rw[←Wb];exact H),?_⟩,?_⟩
    ·omega
    ·omega
  ·obtain rfl:k=p.toNat:=by omega
   refine PK (Ht (AO (AO (AC (BP 1 rfl rfl (EZ rfl rfl rfl rfl rfl (fun w=>call89 _ w) (GK _ _) H.f1 rfl ?_))))));rintro _ w _ (⟨hfb_,rfl,rfl⟩|⟨_,rfl,rfl⟩) H'
   ·exact absurd hfb_ (Fa (EW n) p.toNat).flb
   ·have H:=H'.l2;refine BP 1 rfl rfl (AH (AO (AC (BP 2 rfl rfl (Al 42 (u:= .bool (decide ((0:Int)≠0))) (v:= .bool false) rfl (congrArg Value.bool (by decide)) (AH (EA rfl (Dk (AO (AC (EZ rfl rfl rfl rfl rfl (fun w=>call52 _ w) (MH) H rfl ?_)))))))))));rintro _ w _ ⟨pt,rfl,rfl⟩ H';have H:=H'.l3;refine BP 1 rfl rfl (AH (AO (AO (AC (BP 2 rfl rfl (s_do rfl rfl rfl (BE rfl rfl (vs:=[Iv_ 1,Iv_ 1,Iv_ p,Iv_ s,Iv_ l,Iv_ 0,Iv_ 1]) (by kernel_rfl) (AB ((H.blk 2 rfl).part 0 7 _ rfl))) (EZ rfl rfl rfl rfl rfl (fun w=>call90 _ w) (MQ _ _ _ (B9 p s l 1) (by show (B9 p s l 1).Ok ((Ej (B3 n) p.toNat).n:Int);rw[MX];exact hok1) (fun i=>by show ([]:List (List UInt8)).length≤_;simp)) H.f1 rfl ?_)))))));rintro _ w _ (⟨hsb,rfl,rfl⟩|⟨_,rfl,rfl⟩) H'
    ·exact absurd hsb ((Fa (EW n) p.toNat).fl).bad
    ·have H:=H'.l3;refine BP 1 rfl rfl (AH (AO (AC (BP 2 rfl rfl (Al 50 (u:= .bool (decide ((0:Int)≠0))) (v:= .bool false) rfl (congrArg Value.bool (by decide)) (AH (EA rfl (Dk (AO (AC (KC 1 [0] rfl (by kernel_rfl) (Fd rfl rfl (Ag 2 H rfl rfl rfl rfl (vs:=[Iv_ 2]) rfl (by simp[u8,u32,Value.oneCell']) (by kernel_rfl) (by simp) (out:=[Iv_ 2,Iv_ 1,Iv_ p,Iv_ s,Iv_ l,Iv_ 0,Iv_ 1]) rfl) ?_))))))))))));rintro w H';have H:=H'.l3;refine AH (AO (AC (BP 2 rfl rfl (s_do rfl rfl rfl (BE rfl rfl (vs:=[Iv_ 2,Iv_ 1,Iv_ p,Iv_ s,Iv_ l,Iv_ 0,Iv_ 1]) (by kernel_rfl) (AB ((H.blk 2 rfl).part 0 7 _ rfl))) (EZ rfl rfl rfl rfl rfl (fun w=>call90 _ w) (MQ _ _ _ (B9 p s l 2) (by show (B9 p s l 2).Ok ((Ej (B3 n) p.toNat).n:Int);rw[MX];exact hok) (fun i=>by rw[GN (fun _=>rfl)];simp)) H rfl ?_)))));rintro _ w _ (⟨hsb,rfl,rfl⟩|⟨_,rfl,rfl⟩) H'
     ·exact absurd hsb (((Fa (EW n) p.toNat).fl.sv _)).bad
     ·have H:=H'.l3;refine BP 1 rfl rfl (AH (Ek (F9 rfl [Iv_ 0] ⟨rfl,trivial⟩ (v:=Iv_ 0) rfl ?_)));exact ⟨[diskA pd (EG (EG ((Ej (B3 n) p.toNat).fl) (B9 p s l 1)) (B9 p s l 2))],⟨rfl,rfl⟩,H.perm 3 [0] rfl rfl⟩
theorem Wc (ps pd pt md:Nat) (x:Sup) (lp mo:Value) (D:Dsk):Cn prog 51 [Pt_ ps] [stB ps pd pt x lp md false mo,diskA pd D] (fun v Γ=>(D.flb∧v=Iv_ 12∧Γ=[stB ps pd pt x lp md false mo,diskA pd { D with f3:=AY D.f3 }])∨(¬ D.flb∧v=Iv_ 0∧Γ=[stB ps pd pt x lp md false mo,diskA pd D.fl])):=by
 intro z R w H';have H:Sep z (stB ps pd pt x lp md false mo::diskA pd D::R) w:=H'
 clear H';refine enter func51 rfl 12 ntmps51 rfl (AO (AC (BP 1 rfl rfl (AH (AO (AO (AC (FQ 4 [11,0] (AK (H.blk 0 rfl) AW) rfl (by kernel_rfl) rfl (AH (EA rfl (Dk (AO (AC ?_)))))))))))));refine FQ 4 [0,0] (AK (H.blk 0 rfl) AW) rfl (by kernel_rfl) rfl (EZ rfl rfl rfl rfl rfl (fun w=>call89 _ w) (GK _ _) H.f1 rfl ?_);rintro _ w _ (⟨hfb_,rfl,rfl⟩|⟨hfb_,rfl,rfl⟩) H'
 ·have H:=H'.l2;refine BP 1 rfl rfl (AH (Ek (F9 rfl [Iv_ 12] ⟨rfl,trivial⟩ (v:=Iv_ 12) rfl ?_)));exact ⟨[stB ps pd pt x lp md false mo,diskA pd ({ D with f3:=AY D.f3 })],.inl ⟨hfb_,rfl,rfl⟩,H.perm 2 [1,0] rfl rfl⟩
 ·have H:=H'.l2;refine BP 1 rfl rfl (AH (Ek (F9 rfl [Iv_ 0] ⟨rfl,trivial⟩ (v:=Iv_ 0) rfl ?_)));exact ⟨[stB ps pd pt x lp md false mo,diskA pd D.fl],.inr ⟨hfb_,rfl,rfl⟩,H.perm 2 [1,0] rfl rfl⟩
section
structure StG where
 x:Sup
 B:Nat→Pg
 rs:List Rc
 ptl:List (List UInt8)
 a:Int
 q:Int
 u:Int
 b:Bool
 sure:Nat
def StG.M (G:StG):Nat→Pg:=pgMap (ov G.rs) G.B
def StG.home (G:StG):Prop:=∀ n,ov G.rs n=none
structure StX where
 pl:Nat
 pt:Nat
 md:Nat
 mm:Nat
 sL:Sup
 nu:Bool
 hq:Hp
abbrev Gl:=Option (Bh×Nat)
def Yd (mm:Nat):Gl→Value
 | none=> .map none
 | some _=> .map (some mm)
def ZQ (mm:Nat) (hq:Hp):Gl→List Ae
 | none=>[]
 | some o=>[DQ mm o.1 o.2 hq]
abbrev Ye (ps pd pt md:Nat) (x:Sup) (lp:Value) (un:Bool) (mo:Value):Ae:=blk ps [.pointer (some ⟨pd,0,none⟩),.pointer (some ⟨pt,0,none⟩),.int .i64 x.gen,.int .i64 x.epoch,.int .i64 x.pages,.int .i64 x.start,.int .i64 x.len,.int .i64 x.head,.int .i64 x.seq,lp,.map (some md),.bool un,mo] 106
abbrev Yf (pl pd pt:Nat) (sL:Sup) (a q u:Int) (b nu:Bool):Ae:=blk pl [.pointer (some ⟨pd,0,none⟩),.pointer (some ⟨pt,0,none⟩),.int .i64 sL.gen,.int .i64 sL.epoch,.int .i64 sL.pages,.int .i64 sL.start,.int .i64 sL.len,.int .i64 sL.head,.int .i64 sL.seq,.int .i64 a,.int .i64 q,.int .i64 u,.bool b,.bool nu] 188
def Pz (ps pd:Nat) (D:Dsk) (G:StG) (own:Gl) (X:StX):List Ae:=
 [Ye ps pd X.pt X.md G.x (.pointer (some ⟨X.pl,0,none⟩)) own.isSome (Yd X.mm own),Yf X.pl pd X.pt X.sL G.a G.q G.u G.b X.nu,tblA X.pt,diskA pd D,pgsA X.md (ov G.rs) X.hq,poolA X.hq]++ZQ X.mm X.hq own
structure StP (D:Dsk) (G:StG) (own:Gl) (X:StX):Prop where
 inv:SInv D G.x G.B G.rs G.ptl G.a G.q G.u G.b G.sure
 l:X.sL.start=G.x.start∧X.sL.len=G.x.len∧X.sL.epoch=G.x.epoch
 ok:X.sL.Ok (D.n:Int)
 nu:X.nu=decide (X.sL.epoch<4294967296)
 own:∀ o,own=some o→o.2≤40∧∀ n,(o.1 n).isSome=true→(n:Int)<G.x.pages
def stoA (ps pd:Nat) (D:Dsk) (G:StG) (own:Gl):Ae:=fun h=>∃ X,StP D G own X∧seps (Pz ps pd D G own X) h
structure Fine (D:Dsk) (G:StG) (m:Nat):Prop where
 clean:Clean D
 b:G.b=false
 ver:∀ i,(D.ver i).length≤m
 gen:G.x.gen≤m
 epoch:G.x.epoch≤m
 q:G.q≤m
theorem Fine.le {D:Dsk} {G:StG} {m m':Nat} (h:Fine D G m) (e:m≤m'):Fine D G m':=
 ⟨h.clean,h.b,fun i=>Nat.le_trans (h.ver i) e,by have:=h.gen;omega,by have:=h.epoch;omega,by have:=h.q;omega⟩
variable {z w:World} {Γ:List Ae} {ps pd:Nat} {D:Dsk} {G:StG} {own:Gl}
theorem Sep.sto (H:Sep z (stoA ps pd D G own::Γ) w):∃ X,StP D G own X∧Sep z (Pz ps pd D G own X++Γ) w:=
 H.into (p:=fun X=>StP D G own X) (As:=fun X=>Pz ps pd D G own X) (fun _ q=>q)
theorem Sep.toSto {X:StX} (n:Nat) (H:Sep z Γ w) (hX:StP D G own X) (hn:Γ.take n=Pz ps pd D G own X):Sep z (stoA ps pd D G own::Γ.drop n) w:=
 H.made n (fun h q=>⟨X,hX,by rwa[hn] at q⟩)
def Db (M:Nat→Pg):Gl→Nat→Pg
 | none,n=>M n
 | some o,n=>(o.1 n).getD (M n)
def M3 (x:Sup) (B:Nat→Pg):StG:=⟨CO x,B,[],[],0,1,0,false,0⟩
theorem M4 (pd:Nat) (D:Dsk) (x:Sup) (B:Nat→Pg) (Gd:List Rc→Prop) (m:Nat) (hO:OInv D x B Gd) (hcl:Clean D) (hg:x.gen≤m∧x.epoch≤m) (hm:m≤1000000000):
  Cn prog 22 [Pt_ pd] [diskA pd D] (fun v Γ=>∃ (ps:Nat) (D2:Dsk) (got:List Rc),Gd got∧Fine D2 (M3 x (pgMap (ov got) B)) (m+1)∧D2.n=D.n∧v= .tuple #[Pt_ ps,Iv_ 0]∧Γ=[stoA ps pd D2 (M3 x (pgMap (ov got) B)) none]):=by
 intro z R w H
 refine Ret.mono (sopen_c pd D x B Gd hO hcl (by omega) (by omega) z R w H) ?_
 rintro v w' ⟨Γ',⟨ps,pl,pt,md,hq,D2,got,h1,h2,h3,h4,h5,rfl,rfl⟩,H'⟩
 refine ⟨_,⟨ps,D2,got,h1,⟨h3,rfl,fun i=>by rw[h5];simp,?_,?_,?_⟩,h4,rfl,rfl⟩,H'.toSto (X:=⟨pl,pt,md,0,CO x,decide ((CO x).epoch<4294967296),hq⟩) 6 ⟨h2,⟨rfl,rfl,rfl⟩,h2.ok,rfl,fun o e=>(by cases e)⟩ rfl⟩
 ·show x.gen+1≤_;omega
 ·show x.epoch+1≤_;omega
 ·show (1:Int)≤_;omega
theorem Ou (ps pd:Nat) (D:Dsk) (G:StG):Cn prog 29 [Pt_ ps] [stoA ps pd D G none] (fun v Γ=>v=Iv_ 0∧Γ=[stoA ps pd D G (some (CV,0))]):=by
 intro z R w H
 obtain ⟨X,hX,H⟩:=H.sto
 refine Ret.mono (Cn.at (V4 ps pd X.pt X.md G.x _ _) H 6 [0,1,2,3,4,5] rfl rfl) ?_
 rintro v w' ⟨Γ',⟨rfl,m,rfl⟩,H'⟩
 have H2:=H'.mono 1 (B:=DQ m CV 0 X.hq) rfl (fun h q=>⟨[],0,PgsIn.none _ _,rfl,q⟩)
 have H3:=H2.pick 7 [0,2,3,4,5,6,1] rfl
 exact ⟨_,⟨rfl,rfl⟩,H3.toSto (X:=⟨X.pl,X.pt,X.md,m,X.sL,X.nu,X.hq⟩) 7 ⟨hX.inv,hX.l,hX.ok,hX.nu,fun o e=>by cases e;exact ⟨by omega,fun n h=>(by cases h)⟩⟩ rfl⟩
theorem Wd (ps pd:Nat) (D:Dsk) (G:StG) (own:Gl):Cn prog 61 [Pt_ ps] [stoA ps pd D G own] (fun v Γ=>v= .tuple #[]∧Γ=[stoA ps pd D G none]):=by
 intro z R w H
 obtain ⟨X,hX,H⟩:=H.sto
 have H2:Sep z (Ye ps pd X.pt X.md G.x (.pointer (some ⟨X.pl,0,none⟩)) own.isSome (Yd X.mm own)::Yf X.pl pd X.pt X.sL G.a G.q G.u G.b X.nu::tblA X.pt::diskA pd D::pgsA X.md (ov G.rs) X.hq::poolA X.hq::R) w:=by
  cases own with
  | none=>exact H
  | some o=>exact H.pick 7 [0,1,2,3,4,5] rfl
 refine Ret.mono (Cn.at (V3 ps pd X.pt X.md G.x _ _ _) H2 6 [0,1,2,3,4,5] rfl rfl) ?_
 rintro v w' ⟨Γ',⟨rfl,rfl⟩,H'⟩
 exact ⟨_,⟨rfl,rfl⟩,H'.toSto (X:=X) 6 ⟨hX.inv,hX.l,hX.ok,hX.nu,fun o e=>(by cases e)⟩ rfl⟩
theorem We (ps pd:Nat) (D:Dsk) (G:StG) (own:Gl):Cn prog 57 [Pt_ ps] [stoA ps pd D G own] (fun v Γ=>v= .agg #[Iv_ G.x.gen,Iv_ G.x.epoch,Iv_ G.x.pages,Iv_ G.x.start,Iv_ G.x.len,Iv_ G.x.head,Iv_ G.x.seq]∧Γ=[stoA ps pd D G own]):=by
 intro z R w H
 obtain ⟨X,hX,H⟩:=H.sto
 cases own with
 | none=>
  refine Ret.mono (Cn.at (Ot ps pd X.pt X.md G.x _ _ _) H 6 [0,1,2,3,4,5] rfl rfl) ?_
  rintro v w' ⟨Γ',⟨rfl,rfl⟩,H'⟩
  exact ⟨_,⟨rfl,rfl⟩,H'.toSto (X:=X) 6 hX rfl⟩
 | some o=>
  refine Ret.mono (Cn.at (Ot ps pd X.pt X.md G.x _ _ _) H 7 [0,1,2,3,4,5,6] rfl rfl) ?_
  rintro v w' ⟨Γ',⟨rfl,rfl⟩,H'⟩
  exact ⟨_,⟨rfl,rfl⟩,H'.toSto (X:=X) 7 hX rfl⟩
theorem FI (ps pd:Nat) (D:Dsk) (G:StG) (g:Bh) (k:Nat) (n:Nat) (hn:(n:Int)<G.x.pages) (p:Pg) (hp:p.Ok) (bv:Value) (A:Ae) (hA:∀ h,A h→rdH 1 bv 240 (p.body.map u8) h):
  Cn prog 34 [Pt_ ps,Iv_ (n:Int),.agg #[Iv_ p.kind,bv]] [stoA ps pd D G (some (g,k)),A] (fun v Γ=>((g n=none∧40≤k)∧v=Iv_ 16∧Γ=[stoA ps pd D G (some (g,k)),A])∨(¬ (g n=none∧40≤k)∧v=Iv_ 0∧Γ=[stoA ps pd D G (some (pgSet g n p,k+(if (g n).isSome then 0 else 1))),A])):=by
 intro z R w H
 obtain ⟨X,hX,H⟩:=H.sto
 obtain ⟨ho1,ho2⟩:=hX.own _ rfl
 refine Ret.mono (Cn.at (Th ps pd X.pt X.md X.mm G.x _ g k X.hq n hn p hp bv A hA) H 8 [0,6,5,7,1,2,3,4] rfl rfl) ?_
 rintro v w' ⟨Γ',(⟨h1,rfl,rfl⟩|⟨h1,hq2,hs,rfl,rfl⟩),H'⟩
 ·have H3:=H'.pick 8 [0,4,5,6,7,2,1,3] rfl
  exact ⟨_,.inl ⟨h1,rfl,rfl⟩,H3.toSto (X:=X) (ps:=ps) (pd:=pd) (D:=D) (G:=G) (own:=some (g,k)) 7 hX rfl⟩
 ·have H3:=(H'.pick 8 [0,4,5,6,7,2,1,3] rfl).mono 4 (B:=pgsA X.md (ov G.rs) hq2) rfl (fun h q=>pgsA.le hs h q)
  refine ⟨_,.inr ⟨h1,rfl,rfl⟩,H3.toSto (X:=⟨X.pl,X.pt,X.md,X.mm,X.sL,X.nu,hq2⟩) (ps:=ps) (pd:=pd) (D:=D) (G:=G) (own:=some (pgSet g n p,k+(if (g n).isSome then 0 else 1))) 7 ⟨hX.inv,hX.l,hX.ok,hX.nu,fun o e=> ?_⟩ rfl⟩
  cases e
  refine ⟨?_,fun i hi=> ?_⟩
  ·show k+(if (g n).isSome then 0 else 1)≤40
   split
   ·exact ho1
   ·rename_i hs2
    have hgn:g n=none:=by simpa using hs2
    have:¬ 40≤k:=fun e=>h1 ⟨hgn,e⟩
    omega
  ·have hi':(pgSet g n p i).isSome=true:=hi
   unfold pgSet at hi'
   split at hi'
   ·rename_i e;subst e;exact hn
   ·exact ho2 i hi'
theorem JC (ps pd:Nat) (D:Dsk) (G:StG) (own:Gl) (n:Nat) (hn:(n:Int)<G.x.pages) (hf1:D.f1=0) (q:Pg) (hq:q=Db G.M own n):
  Cn prog 42 [Pt_ ps,Iv_ (n:Int)] [stoA ps pd D G own] (fun v Γ=>(q=noPg∧v= .tuple #[.agg #[Iv_ 0,.slice none 0 0],Iv_ 0]∧Γ=[stoA ps pd D G own])∨(q.Ok∧∃ v1,v= .tuple #[.agg #[Iv_ q.kind,v1],Iv_ 0]∧Γ=[grow 5 1 v1 240 (q.body.map u8),stoA ps pd D G own])):=by
 intro z R w H
 obtain ⟨X,hX,H⟩:=H.sto
 cases own with
 | none=>
  refine Ret.mono (Cn.at (Te ps pd X.pt X.md G.x _ _ (ov G.rs) X.hq D n hn hf1 hX.inv.ok q (G.B n) hq (fun e=>hX.inv.cur hn e)) H 6 [0,2,3,4,5,1] rfl rfl) ?_
  rintro v w' ⟨Γ',(⟨h1,rfl,rfl⟩|⟨h1,v1,rfl,rfl⟩),H'⟩
  ·have H3:=H'.pick 6 [0,5,1,2,3,4] rfl
   exact ⟨_,.inl ⟨h1,rfl,rfl⟩,H3.toSto (X:=X) (ps:=ps) (pd:=pd) (D:=D) (G:=G) (own:=none) 6 hX rfl⟩
  ·have H3:=H'.pick 7 [1,6,2,3,4,5,0] rfl
   have H4:=H3.toSto (X:=X) (ps:=ps) (pd:=pd) (D:=D) (G:=G) (own:=none) 6 hX rfl
   exact ⟨_,.inr ⟨h1,v1,rfl,rfl⟩,H4.pick 2 [1,0] rfl⟩
 | some o=>
  refine Ret.mono (Cn.at (Tf ps pd X.pt X.md X.mm G.x _ _ (ov G.rs) o.1 o.2 X.hq D n hn hf1 hX.inv.ok q (G.B n) (by rw[hq];show (o.1 n).getD ((ov G.rs n).getD (G.B n))=_;cases o.1 n<;>rfl) (fun e=>hX.inv.cur hn (by cases h1:o.1 n with|none=>rw[h1] at e;exact e|some y=>rw[h1] at e;cases e))) H 7 [0,2,3,4,6,5,1] rfl rfl) ?_
  rintro v w' ⟨Γ',(⟨h1,rfl,rfl⟩|⟨h1,v1,rfl,rfl⟩),H'⟩
  ·have H3:=H'.pick 7 [0,6,1,2,3,5,4] rfl
   exact ⟨_,.inl ⟨h1,rfl,rfl⟩,H3.toSto (X:=X) (ps:=ps) (pd:=pd) (D:=D) (G:=G) (own:=some o) 7 hX rfl⟩
  ·have H3:=H'.pick 8 [1,7,2,3,4,6,5,0] rfl
   have H4:=H3.toSto (X:=X) (ps:=ps) (pd:=pd) (D:=D) (G:=G) (own:=some o) 7 hX rfl
   exact ⟨_,.inr ⟨h1,v1,rfl,rfl⟩,H4.pick 2 [1,0] rfl⟩
theorem M5 (ps pd:Nat) (D:Dsk) (G:StG) (g:Bh) (k m:Nat) (hF:Fine D G m) (hm:m≤1000000000):
  Cn prog 36 [Pt_ ps] [stoA ps pd D G (some (g,k))] (fun v Γ=>∃ (D2:Dsk) (G2:StG),Fine D2 G2 (m+2)∧D2.n=D.n∧(G2.M=Db G.M (some (g,k))∧∀ n,(g n).isSome=true→(ov G2.rs n).isSome=true)∧(G2.x=G.x∨G2.x=EI G.x G.a G.q)∧v=Iv_ 0∧Γ=[stoA ps pd D2 G2 none]):=by
 intro z R w H
 obtain ⟨X,hX,H⟩:=H.sto
 obtain ⟨ho1,ho2⟩:=hX.own _ rfl
 have h1:=hF.gen
 have h2:=hF.epoch
 have h3:=hF.q
 have hL:=hX.l
 have hc:=Pu G.x G.a G.q
 refine Ret.mono (Cn.at (Tk ps pd X.pt X.pl X.md X.mm G.x X.sL X.nu X.hq g k D G.B G.rs G.ptl G.a G.q G.u G.b G.sure hX.inv hX.l hX.ok hX.nu (by omega) (fun i=>by have:=hF.ver i;omega) ho2 ho1) H 7 [0,1,2,3,4,6,5] rfl rfl) ?_
 rintro v w' ⟨Γ',(⟨h4,rfl,rfl⟩|⟨h4,hq2,D2,x2,B2,rs2,a2,u2,sure2,hs,hS2,⟨hM2,hsm2⟩,hx2,hcl2,hD2,rfl,rfl⟩|⟨_,c,hq2,D2,x2,B2,rs2,ptl2,a2,q2,u2,b2,sure2,hne,hw,_⟩),H'⟩
 ·subst h4
  have hg:∀ n,g n=none:=H.says 6 rfl (fun h q=>by obtain ⟨es,clk,h1,h2,_⟩:=q;exact h1.nil_iff.1 h2)
  exact ⟨_,⟨D,G,hF.le (by omega),rfl,⟨by funext n;show _=(g n).getD _;rw[hg];rfl,fun n hn=>by rw[hg] at hn;cases hn⟩,.inl rfl,rfl,rfl⟩,H'.toSto (X:=X) 6 ⟨hX.inv,hX.l,hX.ok,hX.nu,fun o e=>(by cases e)⟩ rfl⟩
 ·have hx3:x2.start=G.x.start∧x2.len=G.x.len∧x2.epoch=G.x.epoch∧x2.gen≤G.x.gen+1∧G.x.gen≤x2.gen:=by
   rcases hx2 with rfl|rfl
   ·exact ⟨rfl,rfl,rfl,by omega,by omega⟩
   ·exact ⟨rfl,rfl,rfl,by omega,by omega⟩
  refine ⟨_,⟨D2,⟨x2,B2,rs2,[],a2,G.q+1,u2,false,sure2⟩,⟨hcl2 hF.clean,rfl,fun i=>by have:=hD2.2 i;have:=hF.ver i;omega,by show x2.gen≤_;omega,by show x2.epoch≤_;omega,by show G.q+1≤_;omega⟩,hD2.1,⟨?_,hsm2⟩,hx2,rfl,rfl⟩,H'.toSto (X:=⟨X.pl,X.pt,X.md,X.mm,X.sL,X.nu,hq2⟩) 6 ⟨hS2,by show X.sL.start=x2.start∧X.sL.len=x2.len∧X.sL.epoch=x2.epoch;omega,by rw[hD2.1];exact hX.ok,hX.nu,fun o e=>(by cases e)⟩ rfl⟩
  show pgMap (ov rs2) B2=_
  rw[hM2,IW];rfl
 ·rcases hw with g|g
  ·exact absurd hF.clean g
  ·omega
theorem sync_s (ps pd:Nat) (D:Dsk) (G:StG) (m:Nat) (hF:Fine D G m):Cn prog 51 [Pt_ ps] [stoA ps pd D G none] (fun v Γ=>v=Iv_ 0∧Fine D.fl { G with sure:=G.rs.length } m∧Γ=[stoA ps pd D.fl { G with sure:=G.rs.length } none]):=by
 intro z R w H
 obtain ⟨X,hX,H⟩:=H.sto
 refine Ret.mono (Cn.at (Wc ps pd X.pt X.md G.x _ _ D) H 6 [0,3,1,2,4,5] rfl rfl) ?_
 rintro v w' ⟨Γ',(⟨h1,_⟩|⟨_,rfl,rfl⟩),H'⟩
 ·exact absurd h1 hF.clean.flb
 ·have H3:=H'.pick 6 [0,2,3,1,4,5] rfl
  exact ⟨_,⟨rfl,⟨hF.clean.fl,hF.b,fun i=>Nat.zero_le _,hF.gen,hF.epoch,hF.q⟩,rfl⟩,H3.toSto (X:=X) 6 ⟨hX.inv.flush,hX.l,hX.ok,hX.nu,fun o e=>(by cases e)⟩ rfl⟩
end
open Go.RowKit
abbrev plB (pp ps pc pa n:Nat) (un:Bool):Ae:=blk pp [.pointer (some ⟨ps,0,none⟩),.pointer (some ⟨pc,0,none⟩),.pointer (some ⟨pa,0,none⟩),.int .i64 (n:Int),.bool un] 71
theorem To (pp ps pd pc bn m pa n:Nat) (D:Dsk) (G:StG):Cn prog 12 [Pt_ pp] [plB pp ps pc pa n false,stoA ps pd D G none] (fun v Γ=>v=Iv_ 0∧Γ=[plB pp ps pc pa n true,stoA ps pd D G (some (CV,0))]):=by
 intro z R w H;replace H:=H.l2;refine Ad func12 rfl ntmps12 rfl (Z2 12 [0,0,0,0] H rfl (z_E_ rfl (call29 _) (Ou _ _ _ _) H.f1 ?_));intro w H;refine Z4 26 [4,1,0,3,4,1] H rfl ?_;intro w H;refine Zr rfl ?_;exact ⟨_,⟨rfl,rfl⟩,H.perm 2 [1,0] rfl rfl⟩
theorem Wf (pp ps pc bn m pa n:Nat) (C C0:Nat→Nat) (l:List IE) (clk:Nat) (F Dd S:Nat→Bool) (W:WasOk C C0 n l clk):Cn prog 37 [Pt_ pp] [plB pp ps pc pa n true,coB pc bn n m,BT bn C n,Ay m l clk,alB pa n F Dd S] (fun v Γ=>v= .tuple #[]∧Γ=[plB pp ps pc pa n false,coB pc bn n m,BT bn C0 n,Ay m ([]) clk,alB pa n S BB S]):=by
 intro z R w H;replace H:=H.l5;refine Ad func37 rfl ntmps37 rfl (Z4 14 [4,0,1,0,0] H rfl ?_);intro w H;refine z_E_ rfl (call69 _) (VX _ _ _ _ _ _ _ _ W) H.f3.f3.f3 ?_;intro w H;refine Z2 7 [2,3,0] H rfl (z_E_ rfl (call70 _) (Vg _ _ _ _ _) H.f4 ?_);intro w H;refine Zc 1 rfl (Zf rfl ?_);exact ⟨_,⟨rfl,rfl⟩,H.perm 5 [4,1,2,3,0] rfl rfl⟩
theorem Tp (pp ps pd pc bn m pa n:Nat) (D:Dsk) (G:StG) (g:Bh) (k:Nat) (C C0:Nat→Nat) (l:List IE) (clk:Nat) (F Dd S:Nat→Bool) (W:WasOk C C0 n l clk):Cn prog 25 [Pt_ pp] [stoA ps pd D G (some (g,k)),plB pp ps pc pa n true,coB pc bn n m,BT bn C n,Ay m l clk,alB pa n F Dd S] (fun v Γ=>v= .tuple #[]∧Γ=[stoA ps pd D G none,plB pp ps pc pa n false,coB pc bn n m,BT bn C0 n,Ay m ([]) clk,alB pa n S BB S]):=by
 intro z R w H;replace H:=H.l6;refine Ad func25 rfl ntmps25 rfl (Z2 16 [4,1,0,0,0,1,0] H rfl (z_E_ rfl (call61 _) (Wd _ _ _ _ _) H ?_));intro w H;refine Zc 4 rfl (z_E_ rfl (call37 _) (Wf _ _ _ _ _ _ _ _ _ _ _ _ _ _ W) H.f5.f5.f5.f5.f5 ?_);intro w H;refine Zc 1 rfl (Zf rfl ?_);exact ⟨_,⟨rfl,rfl⟩,H.perm 6 [5,0,1,2,3,4] rfl rfl⟩
theorem Tq (pp ps pc bn m pa n:Nat) (un:Bool) (C:Nat→Nat) (p:Nat) (hp:p<n) (hn:16≤n∧n≤1024):Cn prog 80 [Pt_ pp,Iv_ (p:Int)] [plB pp ps pc pa n un,coB pc bn n m,BT bn C n] (fun v Γ=>v=Iv_ (C p:Int)∧Γ=[plB pp ps pc pa n un,coB pc bn n m,BT bn C n]):=by
 intro z R w H;replace H:=H.l3;refine Ad func80 rfl ntmps80 rfl (Z2 12 [1,0,0] H rfl (z_E_ rfl (call30 _) (EV _ _ _ _ _ _ (by omega) (by omega)) H.f2.f2 ?_));intro w H;refine Zc 4 rfl (Zr rfl ?_);exact ⟨_,⟨rfl,rfl⟩,H.perm 3 [2,0,1] rfl rfl⟩
theorem Wg (pp ps pc pa n:Nat) (un:Bool) (F Dd S:Nat→Bool):Cn prog 18 [Pt_ pp] [plB pp ps pc pa n un,alB pa n F Dd S] (fun v Γ=>v=Iv_ (cnt F 0 1024:Int)∧Γ=[plB pp ps pc pa n un,alB pa n F Dd S]):=by
 intro z R w H;replace H:=H.l2;refine Ad func18 rfl ntmps18 rfl (Z2 11 [2,0,0] H rfl (z_E_ rfl (call47 _) (Vf _ _ _ _ _) H.f1 ?_));intro w H;refine Zc 4 rfl (Zr rfl ?_);exact ⟨_,⟨rfl,rfl⟩,H.perm 2 [1,0] rfl rfl⟩
theorem Ts (pp ps pc pa n:Nat) (un:Bool):Cn prog 43 [Pt_ pp] [plB pp ps pc pa n un] (fun v Γ=>v= .bool un∧Γ=[plB pp ps pc pa n un]):=by
 intro z R w H;replace H:=H.l1;refine Ad func43 rfl ntmps43 rfl (Z2 15 [4,0,0] H rfl (Zr rfl ?_));exact ⟨_,⟨rfl,rfl⟩,H⟩
theorem Tt (pp ps pd pc bn m pa n:Nat) (D:Dsk) (G:StG) (p:Nat) (x:Pg) (hx:x.Ok) (bv:Value) (B:Ae) (hB:∀ h,B h→rdH 1 bv 240 (x.body.map u8) h) (g:Bh) (k:Nat) (hk:¬ (g p=none∧40≤k)) (hG:G.x.pages=n) (C:Nat→Nat) (hn:16≤n∧n≤1024) (hp:(p=0∨manyN n<p)∧p<n) (hC:C p≠0):Cn prog 161 [Pt_ pp,Iv_ (p:Int),.agg #[Iv_ x.kind,bv]] [stoA ps pd D G (some (g,k)),plB pp ps pc pa n true,coB pc bn n m,BT bn C n,B] (fun v Γ=>v=Iv_ 0∧Γ=[stoA ps pd D G (some (pgSet g p x,k+(if (g p).isSome then 0 else 1))),plB pp ps pc pa n true,coB pc bn n m,BT bn C n,B]):=by
 intro z R w H;replace H:=H.l5;obtain ⟨bo,bc,rfl⟩:=H.says 4 rfl (fun h q=>(hB h q).slc);refine Ad func161 rfl ntmps161 rfl (Za 2 [] H rfl ?_);intro b1 w H;refine Z2 23 [4,2,0,1,2,0] H rfl (z_E_ rfl (call30 _) (EV _ _ _ _ _ _ (by omega) (by omega)) H.f4.f4 ?_);intro w H;refine Z0 2 [0] rfl (Ak 21 rfl (fun h1=> ?_) (fun h1=> ?_))
 ·(exfalso;omega)
 ·refine Z0 3 [0] rfl (Ak 24 rfl (fun h2=> ?_) (fun h2=> ?_))
  ·refine Z2 5 [3,4,0] H rfl (z_E_ rfl (call31 _) (Fq _ (by omega)) H ?_);intro w H;refine Z0 6 [0] rfl (Af rfl (fun h3=> ?_) (fun h3=> ?_))
   ·(exfalso;omega)
   ·refine Zc 4 rfl (BI 7 (by kernel_rfl) (by kernel_rfl) (Bc H fun w H'=> ?_))
    have H:=H'.l6;refine Qj 7 [0,0,4,0,2,2] [] H rfl (by kernel_rfl) (Cy (gw (Aw rfl (call34 _) (FI _ _ _ _ _ _ p (by omega) _ hx _ _ hB) H.f5.f4 ?_)));rintro _ w _ (⟨hbad,rfl,rfl⟩|⟨_,rfl,rfl⟩) H'
    ·exact absurd hbad hk
    ·have H:=H'.l6;refine Zc 4 rfl (Zr rfl ?_);exact ⟨_,⟨rfl,rfl⟩,H.perm 6 [0,5,2,3,1] rfl rfl⟩
  ·refine Zc 17 rfl (BI 7 (by kernel_rfl) (by kernel_rfl) (Bc H fun w H'=> ?_))
   have H:=H'.l6;refine Qj 7 [0,0,4,0,2,2] [] H rfl (by kernel_rfl) (Cy (gw (Aw rfl (call34 _) (FI _ _ _ _ _ _ p (by omega) _ hx _ _ hB) H.f5.f4 ?_)));rintro _ w _ (⟨hbad,rfl,rfl⟩|⟨_,rfl,rfl⟩) H'
   ·exact absurd hbad hk
   ·have H:=H'.l6;refine Zc 4 rfl (Zr rfl ?_);exact ⟨_,⟨rfl,rfl⟩,H.perm 6 [0,5,2,3,1] rfl rfl⟩
open Go.RowKit
theorem Tu (pp ps pd pc bn m pa n:Nat) (D:Dsk) (G:StG) (g:Bh) (k:Nat) (C C0:Nat→Nat) (l:List IE) (clk:Nat) (F Dd S:Nat→Bool) (W:WasOk C C0 n l clk) (hn:16≤n∧n≤1024) (hG:G.x.pages=n) (p:Nat) (x:Pg) (hx:x.Ok) (bv:Value) (B:Ae) (hB:∀ h,B h→rdH 1 bv 240 (x.body.map u8) h) (hk:¬ (g p=none∧40≤k)) (hp:p<n) (hb1:F p=true) (hb0:∀ q,q<p→F q=false) (hC:C p=0) (A:Ae) (hT:Gp A):Cn prog 44 [Pt_ pp,.agg #[Iv_ x.kind,bv]] [stoA ps pd D G (some (g,k)),plB pp ps pc pa n true,coB pc bn n m,BT bn C n,Ay m l clk,alB pa n F Dd S,A,B] (fun v Γ=>∃ (l2:List IE) (clk2:Nat),WasOk (updN C p 1) C0 n l2 clk2∧v= .tuple #[Iv_ (p:Int),Iv_ 0]∧Γ=[stoA ps pd D G (some (pgSet g p x,k+(if (g p).isSome then 0 else 1))),plB pp ps pc pa n true,coB pc bn n m,BT bn (updN C p 1) n,Ay m l2 clk2,alB pa n (CS F p) Dd S,A,B]):=by
 intro z R w H;replace H:=H.l8;obtain ⟨bo,bc,rfl⟩:=H.says 7 rfl (fun h q=>(hB h q).slc);refine Ad func44 rfl ntmps44 rfl (Za 2 [] H rfl ?_);intro b1 w H;refine Z2 23 [4,2,0,2,2,0] H rfl (z_E_ rfl (call77 _) (XO _ _ _ _ _ p (by omega) (by omega) hb1 hb0 _ hT) H.f7.f7 ?_);intro w H;refine Zc 19 rfl (BI 7 (by kernel_rfl) (by kernel_rfl) (Bc H fun w H'=> ?_))
 have H:=H'.l9;refine Qj 7 [0,0,4,0,2,2] [] H rfl (by kernel_rfl) (Cy (gw (Aw rfl (call34 _) (FI _ _ _ _ _ _ p (by omega) _ hx _ _ hB) H.f8.f4 ?_)));rintro _ w _ (⟨hbad,rfl,rfl⟩|⟨_,rfl,rfl⟩) H'
 ·exact absurd hbad hk
 ·have H:=H'.l9;refine Z2 19 [4,1,5,0] H rfl (Aw rfl (call32 _) (HK _ _ _ _ _ C0 _ _ p 1 _ (by omega) (by omega) (by omega) (by omega) (by omega) W) H.f8.f8.f8 ?_);rintro _ w _ ⟨l2,clk2,W2,rfl,rfl⟩ H;refine Zc 10 rfl (Zr rfl ?_);exact ⟨_,⟨l2,clk2,W2,rfl,rfl⟩,H.perm 9 [3,8,0,1,2,5,6,4] rfl rfl⟩
theorem Rg (pp ps pc pa n:Nat) (x:Pg) (hx:x.Ok) (bv:Value) (B:Ae) (hB:∀ h,B h→rdH 1 bv 240 (x.body.map u8) h) (F Dd S:Nat→Bool) (hb0:∀ q,q<1024→F q=false):Cn prog 44 [Pt_ pp,.agg #[Iv_ x.kind,bv]] [plB pp ps pc pa n true,alB pa n F Dd S,B] (fun v Γ=>v= .tuple #[Iv_ 0,Iv_ 20]∧Γ=[plB pp ps pc pa n true,alB pa n F Dd S,B]):=by
 intro z R w H;replace H:=H.l3;obtain ⟨bo,bc,rfl⟩:=H.says 2 rfl (fun h q=>(hB h q).slc);refine Ad func44 rfl ntmps44 rfl (Za 2 [] H rfl ?_);intro b1 w H;refine Z2 23 [4,1,0,2,1,0] H rfl (z_E_ rfl (call77 _) (Vh _ _ _ _ _ hb0) H.f2 ?_);intro w H;refine Zc 22 rfl (Zr rfl ?_);exact ⟨_,⟨rfl,rfl⟩,H.perm 4 [2,0,3] rfl rfl⟩
theorem Yg (pp ps pc bn m pa n:Nat) (C C0:Nat→Nat) (l:List IE) (clk:Nat) (W:WasOk C C0 n l clk) (hn:16≤n∧n≤1024) (p:Nat) (hp:manyN n<p∧p<n) (hC:1≤C p∧C p<1000):Cn prog 13 [Pt_ pp,Iv_ (p:Int)] [plB pp ps pc pa n true,coB pc bn n m,BT bn C n,Ay m l clk] (fun v Γ=>∃ (l2:List IE) (clk2:Nat),WasOk (updN C p (C p+1)) C0 n l2 clk2∧v=Iv_ 0∧Γ=[plB pp ps pc pa n true,coB pc bn n m,BT bn (updN C p (C p+1)) n,Ay m l2 clk2]):=by
 intro z R w H;replace H:=H.l4;refine Ad func13 rfl ntmps13 rfl (Z2 25 [4,0,0,1,0,0] H rfl (z_E_ rfl (call30 _) (EV _ _ _ _ _ _ (by omega) (by omega)) H.f2.f2 ?_));intro w H;replace H:=H.l4;refine Z0 2 [0] rfl (Ak 19 rfl (fun h1=> ?_) (fun h1=> ?_))
 ·(exfalso;omega)
 ·refine Z2 5 [3,2,0] H rfl (z_E_ rfl (call31 _) (Fq _ (by omega)) H ?_);intro w H;replace H:=H.l4;refine Z0 5 [0] rfl (Af rfl (fun h2=> ?_) (fun h2=> ?_))
  ·(exfalso;omega)
  ·refine Z2 10 [1,2,0] H rfl (Aw rfl (call32 _) (HK _ _ _ _ _ C0 _ _ p (C p+1) _ (by omega) (by omega) (by omega) (by omega) (by omega) W) H.f3.f2.f2 ?_);rintro _ w _ ⟨l2,clk2,W2,rfl,rfl⟩ H;replace H:=H.l4;refine Zc 4 rfl (Zr rfl ?_);exact ⟨_,⟨l2,clk2,W2,rfl,rfl⟩,H.perm 4 [3,0,1,2] rfl rfl⟩
theorem Tv (pp ps pc bn m pa n:Nat) (C C0:Nat→Nat) (l:List IE) (clk:Nat) (W:WasOk C C0 n l clk) (hn:16≤n∧n≤1024) (p:Nat) (hp:manyN n<p∧p<n) (hC:2≤C p∧C p≤1000):Cn prog 84 [Pt_ pp,Iv_ (p:Int)] [plB pp ps pc pa n true,coB pc bn n m,BT bn C n,Ay m l clk] (fun v Γ=>∃ (l2:List IE) (clk2:Nat),WasOk (updN C p (C p - 1)) C0 n l2 clk2∧v=Iv_ 0∧Γ=[plB pp ps pc pa n true,coB pc bn n m,BT bn (updN C p (C p - 1)) n,Ay m l2 clk2]):=by
 intro z R w H;replace H:=H.l4;refine Ad func84 rfl ntmps84 rfl (Z2 25 [4,0,0,1,0,0] H rfl (z_E_ rfl (call30 _) (EV _ _ _ _ _ _ (by omega) (by omega)) H.f2.f2 ?_));intro w H;replace H:=H.l4;refine Z0 2 [0] rfl (Ak 20 rfl (fun h1=> ?_) (fun h1=> ?_))
 ·(exfalso;omega)
 ·refine Z2 5 [3,2,0] H rfl (z_E_ rfl (call31 _) (Fq _ (by omega)) H ?_);intro w H;replace H:=H.l4;refine Z0 5 [0] rfl (Af rfl (fun h2=> ?_) (fun h2=> ?_))
  ·(exfalso;omega)
  ·refine Z2 11 [1,2,0] H rfl (Aw rfl (call32 _) (HK _ _ _ _ _ C0 _ _ p (C p - 1) _ (by omega) (by omega) (by omega) (by omega) (by omega) W) H.f3.f2.f2 ?_);rintro _ w _ ⟨l2,clk2,W2,rfl,rfl⟩ H;replace H:=H.l4;refine Z2 20 [4,1,3,0] H rfl (z_E_ rfl (call30 _) (EV _ _ _ _ _ _ (by omega) (by omega)) H ?_);intro w H;replace H:=H.l4;refine Al 43 (v:=Iv_ ((C p - 1:Nat):Int)) rfl (congrArg Iv_ (by simp[updN])) (Z0 3 [0] rfl (Af rfl (fun h3=> ?_) (fun h3=> ?_)))
   ·(exfalso;omega)
   ·refine Zc 8 rfl (Zr rfl ?_);exact ⟨_,⟨l2,clk2,W2,rfl,rfl⟩,H.perm 4 [3,0,1,2] rfl rfl⟩
theorem Wh (pp ps pc bn m pa n:Nat) (C C0:Nat→Nat) (l:List IE) (clk:Nat) (W:WasOk C C0 n l clk) (hn:16≤n∧n≤1024) (p:Nat) (hp:manyN n<p∧p<n) (F Dd S:Nat→Bool) (hC:C p=1) (hF:F p=false) (hD:Dd p=false):Cn prog 84 [Pt_ pp,Iv_ (p:Int)] [plB pp ps pc pa n true,coB pc bn n m,BT bn C n,Ay m l clk,alB pa n F Dd S] (fun v Γ=>∃ (l2:List IE) (clk2:Nat),WasOk (updN C p (0)) C0 n l2 clk2∧v=Iv_ 0∧Γ=[plB pp ps pc pa n true,coB pc bn n m,BT bn (updN C p (0)) n,Ay m l2 clk2,alB pa n F (Fv Dd p) S]):=by
 intro z R w H;replace H:=H.l5;refine Ad func84 rfl ntmps84 rfl (Z2 25 [4,0,0,1,0,0] H rfl (z_E_ rfl (call30 _) (EV _ _ _ _ _ _ (by omega) (by omega)) H.f2.f2 ?_));intro w H;replace H:=H.l5;refine Z0 2 [0] rfl (Ak 20 rfl (fun h1=> ?_) (fun h1=> ?_))
 ·(exfalso;omega)
 ·refine Z2 5 [3,2,0] H rfl (z_E_ rfl (call31 _) (Fq _ (by omega)) H ?_);intro w H;replace H:=H.l5;refine Z0 5 [0] rfl (Af rfl (fun h2=> ?_) (fun h2=> ?_))
  ·(exfalso;omega)
  ·refine Z2 11 [1,2,0] H rfl (Aw rfl (call32 _) (HK _ _ _ _ _ C0 _ _ p 0 _ (by omega) (by omega) (by omega) (by omega) (by omega) W) H.f3.f2.f2 ?_);rintro _ w _ ⟨l2,clk2,W2,rfl,rfl⟩ H;replace H:=H.l5;refine Z2 20 [4,1,3,0] H rfl (z_E_ rfl (call30 _) (EV _ _ _ _ _ _ (by omega) (by omega)) H ?_);intro w H;replace H:=H.l5;refine Al 43 (v:=Iv_ 0) rfl (congrArg Iv_ (by simp[updN])) (Z2 10 [3,2,3,0] H rfl (z_E_ rfl (call119 _) (Vd _ _ _ _ _ _ (by omega) (by omega) hF hD) H.f4 ?_));intro w H;replace H:=H.l5;refine Zc 8 rfl (Zr rfl ?_);exact ⟨_,⟨l2,clk2,W2,rfl,rfl⟩,H.perm 5 [4,1,2,3,0] rfl rfl⟩
open Go.RowKit
def CY (C:Nat→Nat) (n i:Nat):Pg:=⟨2,JA (DS C n i)⟩
theorem Ex (C:Nat→Nat) (n i:Nat):(CY C n i).Ok:=⟨⟨by show (1:Int)≤2;omega,by show (2:Int)≤5;omega⟩,VJ (Ii _ _ _)⟩
theorem Wi (F:Nat→Bool) (a:Nat) {i n:Nat} (hi:i<n) (h:F (a+i)=true):1≤cnt F a n:=by
 have e:=Gy F a i (n - i)
 rw[show i+(n - i)=n by omega] at e
 obtain ⟨m,hm⟩:∃ m,n - i=1+m:=⟨n - i - 1,by omega⟩
 rw[hm,Gy] at e
 have:cnt F (a+i) 1=1:=by simp[cnt,h]
 omega
theorem F5 {F G:Nat→Bool} {a:Nat} :∀ {n:Nat},(∀ i,i<n→F (a+i)=G (a+i))→cnt F a n=cnt G a n
 | 0,_=>rfl
 | n+1,h=>by simp only[cnt];rw[F5 (fun i hi=>h i (by omega)),h n (by omega)]
theorem M6 {F G:Nat→Bool} {n i:Nat} (hi:i<n) (h:F i=true) (hg:G i=false) (hs:∀ j,j≠i→F j=G j):cnt G 0 n+1=cnt F 0 n:=by
 have e:=fun F=>Gy F 0 i (1+(n - i - 1))
 have e2:=fun F=>Gy F (0+i) 1 (n - i - 1)
 have e0:=fun F=>(e F).trans (by rw[e2 F])
 rw[show i+(1+(n - i - 1))=n by omega] at e0
 have h1:cnt F 0 i=cnt G 0 i:=F5 (fun j hj=>hs _ (by omega))
 have h2:cnt F (0+i+1) (n - i - 1)=cnt G (0+i+1) (n - i - 1):=F5 (fun j hj=>hs _ (by omega))
 have h3:cnt F (0+i) 1=1:=by simp[cnt,h]
 have h4:cnt G (0+i) 1=0:=by simp[cnt,hg]
 have a:=e0 F;have b:=e0 G
 omega
structure CmI (n:Nat) (C:Nat→Nat) (zs:List Int) (g0:Bh) (k0 j:Nat) (g:Bh) (k:Nat):Prop where
 jl:j≤zs.length
 old:∀ p,(p=0∨manyN n<p)→g p=g0 p
 rm:k+cnt (fun i=>(g (1+i)).isNone) 0 (manyN n)≤k0+manyN n
 set:∀ i,i<manyN n→g (1+i)=none∨g (1+i)=some (CY C n i)
 dn:∀ j',j'<j→∀ i:Nat,zs[j']? =some (i:Int)→g (1+i)=some (CY C n i)
theorem Ov (F:Nat→Bool) (a:Nat):∀ n,cnt F a n≤n
 | 0=>Nat.le_refl _
 | n+1=>by
  have:=Ov F a n
  have:(F (a+n)).toNat≤1:=by cases F (a+n)<;>simp
  simp only[cnt];omega
theorem CmI.start {n:Nat} {C:Nat→Nat} {zs:List Int} {g0:Bh} {k0:Nat} (h:∀ i,i<manyN n→g0 (1+i)=none):CmI n C zs g0 k0 0 g0 k0:=
 ⟨Nat.zero_le _,fun _ _=>rfl,by have:=Ov (fun i=>(g0 (1+i)).isNone) 0 (manyN n);omega,fun i hi=> .inl (h i hi),fun j' hj=>by omega⟩
theorem CmI.room {n:Nat} {C:Nat→Nat} {zs:List Int} {g0 g:Bh} {k0 j k i:Nat} (I:CmI n C zs g0 k0 j g k) (hi:i<manyN n) (hk:k0+manyN n≤40):¬ (g (1+i)=none∧40≤k):=fun ⟨h1,h2⟩=>by
 have:=Wi (fun i=>(g (1+i)).isNone) 0 hi (by simp[h1])
 have:=I.rm;omega
theorem CmI.put {n:Nat} {C:Nat→Nat} {zs:List Int} {g0 g:Bh} {k0 j k i:Nat} (I:CmI n C zs g0 k0 j g k) (hi:i<manyN n) (hz:zs[j]? =some (i:Int)):CmI n C zs g0 k0 (j+1) (pgSet g (1+i) (CY C n i)) (k+(if (g (1+i)).isSome then 0 else 1)):=by
 have hlt:=(List.getElem?_eq_some_iff.1 hz).1
 refine ⟨hlt,fun p hp=> ?_,?_,fun q hq=> ?_,fun j' hj q hq=> ?_⟩
 ·unfold pgSet;rw[if_neg (by omega)];exact I.old p hp
 ·have hr:=I.rm
  split
  ·rename_i h1
   rw[←F5 (F:=fun i=>(g (1+i)).isNone)]
   ·exact hr
   ·intro q _
    unfold pgSet
    split
    ·rename_i e;rw[show 0+q=i by omega];cases e2:g (1+i)<;>simp_all
    ·rfl
  ·rename_i h1
   have h2:g (1+i)=none:=by simpa using h1
   have:=M6 (F:=fun i=>(g (1+i)).isNone) (G:=fun q=>(pgSet g (1+i) (CY C n i) (1+q)).isNone) hi (by simp[h2]) (by simp[pgSet]) (fun q hq=>by unfold pgSet;rw[if_neg (by omega)])
   omega
 ·unfold pgSet;split
  ·rename_i e;obtain rfl:q=i:=by omega
   exact .inr rfl
  ·exact I.set q hq
 ·unfold pgSet;split
  ·rename_i e;obtain rfl:q=i:=by omega
   rfl
  ·rcases Nat.lt_or_ge j' j with h|h
   ·exact I.dn j' h q hq
   ·obtain rfl:j'=j:=by omega
    rw[hz] at hq;simp at hq;omega
theorem CmI.done {n:Nat} {C C0:Nat→Nat} {zs:List Int} {g0 g:Bh} {k0 k:Nat} (I:CmI n C zs g0 k0 zs.length g k) (hz:∀ x:Int,x∈zs↔∃ k:Nat,k<n∧C k≠C0 k∧x=((k / 120:Nat):Int)) {i:Nat} (hi:i<manyN n):g (1+i)=some (CY C n i)∨g (1+i)=none∧CY C0 n i=CY C n i:=by
 rcases I.set i hi with h|h
 ·refine .inr ⟨h,?_⟩
  have hno:(i:Int)∉zs:=fun hm=>by
   obtain ⟨j,hj⟩:=List.getElem?_of_mem hm
   have:=I.dn j (List.getElem?_eq_some_iff.1 hj).1 i hj
   rw[h] at this;cases this
  have:DS C0 n i=DS C n i:=by
   unfold DS
   refine List.map_congr_left fun q hq=> ?_
   split
   ·rename_i hlt
    have:=List.mem_range.1 hq
    refine congrArg Int.ofNat (Classical.byContradiction fun hne=>hno ((hz _).2 ⟨120 * i+q,hlt,fun e=>hne e.symm,by rw[show (120 * i+q) / 120=i by omega]⟩))
   ·rfl
  unfold CY;rw[this]
 ·exact .inl h
theorem Wj {n k:Nat} (h:k<n):k / 120<manyN n:=by unfold manyN;omega
theorem M7 {L:List UInt8} {x:Int} (h:L.length=240):0+240 * 1≤(AX (AN L) x).length:=by
 have hp:=A7 (l:=L) (by omega)
 unfold AX;rw[List.length_append,List.length_map];omega
theorem Ow {L:List UInt8} {x:Int} (h:L.length=240):((AX (AN L) x).drop 0).take (240 * 1)=L.map u8:=by
 unfold AX
 rw[List.drop_zero,Nat.mul_one]
 have hp:=A7 (l:=L) (by omega)
 rw[List.take_append_of_le_length (by rw[List.length_map];omega),←List.map_take]
 have:=SV h
 rw[List.drop_zero] at this;rw[this]
theorem Rh (pp ps pd pc bn m pa n:Nat) (D:Dsk) (G:StG) (mb:Nat) (g0:Bh) (k0:Nat) (C C0:Nat→Nat) (l:List IE) (clk:Nat) (F Dd S:Nat→Bool) (W:WasOk C C0 n l clk) (hn:16≤n∧n≤1024) (hG:G.x.pages=n) (hg:∀ i,i<manyN n→g0 (1+i)=none) (hk:k0+manyN n≤40) (hCm:∀ k,C k≤1000) (hF:Fine D G mb) (hm:mb≤1000000000):Cn prog 14 [Pt_ pp] [stoA ps pd D G (some (g0,k0)),plB pp ps pc pa n true,coB pc bn n m,BT bn C n,Ay m l clk,alB pa n F Dd S] (fun v Γ=>∃ (D2:Dsk) (G2:StG) (g:Bh) (k:Nat) (zs:List Int),CmI n C zs g0 k0 zs.length g k∧(∀ x:Int,x∈zs↔∃ k:Nat,k<n∧C k≠C0 k∧x=((k / 120:Nat):Int))∧Fine D2 G2 (mb+2)∧D2.n=D.n∧G2.M=Db G.M (some (g,k))∧(G2.x=G.x∨G2.x=EI G.x G.a G.q)∧v=Iv_ 0∧Γ=[stoA ps pd D2 G2 none,plB pp ps pc pa n false,coB pc bn n m,BT bn C n,Ay m ([]) clk,alB pa n (CF F Dd) BB (CF F Dd)]):=by
 intro z R w H;replace H:=H.l6;refine Ad func14 rfl ntmps14 rfl (Z2 25 [4,1,0,1,1,0] H rfl (Aw rfl (call33 _) (Q6 _ _ _ _ _ C0 _ _ (by omega) W) H.f4.f4.f4 ?_));rintro v1 w _ ⟨v2,zs,Z,⟨hz1,hz2,hz3⟩,rfl,rfl⟩ H;replace H:=H.l7;obtain ⟨za,zc,rfl⟩:=H.says 0 rfl (fun h q=>(hz3 h q).slc);refine Zc 5 rfl ?_;refine AJ (σ:=Nat×Bh×Nat) (fun ⟨j,g,k⟩=>[(18,Iv_ (j:Int)),(0,Pt_ pp),(16,.slice za zs.length zc),(17,Iv_ (zs.length:Int))])
   (fun ⟨j,g,k⟩ w=>Sep z (Z::coB pc bn n m::BT bn C n::Ay m l clk::stoA ps pd D G (some (g,k))::plB pp ps pc pa n true::alB pa n F Dd S::R) w∧(CmI n C zs g0 k0 j g k)) (fun ⟨j,g,k⟩=>zs.length - j) ⟨0,g0,k0⟩
   (fun _ hF=>(hF.co rfl (by go_num) (hF.all rfl))) ⟨H,CmI.start hg⟩ ?_
 clear H;rintro ⟨j,g,k⟩ w ⟨H',hI⟩;dsimp only at hI H' ⊢
 have H:=H'.l7;have hC:=hI;clear hI
 have hjl:=hC.jl
 refine Z0 6 [0] rfl (Af rfl (fun h1=> ?_) (fun h1=> ?_))
 ·obtain ⟨z_,hzi⟩:∃ z_,zs[j]? =some z_:=⟨_,List.getElem?_eq_getElem (by omega)⟩;obtain ⟨q_,hq1,hq2,hq3⟩:=(hz2 z_).1 (List.mem_of_getElem? hzi);obtain ⟨i,hi_⟩:∃ i,i=q_ / 120:=⟨_,rfl⟩;rw[←hi_] at hq3;subst hq3;have hi:i<manyN n:=hi_▸Wj hq1
  have hi3:manyN n<n:=by unfold manyN;omega
  refine Zc 6 rfl ?_;have hat:=(H.rd 0 rfl hz3).at (j:=j) (u:=Iv_ (i:Int)) (by simp[hzi])
  refine Ac rfl (AD rfl (z:=1) (j:=j) (r:=j) (by kernel_rfl) rfl rfl rfl (by omega) hat (by omega)) (Ac rfl (AR rfl rfl (by kernel_rfl) (AB hat)) (Zc 4 rfl ?_));replace H:=H.f5;refine AI (Sep z (plB pp ps pc pa n true::R)) 16 rfl (by kernel_rfl) (Bc H fun w H'=> ?_)
  have H:=H'.l7;refine Iz [0,1,2,3,4,5,6,7,8,9,10,11] [0,0,0,0,1,0,0] [((1+i:Nat):Int)] (by exact (H.pick 7 [0] rfl)) rfl (by kernel_rfl) (by omega) rfl (Av [12] (by kernel_rfl) (by simp) (Au (BL rfl rfl rfl rfl rfl rfl (fun w=>call35 _ w) (Oq _ _ _ _ _ i hi (by omega) hCm) H.f3.f3 rfl ?_)));rintro _ w _ ⟨pw,rfl,rfl⟩ H;replace H:=H.l8;refine Ap (H.pick 8 [3] rfl) (AM [13] [] [] (by exact (H.pick 8 [3] rfl)) rfl (by kernel_rfl) rfl (Av [14] (by kernel_rfl) (by simp) (Au (BL rfl rfl rfl rfl rfl rfl (fun w=>call34 _ w) (FI _ _ _ _ _ _ (1+i) (by omega) (CY C n i) (Ex _ _ _) _ _ (fun h q=>q.rd (by omega) (by omega) (M7 (Ex _ _ _).2) (Ow (Ex _ _ _).2))) H.f6 rfl ?_))));rintro _ w _ (⟨hbad,rfl,rfl⟩|⟨_,rfl,rfl⟩) H'
  ·exact absurd hbad (hC.room hi hk)
  ·have H:=H'.l8;refine Ap (H.pick 8 [4] rfl) (AM [15] [] [] (by exact (H.pick 8 [4] rfl)) rfl (by kernel_rfl) rfl (a_done (by kernel_rfl) (gn (Z1 15 [4] [(j:Int)+1] rfl (by omega) ?_))));replace H:=H.f1.d.f6.f4.f2.f6.f5.f5.f6;refine gf ?_;intro _ hF;refine ⟨⟨j+1,pgSet g (1+i) (CY C n i),k+(if (g (1+i)).isSome then 0 else 1)⟩,(hF.co rfl (by go_num) (hF.all rfl)),⟨H,?_⟩,?_⟩
   ·exact hC.put hi hzi
   ·(dsimp only;omega)
 ·obtain rfl:j=zs.length:=by omega
  refine Zc 2 rfl (gx (Z2 10 [0,0,5,0] H rfl (Aw rfl (call36 _) (M5 _ _ _ _ _ _ mb hF hm) H.f4 ?_)));rintro _ w _ ⟨D2,G2,fi_,hn_,⟨hM_,hns_⟩,hx_,rfl,rfl⟩ H;refine Z4 26 [4,4,5,1,5,0] H rfl ?_;intro w H;refine z_E_ rfl (call38 _) (Q5 _ _ _ _ _ _) H.f4.f3 ?_;intro w H;refine Z2 8 [2,5,0] H rfl (z_E_ rfl (call39 _) (KG _ _ _ _ _) H.f6 ?_);intro w H;refine Zc 8 rfl (Zr rfl ?_);exact ⟨_,⟨D2,G2,g,k,zs,hC,hz2,fi_,hn_,hM_,hx_,rfl,rfl⟩,H.perm 7 [3,6,1,5,2,0] rfl rfl⟩
section
open Go.RowKit
section
variable {P:Program} {o:Oper} {w z:World} {Γ:List Ae} {n:Nat} {ds:List Deferred} {L:List (Nat×Value)} {x y:Operand}
theorem Wk {t e:TypeId} {k sz:Nat} (H:Sep z Γ w) (ho:o.op= .makeSlice t x y) (ht:P.underlying t=some (.slice e)) {zv:Value} {by_:Nat} (hE:Elt P e zv sz by_) (hx:ev L x=some (Iv_ k)) (hy:ev L y=some (Iv_ k)) (hk:by_ * k≤140737488355328) {out:List Value} (hout:madeCells zv.cells (k * sz)=out.toArray):
  B8 P n ds L o w (fun v w'=>∃ b,v= .slice (some ⟨b,0,none⟩) k k∧Sep z (blk b out e::Γ) w'):=fun a hF=>by
 obtain ⟨i,hi,hz,hs,hb,hzs,hsz,hb0⟩:=hE
 have hbk:(i.bytes:Int) * (k:Int)≤281474976710656:=by
  rw[hb,←Int.natCast_mul];omega
 have hr:=run_make (P:=P) (w:=w) t e i zv ht hi hz .i64 .i64 (k:Int) (k:Int) (by omega) (Int.le_refl _) hbk (by
  have:1 * k≤by_ * k:=Nat.mul_le_mul_right _ hb0
  omega)
 have e1:madeCells zv.cells (((k:Int)).toNat * i.size)=out.toArray:=by
  rw[Int.toNat_natCast,hs];exact hout
 rw[e1] at hr
 refine ⟨_,_,?_,w.heap.size,rfl,H.new (CQ w (.cells out.toArray e)) (Nat.le_refl _) (by show (w.heap.push _)[w.heap.size]? =_;simp)⟩
 simp only[execOp,ho,hF.ev hx,hF.ev hy,Sem.run_bind,hr,Result.andThen_ok,Sem.run_pure,Int.toNat_natCast]
 rfl
end
theorem Tw {bs:List UInt8} {a:Int} (h:bs.length=256):0+240 * 1≤(AX bs a).length:=by unfold AX;rw[List.length_append,List.length_map];omega
theorem Wl {bs:List UInt8} {a:Int} (h:bs.length=256):((AX bs a).drop 0).take (240 * 1)=(bs.take 240).map u8:=by
 unfold AX
 rw[List.drop_zero,Nat.mul_one,List.take_append_of_le_length (by rw[List.length_map];omega),List.map_take]
def C1 (i:Nat):Nat→Nat:=fun p=>if p<i then 1 else 0
theorem Ox (i:Nat):updN (C1 i) i 1=C1 (i+1):=by
 funext p;unfold updN C1
 split
 ·rw[if_pos (by omega)]
 ·by_cases h:p<i
  ·rw[if_pos h,if_pos (by omega)]
  ·rw[if_neg h,if_neg (by omega)]
theorem Oy:C1 0=fun _=>0:=by funext p;simp[C1]
theorem JD (i k:Nat):C1 i k≤1000:=by unfold C1;split<;>omega
def gF (n:Nat) (cb:List UInt8) (i:Nat):Bh:=fun p=>if p=0 then some ⟨1,cb⟩ else if p≤i then some (CY (C1 (manyN n+1)) n (p - 1)) else none
theorem Wm (n:Nat) (cb:List UInt8) (i:Nat):(some (pgSet (gF n cb i) (1+i) (CY (C1 (manyN n+1)) n i),1+i+(if (gF n cb i (1+i)).isSome then 0 else 1)):Gl)=some (gF n cb (i+1),1+(i+1)):=by
 have e:gF n cb i (1+i)=none:=by unfold gF;rw[if_neg (by omega),if_neg (by omega)]
 rw[e]
 have:pgSet (gF n cb i) (1+i) (CY (C1 (manyN n+1)) n i)=gF n cb (i+1):=by
  funext p;unfold pgSet gF
  split
  ·rename_i h;subst h;rw[if_neg (by omega),if_pos (by omega),show 1+i - 1=i by omega]
  ·by_cases h0:p=0
   ·rw[if_pos h0,if_pos h0]
   ·rw[if_neg h0,if_neg h0]
    by_cases h1:p≤i
    ·rw[if_pos h1,if_pos (by omega)]
    ·rw[if_neg h1,if_neg (by omega)]
 rw[this];simp;omega
theorem Wn (n:Nat) (cb:List UInt8):(some (pgSet CV 0 ⟨1,cb⟩,0+(if (CV 0).isSome then 0 else 1)):Gl)=some (gF n cb 0,1+0):=by
 have:pgSet CV 0 ⟨1,cb⟩=gF n cb 0:=by
  funext p;unfold pgSet gF CV
  split
  ·rfl
  ·rw[if_neg (by omega)]
 rw[this];rfl
theorem Tx {n:Nat} (h:n≤1024):manyN n≤9:=by unfold manyN;omega
theorem M8 {n:Nat} (h:16≤n):1≤manyN n∧manyN n+1<n:=by unfold manyN;omega
theorem Sep.flDisk {z w:World} {Γ:List Ae} {ps pd:Nat} {D:Dsk} {G:StG} (H:Sep z (stoA ps pd D.fl { G with sure:=G.rs.length } none::Γ) w) (hq:G.q≤1099511627776):OInv D.fl G.x G.B (fun got=>got=G.rs)∧Sep z (diskA pd D.fl::Γ) w:=by
 obtain ⟨X,hX,H⟩:=H.sto
 have h:=hX.inv.crashed (D':=D.fl) hq ⟨rfl,fun _=>rfl,fun _=> .inl rfl⟩
 have e:(fun got:List Rc=>G.rs.length≤got.length∧got.length≤G.rs.length∧got=G.rs.take got.length)=fun got=>got=G.rs:=funext fun got=>propext ⟨fun ⟨a,b,c⟩=>by rw[c];exact List.take_of_length_le (by omega),fun e=>by subst e;simp⟩
 refine ⟨?_,H.pick 6 [3] rfl⟩
 have h2:OInv D.fl G.x G.B (fun got:List Rc=>G.rs.length≤got.length∧got.length≤G.rs.length∧got=G.rs.take got.length):=h
 rw[e] at h2;exact h2
set_option maxHeartbeats 2000000 in
theorem KV (pd dn n:Nat) (s l:Int) (hn:16≤n∧n≤1024) (hfm:(B9 n s l 2).Ok (dn:Int)):Cn prog 21 [Pt_ pd,Iv_ (n:Int),Iv_ s,Iv_ l] [diskA pd (B3 dn)] (fun v Γ=>∃ (D2:Dsk) (G2:StG) (bs:List UInt8),bs.length=256∧OInv D2 G2.x G2.B (fun got=>got=G2.rs)∧Clean D2∧(G2.x.gen≤((5:Nat):Int)∧G2.x.epoch≤((5:Nat):Int))∧D2.n=dn∧G2.x.pages=n∧G2.M=Db (fun _=>noPg) (some (gF n (bs.take 240) (manyN n),1+manyN n))∧v=Iv_ 0∧Γ=[diskA pd D2]):=by
 intro z R w H;replace H:=H.l1;have hml:=M8 hn.1
 have hm9:=Tx hn.2
 refine Ad func21 rfl ntmps21 rfl (Zc 12 rfl (z_E_ rfl (call48 _) (Tn _ dn _ _ _ hfm) H ?_));intro w H;refine Z0 15 [4] rfl (Aw rfl (call22 _) (M4 _ _ _ _ _ _ (Wa hfm) (Tl _ _ _ _) (show (2:Int)≤(2:Nat)∧(1:Int)≤(2:Nat) by omega) (by omega)) H ?_);rintro _ w _ ⟨ps,D0,got0,hgd0,fi0,hn0,rfl,rfl⟩ H;replace H:=H.l1;subst hgd0;have H':Sep z (stoA ps pd D0 (M3 (B9 n s l 2) (fun _=>noPg)) none::R) w:=H
 clear H;have H:=H'.l1;refine Z0 21 [4] rfl (z_E_ rfl (call29 _) (Ou _ _ _ _) H ?_);intro w H;refine Z0 14 [4] rfl (AL rfl (Wk (k:=8) (out:=KL) H rfl (by kernel_rfl) G4 rfl rfl (by omega) (by kernel_rfl)) ?_);rintro _ w ⟨b1,rfl,H⟩;replace H:=H.l2;refine Zc 1 rfl (Aw rfl (call49 _) (SY _ _ (fun h q=>q.rd (by omega) (by omega) (by simp[KL]) (by simp[KL]))) H ?_);rintro _ w _ ⟨pw,bs,hbs,rfl,rfl⟩ H;refine Z0 23 [4] rfl (Aw rfl (call34 _) (FI _ _ _ _ _ _ 0 (by show (0:Int)<(n:Int);omega) ⟨1,bs.take 240⟩ ⟨by show (1:Int)≤1∧(1:Int)≤5;omega,by show (bs.take 240).length=240;rw[List.length_take];omega⟩ _ _ (fun h q=>q.rd (by omega) (by omega) (Tw hbs) (Wl hbs))) H.f2 ?_);rintro _ w _ (⟨hbad,rfl,rfl⟩|⟨_,rfl,rfl⟩) H'
 ·(exfalso;have:=hbad.2;omega)
 ·have H:=H'.l3;rw[Wn n] at H;refine Z0 15 [4] rfl (Aw rfl (call50 _) (Q4 _ (by omega)) H ?_);rintro _ w _ ⟨pc,bn,m,rfl,rfl⟩ H;refine Z0 20 [4] rfl (z_E_ rfl (call31 _) (Fq _ (by omega)) H ?_);intro w H;refine Z1 12 [] [(manyN n:Int)+1] rfl (by omega) ?_;refine AJ (σ:=Nat×List IE×Nat) (fun ⟨i,l_,clk⟩=>[(70,Iv_ (i:Int)),(8,Iv_ 0),(10,Pt_ ps),(15,Pt_ pc),(16,Iv_ (manyN n:Int)),(69,Iv_ ((manyN n:Int)+1))])
    (fun ⟨i,l_,clk⟩ w=>Sep z (coB pc bn n m::BT bn (C1 i) n::Ay m l_ clk::stoA ps pd D0 (M3 (B9 n s l 2) (fun _=>noPg)) (some (gF n (bs.take 240) 0,1+0))::blk pw (AX bs ((21+19 * 8:Nat):Int)) 165::blk b1 KL 28::R) w∧(i≤manyN n+1∧WasOk (C1 i) (fun _=>0) n l_ clk)) (fun ⟨i,l_,clk⟩=>manyN n+1 - i) ⟨0,[],0⟩
    (fun _ hF=>(hF.co rfl (by go_num) (hF.all rfl))) ⟨(by rw[Oy];exact H),⟨by omega,by rw[Oy];exact WasOk.nil _ _ _⟩⟩ ?_
  clear H;rintro ⟨i,l_,clk⟩ w ⟨H',hI⟩;dsimp only at hI H' ⊢
  have H:=H'.l6;obtain ⟨him,W⟩:=hI;have hc1:C1 i i=0:=by simp[C1]
  refine Z0 6 [0] rfl (Af rfl (fun h1=> ?_) (fun h1=> ?_))
  ·refine Zc 13 rfl (Aw rfl (call32 _) (HK _ _ _ _ _ (fun _=>0) _ _ i 1 _ (by omega) (by omega) (by rw[hc1];rfl) (by omega) (by rw[hc1];omega) W) H ?_);rintro _ w _ ⟨l2,clk2,W2,rfl,rfl⟩ H;refine Z1 7 [] [(i:Int)+1] rfl (by omega) (gf ?_);intro _ hF;refine ⟨⟨i+1,l2,clk2⟩,(hF.co rfl (by go_num) (hF.all rfl)),⟨(by rw[←Ox];exact H),?_⟩,?_⟩
   ·dsimp only;exact ⟨by omega,by rw[←Ox];exact W2⟩
   ·(dsimp only;omega)
  ·obtain rfl:i=manyN n+1:=by omega
   refine Zc 2 rfl (gx (Zc 10 rfl ?_));refine AJ (σ:=Nat) (fun i=>[(78,Iv_ (i:Int)),(10,Pt_ ps),(15,Pt_ pc),(77,Iv_ (manyN n:Int))])
     (fun i w=>Sep z (coB pc bn n m::BT bn (C1 (manyN n+1)) n::Ay m l_ clk::stoA ps pd D0 (M3 (B9 n s l 2) (fun _=>noPg)) (some (gF n (bs.take 240) i,1+i))::blk pw (AX bs ((21+19 * 8:Nat):Int)) 165::blk b1 KL 28::R) w∧(i≤manyN n)) (fun i=>manyN n - i) 0
     (fun _ hF=>(hF.co rfl (by go_num) (hF.all rfl))) ⟨H,by omega⟩ ?_
   clear H;rintro i w ⟨H',hI⟩;have H:=H'.l6;have him:=hI;clear hI
   refine Z0 6 [0] rfl (Af rfl (fun h2=> ?_) (fun h2=> ?_))
   ·refine Z1 17 [] [((1+i:Nat):Int)] rfl (by omega) (Aw rfl (call35 _) (Oq _ _ _ _ _ i (by omega) (by omega) (JD _)) H ?_);rintro _ w _ ⟨pq,rfl,rfl⟩ H;refine Zc 1 rfl (Aw rfl (call34 _) (FI _ _ _ _ _ _ (1+i) (by show ((1+i:Nat):Int)<(n:Int);omega) (CY (C1 (manyN n+1)) n i) (Ex _ _ _) _ _ (fun h q=>q.rd (by omega) (by omega) (M7 (Ex _ _ _).2) (Ow (Ex _ _ _).2))) H.f4 ?_);rintro _ w _ (⟨hbad,rfl,rfl⟩|⟨_,rfl,rfl⟩) H'
    ·(exfalso;have:=hbad.2;omega)
    ·have H:=H'.l7;rw[Wm] at H;refine Z1 17 [4] [(i:Int)+1] rfl (by omega) ?_;replace H:=H.f1.d.f5.f5.f2.f5.f5.f5;refine gf ?_;intro _ hF;refine ⟨(i+1),(hF.co rfl (by go_num) (hF.all rfl)),⟨H,?_⟩,?_⟩
     ·omega
     ·omega
   ·obtain rfl:i=manyN n:=by omega
    refine Zc 2 rfl (gx (Zc 6 rfl (Aw rfl (call36 _) (M5 _ _ _ _ _ _ 3 fi0 (by omega)) H.f3 ?_)));rintro _ w _ ⟨D2,G2,fi_,hn_,⟨hM_,hns_⟩,hx_,rfl,rfl⟩ H;refine Z0 15 [4] rfl (Aw rfl (call51 _) (sync_s _ _ _ _ 5 fi_) H ?_);rintro _ w _ ⟨rfl,fi3,rfl⟩ H;refine Zc 4 rfl (Zr rfl ?_);have H2:=H.pick 6 [0] rfl
    obtain ⟨hO,H'⟩:=H2.flDisk (by have:=fi_.q;omega);exact ⟨_,⟨D2.fl,G2,bs,hbs,hO,fi3.clean,⟨fi_.gen,fi_.epoch⟩,hn_.trans (hn0.trans (Tm _ _ _ _)),(hx_.elim (fun e=>by rw[e];rfl) (fun e=>by rw[e];rfl)),hM_,rfl,rfl⟩,H'⟩
end
section
open Go.RowKit
section
variable {P:Program} {C:World→Prop} {o:Oper} {n:Nat} {ds:List Deferred} {L:List (Nat×Value)} {x y:Operand} {xt yt:TypeId}
def KW (P:Program) (t:TypeId) (f:Nat) (cs:Array Value):Option Value:=match P.underlying t with
 | some (.struct fs)=>match fs[f]? with
  | some fd=>bif Ft P fd.type then cs[fd.offset]? else none
  | none=>none
 | _=>none
theorem Ty {t:TypeId} {f:Nat} {cs:Array Value} {v:Value} (ho:o.op= .field t x f) (hx:ev L x=some (.agg cs)) (hv:KW P t f cs=some v):Ao P C n ds L o v:=fun a hF w _=>by
 unfold KW at hv
 split at hv
 ·rename_i fs h1
  split at hv
  ·rename_i fd h2
   cases hb:Ft P fd.type with
   | false=>rw[hb] at hv;cases hv
   | true=>
    rw[hb] at hv
    simp only[cond_true] at hv
    simp only[execOp,ho,hF.ev hx,Instr.field,Sem.run_bind,run_underlying h1,Result.andThen_ok,h2]
    simp[asAgg,part,E4 hb,hv,go_sem]
  ·cases hv
 ·cases hv
def KX (P:Program) (t:TypeId) (cs:Array Value):Bool:=match P.underlying t with
 | some (.struct fs)=>fs.toList.all fun f=>Ft P f.type && (match P.underlying f.type with|some (.int _)=>true|_=>false) && (match cs[f.offset]? with|some (.int _ _)=>true|_=>false)
 | _=>false
theorem Kg {α β:Type} (l:List α) (b:β) (f:α→β→Sem (ForInStep β)) (w:World) (h:∀ a∈l,(f a b).run P w= .ok (.yield b) w):(forIn l b f).run P w= .ok b w:=by
 induction l with
 | nil=>simp[go_sem]
 | cons a l ih=>
  rw[List.forIn_cons,Sem.run_bind,h a (by simp)]
  exact ih fun a ha=>h a (by simp[ha])
end
end
open Go.RowKit
def AS (n:Nat) (C:Nat→Nat):Nat→Bool:=fun p=>decide (p<n∧C p=0)
def LC (C:Nat→Nat) (i:Nat):Nat→Nat:=fun p=>if p / 120+1<i then C p else 0
theorem Wo (C:Nat→Nat):LC C 0=fun _=>0:=by funext p;simp[LC]
theorem Yh (C:Nat→Nat):LC C 1=LC C 0:=by funext p;simp[LC]
theorem Ri (C:Nat→Nat) (n i:Nat) {k:Nat} (h:k<120):(DS C n i).getD k 0=if 120 * i+k<n then (C (120 * i+k):Int) else 0:=by
 simp[DS,List.getD,h]
theorem Wp (C:Nat→Nat) (n j:Nat):Cx (GJ (LC C (1+j)) j (DS C n j) 120) n=Cx (LC C (1+j+1)) n:=by
 unfold Cx
 refine List.map_congr_left fun p hp=> ?_
 have hp:=List.mem_range.1 hp
 unfold GJ LC
 by_cases h:p / 120=j
 ·rw[if_pos ⟨h,by omega⟩,if_pos (by omega),Ri _ _ _ (by omega),if_pos (by omega),show 120 * j+p % 120=p by omega];rfl
 ·rw[if_neg (fun q=>h q.1)]
  by_cases h2:p / 120+1<1+j
  ·rw[if_pos h2,if_pos (by omega)]
  ·rw[if_neg h2,if_neg (by omega)]
theorem Yi (C:Nat→Nat) (n:Nat):Cx (LC C (manyN n+1)) n=Cx C n:=by
 unfold Cx
 refine List.map_congr_left fun p hp=> ?_
 have hp:=List.mem_range.1 hp
 unfold LC;rw[if_pos (by unfold manyN;omega)]
theorem Yj {C:Nat→Nat} {n i:Nat} :∀ (k:Nat) (x:Int),(DS C n i)[k]? =some x→n≤120 * i+k→x=0:=fun k x h hn=>by
 have hk:=(List.getElem?_eq_some_iff.1 h).1
 rw[Ii] at hk
 have:=Ri C n i hk
 rw[List.getD,h,if_neg (by omega)] at this
 simpa using this
def GO (C:Nat→Nat) (n i:Nat):Nat→Bool:=fun p=>decide (p<n) && !(decide (p<i) && decide (0<C p))
theorem Tz (C:Nat→Nat) (n:Nat):GO C n 0=Dj n:=by funext p;simp[GO,Dj]
theorem Wq (C:Nat→Nat) (n:Nat):GO C n n=AS n C:=by
 funext p;unfold GO AS;rw[Bool.eq_iff_iff];simp;omega
theorem TA {C:Nat→Nat} {n i:Nat} (h:0<C i):CS (GO C n i) i=GO C n (i+1):=by
 funext p;unfold CS GO;rw[Bool.eq_iff_iff];simp
 by_cases e:p=i
 ·subst e;simp;omega
 ·simp[e];omega
theorem TC {C:Nat→Nat} {n i:Nat} (h:¬ 0<C i):GO C n i=GO C n (i+1):=by
 funext p;unfold GO
 by_cases e:p=i
 ·subst e;have:decide (0<C p)=false:=decide_eq_false h
  rw[this];simp
 ·have h2:decide (p<i)=decide (p<i+1):=decide_eq_decide.2 (by omega)
  rw[h2]
theorem Oz (F:Nat→Bool):CF F BB=F:=by funext p;simp[CF,BB]
theorem Yk {C:Nat→Nat} {n i:Nat} (h:i<n):GO C n i i=true:=by unfold GO;simp[h]
theorem OA (ps pd:Nat) (D:Dsk) (G:StG) (mb n:Nat) (C:Nat→Nat) (hF:Fine D G mb) (hn:16≤n∧n≤1024) (hG:G.x.pages=n) (cb:List UInt8) (hcat:G.M 0=⟨1,cb⟩) (hcp:∀ i,i<manyN n→G.M (1+i)=CY C n i) (hC:∀ k,C k≤1000) (hone:∀ p,p≤manyN n→C p=1):Cn prog 23 [Pt_ ps] [stoA ps pd D G none] (fun v Γ=>∃ pp pc bn m pa:Nat,v= .tuple #[Pt_ pp,Iv_ 0]∧Γ=[stoA ps pd D G none,plB pp ps pc pa n false,coB pc bn n m,BT bn C n,Ay m ([]) 0,alB pa n (AS n C) BB (AS n C)]):=by
 intro z R w H;replace H:=H.l1;have hml:=M8 hn.1
 refine Ad func23 rfl ntmps23 rfl (Zc 21 rfl (z_E_ rfl (call57 _) (We _ _ _ _ _) H ?_));intro w H;replace H:=H.l1;refine Ac rfl (Ty (v:=Iv_ G.x.pages) rfl rfl (by kernel_rfl)) (Al 18 (v:=Iv_ (n:Int)) rfl (congrArg Iv_ hG) (Ac rfl (AF rfl rfl (out:=[Pt_ ps,.pointer none,.pointer none,Iv_ (n:Int),.bool false]) (by kernel_rfl)) (Za 0 [] H rfl ?_)));intro b1 w H;refine Z2 10 [3,0,0] H rfl (Aw rfl (call50 _) (Q4 _ (by omega)) H ?_);rintro _ w _ ⟨pc,bn,m,rfl,rfl⟩ H;refine Z4 15 [1,3,3,3,0] H rfl ?_;intro w H;refine Aw rfl (call58 _) (XN _ (by omega)) H ?_;rintro _ w _ ⟨pa,rfl,rfl⟩ H;refine Z4 11 [2,4,3,4,0] H rfl ?_;intro w H;refine z_E_ rfl (call31 _) (Fq _ (by omega)) H ?_;intro w H;refine Z1 17 [] [(manyN n:Int)+1] rfl (by omega) ?_;refine AJ (σ:=Nat) (fun i=>[(47,Iv_ (i:Int)),(6,.bool false),(0,Pt_ ps),(4,Pt_ b1),(5,Iv_ (manyN n:Int)),(46,Iv_ ((manyN n:Int)+1))])
   (fun i w=>Sep z (alB pa n (Dj n) BB (Dj n)::coB pc bn n m::BT bn (LC C i) n::Ay m ([]) 0::plB b1 ps pc pa n false::stoA ps pd D G none::R) w∧(i≤manyN n+1)) (fun i=>manyN n+1 - i) 0
   (fun _ hF=>(hF.co rfl (by go_num) (hF.all rfl))) ⟨(by rw[Wo];exact H),by omega⟩ ?_
 clear H;rintro i w ⟨H',hI⟩;have H:=H'.l6;have him:=hI;clear hI
 refine Z0 6 [0] rfl (Af rfl (fun h1=> ?_) (fun h1=> ?_))
 ·have hne:G.M i≠noPg:=fun q=>by
    rcases Nat.eq_zero_or_pos i with h0|h0
    · subst h0;rw[hcat] at q;cases q
    · have h1:=hcp (i - 1) (by omega);rw[show 1+(i - 1)=i by omega,q] at h1;cases h1
  refine Zc 14 rfl (Aw rfl (call42 _) (JC ps pd D G none i (by omega) hF.clean.f1 (G.M i) rfl) H.f5 ?_);rintro _ w _ (⟨hno,rfl,rfl⟩|⟨hyes,rv,rfl,rfl⟩) H'
  ·exact absurd hno hne
  ·have H:=H'.l7;obtain ⟨gb,cap,rest,rfl,c1,c2,c3,H⟩:=H.ungrow 0 rfl (by omega);replace H:=H.l7;refine Za 3 [] H rfl ?_;intro b2 w H;refine Z4 20 [0,4,0] H rfl ?_;intro w H;refine Af rfl (fun h2=> ?_) (fun h2=> ?_)
   ·obtain rfl:i=0:=by omega
    refine Z2 5 [0,0,0] H rfl (Al 84 (v:=Iv_ 1) rfl (congrArg Iv_ (by rw[hcat])) (Z1 11 [4] [(0:Int)+1] rfl (by omega) ?_));replace H:=H.f1.d.d.f5.f5.f5.f5.f5;refine gf ?_;intro _ hF;refine ⟨(0+1),(hF.co rfl (by go_num) (hF.all rfl)),⟨(by rw[Yh];exact H),?_⟩,?_⟩
    ·omega
    ·omega
   ·obtain ⟨j,rfl⟩:∃ j,i=1+j:=⟨i - 1,by omega⟩;have hMj:=hcp j (by omega)
    have hbl:(G.M (1+j)).body.length=240:=by rw[hMj];exact (Ex _ _ _).2
    have hbd:(G.M (1+j)).body=JA (DS C n j):=by rw[hMj];rfl
    refine BI 15 (by kernel_rfl) (by kernel_rfl) (Bc H fun w H'=> ?_)
    have H:=H'.l8;refine Uo 4 [0,0] (AK (H.blk 0 rfl) AW) rfl (by kernel_rfl) rfl (Al 59 (v:=Iv_ 2) rfl (congrArg Iv_ (by rw[hcp j (by omega)];rfl)) (Eg 11 [4,1,7,0,1,0,0] [(j:Int)] H rfl (by kernel_rfl) (by omega) (Cy (gw (z_E_ rfl (call59 _) (VV _ _ _ _ _ _ j (by omega) (by omega) _ _ _ _ _ (fun h q=>q.rd (by omega) (by omega) (by rw[List.length_append,List.length_map,hbl];omega) (by rw[List.drop_zero,Nat.mul_one,List.take_left' (by rw[List.length_map,hbl])])) (DS C n j) (Ii _ _ _) (Q3 hC _ _) hbd Yj) H.f1.f6.f6.f6 ?_)))));intro w H;replace H:=H.l8;dsimp only[BT] at H
    rw[Wp] at H;have H':Sep z (coB pc bn n m::BT bn (LC C (1+j+1)) n::Ay m ([]) 0::blk gb ((G.M (1+j)).body.map u8++rest) 5::blk b2 [Iv_ ((G.M (1+j)).kind),.slice (some ⟨gb,0,none⟩) 240 cap] 79::stoA ps pd D G none::alB pa n (Dj n) BB (Dj n)::plB b1 ps pc pa n false::R) w:=H
    clear H;have H:=H'.l8;refine Z1 11 [4] [((1+j):Int)+1] rfl (by omega) ?_;replace H:=H.f4.d.f3.d.f3.f5.f4.f4.f4.f5;refine gf ?_;intro _ hF;refine ⟨(1+j+1),(hF.co rfl (by go_num) (hF.all rfl)),⟨H,?_⟩,?_⟩
    ·omega
    ·omega
 ·obtain rfl:i=manyN n+1:=by omega
  refine Zc 2 rfl (gx (Zc 4 rfl ?_));dsimp only[BT] at H
  rw[Yi] at H;have H':Sep z (alB pa n (Dj n) BB (Dj n)::coB pc bn n m::BT bn C n::Ay m ([]) 0::plB b1 ps pc pa n false::stoA ps pd D G none::R) w:=H
  clear H;have H:=H'.l6;refine Z1 7 [] [(manyN n:Int)+1] rfl (by omega) ?_;refine AJ (σ:=Nat) (fun i=>[(90,Iv_ (i:Int)),(6,.bool false),(4,Pt_ b1),(89,Iv_ ((manyN n:Int)+1))])
    (fun i w=>Sep z (alB pa n (Dj n) BB (Dj n)::coB pc bn n m::BT bn C n::Ay m ([]) 0::plB b1 ps pc pa n false::stoA ps pd D G none::R) w∧(i≤manyN n+1)) (fun i=>manyN n+1 - i) 0
    (fun _ hF=>(hF.co rfl (by go_num) (hF.all rfl))) ⟨H,by omega⟩ ?_
  clear H;rintro i w ⟨H',hI⟩;have H:=H'.l6;have him:=hI;clear hI
  refine Z0 6 [0] rfl (Af rfl (fun h3=> ?_) (fun h3=> ?_))
  ·have hne:G.M i≠noPg:=fun q=>by
     rcases Nat.eq_zero_or_pos i with h0|h0
     · subst h0;rw[hcat] at q;cases q
     · have h1:=hcp (i - 1) (by omega);rw[show 1+(i - 1)=i by omega,q] at h1;cases h1
   refine Z2 18 [1,4,0] H rfl (z_E_ rfl (call30 _) (EV _ _ _ _ _ _ (by omega) (by omega)) H.f2.f2 ?_);intro w H;replace H:=H.l6;refine Al 100 (v:=Iv_ 1) rfl (congrArg Iv_ (by rw[hone i (by omega)];rfl)) (Z1 10 [4] [(i:Int)+1] rfl (by omega) ?_);replace H:=H.f5.f5.f5.f4.f4.f5;refine gf ?_;intro _ hF;refine ⟨(i+1),(hF.co rfl (by go_num) (hF.all rfl)),⟨H,?_⟩,?_⟩
   ·omega
   ·omega
  ·obtain rfl:i=manyN n+1:=by omega
   refine Zc 2 rfl (gx (Z2 22 [3,4,0] H rfl ?_));refine AJ (σ:=Nat) (fun i=>[(109,Iv_ (i:Int)),(4,Pt_ b1),(108,Iv_ (n:Int))])
     (fun i w=>Sep z (alB pa n (GO C n i) BB (Dj n)::coB pc bn n m::BT bn C n::Ay m ([]) 0::plB b1 ps pc pa n false::stoA ps pd D G none::R) w∧(i≤n)) (fun i=>n - i) 0
     (fun _ hF=>(hF.co rfl (by go_num) (hF.all rfl))) ⟨(by rw[Tz];exact H),by omega⟩ ?_
   clear H;rintro i w ⟨H',hI⟩;have H:=H'.l6;have hin:=hI;clear hI
   refine Z0 6 [0] rfl (Af rfl (fun h4=> ?_) (fun h4=> ?_))
   ·refine Z2 17 [1,4,0] H rfl (z_E_ rfl (call30 _) (EV _ _ _ _ _ _ (by omega) (by omega)) H.f2.f2 ?_);intro w H;refine Z0 3 [0] rfl (Af rfl (fun h5=> ?_) (fun h5=> ?_))
    ·have hpos:0<C i:=by omega
     refine Z2 6 [2,4,0] H rfl (z_E_ rfl (call60 _) (Qx _ _ _ _ _ i (by omega) (by omega) (Yk (by omega))) H.f2 ?_);intro w H;replace H:=H.l6;rw[TA hpos] at H;refine Z1 7 [] [(i:Int)+1] rfl (by omega) (gf ?_);intro _ hF;refine ⟨(i+1),(hF.co rfl (by go_num) (hF.all rfl)),⟨H,?_⟩,?_⟩
     ·omega
     ·omega
    ·have hnpos:¬ 0<C i:=by omega
     refine Z1 7 [] [(i:Int)+1] rfl (by omega) ?_;replace H:=H.f5.f5.f5.f4.f4.f5;refine gf ?_;intro _ hF;refine ⟨(i+1),(hF.co rfl (by go_num) (hF.all rfl)),⟨(by rw[←TC hnpos];exact H),?_⟩,?_⟩
     ·omega
     ·omega
   ·obtain rfl:n=i:=by omega
    refine Zc 2 rfl (gx (Zc 3 rfl ?_));rw[Wq] at H;refine Z2 5 [2,4,0] H rfl (z_E_ rfl (call39 _) (KG _ _ _ _ _) H ?_);intro w H;replace H:=H.l6;rw[Oz] at H;refine Zc 10 rfl (Zr rfl ?_);exact ⟨_,⟨b1,pc,bn,m,pa,rfl,rfl⟩,H.perm 6 [5,4,1,2,3,0] rfl rfl⟩
section
open Go.RowKit
variable {Tb:Ae}
def fup {α:Type} (f:Nat→α) (a:Nat) (x:α):Nat→α:=fun i=>if i=a then x else f i
theorem Bx {α:Type} (f:Nat→α) (a:Nat) (x:α):fup f a x a=x:=by simp[fup]
theorem A4 {α:Type} (f:Nat→α) {a b:Nat} (x:α) (h:b≠a):fup f a x b=f b:=by simp[fup,h]
structure PoX where
 ps:Nat
 pd:Nat
 pc:Nat
 bn:Nat
 mm:Nat
 pa:Nat
 D:Dsk
 G:StG
 g:Bh
 l:List IE
 clk:Nat
 Dd:Nat→Bool
 A:Ae
structure PoT where
 M:Nat→Pg
 C:Nat→Nat
 F:Nat→Bool
 k:Nat
def poC (C0:Nat→Nat):Option PoT→Nat→Nat
 | none=>C0
 | some T=>T.C
def UG (n:Nat) (C0:Nat→Nat):Option PoT→Nat→Bool
 | none=>AS n C0
 | some T=>T.F
def ZZ (M0:Nat→Pg):Option PoT→Nat→Pg
 | none=>M0
 | some T=>T.M
def Rj (g:Bh):Option PoT→Gl
 | none=>none
 | some T=>some (g,T.k)
def Rk (pp n:Nat) (C0:Nat→Nat) (t:Option PoT) (X:PoX):List Ae:=
 [plB pp X.ps X.pc X.pa n t.isSome,stoA X.ps X.pd X.D X.G (Rj X.g t),coB X.pc X.bn n X.mm,BT X.bn (poC C0 t) n,Ay X.mm X.l X.clk,alB X.pa n (UG n C0 t) X.Dd (AS n C0),X.A]
structure PoQ (n:Nat) (C0:Nat→Nat) (T:PoT) (X:PoX):Prop where
 m:∀ p,(p=0∨manyN n<p)→T.M p=Db X.G.M (some (X.g,T.k)) p
 gn:∀ i,i<manyN n→X.g (1+i)=none
 W:WasOk T.C C0 n X.l X.clk
 c:∀ k,T.C k≤1000
 df:CF T.F X.Dd=AS n T.C
 dj:∀ p,X.Dd p=true→T.F p=false
 one:∀ p,p≤manyN n→T.C p=1
structure PoP (Tb:Ae) (mb n:Nat) (M0:Nat→Pg) (C0:Nat→Nat) (t:Option PoT) (X:PoX):Prop where
 hn:16≤n∧n≤1024
 fine:Fine X.D X.G mb
 pg:X.G.x.pages=n
 tab:Gp X.A∧X.A=Tb
 m0:∀ p,(p=0∨manyN n<p)→M0 p=X.G.M p
 cp:∀ i,i<manyN n→X.G.M (1+i)=CY C0 n i
 c0:∀ k,C0 k≤1000
 one:∀ p,p≤manyN n→C0 p=1
 idle:t=none→X.l=[]∧X.Dd=BB
 tx:∀ T,t=some T→PoQ n C0 T X
def poA (Tb:Ae) (pp mb n:Nat) (M0:Nat→Pg) (C0:Nat→Nat) (t:Option PoT):Ae:=fun h=>∃ X,PoP Tb mb n M0 C0 t X∧seps (Rk pp n C0 t X) h
variable {z w:World} {Γ:List Ae} {pp mb n:Nat} {M0:Nat→Pg} {C0:Nat→Nat} {t:Option PoT} {T:PoT}
theorem Sep.po (H:Sep z (poA Tb pp mb n M0 C0 t::Γ) w):∃ X,PoP Tb mb n M0 C0 t X∧Sep z (Rk pp n C0 t X++Γ) w:=
 H.into (p:=fun X=>PoP Tb mb n M0 C0 t X) (As:=fun X=>Rk pp n C0 t X) (fun _ q=>q)
theorem Sep.toPo {X:PoX} (H:Sep z Γ w) (hX:PoP Tb mb n M0 C0 t X) (hn:Γ.take 7=Rk pp n C0 t X):Sep z (poA Tb pp mb n M0 C0 t::Γ.drop 7) w:=
 H.made 7 (fun h q=>⟨X,hX,by rwa[hn] at q⟩)
theorem poA.hn {h:Hp} (a:poA Tb pp mb n M0 C0 t h):16≤n∧n≤1024:=by
 obtain ⟨X,hX,_⟩:=a;exact hX.hn
structure PoK (n:Nat) (T:PoT):Prop where
 c:∀ k,T.C k≤1000
 free:∀ p,T.F p=true→p<n∧T.C p=0∧manyN n<p
 one:∀ p,p≤manyN n→T.C p=1
theorem PoQ.k {X:PoX} (Q:PoQ n C0 T X) (hn:16≤n):PoK n T:=by
 refine ⟨Q.c,fun p hp=> ?_,Q.one⟩
 have h1:AS n T.C p=true:=by rw[←Q.df];simp[CF,hp]
 simp[AS] at h1
 refine ⟨h1.1,h1.2,?_⟩
 rcases Nat.lt_or_ge (manyN n) p with h|h
 ·exact h
 ·have:=Q.one p h;omega
theorem poA.k {h:Hp} (a:poA Tb pp mb n M0 C0 (some T) h):PoK n T:=by
 obtain ⟨X,hX,_⟩:=a;exact (hX.tx T rfl).k hX.hn.1
theorem poA.c0 {h:Hp} (a:poA Tb pp mb n M0 C0 t h):(∀ k,C0 k≤1000)∧∀ p,p≤manyN n→C0 p=1:=by
 obtain ⟨X,hX,_⟩:=a;exact ⟨hX.c0,hX.one⟩
def Z6 (n:Nat) (M0:Nat→Pg) (C0:Nat→Nat):PoT:=⟨M0,C0,AS n C0,0⟩
theorem Wr (pp mb n:Nat) (M0:Nat→Pg) (C0:Nat→Nat):Cn prog 12 [Pt_ pp] [poA Tb pp mb n M0 C0 none] (fun v Γ=>v=Iv_ 0∧Γ=[poA Tb pp mb n M0 C0 (some (Z6 n M0 C0))]):=by
 intro z R w H
 obtain ⟨X,hX,H⟩:=H.po
 obtain ⟨hl,hd⟩:=hX.idle rfl
 refine Ret.mono (Cn.at (To pp X.ps X.pd X.pc X.bn X.mm X.pa n X.D X.G) H 7 [0,1,2,3,4,5,6] rfl rfl) ?_
 rintro v w' ⟨Γ',⟨rfl,rfl⟩,H'⟩
 have hL:X.l=[]:=hl
 refine ⟨_,⟨rfl,rfl⟩,H'.toPo (X:= { X with g:=CV }) ⟨hX.hn,hX.fine,hX.pg,hX.tab,hX.m0,hX.cp,hX.c0,hX.one,fun e=>(by cases e),fun T e=> ?_⟩ rfl⟩
 cases e
 refine ⟨fun p hp=>hX.m0 p hp,fun _ _=>rfl,?_,hX.c0,?_,fun p hp=> ?_,hX.one⟩
 ·show WasOk C0 C0 n X.l X.clk
  rw[hl];exact WasOk.nil _ _ _
 ·show CF (AS n C0) X.Dd=AS n C0
  rw[hd];exact Oz _
 ·have:X.Dd p=true:=hp
  rw[hd] at this;cases this
theorem Ws (pp mb n:Nat) (M0:Nat→Pg) (C0:Nat→Nat) (T:PoT):Cn prog 25 [Pt_ pp] [poA Tb pp mb n M0 C0 (some T)] (fun v Γ=>v= .tuple #[]∧Γ=[poA Tb pp mb n M0 C0 none]):=by
 intro z R w H
 obtain ⟨X,hX,H⟩:=H.po
 have Q:=hX.tx T rfl
 refine Ret.mono (Cn.at (Tp pp X.ps X.pd X.pc X.bn X.mm X.pa n X.D X.G X.g T.k T.C C0 X.l X.clk T.F X.Dd (AS n C0) Q.W) H 7 [1,0,2,3,4,5,6] rfl rfl) ?_
 rintro v w' ⟨Γ',⟨rfl,rfl⟩,H'⟩
 have H3:=H'.pick 7 [1,0,2,3,4,5,6] rfl
 exact ⟨_,⟨rfl,rfl⟩,H3.toPo (X:= { X with l:=[],Dd:=BB }) ⟨hX.hn,hX.fine,hX.pg,hX.tab,hX.m0,hX.cp,hX.c0,hX.one,fun _=>⟨rfl,rfl⟩,fun T e=>(by cases e)⟩ rfl⟩
theorem TD (pp mb n:Nat) (M0:Nat→Pg) (C0:Nat→Nat) (T:PoT) (hk:T.k+manyN n≤40) (hm:mb≤1000000000):Cn prog 14 [Pt_ pp] [poA Tb pp mb n M0 C0 (some T)] (fun v Γ=>v=Iv_ 0∧Γ=[poA Tb pp (mb+2) n T.M T.C none]):=by
 intro z R w H
 obtain ⟨X,hX,H⟩:=H.po
 have Q:=hX.tx T rfl
 refine Ret.mono (Cn.at (Rh pp X.ps X.pd X.pc X.bn X.mm X.pa n X.D X.G mb X.g T.k T.C C0 X.l X.clk T.F X.Dd (AS n C0) Q.W hX.hn hX.pg Q.gn hk Q.c hX.fine hm) H 7 [1,0,2,3,4,5,6] rfl rfl) ?_
 rintro v w' ⟨Γ',⟨D2,G2,g,k,zs,hC,hz,hf,_,hM,hx,rfl,rfl⟩,H'⟩
 have H3:=H'.pick 7 [1,0,2,3,4,5,6] rfl
 rw[Q.df] at H3
 refine ⟨_,⟨rfl,rfl⟩,H3.toPo (X:= { X with l:=[],Dd:=BB,D:=D2,G:=G2 }) ⟨hX.hn,hf,?_,hX.tab,fun p hp=> ?_,fun i hi=> ?_,Q.c,Q.one,fun _=>⟨rfl,rfl⟩,fun T e=>(by cases e)⟩ rfl⟩
 ·have:=hX.pg
  rcases hx with e|e
  ·show G2.x.pages=_;rw[e];exact this
  ·show G2.x.pages=_;rw[e];exact this
 ·rw[Q.m p hp]
  show _=G2.M p
  rw[hM];simp only[Db];rw[hC.old p hp]
 ·show G2.M (1+i)=_
  rw[hM];simp only[Db]
  rcases hC.done hz hi with h|⟨h,e⟩
  ·rw[h];rfl
  ·rw[h,←e];exact hX.cp i hi
theorem Wt (pp mb n:Nat) (M0:Nat→Pg) (C0:Nat→Nat) (t:Option PoT) (p:Nat) (hp:p<n):Cn prog 80 [Pt_ pp,Iv_ (p:Int)] [poA Tb pp mb n M0 C0 t] (fun v Γ=>v=Iv_ (poC C0 t p:Int)∧Γ=[poA Tb pp mb n M0 C0 t]):=by
 intro z R w H
 obtain ⟨X,hX,H⟩:=H.po
 refine Ret.mono (Cn.at (Tq pp X.ps X.pc X.bn X.mm X.pa n t.isSome (poC C0 t) p hp hX.hn) H 7 [0,2,3,1,4,5,6] rfl rfl) ?_
 rintro v w' ⟨Γ',⟨rfl,rfl⟩,H'⟩
 exact ⟨_,⟨rfl,rfl⟩,(H'.pick 7 [0,3,1,2,4,5,6] rfl).toPo hX rfl⟩
theorem M9 (pp mb n:Nat) (M0:Nat→Pg) (C0:Nat→Nat) (t:Option PoT):Cn prog 18 [Pt_ pp] [poA Tb pp mb n M0 C0 t] (fun v Γ=>v=Iv_ (cnt (UG n C0 t) 0 1024:Int)∧Γ=[poA Tb pp mb n M0 C0 t]):=by
 intro z R w H
 obtain ⟨X,hX,H⟩:=H.po
 refine Ret.mono (Cn.at (Wg pp X.ps X.pc X.pa n t.isSome (UG n C0 t) X.Dd (AS n C0)) H 7 [0,5,1,2,3,4,6] rfl rfl) ?_
 rintro v w' ⟨Γ',⟨rfl,rfl⟩,H'⟩
 exact ⟨_,⟨rfl,rfl⟩,(H'.pick 7 [0,2,3,4,5,1,6] rfl).toPo hX rfl⟩
theorem Kh (pp mb n:Nat) (M0:Nat→Pg) (C0:Nat→Nat) (t:Option PoT):Cn prog 43 [Pt_ pp] [poA Tb pp mb n M0 C0 t] (fun v Γ=>v= .bool t.isSome∧Γ=[poA Tb pp mb n M0 C0 t]):=by
 intro z R w H
 obtain ⟨X,hX,H⟩:=H.po
 refine Ret.mono (Cn.at (Ts pp X.ps X.pc X.pa n t.isSome) H 7 [0,1,2,3,4,5,6] rfl rfl) ?_
 rintro v w' ⟨Γ',⟨rfl,rfl⟩,H'⟩
 exact ⟨_,⟨rfl,rfl⟩,H'.toPo hX rfl⟩
theorem PoQ.put {X:PoX} {p:Nat} {x:Pg} (Q:PoQ n C0 T X) (hp:p=0∨manyN n<p) (k2:Nat):PoQ n C0 { T with M:=fup T.M p x,k:=k2 } { X with g:=pgSet X.g p x } :=by
 refine ⟨fun q hq=> ?_,fun i hi=> ?_,Q.W,Q.c,Q.df,Q.dj,Q.one⟩
 ·simp only[fup,Db,pgSet]
  split
  ·rfl
  ·exact Q.m q hq
 ·show pgSet X.g p x (1+i)=none
  unfold pgSet;rw[if_neg (by omega)];exact Q.gn i hi
theorem Wu (pp mb n:Nat) (M0:Nat→Pg) (C0:Nat→Nat) (T:PoT) (p:Nat) (x:Pg) (hx:x.Ok) (bv:Value) (B:Ae) (hB:∀ h,B h→rdH 1 bv 240 (x.body.map u8) h) (hk:T.k<40) (hp:(p=0∨manyN n<p)∧p<n) (hC:T.C p≠0):
  Cn prog 161 [Pt_ pp,Iv_ (p:Int),.agg #[Iv_ x.kind,bv]] [poA Tb pp mb n M0 C0 (some T),B] (fun v Γ=>∃ k2,k2≤T.k+1∧v=Iv_ 0∧Γ=[poA Tb pp mb n M0 C0 (some { T with M:=fup T.M p x,k:=k2 }),B]):=by
 intro z R w H
 obtain ⟨X,hX,H⟩:=H.po
 have Q:=hX.tx T rfl
 refine Ret.mono (Cn.at (Tt pp X.ps X.pd X.pc X.bn X.mm X.pa n X.D X.G p x hx bv B hB X.g T.k (fun q=>by omega) hX.pg T.C hX.hn hp hC) H 8 [1,0,2,3,7,4,5,6] rfl rfl) ?_
 rintro v w' ⟨Γ',⟨rfl,rfl⟩,H'⟩
 refine ⟨_,⟨_,?_,rfl,rfl⟩,((H'.pick 8 [1,0,2,3,5,6,7,4] rfl).toPo (X:= { X with g:=pgSet X.g p x }) (t:=some { T with M:=fup T.M p x,k:=T.k+(if (X.g p).isSome then 0 else 1) }) ⟨hX.hn,hX.fine,hX.pg,hX.tab,hX.m0,hX.cp,hX.c0,hX.one,fun e=>(by cases e),fun T' e=> ?_⟩ rfl)⟩
 ·split<;>omega
 ·cases e;exact Q.put hp.1 _
theorem Zi (pp mb n:Nat) (M0:Nat→Pg) (C0:Nat→Nat) (T:PoT) (p:Nat) (hp:manyN n<p∧p<n) (hC:1≤T.C p∧T.C p<1000):
  Cn prog 13 [Pt_ pp,Iv_ (p:Int)] [poA Tb pp mb n M0 C0 (some T)] (fun v Γ=>v=Iv_ 0∧Γ=[poA Tb pp mb n M0 C0 (some { T with C:=fup T.C p (T.C p+1) })]):=by
 intro z R w H
 obtain ⟨X,hX,H⟩:=H.po
 have Q:=hX.tx T rfl
 refine Ret.mono (Cn.at (Yg pp X.ps X.pc X.bn X.mm X.pa n T.C C0 X.l X.clk Q.W hX.hn p hp hC) H 7 [0,2,3,4,1,5,6] rfl rfl) ?_
 rintro v w' ⟨Γ',⟨l2,clk2,W2,rfl,rfl⟩,H'⟩
 refine ⟨_,⟨rfl,rfl⟩,((H'.pick 7 [0,4,1,2,3,5,6] rfl).toPo (X:= { X with l:=l2,clk:=clk2 }) (t:=some { T with C:=fup T.C p (T.C p+1) }) ⟨hX.hn,hX.fine,hX.pg,hX.tab,hX.m0,hX.cp,hX.c0,hX.one,fun e=>(by cases e),fun T' e=> ?_⟩ rfl)⟩
 cases e
 refine ⟨Q.m,Q.gn,W2,fun k=> ?_,?_,Q.dj,fun q hq=> ?_⟩
 ·show fup T.C p (T.C p+1) k≤1000
  unfold fup;split
  ·omega
  ·exact Q.c k
 ·show CF T.F X.Dd=AS n (fup T.C p (T.C p+1))
  rw[Q.df];funext q;unfold AS fup
  split
  ·rename_i e;subst e;simp;omega
  ·rfl
 ·show fup T.C p (T.C p+1) q=1
  rw[A4 _ _ (by omega)];exact Q.one q hq
theorem Wv (pp mb n:Nat) (M0:Nat→Pg) (C0:Nat→Nat) (T:PoT) (p:Nat) (hp:manyN n<p∧p<n) (hC:2≤T.C p):
  Cn prog 84 [Pt_ pp,Iv_ (p:Int)] [poA Tb pp mb n M0 C0 (some T)] (fun v Γ=>v=Iv_ 0∧Γ=[poA Tb pp mb n M0 C0 (some { T with C:=fup T.C p (T.C p - 1) })]):=by
 intro z R w H
 obtain ⟨X,hX,H⟩:=H.po
 have Q:=hX.tx T rfl
 refine Ret.mono (Cn.at (Tv pp X.ps X.pc X.bn X.mm X.pa n T.C C0 X.l X.clk Q.W hX.hn p hp ⟨hC,Q.c p⟩) H 7 [0,2,3,4,1,5,6] rfl rfl) ?_
 rintro v w' ⟨Γ',⟨l2,clk2,W2,rfl,rfl⟩,H'⟩
 refine ⟨_,⟨rfl,rfl⟩,((H'.pick 7 [0,4,1,2,3,5,6] rfl).toPo (X:= { X with l:=l2,clk:=clk2 }) (t:=some { T with C:=fup T.C p (T.C p - 1) }) ⟨hX.hn,hX.fine,hX.pg,hX.tab,hX.m0,hX.cp,hX.c0,hX.one,fun e=>(by cases e),fun T' e=> ?_⟩ rfl)⟩
 cases e
 refine ⟨Q.m,Q.gn,W2,fun k=> ?_,?_,Q.dj,fun q hq=> ?_⟩
 ·show fup T.C p (T.C p - 1) k≤1000
  have:=Q.c p
  unfold fup;split
  ·omega
  ·exact Q.c k
 ·show CF T.F X.Dd=AS n (fup T.C p (T.C p - 1))
  rw[Q.df];funext q;unfold AS fup
  split
  ·rename_i e;subst e;exact decide_eq_decide.2 (by omega)
  ·rfl
 ·show fup T.C p (T.C p - 1) q=1
  rw[A4 _ _ (by omega)];exact Q.one q hq
theorem Yl (pp mb n:Nat) (M0:Nat→Pg) (C0:Nat→Nat) (T:PoT) (p:Nat) (hp:manyN n<p∧p<n) (hC:T.C p=1):
  Cn prog 84 [Pt_ pp,Iv_ (p:Int)] [poA Tb pp mb n M0 C0 (some T)] (fun v Γ=>v=Iv_ 0∧Γ=[poA Tb pp mb n M0 C0 (some { T with C:=fup T.C p 0 })]):=by
 intro z R w H
 obtain ⟨X,hX,H⟩:=H.po
 have Q:=hX.tx T rfl
 have hd:(T.F p || X.Dd p)=false:=by
  have:CF T.F X.Dd p=AS n T.C p:=by rw[Q.df]
  unfold CF AS at this;rw[this];simp;omega
 simp at hd
 refine Ret.mono (Cn.at (Wh pp X.ps X.pc X.bn X.mm X.pa n T.C C0 X.l X.clk Q.W hX.hn p hp T.F X.Dd (AS n C0) hC hd.1 hd.2) H 7 [0,2,3,4,5,1,6] rfl rfl) ?_
 rintro v w' ⟨Γ',⟨l2,clk2,W2,rfl,rfl⟩,H'⟩
 refine ⟨_,⟨rfl,rfl⟩,((H'.pick 7 [0,5,1,2,3,4,6] rfl).toPo (X:= { X with l:=l2,clk:=clk2,Dd:=Fv X.Dd p }) (t:=some { T with C:=fup T.C p 0 }) ⟨hX.hn,hX.fine,hX.pg,hX.tab,hX.m0,hX.cp,hX.c0,hX.one,fun e=>(by cases e),fun T' e=> ?_⟩ rfl)⟩
 cases e
 refine ⟨Q.m,Q.gn,W2,fun k=> ?_,?_,fun q hq=> ?_,fun q hq=> ?_⟩
 ·show fup T.C p 0 k≤1000
  unfold fup;split
  ·omega
  ·exact Q.c k
 ·show CF T.F (Fv X.Dd p)=AS n (fup T.C p 0)
  funext q
  have:CF T.F X.Dd q=AS n T.C q:=by rw[Q.df]
  unfold CF AS at this
  unfold CF Fv AS fup
  rw[←Bool.or_assoc,this]
  by_cases e:q=p
  ·subst e;simp[hp.2]
  ·simp[e]
 ·have hq2:Fv X.Dd p q=true:=hq
  unfold Fv at hq2
  by_cases e:q=p
  ·subst e;exact hd.1
  ·simp[e] at hq2;exact Q.dj q hq2
 ·show fup T.C p 0 q=1
  rw[A4 _ _ (by omega)];exact Q.one q hq
theorem Ww (pp mb n:Nat) (M0:Nat→Pg) (C0:Nat→Nat) (T:PoT) (x:Pg) (hx:x.Ok) (bv:Value) (B:Ae) (hB:∀ h,B h→rdH 1 bv 240 (x.body.map u8) h) (hk:T.k<40):
  Cn prog 44 [Pt_ pp,.agg #[Iv_ x.kind,bv]] [poA Tb pp mb n M0 C0 (some T),B] (fun v Γ=>(cnt T.F 0 1024=0∧v= .tuple #[Iv_ 0,Iv_ 20]∧Γ=[poA Tb pp mb n M0 C0 (some T),B])∨
   ∃ p k2:Nat,(T.F p=true∧k2≤T.k+1∧cnt (CS T.F p) 0 1024+1=cnt T.F 0 1024)∧v= .tuple #[Iv_ (p:Int),Iv_ 0]∧Γ=[poA Tb pp mb n M0 C0 (some ⟨fup T.M p x,fup T.C p 1,CS T.F p,k2⟩),B]):=by
 intro z R w H
 obtain ⟨X,hX,H⟩:=H.po
 have Q:=hX.tx T rfl
 have K:=Q.k hX.hn.1
 have hn:=hX.hn
 by_cases hno:∀ q,q<1024→T.F q=false
 ·refine Ret.mono (Cn.at (Rg pp X.ps X.pc X.pa n x hx bv B hB T.F X.Dd (AS n C0) hno) H 8 [0,5,7,1,2,3,4,6] rfl rfl) ?_
  rintro v w' ⟨Γ',⟨rfl,rfl⟩,H'⟩
  refine ⟨_,.inl ⟨?_,rfl,rfl⟩,(H'.pick 8 [0,3,4,5,6,1,7,2] rfl).toPo hX rfl⟩
  rw[F5 (F:=T.F) (G:=BB) (fun i hi=>by rw[hno _ (by omega)];rfl)]
  have:∀ m,cnt BB 0 m=0:=fun m=>by
   induction m with
   | zero=>rfl
   | succ m ih=>simp only[cnt,ih,BB];rfl
  exact this _
 ·have hex:∃ p,T.F p=true∧∀ q,q<p→T.F q=false:=by
   have h1:∃ q,T.F q=true:=Classical.byContradiction fun h=>hno (fun q _=>by
    cases e:T.F q with
    | false=>rfl
    | true=>exact absurd ⟨q,e⟩ h)
   obtain ⟨q,hq⟩:=h1
   have:∀ m q,q≤m→T.F q=true→∃ p,T.F p=true∧∀ q,q<p→T.F q=false:=fun m=>by
    induction m with
    | zero=>intro q h1 h2;exact ⟨q,h2,fun r hr=>by omega⟩
    | succ m ih=>
     intro q h1 h2
     by_cases h3:∃ r,r<q∧T.F r=true
     ·obtain ⟨r,h4,h5⟩:=h3
      exact ih r (by omega) h5
     ·refine ⟨q,h2,fun r hr=> ?_⟩
      cases e:T.F r with
      | false=>rfl
      | true=>exact absurd ⟨r,hr,e⟩ h3
   exact this q q (Nat.le_refl _) hq
  obtain ⟨p,h1,h0⟩:=hex
  obtain ⟨k1,k2,k3⟩:=K.free p h1
  have hd:X.Dd p=false:=by
   cases e:X.Dd p with
   | false=>rfl
   | true=>have:=Q.dj p e;rw[h1] at this;cases this
  refine Ret.mono (Cn.at (Tu pp X.ps X.pd X.pc X.bn X.mm X.pa n X.D X.G X.g T.k T.C C0 X.l X.clk T.F X.Dd (AS n C0) Q.W hX.hn hX.pg p x hx bv B hB (fun q=>by omega) k1 h1 h0 k2 X.A hX.tab.1) H 8 [1,0,2,3,4,5,6,7] rfl rfl) ?_
  rintro v w' ⟨Γ',⟨l2,clk2,W2,rfl,rfl⟩,H'⟩
  refine ⟨_,.inr ⟨p,_,⟨h1,?_,?_⟩,rfl,rfl⟩,((H'.pick 8 [1,0,2,3,4,5,6,7] rfl).toPo (X:= { X with g:=pgSet X.g p x,l:=l2,clk:=clk2 }) (t:=some ⟨fup T.M p x,fup T.C p 1,CS T.F p,T.k+(if (X.g p).isSome then 0 else 1)⟩) ⟨hX.hn,hX.fine,hX.pg,hX.tab,hX.m0,hX.cp,hX.c0,hX.one,fun e=>(by cases e),fun T' e=> ?_⟩ rfl)⟩
  ·split<;>omega
  ·exact M6 (F:=T.F) (G:=CS T.F p) (i:=p) (by omega) h1 (by simp[CS]) (fun j hj=>by simp[CS,hj])
  ·cases e
   have Q2:=Q.put (x:=x) (.inr k3) 0
   refine ⟨Q2.m,Q2.gn,W2,fun k=> ?_,?_,fun q hq=> ?_,fun q hq=> ?_⟩
   ·show fup T.C p 1 k≤1000
    unfold fup;split
    ·omega
    ·exact Q.c k
   ·show CF (CS T.F p) X.Dd=AS n (fup T.C p 1)
    funext q
    have:CF T.F X.Dd q=AS n T.C q:=by rw[Q.df]
    unfold CF AS at this
    unfold CF CS AS fup
    by_cases e:q=p
    ·subst e;simp[hd]
    ·simp only[e,decide_false,Bool.not_false,Bool.and_true,if_false];exact this
   ·have:=Q.dj q hq
    show CS T.F p q=false
    unfold CS;rw[this];rfl
   ·show fup T.C p 1 q=1
    rw[A4 _ _ (by omega)];exact Q.one q hq
end
section
open Go.RowKit
def cutA (ao:Option Addr) (c p:Nat):Option Addr:=if c=p then ao else ao.map (·.add (p * 1))
theorem rdH.cutA {ao:Option Addr} {n c p m:Nat} {xs:List Int} {h:Hp} (r:rdH 1 (.slice ao n c) n (xs.map Iv_) h) (h1:p+m≤n) (h2:n≤c):rdH 1 (.slice (cutA ao c p) m (c - p)) m (((xs.drop p).take m).map Iv_) h:=by
 obtain ⟨ao',c',e,q1,q2,q3,q4⟩:=r
 cases e
 refine ⟨_,_,rfl,by omega,by omega,by simp at q3 ⊢;omega,fun j u hj=> ?_⟩
 have hjm:j<m:=by
  have:=(List.getElem?_eq_some_iff.1 hj).1
  simp at this;omega
 obtain ⟨b,o,rfl,hc⟩:=q4 (p+j) u (by
  rw[List.getElem?_map] at hj ⊢
  rw[List.getElem?_take,if_pos hjm,List.getElem?_drop] at hj
  exact hj)
 refine ⟨b,o+p,?_,by rw[Nat.add_assoc];exact hc⟩
 unfold YtjegbnfpodadcaaGreatDoor.cutA
 rw[if_neg (by omega)]
 simp only[Option.map_some,Nat.mul_one]
 unfold Addr.add;split
 ·rename_i h0;simp[h0]
 ·rfl
theorem rdH.slcap {ao:Option Addr} {n c:Nat} {xs:List Value} {h:Hp} (r:rdH 1 (.slice ao n c) n xs h):n≤c∧c≤9223372036854775807∧xs.length=n:=by
 obtain ⟨ao',c',e,q1,q2,q3,q4⟩:=r
 cases e;exact ⟨q1,q2,by omega⟩
theorem He (l:List Int):∀ c∈l.map Iv_,c.oneCell'=true:=fun c hc=>by
 obtain ⟨x,_,rfl⟩:=List.mem_map.1 hc;rfl
section
variable {P:Program} {C:World→Prop} {o:Oper} {n:Nat} {ds:List Deferred} {L:List (Nat×Value)} {x y:Operand}
theorem Na {t:TypeId} {lo hi:Option Operand} {ao:Option Addr} {l c p q l' c':Nat} (ho:o.op= .slice t x lo hi none) (ht:CK P t=some 1)
  (hx:ev L x=some (.slice ao l c)) (hlo:(lo=none∧p=0)∨∃ y k i,lo=some y∧ev L y=some (.int k i)∧i=(p:Int)) (hhi:(hi=none∧q=l)∨∃ y k i,hi=some y∧ev L y=some (.int k i)∧i=(q:Int)) (hpq:p≤q) (hqc:q≤c)
  (h2:q - p=l') (h3:c - p=c'):Ao P C n ds L o (.slice (cutA ao c p) l' c'):=by
 subst h2 h3
 exact HR ho ht hx hlo hhi hpq hqc
end
structure CkN (lf:Bool) (ks vs:List Int):Prop where
 len:ks.length=vs.length
 l8:ks.length≤8
 ne:lf=true∨0<ks.length
 k:∀ x∈ks,0≤x∧x<1048576
 v:∀ y∈vs,1≤y∧y<1024
 s:∀ (i:Nat) (x y:Int),ks[i]? =some x→ks[i+1]? =some y→x<y
structure FdI (ks:List Int) (key:Int) (at_:Nat):Prop where
 le:at_≤ks.length
 lt:∀ (j:Nat) (x:Int),j<at_→ks[j]? =some x→x<key
 ge:∀ x,ks[at_]? =some x→key≤x
structure FcI (ks:List Int) (key:Int) (at_:Nat):Prop where
 le:at_≤ks.length
 lt:∀ (j:Nat) (x:Int),j<at_→ks[j]? =some x→x≤key
 ge:∀ x,ks[at_]? =some x→key<x
theorem Dy {l:List Int} {k:Nat} {rest:List Value} {x:Int} (h:k<l.length):(l.map Iv_++rest).take k++[Iv_ x]++(l.map Iv_++rest).drop (k+1)=(l.set k x).map Iv_++rest:=by
 have e:=List.set_eq_take_append_cons_drop (l:=l) (i:=k) (a:=x)
 rw[if_pos h] at e
 rw[e,List.take_append_of_le_length (by simp;omega),List.drop_append_of_le_length (by simp;omega)]
 simp[List.map_take,List.map_drop]
theorem GP (k y:Int):Cn prog 156 [Iv_ k,Iv_ y] [] (fun v Γ=>v= .bool (decide ((0≤k∧k<1048576)∧1≤y∧y<1024))∧Γ=[]):=by
 intro z R w H;replace H:=H.l0;refine Ad func156 rfl ntmps156 rfl (Z0 10 [0] rfl (Ak 7 rfl (fun h1=> ?_) (fun h1=> ?_)))
 ·refine Z0 4 [0] rfl (Ak 11 rfl (fun h2=> ?_) (fun h2=> ?_))
  ·refine Z0 4 [0] rfl (Ak 15 rfl (fun h3=> ?_) (fun h3=> ?_))
   ·refine Z0 7 [0] rfl (Zr rfl ?_);exact ⟨_,⟨congrArg Value.bool (by first|(rw[Bool.eq_iff_iff];simp<;>omega)|(simp<;>omega)),rfl⟩,H⟩
   ·refine Zc 7 rfl (Zr rfl ?_);exact ⟨_,⟨congrArg Value.bool (by first|(rw[Bool.eq_iff_iff];simp<;>omega)|(simp<;>omega)),rfl⟩,H⟩
  ·refine Zc 11 rfl (Zr rfl ?_);exact ⟨_,⟨congrArg Value.bool (by first|(rw[Bool.eq_iff_iff];simp<;>omega)|(simp<;>omega)),rfl⟩,H⟩
 ·refine Zc 15 rfl (Zr rfl ?_);exact ⟨_,⟨congrArg Value.bool (by first|(rw[Bool.eq_iff_iff];simp<;>omega)|(simp<;>omega)),rfl⟩,H⟩
theorem Cr (lf:Bool) (kv vv:Value) (ks vs:List Int) (A B:Ae) (hA:∀ h,A h→rdH 1 kv ks.length (ks.map Iv_) h) (hB:∀ h,B h→rdH 1 vv vs.length (vs.map Iv_) h) (hck:CkN lf ks vs):Cn prog 111 [.agg #[.bool lf,kv,vv]] [A,B] (fun v Γ=>v=Iv_ 0∧Γ=[A,B]):=by
 intro z R w H;replace H:=H.l2;obtain ⟨ka,kc,rfl⟩:=H.says 0 rfl (fun h q=>(hA h q).slc);obtain ⟨va,vc,rfl⟩:=H.says 1 rfl (fun h q=>(hB h q).slc);have hclk:=H.says 0 rfl (fun h q=>(hA h q).slcap)
 have hclv:=H.says 1 rfl (fun h q=>(hB h q).slcap)
 have hlen:=hck.len;have hl8:=hck.l8;have hne:=hck.ne
 refine Ad func111 rfl ntmps111 rfl (Za 2 [] H rfl ?_);intro b1 w H;refine Z2 14 [1,0,0,2,0,0,0] H rfl (Ak 11 rfl (fun h1=> ?_) (fun h1=> ?_))
 ·(exfalso;omega)
 ·refine Z2 6 [1,0,0,0] H rfl (Ak 17 rfl (fun h2=> ?_) (fun h2=> ?_))
  ·(exfalso;omega)
  ·refine Z2 4 [0,0,0] H rfl (G0 21 rfl (fun h3=> ?_) (fun h3=> ?_))
   ·refine Z2 8 [1,0,0,0] H rfl (Af rfl (fun h4=> ?_) (fun h4=> ?_))
    ·(exfalso;rcases hne with q|q<;>simp_all)
    ·refine Z2 12 [1,0,0] H rfl ?_;refine AJ (σ:=Nat) (fun i=>[(31,Iv_ (i:Int)),(1,Pt_ b1),(30,Iv_ (ks.length:Int))])
       (fun i w=>Sep z (blk b1 [.bool lf,.slice ka ks.length kc,.slice va vs.length vc] 142::A::B::R) w∧(i≤ks.length)) (fun i=>ks.length - i) 0
       (fun _ hF=>(hF.co rfl (by go_num) (hF.all rfl))) ⟨H,Nat.zero_le _⟩ ?_
     clear H;rintro i w ⟨H',hI⟩;have H:=H'.l3;have hin:=hI;clear hI
     refine Z0 6 [0] rfl (Af rfl (fun h5=> ?_) (fun h5=> ?_))
     ·obtain ⟨x,hx⟩:∃ x,ks[i]? =some x:=⟨_,List.getElem?_eq_getElem (by omega)⟩;obtain ⟨y,hy⟩:∃ y,vs[i]? =some y:=⟨_,List.getElem?_eq_getElem (by omega)⟩;have hxk:=hck.k x (List.mem_of_getElem? hx)
      have hyv:=hck.v y (List.mem_of_getElem? hy)
      refine Zc 11 rfl ?_;have hka:=(H.rd 1 rfl hA).at (j:=i) (u:=Iv_ x) (by simp[hx])
      have hva:=(H.rd 2 rfl hB).at (j:=i) (u:=Iv_ y) (by simp[hy])
      refine AG (Sep z _) (by kernel_rfl) (by kernel_rfl) H.drew (BF 3 [1,0] (fun _ hx=>(AK (hx.blk 0 rfl) AW)) rfl (by kernel_rfl) rfl (A6 rfl rfl rfl (AD rfl (z:=1) (j:=i) (r:=i) (by kernel_rfl) rfl rfl rfl (by omega) hka (by omega)) (A6 rfl rfl rfl (AR rfl rfl (by kernel_rfl) (fun _ hx'=>(hx'.rd 1 rfl hA).at (j:=i) (u:=Iv_ x) (by simp[hx]))) (BF 3 [2,0] (fun _ hx=>(AK (hx.blk 0 rfl) AW)) rfl (by kernel_rfl) rfl (A6 rfl rfl rfl (AD rfl (z:=1) (j:=i) (r:=i) (by kernel_rfl) rfl rfl rfl (by omega) hva (by omega)) (A6 rfl rfl rfl (AR rfl rfl (by kernel_rfl) (fun _ hx'=>(hx'.rd 2 rfl hB).at (j:=i) (u:=Iv_ y) (by simp[hy]))) (CJ rfl rfl rfl rfl rfl (fun w=>call156 _ w) (v:= .bool (decide ((0≤x∧x<1048576)∧1≤y∧y<1024))) (cq (GP _ _) (by rintro _ _ ⟨rfl,rfl⟩;exact ⟨rfl,rfl⟩) 0 [] [] rfl rfl rfl rfl) (A6 rfl rfl rfl (Ax rfl rfl) (Br 1 [] rfl (by kernel_rfl) (Bj 46 rfl (fun h6=> ?_) (fun h6=> ?_)))))))))))
      ·(exfalso;omega)
      ·refine Br 3 [] rfl (by kernel_rfl) (Bj 49 rfl (fun h7=> ?_) (fun h7=> ?_))
       ·obtain ⟨x0,hx0⟩:∃ x0,ks[i - 1]? =some x0:=⟨_,List.getElem?_eq_getElem (by omega)⟩;have hx0x:=hck.s (i - 1) x0 x hx0 (by rw[show i - 1+1=i by omega];exact hx)
        refine Hl 4 [1,0,0] [(i:Int) - 1] rfl (by kernel_rfl) (by omega) (A6 rfl rfl rfl (AD rfl (z:=1) (j:=(i - 1)) (r:=(i - 1)) (by kernel_rfl) rfl rfl (by omega) (by omega) hka (by omega)) (A6 rfl rfl rfl (AR rfl rfl (by kernel_rfl) (fun _ hx'=>(hx'.rd 1 rfl hA).at (j:=i - 1) (u:=Iv_ x0) (by simp[hx0]))) (BF 3 [1,0] (fun _ hx=>(AK (hx.blk 0 rfl) AW)) rfl (by kernel_rfl) rfl (A6 rfl rfl rfl (AD rfl (z:=1) (j:=i) (r:=i) (by kernel_rfl) rfl rfl rfl (by omega) hka (by omega)) (A6 rfl rfl rfl (AR rfl rfl (by kernel_rfl) (fun _ hx'=>(hx'.rd 1 rfl hA).at (j:=i) (u:=Iv_ x) (by simp[hx]))) (Br 3 [] rfl (by kernel_rfl) (AU (fun w H'=> ?_))))))));have H:=H'.l3;refine gn (Zc 1 rfl (Af rfl (fun h8=> ?_) (fun h8=> ?_)))
        ·(exfalso;omega)
        ·refine Z1 7 [] [(i:Int)+1] rfl (by omega) (gf ?_);intro _ hF;refine ⟨(i+1),(hF.co rfl (by go_num) (hF.all rfl)),⟨H,?_⟩,?_⟩
         ·omega
         ·omega
       ·refine Br 14 [] rfl (by kernel_rfl) (AU (fun w H'=> ?_));have H:=H'.l3;refine gn (Z1 9 [] [(i:Int)+1] rfl (by omega) (gf ?_));intro _ hF;refine ⟨(i+1),(hF.co rfl (by go_num) (hF.all rfl)),⟨H,?_⟩,?_⟩
        ·omega
        ·omega
     ·refine Zc 2 rfl (gx (Zc 8 rfl (Zr rfl ?_)));exact ⟨_,⟨rfl,rfl⟩,H.perm 3 [1,2] rfl rfl⟩
   ·refine Z2 21 [1,0,0] H rfl ?_;refine AJ (σ:=Nat) (fun i=>[(31,Iv_ (i:Int)),(1,Pt_ b1),(30,Iv_ (ks.length:Int))])
      (fun i w=>Sep z (blk b1 [.bool lf,.slice ka ks.length kc,.slice va vs.length vc] 142::A::B::R) w∧(i≤ks.length)) (fun i=>ks.length - i) 0
      (fun _ hF=>(hF.co rfl (by go_num) (hF.all rfl))) ⟨H,Nat.zero_le _⟩ ?_
    clear H;rintro i w ⟨H',hI⟩;have H:=H'.l3;have hin:=hI;clear hI
    refine Z0 6 [0] rfl (Af rfl (fun h9=> ?_) (fun h9=> ?_))
    ·obtain ⟨x,hx⟩:∃ x,ks[i]? =some x:=⟨_,List.getElem?_eq_getElem (by omega)⟩;obtain ⟨y,hy⟩:∃ y,vs[i]? =some y:=⟨_,List.getElem?_eq_getElem (by omega)⟩;have hxk:=hck.k x (List.mem_of_getElem? hx)
     have hyv:=hck.v y (List.mem_of_getElem? hy)
     refine Zc 11 rfl ?_;have hka:=(H.rd 1 rfl hA).at (j:=i) (u:=Iv_ x) (by simp[hx])
     have hva:=(H.rd 2 rfl hB).at (j:=i) (u:=Iv_ y) (by simp[hy])
     refine AG (Sep z _) (by kernel_rfl) (by kernel_rfl) H.drew (BF 3 [1,0] (fun _ hx=>(AK (hx.blk 0 rfl) AW)) rfl (by kernel_rfl) rfl (A6 rfl rfl rfl (AD rfl (z:=1) (j:=i) (r:=i) (by kernel_rfl) rfl rfl rfl (by omega) hka (by omega)) (A6 rfl rfl rfl (AR rfl rfl (by kernel_rfl) (fun _ hx'=>(hx'.rd 1 rfl hA).at (j:=i) (u:=Iv_ x) (by simp[hx]))) (BF 3 [2,0] (fun _ hx=>(AK (hx.blk 0 rfl) AW)) rfl (by kernel_rfl) rfl (A6 rfl rfl rfl (AD rfl (z:=1) (j:=i) (r:=i) (by kernel_rfl) rfl rfl rfl (by omega) hva (by omega)) (A6 rfl rfl rfl (AR rfl rfl (by kernel_rfl) (fun _ hx'=>(hx'.rd 2 rfl hB).at (j:=i) (u:=Iv_ y) (by simp[hy]))) (CJ rfl rfl rfl rfl rfl (fun w=>call156 _ w) (v:= .bool (decide ((0≤x∧x<1048576)∧1≤y∧y<1024))) (cq (GP _ _) (by rintro _ _ ⟨rfl,rfl⟩;exact ⟨rfl,rfl⟩) 0 [] [] rfl rfl rfl rfl) (A6 rfl rfl rfl (Ax rfl rfl) (Br 1 [] rfl (by kernel_rfl) (Bj 46 rfl (fun h10=> ?_) (fun h10=> ?_)))))))))))
     ·(exfalso;omega)
     ·refine Br 3 [] rfl (by kernel_rfl) (Bj 49 rfl (fun h11=> ?_) (fun h11=> ?_))
      ·obtain ⟨x0,hx0⟩:∃ x0,ks[i - 1]? =some x0:=⟨_,List.getElem?_eq_getElem (by omega)⟩;have hx0x:=hck.s (i - 1) x0 x hx0 (by rw[show i - 1+1=i by omega];exact hx)
       refine Hl 4 [1,0,0] [(i:Int) - 1] rfl (by kernel_rfl) (by omega) (A6 rfl rfl rfl (AD rfl (z:=1) (j:=(i - 1)) (r:=(i - 1)) (by kernel_rfl) rfl rfl (by omega) (by omega) hka (by omega)) (A6 rfl rfl rfl (AR rfl rfl (by kernel_rfl) (fun _ hx'=>(hx'.rd 1 rfl hA).at (j:=i - 1) (u:=Iv_ x0) (by simp[hx0]))) (BF 3 [1,0] (fun _ hx=>(AK (hx.blk 0 rfl) AW)) rfl (by kernel_rfl) rfl (A6 rfl rfl rfl (AD rfl (z:=1) (j:=i) (r:=i) (by kernel_rfl) rfl rfl rfl (by omega) hka (by omega)) (A6 rfl rfl rfl (AR rfl rfl (by kernel_rfl) (fun _ hx'=>(hx'.rd 1 rfl hA).at (j:=i) (u:=Iv_ x) (by simp[hx]))) (Br 3 [] rfl (by kernel_rfl) (AU (fun w H'=> ?_))))))));have H:=H'.l3;refine gn (Zc 1 rfl (Af rfl (fun h12=> ?_) (fun h12=> ?_)))
       ·(exfalso;omega)
       ·refine Z1 7 [] [(i:Int)+1] rfl (by omega) (gf ?_);intro _ hF;refine ⟨(i+1),(hF.co rfl (by go_num) (hF.all rfl)),⟨H,?_⟩,?_⟩
        ·omega
        ·omega
      ·refine Br 14 [] rfl (by kernel_rfl) (AU (fun w H'=> ?_));have H:=H'.l3;refine gn (Z1 9 [] [(i:Int)+1] rfl (by omega) (gf ?_));intro _ hF;refine ⟨(i+1),(hF.co rfl (by go_num) (hF.all rfl)),⟨H,?_⟩,?_⟩
       ·omega
       ·omega
    ·refine Zc 2 rfl (gx (Zc 8 rfl (Zr rfl ?_)));exact ⟨_,⟨rfl,rfl⟩,H.perm 3 [1,2] rfl rfl⟩
theorem Il (lf:Bool) (kv vv:Value) (ks vs:List Int) (A B:Ae) (hA:∀ h,A h→rdH 1 kv ks.length (ks.map Iv_) h) (hB:∀ h,B h→rdH 1 vv vs.length (vs.map Iv_) h) (key:Int) (hl8:ks.length≤8):Cn prog 73 [.agg #[.bool lf,kv,vv],Iv_ key] [A,B] (fun v Γ=>∃ i:Nat,FdI ks key i∧v= .tuple #[Iv_ (i:Int),.bool (decide (ks[i]? =some key))]∧Γ=[A,B]):=by
 intro z R w H;replace H:=H.l2;obtain ⟨ka,kc,rfl⟩:=H.says 0 rfl (fun h q=>(hA h q).slc);obtain ⟨va,vc,rfl⟩:=H.says 1 rfl (fun h q=>(hB h q).slc);have hclk:=H.says 0 rfl (fun h q=>(hA h q).slcap)
 have hclv:=H.says 1 rfl (fun h q=>(hB h q).slcap)
 refine Ad func73 rfl ntmps73 rfl (Za 2 [] H rfl ?_);intro b1 w H;refine Zc 11 rfl ?_;refine AJ (σ:=Nat) (fun i=>[(6,Iv_ (i:Int)),(1,Iv_ key),(2,Pt_ b1),(4,Iv_ 0),(5,.bool false)])
   (fun i w=>Sep z (blk b1 [.bool lf,.slice ka ks.length kc,.slice va vs.length vc] 142::A::B::R) w∧(i≤ks.length∧∀ (j:Nat) (x:Int),j<i→ks[j]? =some x→x<key)) (fun i=>ks.length - i) 0
   (fun _ hF=>(hF.co rfl (by go_num) (hF.all rfl))) ⟨H,⟨Nat.zero_le _,fun j x h=>by omega⟩⟩ ?_
 clear H;rintro i w ⟨H',hI⟩;have H:=H'.l3;obtain ⟨hin,hall⟩:=hI;refine Z2 9 [1,0,0,0] H rfl (Ak 12 rfl (fun h1=> ?_) (fun h1=> ?_))
 ·obtain ⟨x,hx⟩:∃ x,ks[i]? =some x:=⟨_,List.getElem?_eq_getElem (by omega)⟩;refine Z2 3 [1,0,0] H rfl ?_;have hka:=(H.rd 1 rfl hA).at (j:=i) (u:=Iv_ x) (by simp[hx])
  refine Ac rfl (AD rfl (z:=1) (j:=i) (r:=i) (by kernel_rfl) rfl rfl rfl (by omega) hka (by omega)) (Ac rfl (AR rfl rfl (by kernel_rfl) (AB ((H.rd 1 rfl hA).at (j:=i) (u:=Iv_ x) (by simp[hx])))) (Z0 5 [0] rfl (Af rfl (fun h2=> ?_) (fun h2=> ?_))))
  ·refine Z1 9 [] [(i:Int)+1] rfl (by omega) (gf ?_);intro _ hF;refine ⟨(i+1),(hF.co rfl (by go_num) (hF.all rfl)),⟨H,?_⟩,?_⟩
   ·refine ⟨by omega,fun j y hj hy=> ?_⟩;rcases Nat.lt_or_ge j i with h|h
    ·exact hall j y h hy
    ·obtain rfl:j=i:=by omega
     rw[hx] at hy;cases hy;omega
   ·omega
  ·refine Zc 2 rfl (gx (Zc 3 rfl (AG (Sep z _) (by kernel_rfl) (by kernel_rfl) H.drew (Iy 7 [1,0,0,0] [] rfl (by kernel_rfl) (Bj 29 rfl (fun h3=> ?_) (fun h3=> ?_))))))
   ·refine BF 3 [1,0] (fun _ hx=>(AK (hx.blk 0 rfl) AW)) rfl (by kernel_rfl) rfl (A6 rfl rfl rfl (AD rfl (z:=1) (j:=i) (r:=i) (by kernel_rfl) rfl rfl rfl (by omega) hka (by omega)) (A6 rfl rfl rfl (AR rfl rfl (by kernel_rfl) (fun _ hx'=>(hx'.rd 1 rfl hA).at (j:=i) (u:=Iv_ x) (by simp[hx]))) (Br 5 [] rfl (by kernel_rfl) (AU (fun w H'=> ?_)))));have H:=H'.l3;refine gn (Zc 2 rfl (Zr rfl ?_));have hF:FdI ks key i:=⟨hin,hall,fun y hy=>by rw[hx] at hy;cases hy;omega⟩
    exact ⟨_,⟨i,hF,(congrArg (fun b=>Value.tuple #[Iv_ (i:Int),.bool b]) (decide_eq_decide.2 (by rw[hx];simp))),rfl⟩,H.perm 3 [1,2] rfl rfl⟩
   ·exact absurd h1 h3
 ·refine Zc 13 rfl (gx (Zc 3 rfl (AG (Sep z _) (by kernel_rfl) (by kernel_rfl) H.drew (Iy 7 [1,0,0,0] [] rfl (by kernel_rfl) (Bj 29 rfl (fun h4=> ?_) (fun h4=> ?_))))))
  ·exact absurd h4 h1
  ·refine Br 10 [] rfl (by kernel_rfl) (AU (fun w H'=> ?_));have H:=H'.l3;refine gn (Zc 2 rfl (Zr rfl ?_));have hF:FdI ks key i:=⟨hin,hall,fun y hy=>by rw[List.getElem?_eq_none (by omega)] at hy;cases hy⟩
   exact ⟨_,⟨i,hF,(congrArg (fun b=>Value.tuple #[Iv_ (i:Int),.bool b]) (decide_eq_false (by rw[List.getElem?_eq_none (by omega)];simp)).symm),rfl⟩,H.perm 3 [1,2] rfl rfl⟩
theorem TE (lf:Bool) (kv vv:Value) (ks vs:List Int) (A B:Ae) (hA:∀ h,A h→rdH 1 kv ks.length (ks.map Iv_) h) (hB:∀ h,B h→rdH 1 vv vs.length (vs.map Iv_) h) (key:Int) (hl8:ks.length≤8):Cn prog 74 [.agg #[.bool lf,kv,vv],Iv_ key] [A,B] (fun v Γ=>∃ i:Nat,FcI ks key i∧v=Iv_ ((i - 1:Nat):Int)∧Γ=[A,B]):=by
 intro z R w H;replace H:=H.l2;obtain ⟨ka,kc,rfl⟩:=H.says 0 rfl (fun h q=>(hA h q).slc);obtain ⟨va,vc,rfl⟩:=H.says 1 rfl (fun h q=>(hB h q).slc);have hclk:=H.says 0 rfl (fun h q=>(hA h q).slcap)
 have hclv:=H.says 1 rfl (fun h q=>(hB h q).slcap)
 refine Ad func74 rfl ntmps74 rfl (Za 2 [] H rfl ?_);intro b1 w H;refine Zc 10 rfl ?_;refine AJ (σ:=Nat) (fun i=>[(5,Iv_ (i:Int)),(1,Iv_ key),(2,Pt_ b1),(4,Iv_ 0)])
   (fun i w=>Sep z (blk b1 [.bool lf,.slice ka ks.length kc,.slice va vs.length vc] 142::A::B::R) w∧(i≤ks.length∧∀ (j:Nat) (x:Int),j<i→ks[j]? =some x→x≤key)) (fun i=>ks.length - i) 0
   (fun _ hF=>(hF.co rfl (by go_num) (hF.all rfl))) ⟨H,⟨Nat.zero_le _,fun j x h=>by omega⟩⟩ ?_
 clear H;rintro i w ⟨H',hI⟩;have H:=H'.l3;obtain ⟨hin,hall⟩:=hI;refine Z2 9 [1,0,0,0] H rfl (Ak 11 rfl (fun h1=> ?_) (fun h1=> ?_))
 ·obtain ⟨x,hx⟩:∃ x,ks[i]? =some x:=⟨_,List.getElem?_eq_getElem (by omega)⟩;refine Z2 3 [1,0,0] H rfl ?_;have hka:=(H.rd 1 rfl hA).at (j:=i) (u:=Iv_ x) (by simp[hx])
  refine Ac rfl (AD rfl (z:=1) (j:=i) (r:=i) (by kernel_rfl) rfl rfl rfl (by omega) hka (by omega)) (Ac rfl (AR rfl rfl (by kernel_rfl) (AB ((H.rd 1 rfl hA).at (j:=i) (u:=Iv_ x) (by simp[hx])))) (Z0 5 [0] rfl (Af rfl (fun h2=> ?_) (fun h2=> ?_))))
  ·refine Z1 9 [] [(i:Int)+1] rfl (by omega) (gf ?_);intro _ hF;refine ⟨(i+1),(hF.co rfl (by go_num) (hF.all rfl)),⟨H,?_⟩,?_⟩
   ·refine ⟨by omega,fun j y hj hy=> ?_⟩;rcases Nat.lt_or_ge j i with h|h
    ·exact hall j y h hy
    ·obtain rfl:j=i:=by omega
     rw[hx] at hy;cases hy;omega
   ·omega
  ·refine Zc 2 rfl (gx (Z1 6 [] [(i:Int) - 1] rfl (by omega) (Ac rfl (Lq rfl rfl rfl) (Zc 4 rfl (Zr rfl ?_)))));exact ⟨_,⟨i,⟨hin,hall,fun y hy=>by rw[hx] at hy;cases hy;omega⟩,congrArg Iv_ (by omega),rfl⟩,H.perm 3 [1,2] rfl rfl⟩
 ·refine Zc 13 rfl (gx (Z1 6 [] [(i:Int) - 1] rfl (by omega) (Ac rfl (Lq rfl rfl rfl) (Zc 4 rfl (Zr rfl ?_)))));exact ⟨_,⟨i,⟨hin,hall,fun y hy=>by rw[List.getElem?_eq_none (by omega)] at hy;cases hy⟩,congrArg Iv_ (by omega),rfl⟩,H.perm 3 [1,2] rfl rfl⟩
end
open Go.RowKit
theorem Dp (lf:Bool) (kv vv:Value) (ks vs:List Int) (A B:Ae) (hA:∀ h,A h→rdH 1 kv ks.length (ks.map Iv_) h) (hB:∀ h,B h→rdH 1 vv vs.length (vs.map Iv_) h) (p q:Nat) (hpq:p≤q) (hq:q≤ks.length) (hlen:ks.length=vs.length) (ks2 vs2:List Int) (hk2:(ks.drop p).take (q - p)=ks2) (hv2:(vs.drop p).take (q - p)=vs2) (hl8:ks.length≤16):Cn prog 163 [.agg #[.bool lf,kv,vv],Iv_ (p:Int),Iv_ (q:Int)] [A,B] (fun v Γ=>∃ v1 v2:Value,v= .agg #[.bool lf,v1,v2]∧Γ=[grow 3 1 v1 ks2.length (ks2.map Iv_),grow 3 1 v2 vs2.length (vs2.map Iv_),A,B]):=by
 intro z R w H;replace H:=H.l2;obtain ⟨ka,kc,rfl⟩:=H.says 0 rfl (fun h q=>(hA h q).slc);obtain ⟨va,vc,rfl⟩:=H.says 1 rfl (fun h q=>(hB h q).slc);have hclk:=H.says 0 rfl (fun h q=>(hA h q).slcap)
 have hclv:=H.says 1 rfl (fun h q=>(hB h q).slcap)
 refine Ad func163 rfl ntmps163 rfl (Za 2 [] H rfl ?_);intro b1 w H;refine Za 0 [] H rfl ?_;intro b2 w H;refine Zc 3 rfl ?_;replace H:=H.f3.f3.f3;refine AI (Sep z (blk b1 [.bool lf,.slice ka ks.length kc,.slice va vs.length vc] 142::A::B::R)) 16 rfl (by kernel_rfl) (Bc H fun w H'=> ?_)
 have H:=H'.l4;refine AM [0,1,2,3,4,5] [0,0,0,1,0,0] [] (by exact (H.pick 4 [0,1,2] rfl)) rfl (by kernel_rfl) rfl (B4 6 rfl (by kernel_rfl) (by kernel_rfl) (by kernel_rfl) rfl rfl rfl (Na (p:=p) (q:=q) (l':=q - p) (c':=kc - p) rfl (by kernel_rfl) rfl (.inr ⟨_,_,_,rfl,rfl,rfl⟩) (.inr ⟨_,_,_,rfl,rfl,rfl⟩) (by omega) (by omega) rfl rfl) (H.pick 4 [0,1,2] rfl) (AM [8,9,10,11] [2,0,0] [] (by exact (H.pick 4 [0,1,2] rfl)) rfl (by kernel_rfl) rfl (B4 12 rfl (by kernel_rfl) (by kernel_rfl) (by kernel_rfl) rfl rfl rfl (Na (p:=p) (q:=q) (l':=q - p) (c':=vc - p) rfl (by kernel_rfl) rfl (.inr ⟨_,_,_,rfl,rfl,rfl⟩) (.inr ⟨_,_,_,rfl,rfl,rfl⟩) (by omega) (by omega) rfl rfl) (H.pick 4 [0,1,2] rfl) (Av [7] (by kernel_rfl) (by simp) (Au ?_)))));replace H:=(H.nilg 3 1).l5
 refine Ce rfl rfl rfl rfl (Bb 0 H rfl rfl (by kernel_rfl) Bq rfl rfl (H.rd 2 rfl (fun h q=>(hA h q).cutA (by omega) (by omega))) (He _) (by omega)) ?_;rintro v3 w H';have ev3:([]++((ks.drop p).take (q - p)).map Iv_:List Value)=ks2.map Iv_:=(by rw[List.nil_append,hk2])
 rw[ev3] at H';rw[show (0+(q - p):Nat)=ks2.length from (by rw[Nat.zero_add,←hk2];simp;omega)] at H';have H:=H'.l5;have sv3:=H.says 0 rfl (fun h q=>q.slc)
 refine Ap (H.pick 5 [1,2,3] rfl) (Av [13] (by kernel_rfl) (by simp) (Au ?_));replace H:=(H.nilg 3 1).l6
 refine Ce rfl rfl rfl rfl (Bb 0 H rfl rfl (by kernel_rfl) Bq rfl rfl (H.rd 4 rfl (fun h q=>(hB h q).cutA (by omega) (by omega))) (He _) (by omega)) ?_;rintro v4 w H';have ev4:([]++((vs.drop p).take (q - p)).map Iv_:List Value)=vs2.map Iv_:=(by rw[List.nil_append,hv2])
 rw[ev4] at H';rw[show (0+(q - p):Nat)=vs2.length from (by rw[Nat.zero_add,←hv2];simp;omega)] at H';have H:=H'.l6;have sv4:=H.says 0 rfl (fun h q=>q.slc)
 refine Ap (H.pick 6 [2,3,4] rfl) ?_;obtain ⟨ao5,cc6,rfl⟩:=sv3;obtain ⟨ao7,cc8,rfl⟩:=sv4;refine AM [14] [] [] (by exact (H.pick 6 [2,3,4] rfl)) rfl (by kernel_rfl) rfl (Av [15] (by kernel_rfl) (by simp) (Au (A8 rfl rfl rfl (Ag 5 H rfl rfl rfl rfl (vs:=[.bool lf,.slice ao5 ks2.length cc6,.slice ao7 vs2.length cc8]) rfl (by simp[u8,u32,Value.oneCell']) (by kernel_rfl) (by simp) (out:=[.bool lf,.slice ao5 ks2.length cc6,.slice ao7 vs2.length cc8]) rfl) ?_)));rintro w H;replace H:=H.l6;refine Ap (H.pick 6 [2,3,4] rfl) (a_done (by kernel_rfl) (gn (Zc 2 rfl (Zl [5,3] H rfl ?_))));exact ⟨_,⟨.slice ao5 ks2.length cc6,.slice ao7 vs2.length cc8,rfl,rfl⟩,H.perm 6 [1,0,3,4] rfl rfl⟩
theorem EJ (lf1:Bool) (kv1 vv1:Value) (ks1 vs1:List Int) (A1 B1:Ae) (hA1:∀ h,A1 h→rdH 1 kv1 ks1.length (ks1.map Iv_) h) (hB1:∀ h,B1 h→rdH 1 vv1 vs1.length (vs1.map Iv_) h) (lf2:Bool) (kv2 vv2:Value) (ks2 vs2:List Int) (A2 B2:Ae) (hA2:∀ h,A2 h→rdH 1 kv2 ks2.length (ks2.map Iv_) h) (hB2:∀ h,B2 h→rdH 1 vv2 vs2.length (vs2.map Iv_) h) (hl1:ks1.length=vs1.length) (hl2:ks2.length=vs2.length) (h81:ks1.length≤16) (h82:ks2.length≤16) (ks vs:List Int) (hk:ks1++ks2=ks) (hv:vs1++vs2=vs):Cn prog 162 [.agg #[.bool lf1,kv1,vv1],.agg #[.bool lf2,kv2,vv2]] [A1,B1,A2,B2] (fun v Γ=>∃ v1 v2:Value,v= .agg #[.bool lf1,v1,v2]∧Γ=[grow 3 1 v1 ks.length (ks.map Iv_),grow 3 1 v2 vs.length (vs.map Iv_),A1,B1,A2,B2]):=by
 intro z R w H;replace H:=H.l4;obtain ⟨ka1,kc1,rfl⟩:=H.says 0 rfl (fun h q=>(hA1 h q).slc);obtain ⟨va1,vc1,rfl⟩:=H.says 1 rfl (fun h q=>(hB1 h q).slc);have hcl1k:=H.says 0 rfl (fun h q=>(hA1 h q).slcap)
 have hcl1v:=H.says 1 rfl (fun h q=>(hB1 h q).slcap)
 obtain ⟨ka2,kc2,rfl⟩:=H.says 2 rfl (fun h q=>(hA2 h q).slc);obtain ⟨va2,vc2,rfl⟩:=H.says 3 rfl (fun h q=>(hB2 h q).slc);have hcl2k:=H.says 2 rfl (fun h q=>(hA2 h q).slcap)
 have hcl2v:=H.says 3 rfl (fun h q=>(hB2 h q).slcap)
 refine Ad func162 rfl ntmps162 rfl (Za 2 [] H rfl ?_);intro b1 w H;refine Za 0 [] H rfl ?_;intro b2 w H;refine Za 0 [] H rfl ?_;intro b3 w H;refine Z2 8 [2,3,1,2,0] H rfl (Aw rfl (call163 _) (Dp _ _ _ ks1 vs1 _ _ hA1 hB1 0 ks1.length (by omega) (by omega) (by omega) ks1 vs1 (by simp) (by rw[Nat.sub_zero,List.drop_zero,hl1];simp) (by omega)) H.f4.f4 ?_);rintro _ w _ ⟨v4,v5,rfl,rfl⟩ H;replace H:=H.l9;have sv4:=H.says 0 rfl (fun h q=>q.slc)
 obtain ⟨ao6,cc7,rfl⟩:=sv4;have sv5:=H.says 1 rfl (fun h q=>q.slc)
 obtain ⟨ao8,cc9,rfl⟩:=sv5;refine Za 0 [] H rfl ?_;intro b10 w H;refine Z4 9 [0,1,0,0,1,6,0] H rfl ?_;intro w H;refine AL rfl (Bb 1 H rfl rfl (by kernel_rfl) Bq rfl rfl (H.rd 8 rfl hA2) (He _) (by omega)) ?_;rintro v11 w H';have H':Sep z (blk b10 [.bool lf1,.slice ao6 ks1.length cc7,.slice ao8 vs1.length cc9] 142::grow 3 1 v11 (ks1.length+ks2.length) (ks1.map Iv_++ks2.map Iv_)::grow 3 1 (.slice ao8 vs1.length cc9) vs1.length (vs1.map Iv_)::A1::B1::blk b3 [.bool false,.slice none 0 0,.slice none 0 0] 142::blk b2 [.bool lf2,.slice ka2 ks2.length kc2,.slice va2 vs2.length vc2] 142::blk b1 [.bool lf1,.slice ka1 ks1.length kc1,.slice va1 vs1.length vc1] 142::A2::B2::R) w:=H'
 have ev11:(ks1.map Iv_++ks2.map Iv_:List Value)=ks.map Iv_:=(by rw[←List.map_append,hk])
 rw[ev11] at H';rw[show (ks1.length+ks2.length:Nat)=ks.length from (by rw[←hk,List.length_append])] at H';have H:=H'.l10;have sv11:=H.says 1 rfl (fun h q=>q.slc)
 refine Z0 1 [1] rfl (Az rfl rfl (LN 0 H rfl rfl rfl rfl sv11.cells sv11.one (by kernel_rfl)) ?_);rintro w H;replace H:=H.l10;refine Z2 8 [2,0,0,2,6,0] H rfl (AL rfl (Bb 2 H rfl rfl (by kernel_rfl) Bq rfl rfl (H.rd 9 rfl hB2) (He _) (by omega)) ?_);rintro v12 w H';have H':Sep z (blk b10 [.bool lf1,v11,.slice ao8 vs1.length cc9] 142::grow 3 1 v11 ks.length (ks.map Iv_)::grow 3 1 v12 (vs1.length+vs2.length) (vs1.map Iv_++vs2.map Iv_)::A1::B1::blk b3 [.bool false,.slice none 0 0,.slice none 0 0] 142::blk b2 [.bool lf2,.slice ka2 ks2.length kc2,.slice va2 vs2.length vc2] 142::blk b1 [.bool lf1,.slice ka1 ks1.length kc1,.slice va1 vs1.length vc1] 142::A2::B2::R) w:=H'
 have ev12:(vs1.map Iv_++vs2.map Iv_:List Value)=vs.map Iv_:=(by rw[←List.map_append,hv])
 rw[ev12] at H';rw[show (vs1.length+vs2.length:Nat)=vs.length from (by rw[←hv,List.length_append])] at H';have H:=H'.l10;have sv12:=H.says 2 rfl (fun h q=>q.slc)
 refine Z0 1 [2] rfl (Az rfl rfl (JP 0 H rfl rfl rfl rfl sv12.cells sv12.one (by kernel_rfl)) ?_);rintro w H;replace H:=H.l10;refine Z2 5 [0,3] H rfl (Az rfl rfl (Ag 5 H rfl rfl rfl rfl (vs:=[.bool lf1,v11,v12]) rfl (Ab rfl (Ab sv11.one (Ab sv12.one Ar))) (by kernel_rfl) (by simp) (out:=[.bool lf1,v11,v12]) rfl) ?_);rintro w H;replace H:=H.l10;refine Zc 3 rfl (Zl [5,3] H rfl ?_);exact ⟨_,⟨v11,v12,rfl,rfl⟩,H.perm 10 [1,2,3,4,8,9] rfl rfl⟩
open Go.RowKit
theorem KY (lf:Bool) (kv vv:Value) (ks vs:List Int) (A B:Ae) (hA:∀ h,A h→rdH 1 kv ks.length (ks.map Iv_) h) (hB:∀ h,B h→rdH 1 vv vs.length (vs.map Iv_) h) (hlen:ks.length=vs.length) (hl8:ks.length≤16) (ksa vsa ksb vsb:List Int) (hv1:ks.take ((ks.length+1) / 2)=ksa) (hv2:vs.take ((ks.length+1) / 2)=vsa) (hv3:ks.drop ((ks.length+1) / 2)=ksb) (hv4:vs.drop ((ks.length+1) / 2)=vsb):Cn prog 180 [.agg #[.bool lf,kv,vv]] [A,B] (fun v Γ=>∃ v1 v2 v3 v4:Value,v= .tuple #[.agg #[.bool lf,v1,v2],.agg #[.bool lf,v3,v4]]∧Γ=[grow 3 1 v1 ksa.length (ksa.map Iv_),grow 3 1 v2 vsa.length (vsa.map Iv_),grow 3 1 v3 ksb.length (ksb.map Iv_),grow 3 1 v4 vsb.length (vsb.map Iv_),A,B]):=by
 intro z R w H;replace H:=H.l2;obtain ⟨ka,kc,rfl⟩:=H.says 0 rfl (fun h q=>(hA h q).slc);obtain ⟨va,vc,rfl⟩:=H.says 1 rfl (fun h q=>(hB h q).slc);have hclk:=H.says 0 rfl (fun h q=>(hA h q).slcap)
 have hclv:=H.says 1 rfl (fun h q=>(hB h q).slcap)
 refine Ad func180 rfl ntmps180 rfl (Za 2 [] H rfl ?_);intro b1 w H;refine Za 0 [] H rfl ?_;intro b2 w H;refine Za 0 [] H rfl ?_;intro b3 w H;refine Z3 13 [1,2,0] [(ks.length:Int)+1,(((ks.length+1) / 2:Nat):Int)] H rfl (by omega) ?_;replace H:=H.f4.f4.f4;refine AI (Sep z (blk b1 [.bool lf,.slice ka ks.length kc,.slice va vs.length vc] 142::A::B::R)) 11 rfl (by kernel_rfl) (Bc H fun w H'=> ?_)
 have H:=H'.l5;refine AM [0,1,3,4,5,6,7] [0,3,0,3,1,0,0] [] (by exact (H.pick 5 [0,1,2] rfl)) rfl (by kernel_rfl) rfl (Av [2] (by kernel_rfl) (by simp) (Au (BL rfl rfl rfl rfl rfl rfl (fun w=>call163 _ w) (Dp _ _ _ ks vs _ _ hA hB 0 ((ks.length+1) / 2) (by omega) (by omega) (by omega) ksa vsa (by simpa using hv1) (by simpa using hv2) (by omega)) H.f2.f2 rfl ?_)));rintro _ w _ ⟨v4,v5,rfl,rfl⟩ H;replace H:=H.l7;have sv4:=H.says 0 rfl (fun h q=>q.slc)
 obtain ⟨ao6,cc7,rfl⟩:=sv4;have sv5:=H.says 1 rfl (fun h q=>q.slc)
 obtain ⟨ao8,cc9,rfl⟩:=sv5;refine Ap (H.pick 7 [4,2,3] rfl) (Av [8] (by kernel_rfl) (by simp) (Au (BL rfl rfl rfl rfl rfl rfl (fun w=>call163 _ w) (Dp _ _ _ ks vs _ _ hA hB ((ks.length+1) / 2) ks.length (by omega) (by omega) (by omega) ksb vsb (by rw[List.take_of_length_le (by simp)];exact hv3) (by rw[List.take_of_length_le (by simp;omega)];exact hv4) (by omega)) H.f3.f3 rfl ?_)));rintro _ w _ ⟨v10,v11,rfl,rfl⟩ H;replace H:=H.l9;have sv10:=H.says 0 rfl (fun h q=>q.slc)
 obtain ⟨ao12,cc13,rfl⟩:=sv10;have sv11:=H.says 1 rfl (fun h q=>q.slc)
 obtain ⟨ao14,cc15,rfl⟩:=sv11;refine Ap (H.pick 9 [6,2,3] rfl) (Av [9] (by kernel_rfl) (by simp) (Au (A8 rfl rfl rfl (Ag 8 H rfl rfl rfl rfl (vs:=[.bool lf,.slice ao6 ksa.length cc7,.slice ao8 vsa.length cc9]) rfl (by simp[u8,u32,Value.oneCell']) (by kernel_rfl) (by simp) (out:=[.bool lf,.slice ao6 ksa.length cc7,.slice ao8 vsa.length cc9]) rfl) ?_)));rintro w H;replace H:=H.l9;refine Ap (H.pick 9 [6,2,3] rfl) (Av [10] (by kernel_rfl) (by simp) (Au (A8 rfl rfl rfl (Ag 7 H rfl rfl rfl rfl (vs:=[.bool lf,.slice ao12 ksb.length cc13,.slice ao14 vsb.length cc15]) rfl (by simp[u8,u32,Value.oneCell']) (by kernel_rfl) (by simp) (out:=[.bool lf,.slice ao12 ksb.length cc13,.slice ao14 vsb.length cc15]) rfl) ?_)));rintro w H;replace H:=H.l9;refine Ap (H.pick 9 [6,2,3] rfl) (a_done (by kernel_rfl) (gn (Zc 2 rfl (Zl [8,3,7,3] H rfl ?_))));exact ⟨_,⟨.slice ao6 ksa.length cc7,.slice ao8 vsa.length cc9,.slice ao12 ksb.length cc13,.slice ao14 vsb.length cc15,rfl,rfl⟩,H.perm 9 [4,5,0,1,2,3] rfl rfl⟩
theorem TF (lf:Bool) (kv vv:Value) (ks vs:List Int) (A B:Ae) (hA:∀ h,A h→rdH 1 kv ks.length (ks.map Iv_) h) (hB:∀ h,B h→rdH 1 vv vs.length (vs.map Iv_) h) (hck:CkN lf ks vs) (h28:2≤ks.length) (ksa vsa ksb vsb:List Int) (hv1:ks.take ((ks.length+1) / 2)=ksa) (hv2:vs.take ((ks.length+1) / 2)=vsa) (hv3:ks.drop ((ks.length+1) / 2)=ksb) (hv4:vs.drop ((ks.length+1) / 2)=vsb):Cn prog 160 [.agg #[.bool lf,kv,vv]] [A,B] (fun v Γ=>∃ v1 v2 v3 v4:Value,v= .tuple #[.agg #[.bool lf,v1,v2],.agg #[.bool lf,v3,v4],Iv_ 0]∧Γ=[grow 3 1 v1 ksa.length (ksa.map Iv_),grow 3 1 v2 vsa.length (vsa.map Iv_),grow 3 1 v3 ksb.length (ksb.map Iv_),grow 3 1 v4 vsb.length (vsb.map Iv_),A,B]):=by
 intro z R w H;replace H:=H.l2;obtain ⟨ka,kc,rfl⟩:=H.says 0 rfl (fun h q=>(hA h q).slc);obtain ⟨va,vc,rfl⟩:=H.says 1 rfl (fun h q=>(hB h q).slc);have hclk:=H.says 0 rfl (fun h q=>(hA h q).slcap)
 have hclv:=H.says 1 rfl (fun h q=>(hB h q).slcap)
 have hlen:=hck.len;have hl8:=hck.l8
 refine Ad func160 rfl ntmps160 rfl (Za 2 [] H rfl ?_);intro b1 w H;refine Za 0 [] H rfl ?_;intro b2 w H;refine Za 0 [] H rfl ?_;intro b3 w H;refine Z2 7 [2,3] H rfl (z_E_ rfl (call111 _) (Cr _ _ _ ks vs _ _ hA hB hck) H.f4.f4 ?_);intro w H;refine Z2 9 [4,1,4,0,0] H rfl (Af rfl (fun h1=> ?_) (fun h1=> ?_))
 ·(exfalso;omega)
 ·refine Z2 5 [4,3] H rfl (Aw rfl (call180 _) (KY _ _ _ ks vs _ _ hA hB (by omega) (by omega) ksa vsa ksb vsb hv1 hv2 hv3 hv4) H ?_);rintro _ w _ ⟨v4,v5,v6,v7,rfl,rfl⟩ H;replace H:=H.l9;have sv4:=H.says 0 rfl (fun h q=>q.slc)
  obtain ⟨ao8,cc9,rfl⟩:=sv4;have sv5:=H.says 1 rfl (fun h q=>q.slc)
  obtain ⟨ao10,cc11,rfl⟩:=sv5;have sv6:=H.says 2 rfl (fun h q=>q.slc)
  obtain ⟨ao12,cc13,rfl⟩:=sv6;have sv7:=H.says 3 rfl (fun h q=>q.slc)
  obtain ⟨ao14,cc15,rfl⟩:=sv7;refine Za 3 [] H rfl ?_;intro b16 w H;refine Za 0 [] H rfl ?_;intro b17 w H;refine Z4 5 [1,0] H rfl ?_;intro w H;replace H:=H.f1;refine AI (Sep z (blk b16 [.bool lf,.slice ao8 ksa.length cc9,.slice ao10 vsa.length cc11] 142::blk b17 [.bool lf,.slice ao12 ksb.length cc13,.slice ao14 vsb.length cc15] 142::R)) 5 rfl (by kernel_rfl) (Bc H fun w H'=> ?_)
  have H:=H'.l11;refine AM [0,1] [0,3,1,3] [] (by exact (H.pick 11 [0,1] rfl)) rfl (by kernel_rfl) rfl (Av [2] (by kernel_rfl) (by simp) (Au (A8 rfl rfl rfl (Ag 9 H rfl rfl rfl rfl (vs:=[.bool lf,.slice ao8 ksa.length cc9,.slice ao10 vsa.length cc11]) rfl (by simp[u8,u32,Value.oneCell']) (by kernel_rfl) (by simp) (out:=[.bool lf,.slice ao8 ksa.length cc9,.slice ao10 vsa.length cc11]) rfl) ?_)));rintro w H;replace H:=H.l11;refine Ap (H.pick 11 [0,1] rfl) (Av [3] (by kernel_rfl) (by simp) (Au (A8 rfl rfl rfl (Ag 8 H rfl rfl rfl rfl (vs:=[.bool lf,.slice ao12 ksb.length cc13,.slice ao14 vsb.length cc15]) rfl (by simp[u8,u32,Value.oneCell']) (by kernel_rfl) (by simp) (out:=[.bool lf,.slice ao12 ksb.length cc13,.slice ao14 vsb.length cc15]) rfl) ?_)));rintro w H;replace H:=H.l11;refine Ap (H.pick 11 [0,1] rfl) (AM [4] [] [] (by exact (H.pick 11 [0,1] rfl)) rfl (by kernel_rfl) rfl (a_done (by kernel_rfl) (gn (Zc 2 rfl (Zl [9,3,8,3] H rfl ?_)))));exact ⟨_,⟨.slice ao8 ksa.length cc9,.slice ao10 vsa.length cc11,.slice ao12 ksb.length cc13,.slice ao14 vsb.length cc15,rfl,rfl⟩,H.perm 11 [2,3,4,5,6,7] rfl rfl⟩
theorem OB (lf:Bool) (kv vv:Value) (ks vs:List Int) (A B:Ae) (hA:∀ h,A h→rdH 1 kv ks.length (ks.map Iv_) h) (hB:∀ h,B h→rdH 1 vv vs.length (vs.map Iv_) h) (hck:CkN lf ks vs) (i:Nat) (hi:i<ks.length) (ks2 vs2:List Int) (hk2:ks.take i++ks.drop (i+1)=ks2) (hv2:vs.take i++vs.drop (i+1)=vs2) (hck2:CkN lf ks2 vs2):Cn prog 124 [.agg #[.bool lf,kv,vv],Iv_ (i:Int)] [A,B] (fun v Γ=>∃ v1 v2:Value,v= .tuple #[.agg #[.bool lf,v1,v2],Iv_ 0]∧Γ=[grow 3 1 v1 ks2.length (ks2.map Iv_),grow 3 1 v2 vs2.length (vs2.map Iv_),A,B]):=by
 intro z R w H;replace H:=H.l2;obtain ⟨ka,kc,rfl⟩:=H.says 0 rfl (fun h q=>(hA h q).slc);obtain ⟨va,vc,rfl⟩:=H.says 1 rfl (fun h q=>(hB h q).slc);have hclk:=H.says 0 rfl (fun h q=>(hA h q).slcap)
 have hclv:=H.says 1 rfl (fun h q=>(hB h q).slcap)
 have hlen:=hck.len;have hl8:=hck.l8
 refine Ad func124 rfl ntmps124 rfl (Za 2 [] H rfl ?_);intro b1 w H;refine Za 0 [] H rfl ?_;intro b2 w H;refine Z2 8 [1,3] H rfl (z_E_ rfl (call111 _) (Cr _ _ _ ks vs _ _ hA hB hck) H.f3.f3 ?_);intro w H;refine Z0 10 [4,0] rfl (Ak 15 rfl (fun h1=> ?_) (fun h1=> ?_))
 ·(exfalso;omega)
 ·refine Z2 9 [1,3,0,0] H rfl (Af rfl (fun h2=> ?_) (fun h2=> ?_))
  ·(exfalso;omega)
  ·refine Zc 4 rfl ?_;replace H:=H.f1.f1.f3;refine AI (Sep z (blk b1 [.bool lf,.slice ka ks.length kc,.slice va vs.length vc] 142::A::B::R)) 13 rfl (by kernel_rfl) (Bc H fun w H'=> ?_)
   have H:=H'.l4;refine Iz [0,1,3,4,5,6,7,8] [0,3,0,3,1,0,0] [(i:Int)+1] (by exact (H.pick 4 [0,1,2] rfl)) rfl (by kernel_rfl) (by omega) rfl (Av [2,11] (by kernel_rfl) (by simp) (Hx ?_ ?_))
   ·refine BL rfl rfl rfl rfl rfl rfl (fun w=>call163 _ w) (Dp _ _ _ ks vs _ _ hA hB 0 i (by omega) (by omega) (by omega) (ks.take i) (vs.take i) (by simp) (by simp) (by omega)) H.f2.f2 rfl ?_;rintro _ w _ ⟨v3,v4,rfl,rfl⟩ H;replace H:=H.l6;have sv3:=H.says 0 rfl (fun h q=>q.slc)
    obtain ⟨ao5,cc6,rfl⟩:=sv3;have sv4:=H.says 1 rfl (fun h q=>q.slc)
    obtain ⟨ao7,cc8,rfl⟩:=sv4;refine Ap (H.pick 6 [4,2,3] rfl) (Av [9,11] (by kernel_rfl) (by simp) (Hx ?_ ?_))
    ·refine BL rfl rfl rfl rfl rfl rfl (fun w=>call163 _ w) (Dp _ _ _ ks vs _ _ hA hB (i+1) ks.length (by omega) (by omega) (by omega) (ks.drop (i+1)) (vs.drop (i+1)) (by rw[List.take_of_length_le (by simp)]) (by rw[List.take_of_length_le (by simp;omega)]) (by omega)) H.f3.f3 rfl ?_;rintro _ w _ ⟨v9,v10,rfl,rfl⟩ H;replace H:=H.l8;have sv9:=H.says 0 rfl (fun h q=>q.slc)
     obtain ⟨ao11,cc12,rfl⟩:=sv9;have sv10:=H.says 1 rfl (fun h q=>q.slc)
     obtain ⟨ao13,cc14,rfl⟩:=sv10;refine Ap (H.pick 8 [6,2,3] rfl) (Av [10,11] (by kernel_rfl) (by simp) (Hx ?_ ?_))
     ·refine BL rfl rfl rfl rfl rfl rfl (fun w=>call162 _ w) (EJ _ _ _ (ks.take i) (vs.take i) _ _ (fun h q=>q.rd) (fun h q=>q.rd) _ _ _ (ks.drop (i+1)) (vs.drop (i+1)) _ _ (fun h q=>q.rd) (fun h q=>q.rd) (by simp;omega) (by simp;omega) (by simp;omega) (by simp;omega) ks2 vs2 hk2 hv2) H.f1.f1.f5.f5 rfl ?_;rintro _ w _ ⟨v15,v16,rfl,rfl⟩ H;replace H:=H.l10;have sv15:=H.says 0 rfl (fun h q=>q.slc)
      obtain ⟨ao17,cc18,rfl⟩:=sv15;have sv16:=H.says 1 rfl (fun h q=>q.slc)
      obtain ⟨ao19,cc20,rfl⟩:=sv16;refine Ap (H.pick 10 [8,6,7] rfl) (Av [11] (by kernel_rfl) (by simp) (Au (Ce rfl rfl rfl rfl (BO (P:=prog) H rfl (zs:=[.bool false,.slice none 0 0,.slice none 0 0]) (by kernel_rfl)) ?_)));rintro _ w ⟨b21,rfl,H⟩;replace H:=H.l11;refine Ap (H.pick 11 [9,7,8] rfl) (Av [12] (by kernel_rfl) (by simp) (Au (A8 rfl rfl rfl (Ag 0 H rfl rfl rfl rfl (vs:=[.bool lf,.slice ao17 ks2.length cc18,.slice ao19 vs2.length cc20]) rfl (by simp[u8,u32,Value.oneCell']) (by kernel_rfl) (by simp) (out:=[.bool lf,.slice ao17 ks2.length cc18,.slice ao19 vs2.length cc20]) rfl) ?_)));rintro w H;replace H:=H.l11;refine Ap (H.pick 11 [9,7,8] rfl) (a_done (by kernel_rfl) (gn (Z2 5 [0,3] H rfl (z_E_ rfl (call111 _) (Cr _ _ _ ks2 vs2 _ _ (fun h q=>q.rd) (fun h q=>q.rd) hck2) H.f2.f2 ?_))));intro w H;refine Z4 14 [4,2,3,10] H rfl ?_;intro w H;refine Zl [10,3] H rfl ?_;exact ⟨_,⟨.slice ao17 ks2.length cc18,.slice ao19 vs2.length cc20,rfl,rfl⟩,H.perm 11 [0,1,7,8] rfl rfl⟩
     ·refine Ce rfl rfl rfl rfl (BO (P:=prog) H rfl (zs:=[.bool false,.slice none 0 0,.slice none 0 0]) (by kernel_rfl)) ?_;rintro _ w ⟨b22,rfl,H⟩;replace H:=H.l9;refine Ap (H.pick 9 [7,3,4] rfl) (Av [10] (by kernel_rfl) (by simp) (Au (BL rfl rfl rfl rfl rfl rfl (fun w=>call162 _ w) (EJ _ _ _ (ks.take i) (vs.take i) _ _ (fun h q=>q.rd) (fun h q=>q.rd) _ _ _ (ks.drop (i+1)) (vs.drop (i+1)) _ _ (fun h q=>q.rd) (fun h q=>q.rd) (by simp;omega) (by simp;omega) (by simp;omega) (by simp;omega) ks2 vs2 hk2 hv2) H.f2.f2.f6.f6 rfl ?_)));rintro _ w _ ⟨v23,v24,rfl,rfl⟩ H;replace H:=H.l11;have sv23:=H.says 0 rfl (fun h q=>q.slc)
      obtain ⟨ao25,cc26,rfl⟩:=sv23;have sv24:=H.says 1 rfl (fun h q=>q.slc)
      obtain ⟨ao27,cc28,rfl⟩:=sv24;refine Ap (H.pick 11 [9,7,8] rfl) (Av [12] (by kernel_rfl) (by simp) (Au (A8 rfl rfl rfl (Ag 6 H rfl rfl rfl rfl (vs:=[.bool lf,.slice ao25 ks2.length cc26,.slice ao27 vs2.length cc28]) rfl (by simp[u8,u32,Value.oneCell']) (by kernel_rfl) (by simp) (out:=[.bool lf,.slice ao25 ks2.length cc26,.slice ao27 vs2.length cc28]) rfl) ?_)));rintro w H;replace H:=H.l11;refine Ap (H.pick 11 [9,7,8] rfl) (a_done (by kernel_rfl) (gn (Z2 5 [6,3] H rfl (z_E_ rfl (call111 _) (Cr _ _ _ ks2 vs2 _ _ (fun h q=>q.rd) (fun h q=>q.rd) hck2) H ?_))));intro w H;refine Z4 14 [4,6,3,10] H rfl ?_;intro w H;refine Zl [10,3] H rfl ?_;exact ⟨_,⟨.slice ao25 ks2.length cc26,.slice ao27 vs2.length cc28,rfl,rfl⟩,H.perm 11 [0,1,7,8] rfl rfl⟩
    ·refine Ce rfl rfl rfl rfl (BO (P:=prog) H rfl (zs:=[.bool false,.slice none 0 0,.slice none 0 0]) (by kernel_rfl)) ?_;rintro _ w ⟨b29,rfl,H⟩;replace H:=H.l7;refine Ap (H.pick 7 [5,3,4] rfl) (Av [9] (by kernel_rfl) (by simp) (Au (BL rfl rfl rfl rfl rfl rfl (fun w=>call163 _ w) (Dp _ _ _ ks vs _ _ hA hB (i+1) ks.length (by omega) (by omega) (by omega) (ks.drop (i+1)) (vs.drop (i+1)) (by rw[List.take_of_length_le (by simp)]) (by rw[List.take_of_length_le (by simp;omega)]) (by omega)) H.f4.f4 rfl ?_)));rintro _ w _ ⟨v30,v31,rfl,rfl⟩ H;replace H:=H.l9;have sv30:=H.says 0 rfl (fun h q=>q.slc)
     obtain ⟨ao32,cc33,rfl⟩:=sv30;have sv31:=H.says 1 rfl (fun h q=>q.slc)
     obtain ⟨ao34,cc35,rfl⟩:=sv31;refine Ap (H.pick 9 [7,2,3] rfl) (Av [10] (by kernel_rfl) (by simp) (Au (BL rfl rfl rfl rfl rfl rfl (fun w=>call162 _ w) (EJ _ _ _ (ks.take i) (vs.take i) _ _ (fun h q=>q.rd) (fun h q=>q.rd) _ _ _ (ks.drop (i+1)) (vs.drop (i+1)) _ _ (fun h q=>q.rd) (fun h q=>q.rd) (by simp;omega) (by simp;omega) (by simp;omega) (by simp;omega) ks2 vs2 hk2 hv2) H.f1.f1.f6.f6 rfl ?_)));rintro _ w _ ⟨v36,v37,rfl,rfl⟩ H;replace H:=H.l11;have sv36:=H.says 0 rfl (fun h q=>q.slc)
     obtain ⟨ao38,cc39,rfl⟩:=sv36;have sv37:=H.says 1 rfl (fun h q=>q.slc)
     obtain ⟨ao40,cc41,rfl⟩:=sv37;refine Ap (H.pick 11 [9,6,7] rfl) (Av [12] (by kernel_rfl) (by simp) (Au (A8 rfl rfl rfl (Ag 8 H rfl rfl rfl rfl (vs:=[.bool lf,.slice ao38 ks2.length cc39,.slice ao40 vs2.length cc41]) rfl (by simp[u8,u32,Value.oneCell']) (by kernel_rfl) (by simp) (out:=[.bool lf,.slice ao38 ks2.length cc39,.slice ao40 vs2.length cc41]) rfl) ?_)));rintro w H;replace H:=H.l11;refine Ap (H.pick 11 [9,6,7] rfl) (a_done (by kernel_rfl) (gn (Z2 5 [8,3] H rfl (z_E_ rfl (call111 _) (Cr _ _ _ ks2 vs2 _ _ (fun h q=>q.rd) (fun h q=>q.rd) hck2) H ?_))));intro w H;refine Z4 14 [4,8,3,10] H rfl ?_;intro w H;refine Zl [10,3] H rfl ?_;exact ⟨_,⟨.slice ao38 ks2.length cc39,.slice ao40 vs2.length cc41,rfl,rfl⟩,H.perm 11 [0,1,6,7] rfl rfl⟩
   ·refine Ce rfl rfl rfl rfl (BO (P:=prog) H rfl (zs:=[.bool false,.slice none 0 0,.slice none 0 0]) (by kernel_rfl)) ?_;rintro _ w ⟨b42,rfl,H⟩;replace H:=H.l5;refine Ap (H.pick 5 [1,2,3] rfl) (Av [2] (by kernel_rfl) (by simp) (Au (BL rfl rfl rfl rfl rfl rfl (fun w=>call163 _ w) (Dp _ _ _ ks vs _ _ hA hB 0 i (by omega) (by omega) (by omega) (ks.take i) (vs.take i) (by simp) (by simp) (by omega)) H.f3.f3 rfl ?_)));rintro _ w _ ⟨v43,v44,rfl,rfl⟩ H;replace H:=H.l7;have sv43:=H.says 0 rfl (fun h q=>q.slc)
    obtain ⟨ao45,cc46,rfl⟩:=sv43;have sv44:=H.says 1 rfl (fun h q=>q.slc)
    obtain ⟨ao47,cc48,rfl⟩:=sv44;refine Ap (H.pick 7 [5,2,3] rfl) (Av [9] (by kernel_rfl) (by simp) (Au (BL rfl rfl rfl rfl rfl rfl (fun w=>call163 _ w) (Dp _ _ _ ks vs _ _ hA hB (i+1) ks.length (by omega) (by omega) (by omega) (ks.drop (i+1)) (vs.drop (i+1)) (by rw[List.take_of_length_le (by simp)]) (by rw[List.take_of_length_le (by simp;omega)]) (by omega)) H.f3.f3 rfl ?_)));rintro _ w _ ⟨v49,v50,rfl,rfl⟩ H;replace H:=H.l9;have sv49:=H.says 0 rfl (fun h q=>q.slc)
    obtain ⟨ao51,cc52,rfl⟩:=sv49;have sv50:=H.says 1 rfl (fun h q=>q.slc)
    obtain ⟨ao53,cc54,rfl⟩:=sv50;refine Ap (H.pick 9 [7,2,3] rfl) (Av [10] (by kernel_rfl) (by simp) (Au (BL rfl rfl rfl rfl rfl rfl (fun w=>call162 _ w) (EJ _ _ _ (ks.take i) (vs.take i) _ _ (fun h q=>q.rd) (fun h q=>q.rd) _ _ _ (ks.drop (i+1)) (vs.drop (i+1)) _ _ (fun h q=>q.rd) (fun h q=>q.rd) (by simp;omega) (by simp;omega) (by simp;omega) (by simp;omega) ks2 vs2 hk2 hv2) H.f1.f1.f5.f5 rfl ?_)));rintro _ w _ ⟨v55,v56,rfl,rfl⟩ H;replace H:=H.l11;have sv55:=H.says 0 rfl (fun h q=>q.slc)
    obtain ⟨ao57,cc58,rfl⟩:=sv55;have sv56:=H.says 1 rfl (fun h q=>q.slc)
    obtain ⟨ao59,cc60,rfl⟩:=sv56;refine Ap (H.pick 11 [9,6,7] rfl) (Av [12] (by kernel_rfl) (by simp) (Au (A8 rfl rfl rfl (Ag 8 H rfl rfl rfl rfl (vs:=[.bool lf,.slice ao57 ks2.length cc58,.slice ao59 vs2.length cc60]) rfl (by simp[u8,u32,Value.oneCell']) (by kernel_rfl) (by simp) (out:=[.bool lf,.slice ao57 ks2.length cc58,.slice ao59 vs2.length cc60]) rfl) ?_)));rintro w H;replace H:=H.l11;refine Ap (H.pick 11 [9,6,7] rfl) (a_done (by kernel_rfl) (gn (Z2 5 [8,3] H rfl (z_E_ rfl (call111 _) (Cr _ _ _ ks2 vs2 _ _ (fun h q=>q.rd) (fun h q=>q.rd) hck2) H ?_))));intro w H;refine Z4 14 [4,8,3,10] H rfl ?_;intro w H;refine Zl [10,3] H rfl ?_;exact ⟨_,⟨.slice ao57 ks2.length cc58,.slice ao59 vs2.length cc60,rfl,rfl⟩,H.perm 11 [0,1,6,7] rfl rfl⟩
open Go.RowKit
theorem FdI.uniq {ks:List Int} {key:Int} {i j:Nat} (h:FdI ks key i) (g:FdI ks key j):i=j:=by
 rcases Nat.lt_trichotomy i j with q|q|q
 ·have hl:i<ks.length:=by have:=g.le;omega
  have h1:=h.ge ks[i] (List.getElem?_eq_getElem hl)
  have h2:=g.lt i ks[i] q (List.getElem?_eq_getElem hl)
  omega
 ·exact q
 ·have hl:j<ks.length:=by have:=h.le;omega
  have h1:=g.ge ks[j] (List.getElem?_eq_getElem hl)
  have h2:=h.lt j ks[j] q (List.getElem?_eq_getElem hl)
  omega
theorem FcI.uniq {ks:List Int} {key:Int} {i j:Nat} (h:FcI ks key i) (g:FcI ks key j):i=j:=by
 rcases Nat.lt_trichotomy i j with q|q|q
 ·have hl:i<ks.length:=by have:=g.le;omega
  have h1:=h.ge ks[i] (List.getElem?_eq_getElem hl)
  have h2:=g.lt i ks[i] q (List.getElem?_eq_getElem hl)
  omega
 ·exact q
 ·have hl:j<ks.length:=by have:=h.le;omega
  have h1:=g.ge ks[j] (List.getElem?_eq_getElem hl)
  have h2:=h.lt j ks[j] q (List.getElem?_eq_getElem hl)
  omega
theorem Wx (lf:Bool) (kv vv:Value) (ks vs:List Int) (A B:Ae) (hA:∀ h,A h→rdH 1 kv ks.length (ks.map Iv_) h) (hB:∀ h,B h→rdH 1 vv vs.length (vs.map Iv_) h) (hck:CkN lf ks vs) (key:Int) (val:Int) (hkv:(0≤key∧key<1048576)∧1≤val∧val<1024) (i:Nat) (hfi:FdI ks key i) (hfd:ks[i]? =some key):Cn prog 159 [.agg #[.bool lf,kv,vv],Iv_ key,Iv_ val] [A,B] (fun v Γ=>∃ v1 v2:Value,v= .tuple #[.agg #[.bool lf,v1,v2],Iv_ 0]∧Γ=[grow 3 1 v1 ks.length (ks.map Iv_),grow 3 1 v2 vs.length ((vs.set i val).map Iv_),A,B]):=by
 intro z R w H;replace H:=H.l2;obtain ⟨ka,kc,rfl⟩:=H.says 0 rfl (fun h q=>(hA h q).slc);obtain ⟨va,vc,rfl⟩:=H.says 1 rfl (fun h q=>(hB h q).slc);have hclk:=H.says 0 rfl (fun h q=>(hA h q).slcap)
 have hclv:=H.says 1 rfl (fun h q=>(hB h q).slcap)
 have hlen:=hck.len;have hl8:=hck.l8
 have hil:=(List.getElem?_eq_some_iff.1 hfd).1
 refine Ad func159 rfl ntmps159 rfl (Za 2 [] H rfl ?_);intro b1 w H;refine Za 0 [] H rfl ?_;intro b2 w H;refine Z2 8 [1,3] H rfl (z_E_ rfl (call111 _) (Cr _ _ _ ks vs _ _ hA hB hck) H.f3.f3 ?_);intro w H;refine Z0 9 [4] rfl (z_E_ rfl (call156 _) (GP _ _) H ?_);intro w H;replace H:=H.l4;refine Ac rfl (Ax rfl rfl) (Zc 3 rfl (Af rfl (fun h1=> ?_) (fun h1=> ?_)))
 ·(exfalso;omega)
 ·refine Z2 7 [3,3] H rfl (Aw rfl (call73 _) (Il _ _ _ ks vs _ _ hA hB _ (by omega)) H ?_);rintro _ w _ ⟨i3,hFi3,rfl,rfl⟩ H;replace H:=H.l4;obtain rfl:=hFi3.uniq hfi;refine Al 26 (v:= .tuple #[Iv_ (i3:Int),.bool true]) rfl (congrArg (fun b=>Value.tuple #[Iv_ (i3:Int),.bool b]) (decide_eq_true hfd)) (Z2 20 [3,3,1,3,0] H rfl (Aw rfl (call163 _) (Dp _ _ _ ks vs _ _ hA hB 0 ks.length (by omega) (by omega) (by omega) ks vs (by simp) (by rw[Nat.sub_zero,List.drop_zero,hlen];simp) (by omega)) H ?_));rintro _ w _ ⟨v4,v5,rfl,rfl⟩ H;replace H:=H.l6;have sv4:=H.says 0 rfl (fun h q=>q.slc)
  obtain ⟨ao6,cc7,rfl⟩:=sv4;have sv5:=H.says 1 rfl (fun h q=>q.slc)
  obtain ⟨ao8,cc9,rfl⟩:=sv5;refine Za 0 [] H rfl ?_;intro b10 w H;refine Z4 4 [0] H rfl ?_;intro w H;obtain ⟨gq,capq,restq,hgq,cq1,cq2,cq3,H'⟩:=H.ungrow 2 rfl (by omega);cases hgq;clear H;have H:=H'.l7;refine Z3 6 [2,0,0,1,i3,i3] [] H rfl (by omega) (Az rfl rfl (Ag 2 H rfl rfl rfl rfl (vs:=[Iv_ val]) rfl (by simp[u8,u32,Value.oneCell']) (by kernel_rfl) (by simp;omega) (out:=((vs.set i3 val).map Iv_++restq)) (Dy (by omega))) ?_);rintro w H;replace H:=H.l7;refine Z4 10 [0,3,5] H rfl ?_;intro w H;refine Zl [5,3] H rfl ?_;have H2:=H.mono 2 (B:=grow 3 1 (.slice (some ⟨gq,0,none⟩) vs.length cc9) vs.length ((vs.set i3 val).map Iv_)) rfl (fun h q=>q.grow (by omega) (by omega) (by simp;omega) (by rw[Nat.mul_one,List.take_left' (by simp)]))
  exact ⟨_,⟨.slice ao6 ks.length cc7,.slice (some ⟨gq,0,none⟩) vs.length cc9,rfl,rfl⟩,H2.perm 7 [1,2,3,4] rfl rfl⟩
theorem Wy (lf:Bool) (kv vv:Value) (ks vs:List Int) (A B:Ae) (hA:∀ h,A h→rdH 1 kv ks.length (ks.map Iv_) h) (hB:∀ h,B h→rdH 1 vv vs.length (vs.map Iv_) h) (hck:CkN lf ks vs) (key:Int) (val:Int) (hkv:(0≤key∧key<1048576)∧1≤val∧val<1024) (i:Nat) (hfi:FdI ks key i) (hfd:¬ ks[i]? =some key) (hfull:ks.length=8):Cn prog 159 [.agg #[.bool lf,kv,vv],Iv_ key,Iv_ val] [A,B] (fun v Γ=>v= .tuple #[.agg #[.bool false,.slice none 0 0,.slice none 0 0],Iv_ 15]∧Γ=[A,B]):=by
 intro z R w H;replace H:=H.l2;obtain ⟨ka,kc,rfl⟩:=H.says 0 rfl (fun h q=>(hA h q).slc);obtain ⟨va,vc,rfl⟩:=H.says 1 rfl (fun h q=>(hB h q).slc);have hclk:=H.says 0 rfl (fun h q=>(hA h q).slcap)
 have hclv:=H.says 1 rfl (fun h q=>(hB h q).slcap)
 have hlen:=hck.len;have hl8:=hck.l8
 refine Ad func159 rfl ntmps159 rfl (Za 2 [] H rfl ?_);intro b1 w H;refine Za 0 [] H rfl ?_;intro b2 w H;refine Z2 8 [1,3] H rfl (z_E_ rfl (call111 _) (Cr _ _ _ ks vs _ _ hA hB hck) H.f3.f3 ?_);intro w H;refine Z0 9 [4] rfl (z_E_ rfl (call156 _) (GP _ _) H ?_);intro w H;replace H:=H.l4;refine Ac rfl (Ax rfl rfl) (Zc 3 rfl (Af rfl (fun h1=> ?_) (fun h1=> ?_)))
 ·(exfalso;omega)
 ·refine Z2 7 [3,3] H rfl (Aw rfl (call73 _) (Il _ _ _ ks vs _ _ hA hB _ (by omega)) H ?_);rintro _ w _ ⟨i3,hFi3,rfl,rfl⟩ H;replace H:=H.l4;obtain rfl:=hFi3.uniq hfi;refine Al 26 (v:= .tuple #[Iv_ (i3:Int),.bool false]) rfl (congrArg (fun b=>Value.tuple #[Iv_ (i3:Int),.bool b]) (decide_eq_false hfd)) (Z2 25 [1,3,0,0] H rfl (Af rfl (fun h2=> ?_) (fun h2=> ?_)))
  ·refine Z4 8 [2] H rfl ?_;intro w H;refine Zl [2,3] H rfl ?_;exact ⟨_,⟨rfl,rfl⟩,H.perm 4 [0,1] rfl rfl⟩
  ·(exfalso;omega)
theorem Wz (lf:Bool) (kv vv:Value) (ks vs:List Int) (A B:Ae) (hA:∀ h,A h→rdH 1 kv ks.length (ks.map Iv_) h) (hB:∀ h,B h→rdH 1 vv vs.length (vs.map Iv_) h) (hck:CkN lf ks vs) (key:Int) (val:Int) (hkv:(0≤key∧key<1048576)∧1≤val∧val<1024) (i:Nat) (hfi:FdI ks key i) (hfd:¬ ks[i]? =some key) (hless:ks.length<8) (ks2 vs2:List Int) (hk2:ks.take i++key::ks.drop i=ks2) (hv2:vs.take i++val::vs.drop i=vs2):Cn prog 159 [.agg #[.bool lf,kv,vv],Iv_ key,Iv_ val] [A,B] (fun v Γ=>∃ v1 v2:Value,v= .tuple #[.agg #[.bool lf,v1,v2],Iv_ 0]∧Γ=[grow 3 1 v1 ks2.length (ks2.map Iv_),grow 3 1 v2 vs2.length (vs2.map Iv_),A,B]):=by
 intro z R w H;replace H:=H.l2;obtain ⟨ka,kc,rfl⟩:=H.says 0 rfl (fun h q=>(hA h q).slc);obtain ⟨va,vc,rfl⟩:=H.says 1 rfl (fun h q=>(hB h q).slc);have hclk:=H.says 0 rfl (fun h q=>(hA h q).slcap)
 have hclv:=H.says 1 rfl (fun h q=>(hB h q).slcap)
 have hlen:=hck.len;have hl8:=hck.l8
 have hfl:=hfi.le
 refine Ad func159 rfl ntmps159 rfl (Za 2 [] H rfl ?_);intro b1 w H;refine Za 0 [] H rfl ?_;intro b2 w H;refine Z2 8 [1,3] H rfl (z_E_ rfl (call111 _) (Cr _ _ _ ks vs _ _ hA hB hck) H.f3.f3 ?_);intro w H;refine Z0 9 [4] rfl (z_E_ rfl (call156 _) (GP _ _) H ?_);intro w H;replace H:=H.l4;refine Ac rfl (Ax rfl rfl) (Zc 3 rfl (Af rfl (fun h1=> ?_) (fun h1=> ?_)))
 ·(exfalso;omega)
 ·refine Z2 7 [3,3] H rfl (Aw rfl (call73 _) (Il _ _ _ ks vs _ _ hA hB _ (by omega)) H ?_);rintro _ w _ ⟨i3,hFi3,rfl,rfl⟩ H;replace H:=H.l4;obtain rfl:=hFi3.uniq hfi;refine Al 26 (v:= .tuple #[Iv_ (i3:Int),.bool false]) rfl (congrArg (fun b=>Value.tuple #[Iv_ (i3:Int),.bool b]) (decide_eq_false hfd)) (Z2 25 [1,3,0,0] H rfl (Af rfl (fun h2=> ?_) (fun h2=> ?_)))
  ·(exfalso;omega)
  ·refine Zc 5 rfl (AL rfl (AV H rfl (by kernel_rfl) Bq rfl (by decide) (by decide) (out:=[Iv_ key]) (by kernel_rfl)) ?_);rintro _ w ⟨b4,rfl,H⟩;replace H:=H.l5;refine Zc 1 rfl (AL rfl (AV H rfl (by kernel_rfl) Bq rfl (by decide) (by decide) (out:=[Iv_ val]) (by kernel_rfl)) ?_);rintro _ w ⟨b5,rfl,H⟩;replace H:=H.l6;refine Za 1 [] H rfl ?_;intro b6 w H;refine Z4 4 [0] H rfl ?_;intro w H;replace H:=H.f4.f4.f2.f6;refine AI (Sep z (blk b1 [.bool lf,.slice ka ks.length kc,.slice va vs.length vc] 142::blk b6 [.bool false,.slice (some ⟨b4,0,none⟩) 1 1,.slice (some ⟨b5,0,none⟩) 1 1] 142::A::B::R)) 14 rfl (by kernel_rfl) (Bc H fun w H'=> ?_)
   have H:=H'.l7;refine AM [0,1,3,5,6,7,8,9] [0,3,1,3,0,3,1,0,0] [] (by exact (H.pick 7 [0,1,2,3] rfl)) rfl (by kernel_rfl) rfl (Av [2] (by kernel_rfl) (by simp) (Au (BL rfl rfl rfl rfl rfl rfl (fun w=>call163 _ w) (Dp _ _ _ ks vs _ _ hA hB 0 i3 (by omega) (hfi.le) (by omega) (ks.take i3) (vs.take i3) (by simp) (by simp) (by omega)) H.f3.f3 rfl ?_)));rintro _ w _ ⟨v7,v8,rfl,rfl⟩ H;replace H:=H.l9;have sv7:=H.says 0 rfl (fun h q=>q.slc)
   obtain ⟨ao9,cc10,rfl⟩:=sv7;have sv8:=H.says 1 rfl (fun h q=>q.slc)
   obtain ⟨ao11,cc12,rfl⟩:=sv8;refine Ap (H.pick 9 [4,5,2,3] rfl) (Av [4] (by kernel_rfl) (by simp) (Au (BL rfl rfl rfl rfl rfl rfl (fun w=>call162 _ w) (EJ _ _ _ (ks.take i3) (vs.take i3) _ _ (fun h q=>q.rd) (fun h q=>q.rd) _ _ _ ([key]) ([val]) _ _ (fun h q=>q.rd (by omega) (by omega) (by simp) rfl) (fun h q=>q.rd (by omega) (by omega) (by simp) rfl) (by simp<;>omega) (by simp<;>omega) (by simp<;>omega) (by simp<;>omega) (ks.take i3++[key]) (vs.take i3++[val]) rfl rfl) H.f6.f7.f3.f3 rfl ?_)));rintro _ w _ ⟨v13,v14,rfl,rfl⟩ H;replace H:=H.l11;have sv13:=H.says 0 rfl (fun h q=>q.slc)
   obtain ⟨ao15,cc16,rfl⟩:=sv13;have sv14:=H.says 1 rfl (fun h q=>q.slc)
   obtain ⟨ao17,cc18,rfl⟩:=sv14;refine Ap (H.pick 11 [8,9,6,7] rfl) (Av [10] (by kernel_rfl) (by simp) (Au (BL rfl rfl rfl rfl rfl rfl (fun w=>call163 _ w) (Dp _ _ _ ks vs _ _ hA hB i3 ks.length (hfi.le) (by omega) (by omega) (ks.drop i3) (vs.drop i3) (by rw[List.take_of_length_le (by simp)]) (by rw[List.take_of_length_le (by simp;omega)]) (by omega)) H.f7.f7 rfl ?_)));rintro _ w _ ⟨v19,v20,rfl,rfl⟩ H;replace H:=H.l13;have sv19:=H.says 0 rfl (fun h q=>q.slc)
   obtain ⟨ao21,cc22,rfl⟩:=sv19;have sv20:=H.says 1 rfl (fun h q=>q.slc)
   obtain ⟨ao23,cc24,rfl⟩:=sv20;refine Ap (H.pick 13 [10,11,2,3] rfl) (Av [11] (by kernel_rfl) (by simp) (Au (BL rfl rfl rfl rfl rfl rfl (fun w=>call162 _ w) (EJ _ _ _ (ks.take i3++[key]) (vs.take i3++[val]) _ _ (fun h q=>q.rd) (fun h q=>q.rd) _ _ _ (ks.drop i3) (vs.drop i3) _ _ (fun h q=>q.rd) (fun h q=>q.rd) (by simp<;>omega) (by simp<;>omega) (by simp<;>omega) (by simp<;>omega) ks2 vs2 (by rw[List.append_assoc];exact hk2) (by rw[List.append_assoc];exact hv2)) H.f1.f1.f5.f5 rfl ?_)));rintro _ w _ ⟨v25,v26,rfl,rfl⟩ H;replace H:=H.l15;have sv25:=H.says 0 rfl (fun h q=>q.slc)
   obtain ⟨ao27,cc28,rfl⟩:=sv25;have sv26:=H.says 1 rfl (fun h q=>q.slc)
   obtain ⟨ao29,cc30,rfl⟩:=sv26;refine Ap (H.pick 15 [12,13,6,7] rfl) (Av [12] (by kernel_rfl) (by simp) (Au (A8 rfl rfl rfl (Ag 14 H rfl rfl rfl rfl (vs:=[.bool lf,.slice ao27 ks2.length cc28,.slice ao29 vs2.length cc30]) rfl (by simp[u8,u32,Value.oneCell']) (by kernel_rfl) (by simp) (out:=[.bool lf,.slice ao27 ks2.length cc28,.slice ao29 vs2.length cc30]) rfl) ?_)));rintro w H;replace H:=H.l15;refine Ap (H.pick 15 [12,13,6,7] rfl) (AM [13] [] [] (by exact (H.pick 15 [12,13,6,7] rfl)) rfl (by kernel_rfl) rfl (a_done (by kernel_rfl) (gn (Zc 2 rfl (Zl [14,3] H rfl ?_)))));exact ⟨_,⟨.slice ao27 ks2.length cc28,.slice ao29 vs2.length cc30,rfl,rfl⟩,H.perm 15 [0,1,6,7] rfl rfl⟩
open Go.RowKit
theorem HN (lf1:Bool) (kv1 vv1:Value) (ks1 vs1:List Int) (A1 B1:Ae) (hA1:∀ h,A1 h→rdH 1 kv1 ks1.length (ks1.map Iv_) h) (hB1:∀ h,B1 h→rdH 1 vv1 vs1.length (vs1.map Iv_) h) (kv2 vv2:Value) (ks2 vs2:List Int) (A2 B2:Ae) (hA2:∀ h,A2 h→rdH 1 kv2 ks2.length (ks2.map Iv_) h) (hB2:∀ h,B2 h→rdH 1 vv2 vs2.length (vs2.map Iv_) h) (hck1:CkN lf1 ks1 vs1) (hck2:CkN lf1 ks2 vs2) (hbs:∀ x y:Int,ks1[ks1.length - 1]? =some x→ks2[0]? =some y→x<y):Cn prog 181 [.agg #[.bool lf1,kv1,vv1],.agg #[.bool lf1,kv2,vv2]] [A1,B1,A2,B2] (fun v Γ=>v= .bool true∧Γ=[A1,B1,A2,B2]):=by
 intro z R w H;replace H:=H.l4;obtain ⟨ka1,kc1,rfl⟩:=H.says 0 rfl (fun h q=>(hA1 h q).slc);obtain ⟨va1,vc1,rfl⟩:=H.says 1 rfl (fun h q=>(hB1 h q).slc);have hcl1k:=H.says 0 rfl (fun h q=>(hA1 h q).slcap)
 have hcl1v:=H.says 1 rfl (fun h q=>(hB1 h q).slcap)
 obtain ⟨ka2,kc2,rfl⟩:=H.says 2 rfl (fun h q=>(hA2 h q).slc);obtain ⟨va2,vc2,rfl⟩:=H.says 3 rfl (fun h q=>(hB2 h q).slc);have hcl2k:=H.says 2 rfl (fun h q=>(hA2 h q).slcap)
 have hcl2v:=H.says 3 rfl (fun h q=>(hB2 h q).slcap)
 have hlen1:=hck1.len;have hl81:=hck1.l8;have hlen2:=hck2.len;have hl82:=hck2.l8
 refine Ad func181 rfl ntmps181 rfl (Za 2 [] H rfl ?_);intro b1 w H;refine Za 0 [] H rfl ?_;intro b2 w H;refine Z2 7 [1,3] H rfl (z_E_ rfl (call111 _) (Cr _ _ _ ks1 vs1 _ _ hA1 hB1 hck1) H.f3.f3 ?_);intro w H;refine Z2 3 [4,2,3] H rfl (z_E_ rfl (call111 _) (Cr _ _ _ ks2 vs2 _ _ hA2 hB2 hck2) H.f5.f5 ?_);intro w H;refine Z2 7 [4,0,5,0,0,4,0] H rfl (Ac rfl (LG rfl (by kernel_rfl) rfl rfl) (Zc 3 rfl (Af rfl (fun h1=> ?_) (fun h1=> ?_))))
 ·exact absurd rfl h1
 ·refine Zc 3 rfl (AG (Sep z _) (by kernel_rfl) (by kernel_rfl) H.drew (Iy 5 [1,5,0,0] [] rfl (by kernel_rfl) (Bj 24 rfl (fun h2=> ?_) (fun h2=> ?_))))
  ·refine Br 21 [] rfl (by kernel_rfl) (AU (fun w H'=> ?_));have H:=H'.l6;refine gn (Zc 2 rfl (Zr rfl ?_));exact ⟨_,⟨rfl,rfl⟩,H.perm 6 [2,3,0,1] rfl rfl⟩
  ·refine Iy 6 [1,4,0,0] [] rfl (by kernel_rfl) (Bj 30 rfl (fun h3=> ?_) (fun h3=> ?_))
   ·refine Br 15 [] rfl (by kernel_rfl) (AU (fun w H'=> ?_));have H:=H'.l6;refine gn (Zc 2 rfl (Zr rfl ?_));exact ⟨_,⟨rfl,rfl⟩,H.perm 6 [2,3,0,1] rfl rfl⟩
   ·obtain ⟨x,hx⟩:∃ x,ks1[ks1.length - 1]? =some x:=⟨_,List.getElem?_eq_getElem (by omega)⟩;obtain ⟨y,hy⟩:∃ y,ks2[0]? =some y:=⟨_,List.getElem?_eq_getElem (by omega)⟩;have hxy:=hbs x y hx hy
    have hka:=(H.rd 2 rfl hA1).at (j:=ks1.length - 1) (u:=Iv_ x) (by simp[hx])
    have hkb:=(H.rd 0 rfl hA2).at (j:=0) (u:=Iv_ y) (by simp[hy])
    refine Hl 6 [1,5,0,1,5,0] [(ks1.length:Int) - 1] rfl (by kernel_rfl) (by omega) (A6 rfl rfl rfl (AD rfl (z:=1) (j:=(ks1.length - 1)) (r:=(ks1.length - 1)) (by kernel_rfl) rfl rfl (by omega) (by omega) hka (by omega)) (A6 rfl rfl rfl (AR rfl rfl (by kernel_rfl) (fun _ hx'=>(hx'.rd 2 rfl hA1).at (j:=ks1.length - 1) (u:=Iv_ x) (by simp[hx]))) (BF 2 [1,0] (fun _ hx=>(AK (hx.blk 4 rfl) AW)) rfl (by kernel_rfl) rfl (A6 rfl rfl rfl (AD rfl (z:=1) (j:=0) (r:=0) (by kernel_rfl) rfl rfl rfl (by omega) hkb (by omega)) (A6 rfl rfl rfl (AR rfl rfl (by kernel_rfl) (fun _ hx'=>(hx'.rd 0 rfl hA2).at (j:=0) (u:=Iv_ y) (by simp[hy]))) (Br 3 [] rfl (by kernel_rfl) (AU (fun w H'=> ?_))))))));have H:=H'.l6;refine gn (Zc 2 rfl (Zr rfl ?_));exact ⟨_,⟨congrArg Value.bool (decide_eq_true hxy),rfl⟩,H.perm 6 [2,3,0,1] rfl rfl⟩
theorem TG (lf1:Bool) (kv1 vv1:Value) (ks1 vs1:List Int) (A1 B1:Ae) (hA1:∀ h,A1 h→rdH 1 kv1 ks1.length (ks1.map Iv_) h) (hB1:∀ h,B1 h→rdH 1 vv1 vs1.length (vs1.map Iv_) h) (kv2 vv2:Value) (ks2 vs2:List Int) (A2 B2:Ae) (hA2:∀ h,A2 h→rdH 1 kv2 ks2.length (ks2.map Iv_) h) (hB2:∀ h,B2 h→rdH 1 vv2 vs2.length (vs2.map Iv_) h) (hck1:CkN lf1 ks1 vs1) (hck2:CkN lf1 ks2 vs2) (hbs:∀ x y:Int,ks1[ks1.length - 1]? =some x→ks2[0]? =some y→x<y) (h8:ks1.length+ks2.length≤8) (ks vs:List Int) (hk:ks1++ks2=ks) (hv:vs1++vs2=vs):Cn prog 164 [.agg #[.bool lf1,kv1,vv1],.agg #[.bool lf1,kv2,vv2]] [A1,B1,A2,B2] (fun v Γ=>∃ v1 v2:Value,v= .tuple #[.agg #[.bool lf1,v1,v2],Iv_ 0]∧Γ=[grow 3 1 v1 ks.length (ks.map Iv_),grow 3 1 v2 vs.length (vs.map Iv_),A1,B1,A2,B2]):=by
 intro z R w H;replace H:=H.l4;obtain ⟨ka1,kc1,rfl⟩:=H.says 0 rfl (fun h q=>(hA1 h q).slc);obtain ⟨va1,vc1,rfl⟩:=H.says 1 rfl (fun h q=>(hB1 h q).slc);have hcl1k:=H.says 0 rfl (fun h q=>(hA1 h q).slcap)
 have hcl1v:=H.says 1 rfl (fun h q=>(hB1 h q).slcap)
 obtain ⟨ka2,kc2,rfl⟩:=H.says 2 rfl (fun h q=>(hA2 h q).slc);obtain ⟨va2,vc2,rfl⟩:=H.says 3 rfl (fun h q=>(hB2 h q).slc);have hcl2k:=H.says 2 rfl (fun h q=>(hA2 h q).slcap)
 have hcl2v:=H.says 3 rfl (fun h q=>(hB2 h q).slcap)
 have hlen1:=hck1.len;have hl81:=hck1.l8;have hlen2:=hck2.len;have hl82:=hck2.l8
 refine Ad func164 rfl ntmps164 rfl (Za 2 [] H rfl ?_);intro b1 w H;refine Za 0 [] H rfl ?_;intro b2 w H;refine Za 0 [] H rfl ?_;intro b3 w H;refine Z2 9 [2,3,1,3] H rfl (z_E_ rfl (call181 _) (HN _ _ _ ks1 vs1 _ _ hA1 hB1 _ _ ks2 vs2 _ _ hA2 hB2 hck1 hck2 hbs) H.f6.f6.f6.f6 ?_);intro w H;refine Z3 18 [1,6,0,1,5,0,0] [(ks1.length:Int)+(ks2.length:Int)] H rfl (by omega) (Af rfl (fun h1=> ?_) (fun h1=> ?_))
 ·(exfalso;omega)
 ·refine Z2 7 [6,3,5,3] H rfl (Aw rfl (call162 _) (EJ _ _ _ ks1 vs1 _ _ hA1 hB1 _ _ _ ks2 vs2 _ _ hA2 hB2 (by omega) (by omega) (by omega) (by omega) ks vs hk hv) H ?_);rintro _ w _ ⟨v4,v5,rfl,rfl⟩ H;replace H:=H.l9;have sv4:=H.says 0 rfl (fun h q=>q.slc)
  obtain ⟨ao6,cc7,rfl⟩:=sv4;have sv5:=H.says 1 rfl (fun h q=>q.slc)
  obtain ⟨ao8,cc9,rfl⟩:=sv5;refine Z4 5 [6] H rfl ?_;intro w H;refine Zl [6,3] H rfl ?_;exact ⟨_,⟨.slice ao6 ks.length cc7,.slice ao8 vs.length cc9,rfl,rfl⟩,H.perm 9 [0,1,2,3,4,5] rfl rfl⟩
theorem TH (lf1:Bool) (kv1 vv1:Value) (ks1 vs1:List Int) (A1 B1:Ae) (hA1:∀ h,A1 h→rdH 1 kv1 ks1.length (ks1.map Iv_) h) (hB1:∀ h,B1 h→rdH 1 vv1 vs1.length (vs1.map Iv_) h) (kv2 vv2:Value) (ks2 vs2:List Int) (A2 B2:Ae) (hA2:∀ h,A2 h→rdH 1 kv2 ks2.length (ks2.map Iv_) h) (hB2:∀ h,B2 h→rdH 1 vv2 vs2.length (vs2.map Iv_) h) (hck1:CkN lf1 ks1 vs1) (hck2:CkN lf1 ks2 vs2) (hbs:∀ x y:Int,ks1[ks1.length - 1]? =some x→ks2[0]? =some y→x<y) (h8:8<ks1.length+ks2.length):Cn prog 164 [.agg #[.bool lf1,kv1,vv1],.agg #[.bool lf1,kv2,vv2]] [A1,B1,A2,B2] (fun v Γ=>v= .tuple #[.agg #[.bool false,.slice none 0 0,.slice none 0 0],Iv_ 15]∧Γ=[A1,B1,A2,B2]):=by
 intro z R w H;replace H:=H.l4;obtain ⟨ka1,kc1,rfl⟩:=H.says 0 rfl (fun h q=>(hA1 h q).slc);obtain ⟨va1,vc1,rfl⟩:=H.says 1 rfl (fun h q=>(hB1 h q).slc);have hcl1k:=H.says 0 rfl (fun h q=>(hA1 h q).slcap)
 have hcl1v:=H.says 1 rfl (fun h q=>(hB1 h q).slcap)
 obtain ⟨ka2,kc2,rfl⟩:=H.says 2 rfl (fun h q=>(hA2 h q).slc);obtain ⟨va2,vc2,rfl⟩:=H.says 3 rfl (fun h q=>(hB2 h q).slc);have hcl2k:=H.says 2 rfl (fun h q=>(hA2 h q).slcap)
 have hcl2v:=H.says 3 rfl (fun h q=>(hB2 h q).slcap)
 have hlen1:=hck1.len;have hl81:=hck1.l8;have hlen2:=hck2.len;have hl82:=hck2.l8
 refine Ad func164 rfl ntmps164 rfl (Za 2 [] H rfl ?_);intro b1 w H;refine Za 0 [] H rfl ?_;intro b2 w H;refine Za 0 [] H rfl ?_;intro b3 w H;refine Z2 9 [2,3,1,3] H rfl (z_E_ rfl (call181 _) (HN _ _ _ ks1 vs1 _ _ hA1 hB1 _ _ ks2 vs2 _ _ hA2 hB2 hck1 hck2 hbs) H.f6.f6.f6.f6 ?_);intro w H;refine Z3 18 [1,6,0,1,5,0,0] [(ks1.length:Int)+(ks2.length:Int)] H rfl (by omega) (Af rfl (fun h1=> ?_) (fun h1=> ?_))
 ·refine Z4 8 [4] H rfl ?_;intro w H;refine Zl [4,3] H rfl ?_;exact ⟨_,⟨rfl,rfl⟩,H.perm 7 [0,1,2,3] rfl rfl⟩
 ·(exfalso;omega)
theorem TI (lf1:Bool) (kv1 vv1:Value) (ks1 vs1:List Int) (A1 B1:Ae) (hA1:∀ h,A1 h→rdH 1 kv1 ks1.length (ks1.map Iv_) h) (hB1:∀ h,B1 h→rdH 1 vv1 vs1.length (vs1.map Iv_) h) (kv2 vv2:Value) (ks2 vs2:List Int) (A2 B2:Ae) (hA2:∀ h,A2 h→rdH 1 kv2 ks2.length (ks2.map Iv_) h) (hB2:∀ h,B2 h→rdH 1 vv2 vs2.length (vs2.map Iv_) h) (hck1:CkN lf1 ks1 vs1) (hck2:CkN lf1 ks2 vs2) (hbs:∀ x y:Int,ks1[ks1.length - 1]? =some x→ks2[0]? =some y→x<y) (h22:2≤ks1.length+ks2.length) (ks vs:List Int) (hk:ks1++ks2=ks) (hv:vs1++vs2=vs) (ksa vsa ksb vsb:List Int) (hv1:ks.take ((ks.length+1) / 2)=ksa) (hv2:vs.take ((ks.length+1) / 2)=vsa) (hv3:ks.drop ((ks.length+1) / 2)=ksb) (hv4:vs.drop ((ks.length+1) / 2)=vsb):Cn prog 165 [.agg #[.bool lf1,kv1,vv1],.agg #[.bool lf1,kv2,vv2]] [A1,B1,A2,B2] (fun v Γ=>∃ v1 v2 v3 v4:Value,v= .tuple #[.agg #[.bool lf1,v1,v2],.agg #[.bool lf1,v3,v4],Iv_ 0]∧Γ=[grow 3 1 v1 ksa.length (ksa.map Iv_),grow 3 1 v2 vsa.length (vsa.map Iv_),grow 3 1 v3 ksb.length (ksb.map Iv_),grow 3 1 v4 vsb.length (vsb.map Iv_),A1,B1,A2,B2]):=by
 intro z R w H;replace H:=H.l4;obtain ⟨ka1,kc1,rfl⟩:=H.says 0 rfl (fun h q=>(hA1 h q).slc);obtain ⟨va1,vc1,rfl⟩:=H.says 1 rfl (fun h q=>(hB1 h q).slc);have hcl1k:=H.says 0 rfl (fun h q=>(hA1 h q).slcap)
 have hcl1v:=H.says 1 rfl (fun h q=>(hB1 h q).slcap)
 obtain ⟨ka2,kc2,rfl⟩:=H.says 2 rfl (fun h q=>(hA2 h q).slc);obtain ⟨va2,vc2,rfl⟩:=H.says 3 rfl (fun h q=>(hB2 h q).slc);have hcl2k:=H.says 2 rfl (fun h q=>(hA2 h q).slcap)
 have hcl2v:=H.says 3 rfl (fun h q=>(hB2 h q).slcap)
 have hlen1:=hck1.len;have hl81:=hck1.l8;have hlen2:=hck2.len;have hl82:=hck2.l8
 have hkl:ks.length=ks1.length+ks2.length:=by rw[←hk,List.length_append]
 have hvl:vs.length=vs1.length+vs2.length:=by rw[←hv,List.length_append]
 refine Ad func165 rfl ntmps165 rfl (Za 2 [] H rfl ?_);intro b1 w H;refine Za 0 [] H rfl ?_;intro b2 w H;refine Za 0 [] H rfl ?_;intro b3 w H;refine Za 0 [] H rfl ?_;intro b4 w H;refine Z2 8 [3,3,2,3] H rfl (z_E_ rfl (call181 _) (HN _ _ _ ks1 vs1 _ _ hA1 hB1 _ _ ks2 vs2 _ _ hA2 hB2 hck1 hck2 hbs) H.f7.f7.f7.f7 ?_);intro w H;refine Z3 13 [1,7,0,1,6,0,0] [(ks1.length:Int)+(ks2.length:Int)] H rfl (by omega) (Af rfl (fun h1=> ?_) (fun h1=> ?_))
 ·(exfalso;omega)
 ·refine Z2 6 [7,3,6,3] H rfl (Aw rfl (call162 _) (EJ _ _ _ ks1 vs1 _ _ hA1 hB1 _ _ _ ks2 vs2 _ _ hA2 hB2 (by omega) (by omega) (by omega) (by omega) ks vs hk hv) H ?_);rintro _ w _ ⟨v5,v6,rfl,rfl⟩ H;replace H:=H.l10;have sv5:=H.says 0 rfl (fun h q=>q.slc)
  obtain ⟨ao7,cc8,rfl⟩:=sv5;have sv6:=H.says 1 rfl (fun h q=>q.slc)
  obtain ⟨ao9,cc10,rfl⟩:=sv6;refine Aw rfl (call180 _) (KY _ _ _ ks vs _ _ (fun h q=>q.rd) (fun h q=>q.rd) (by omega) (by omega) ksa vsa ksb vsb hv1 hv2 hv3 hv4) H ?_;rintro _ w _ ⟨v11,v12,v13,v14,rfl,rfl⟩ H;replace H:=H.l14;have sv11:=H.says 0 rfl (fun h q=>q.slc)
  obtain ⟨ao15,cc16,rfl⟩:=sv11;have sv12:=H.says 1 rfl (fun h q=>q.slc)
  obtain ⟨ao17,cc18,rfl⟩:=sv12;have sv13:=H.says 2 rfl (fun h q=>q.slc)
  obtain ⟨ao19,cc20,rfl⟩:=sv13;have sv14:=H.says 3 rfl (fun h q=>q.slc)
  obtain ⟨ao21,cc22,rfl⟩:=sv14;refine Za 3 [] H rfl ?_;intro b23 w H;refine Za 0 [] H rfl ?_;intro b24 w H;refine Z4 5 [1,0] H rfl ?_;intro w H;replace H:=(H.pick 16 [1,0,2,3,4,5,6,7,8,9,10,11,12,13,14,15] rfl).l16
  refine AI (Sep z (blk b23 [.bool lf1,.slice ao15 ksa.length cc16,.slice ao17 vsa.length cc18] 142::blk b24 [.bool lf1,.slice ao19 ksb.length cc20,.slice ao21 vsb.length cc22] 142::R)) 5 rfl (by kernel_rfl) (Bc H fun w H'=> ?_)
  have H:=H'.l16;refine AM [0,1] [0,3,1,3] [] (by exact (H.pick 16 [0,1] rfl)) rfl (by kernel_rfl) rfl (Av [2] (by kernel_rfl) (by simp) (Au (A8 rfl rfl rfl (Ag 13 H rfl rfl rfl rfl (vs:=[.bool lf1,.slice ao15 ksa.length cc16,.slice ao17 vsa.length cc18]) rfl (by simp[u8,u32,Value.oneCell']) (by kernel_rfl) (by simp) (out:=[.bool lf1,.slice ao15 ksa.length cc16,.slice ao17 vsa.length cc18]) rfl) ?_)));rintro w H;replace H:=H.l16;refine Ap (H.pick 16 [0,1] rfl) (Av [3] (by kernel_rfl) (by simp) (Au (A8 rfl rfl rfl (Ag 12 H rfl rfl rfl rfl (vs:=[.bool lf1,.slice ao19 ksb.length cc20,.slice ao21 vsb.length cc22]) rfl (by simp[u8,u32,Value.oneCell']) (by kernel_rfl) (by simp) (out:=[.bool lf1,.slice ao19 ksb.length cc20,.slice ao21 vsb.length cc22]) rfl) ?_)));rintro w H;replace H:=H.l16;refine Ap (H.pick 16 [0,1] rfl) (AM [4] [] [] (by exact (H.pick 16 [0,1] rfl)) rfl (by kernel_rfl) rfl (a_done (by kernel_rfl) (gn (Zc 2 rfl (Zl [13,3,12,3] H rfl ?_)))));exact ⟨_,⟨.slice ao15 ksa.length cc16,.slice ao17 vsa.length cc18,.slice ao19 ksb.length cc20,.slice ao21 vsb.length cc22,rfl,rfl⟩,H.perm 16 [2,3,4,5,8,9,10,11] rfl rfl⟩
section
abbrev E:=Int×Nat
structure Nd where
 lf:Bool
 es:List E
inductive Pc where
 | nd (d:Nd)
 | dt (b:List UInt8)
abbrev Hm:=Nat→Option Pc
def Srt (es:List E):Prop:=es.Pairwise (fun a b=>a.1<b.1)
structure Nd.Ok (d:Nd):Prop where
 srt:Srt d.es
 len:d.es.length≤8
 key:∀ e∈d.es,0≤e.1∧e.1<1048576
 ne:d.lf=false→d.es≠[]
def vals (es:List E):List Nat:=es.map Prod.snd
def Ec (o:Option Pc) (p:Nat):Nat:=
 match o with
 | some (.nd d)=>(vals d.es).count p
 | _=>0
def EX (N:Hm) (p:Nat):Nat→Nat
 | 0=>0
 | n+1=>EX N p n+Ec (N n) p
theorem OC (N:Hm) (p a:Nat) (o:Option Pc):∀ n,n≤a→EX (fup N a o) p n=EX N p n
 | 0,_=>rfl
 | n+1,h=>by simp only[EX];rw[OC N p a o n (by omega),A4 _ _ (by omega)]
theorem Fb (N:Hm) (p a:Nat) (o:Option Pc):∀ n,a<n→EX (fup N a o) p n+Ec (N a) p=EX N p n+Ec o p
 | n+1,h=>by
  simp only[EX]
  rcases Nat.lt_or_ge a n with q|q
  ·have:=Fb N p a o n q
   rw[A4 _ _ (by omega)];omega
  ·obtain rfl:a=n:=by omega
   rw[OC N p a o a (Nat.le_refl _),Bx];omega
theorem Ki (N:Hm) (p q:Nat):∀ n,q<n→Ec (N q) p≤EX N p n
 | n+1,h=>by
  simp only[EX]
  rcases Nat.lt_or_ge q n with r|r
  ·have:=Ki N p q n r;omega
  ·obtain rfl:q=n:=by omega
   omega
theorem OD (N:Hm) (p:Nat) (h:∀ q,Ec (N q) p≤1):∀ n,EX N p n≤n
 | 0=>Nat.le_refl _
 | n+1=>by have:=OD N p h n;have:=h n;simp only[EX];omega
theorem Nb {d:Nd} {p:Nat} :0<Ec (some (.nd d)) p↔p∈vals d.es:=List.count_pos_iff
/-! ### trees -/
def nx:List E→Int→Int
 | [],hi=>hi
 | e::_,_=>e.1
def Sq (P:Nat→Int→Int→List E→Prop):List E→Int→List E→Prop
 | [],_,L=>L=[]
 | e::t,hi,L=>∃ L1 L2,L=L1++L2∧P e.2 e.1 (nx t hi) L1∧Sq P t hi L2
def Tr (N:Hm):Nat→Nat→Int→Int→Nat→List E→Prop
 | 0,r,lo,hi,m,L=>∃ es,N r=some (.nd ⟨true,es⟩)∧m≤es.length∧(∀ e∈es,lo≤e.1∧e.1<hi)∧(Nd.mk true es).Ok∧L=es∧∀ e∈es,∃ b,N e.2=some (.dt b)
 | h+1,r,lo,hi,m,L=>∃ es,N r=some (.nd ⟨false,es⟩)∧m≤es.length∧(∀ e∈es,lo≤e.1∧e.1<hi)∧(Nd.mk false es).Ok∧Sq (fun c a b L=>Tr N h c a b 4 L) es hi L
def Bd (N:Hm):Nat→List E→Int→List E→Prop
 | 0,es,_,L=>L=es∧∀ e∈es,∃ b,N e.2=some (.dt b)
 | h+1,es,hi,L=>Sq (fun c a b L=>Tr N h c a b 4 L) es hi L
def BG (lo hi:Int) (es:List E):Prop:=∀ e∈es,lo≤e.1∧e.1<hi
theorem Tr.iff {N:Hm} {h r:Nat} {lo hi:Int} {m:Nat} {L:List E} :Tr N h r lo hi m L↔∃ es,N r=some (.nd ⟨decide (h=0),es⟩)∧m≤es.length∧BG lo hi es∧(Nd.mk (decide (h=0)) es).Ok∧Bd N h es hi L:=by
 cases h<;>exact Iff.rfl
structure TInv (n f:Nat) (N:Hm) (C:Nat→Nat) (R:List Nat):Prop where
 cnt:∀ p,f≤p→p<n→C p=R.count p+EX N p n
 rin:∀ p∈R,f≤p∧p<n
 nin:∀ q c,N q=some c→f≤q∧q<n∧1≤C q
 nds:∀ q d,N q=some (.nd d)→d.Ok∧(vals d.es).Nodup∧∀ v∈vals d.es,f≤v∧v<n
 hg:∀ q d,N q=some (.nd d)→∃ h lo hi m L,Tr N h q lo hi m L
theorem Sq.imp {P Q:Nat→Int→Int→List E→Prop} {es:List E} {hi:Int} {L:List E} (h:Sq P es hi L) (hPQ:∀ e∈es,∀ b L,P e.2 e.1 b L→Q e.2 e.1 b L):Sq Q es hi L:=by
 induction es generalizing L with
 | nil=>exact h
 | cons e t ih=>
  obtain ⟨L1,L2,h1,h2,h3⟩:=h
  exact ⟨L1,L2,h1,hPQ e (by simp) _ _ h2,ih h3 (fun e' he'=>hPQ e' (by simp[he']))⟩
theorem Tr.mono {N:Hm} {h r:Nat} {lo hi lo' hi':Int} {m m':Nat} {L:List E} (t:Tr N h r lo hi m L) (hl:lo'≤lo) (hh:hi≤hi') (hm:m'≤m):Tr N h r lo' hi' m' L:=by
 induction h generalizing r lo hi lo' hi' m m' L with
 | zero=>
  obtain ⟨es,a,b,c,d,e⟩:=t
  exact ⟨es,a,by omega,fun x hx=>by have:=c x hx;omega,d,e⟩
 | succ h ih=>
  obtain ⟨es,a,b,c,d,e⟩:=t
  refine ⟨es,a,by omega,fun x hx=>by have:=c x hx;omega,d,?_⟩
  clear a b c d
  induction es generalizing L with
  | nil=>exact e
  | cons x t ih2=>
   obtain ⟨L1,L2,h1,h2,h3⟩:=e
   refine ⟨L1,L2,h1,?_,ih2 h3⟩
   refine ih h2 (Int.le_refl _) ?_ (Nat.le_refl _)
   cases t<;>simp[nx,hh]
theorem Tr.fup {N:Hm} {a:Nat} {o:Option Pc} (hno:∀ q d,N q=some (.nd d)→a∉vals d.es) {h c:Nat} {lo hi:Int} {m:Nat} {L:List E} (hc:c≠a) (t:Tr N h c lo hi m L):Tr (fup N a o) h c lo hi m L:=by
 induction h generalizing c lo hi m L with
 | zero=>
  obtain ⟨es,h1,b,c',d,e1,e⟩:=t
  refine ⟨es,by rw[A4 _ _ hc];exact h1,b,c',d,e1,fun x hx=> ?_⟩
  rw[A4 _ _ (fun q=>hno _ _ h1 (by rw[←q];exact List.mem_map_of_mem hx))]
  exact e x hx
 | succ h ih=>
  obtain ⟨es,h1,b,c',d,e⟩:=t
  refine ⟨es,by rw[A4 _ _ hc];exact h1,b,c',d,e.imp fun x hx b L q=>ih (fun q2=>hno _ _ h1 (by rw[←q2];exact List.mem_map_of_mem hx)) q⟩
theorem Tr.node {N:Hm} {h r:Nat} {lo hi:Int} {m:Nat} {L:List E} (t:Tr N h r lo hi m L):∃ d,N r=some (.nd d):=by
 obtain ⟨es,h1,_⟩:=Tr.iff.1 t;exact ⟨_,h1⟩
/-! ### micro steps -/
section
variable {n f:Nat} {N:Hm} {C:Nat→Nat} {R:List Nat}
theorem TInv.perm {R':List Nat} (I:TInv n f N C R) (h:R.Perm R'):TInv n f N C R':=
 ⟨fun p a b=>by rw[←h.count_eq];exact I.cnt p a b,fun p hp=>I.rin p (h.mem_iff.2 hp),I.nin,I.nds,I.hg⟩
theorem TInv.pos (I:TInv n f N C R) {p:Nat} (h:p∈R):1≤C p:=by
 have:=I.cnt p (I.rin p h).1 (I.rin p h).2
 have:=List.count_pos_iff.2 h;omega
theorem TInv.posE (I:TInv n f N C R) {q p:Nat} {d:Nd} (h:N q=some (.nd d)) (hp:p∈vals d.es):1≤C p:=by
 have hi:=(I.nds q d h).2.2 p hp
 have:=I.cnt p hi.1 hi.2
 have h1:0<Ec (N q) p:=by rw[h];exact Nb.2 hp
 have:=Ki N p q n (I.nin q _ h).2.1
 omega
theorem TInv.noref (I:TInv n f N C R) {a:Nat} (h:C a≤R.count a) {q:Nat} {d:Nd} (hq:N q=some (.nd d)):a∉vals d.es:=fun ha=>by
 have hi:=(I.nds q d hq).2.2 a ha
 have:=I.cnt a hi.1 hi.2
 have h1:0<Ec (N q) a:=by rw[hq];exact Nb.2 ha
 have:=Ki N a q n (I.nin q _ hq).2.1
 omega
theorem TInv.bound (I:TInv n f N C R) {p:Nat} (h1:f≤p) (h2:p<n):C p≤R.length+n:=by
 rw[I.cnt p h1 h2]
 have h3:=List.count_le_length (a:=p) (l:=R)
 have h4:=OD N p (fun q=>by
  unfold Ec
  split
  ·rename_i d hd
   exact List.nodup_iff_count.1 (I.nds q d hd).2.1 p
  ·omega) n
 omega
theorem TInv.opens {a:Nat} {d:Nd} (I:TInv n f N C (a::R)) (h1:C a=1) (hN:N a=some (.nd d)):TInv n f (fup N a none) C (a::(vals d.es++R))∧∀ q d,N q=some (.nd d)→a∉vals d.es:=by
  have hno:∀ q d,N q=some (.nd d)→a∉vals d.es:=fun q d hq=>I.noref (by simp[h1]) hq
  refine ⟨⟨fun p hp1 hp2=> ?_,fun p hp=> ?_,fun q c hq=> ?_,fun q c hq=> ?_,fun q c hq=> ?_⟩,hno⟩
  · have:=I.cnt p hp1 hp2
    have h2:=Fb N p a none n (I.nin a _ hN).2.1
    rw[hN] at h2
    simp only[List.count_cons,List.count_append] at this ⊢
    simp only[Ec] at h2;omega
  · rcases List.mem_cons.1 hp with rfl|hp
    · exact I.rin _ (by simp)
    · rcases List.mem_append.1 hp with hp|hp
      · exact (I.nds a d hN).2.2 p hp
      · exact I.rin _ (by simp[hp])
  all_goals
    by_cases e:q=a
    · subst e;rw[Bx] at hq;cases hq
    · rw[A4 _ _ e] at hq
      first
        | exact I.nin q c hq
        | exact I.nds q c hq
        | (obtain ⟨h,lo,hi,m,L,t⟩:=I.hg q c hq
           exact ⟨h,lo,hi,m,L,t.fup hno e⟩)
theorem TInv.close {a:Nat} {d:Nd} (I:TInv n f N C (a::(vals d.es++R))) (h1:C a=1) (hN:N a=none) (hd:d.Ok) (hdup:(vals d.es).Nodup)
    (ht:∃ h lo hi m L,Tr (fup N a (some (.nd d))) h a lo hi m L):TInv n f (fup N a (some (.nd d))) C (a::R)∧∀ q d,N q=some (.nd d)→a∉vals d.es:=by
  have hno:∀ q d,N q=some (.nd d)→a∉vals d.es:=fun q d hq=>I.noref (by simp;omega) hq
  have hr:=I.rin a (by simp)
  refine ⟨⟨fun p hp1 hp2=> ?_,fun p hp=> ?_,fun q c hq=> ?_,fun q c hq=> ?_,fun q c hq=> ?_⟩,hno⟩
  · have:=I.cnt p hp1 hp2
    have h2:=Fb N p a (some (.nd d)) n hr.2
    rw[hN] at h2
    simp only[List.count_cons,List.count_append] at this ⊢
    simp only[Ec] at h2;omega
  · rcases List.mem_cons.1 hp with rfl|hp
    · exact hr
    · exact I.rin _ (by simp[hp])
  all_goals
    by_cases e:q=a
    · subst e;rw[Bx] at hq;cases hq
      first
        | exact ⟨hr.1,hr.2,by omega⟩
        | exact ⟨hd,hdup,fun v hv=>I.rin v (by simp[hv])⟩
        | exact ht
    · rw[A4 _ _ e] at hq
      first
        | exact I.nin q c hq
        | exact I.nds q c hq
        | (obtain ⟨h,lo,hi,m,L,t⟩:=I.hg q c hq
           exact ⟨h,lo,hi,m,L,t.fup hno e⟩)
theorem TInv.fresh {a:Nat} {d:Nd} (I:TInv n f N C (vals d.es++R)) (h0:C a=0) (ha:f≤a∧a<n) (hd:d.Ok) (hdup:(vals d.es).Nodup)
    (ht:∃ h lo hi m L,Tr (fup N a (some (.nd d))) h a lo hi m L):N a=none∧TInv n f (fup N a (some (.nd d))) (fup C a 1) (a::R)∧∀ q d,N q=some (.nd d)→a∉vals d.es:=by
  have hN:N a=none:=by
    cases e:N a with
    | none=>rfl
    | some c=>have:=(I.nin a c e).2.2;omega
  have hno:∀ q d,N q=some (.nd d)→a∉vals d.es:=fun q d hq=>I.noref (by omega) hq
  have hc:=I.cnt a ha.1 ha.2
  refine ⟨hN,⟨fun p hp1 hp2=> ?_,fun p hp=> ?_,fun q c hq=> ?_,fun q c hq=> ?_,fun q c hq=> ?_⟩,hno⟩
  · have:=I.cnt p hp1 hp2
    have h2:=Fb N p a (some (.nd d)) n ha.2
    rw[hN] at h2
    simp only[List.count_cons,List.count_append] at this hc ⊢
    simp only[Ec] at h2
    by_cases e:p=a
    · subst e;rw[Bx];simp;omega
    · rw[A4 _ _ e];have:(a == p)=false:=by simp[Ne.symm e]
      rw[this];simp;omega
  · rcases List.mem_cons.1 hp with rfl|hp
    · exact ha
    · exact I.rin _ (by simp[hp])
  all_goals
    by_cases e:q=a
    · subst e;rw[Bx] at hq;cases hq
      first
        | exact ⟨ha.1,ha.2,by simp[fup]⟩
        | exact ⟨hd,hdup,fun v hv=>I.rin v (by simp[hv])⟩
        | exact ht
    · rw[A4 _ _ e] at hq
      first
        | (rw[A4 _ _ e];exact I.nin q c hq)
        | exact I.nds q c hq
        | (obtain ⟨h,lo,hi,m,L,t⟩:=I.hg q c hq
           exact ⟨h,lo,hi,m,L,t.fup hno e⟩)
theorem TInv.freshD {a:Nat} {b:List UInt8} (I:TInv n f N C R) (h0:C a=0) (ha:f≤a∧a<n):N a=none∧TInv n f (fup N a (some (.dt b))) (fup C a 1) (a::R)∧∀ q d,N q=some (.nd d)→a∉vals d.es:=by
  have hN:N a=none:=by
    cases e:N a with
    | none=>rfl
    | some c=>have:=(I.nin a c e).2.2;omega
  have hno:∀ q d,N q=some (.nd d)→a∉vals d.es:=fun q d hq=>I.noref (by omega) hq
  have hc:=I.cnt a ha.1 ha.2
  refine ⟨hN,⟨fun p hp1 hp2=> ?_,fun p hp=> ?_,fun q c hq=> ?_,fun q c hq=> ?_,fun q c hq=> ?_⟩,hno⟩
  · have:=I.cnt p hp1 hp2
    have h2:=Fb N p a (some (.dt b)) n ha.2
    rw[hN] at h2
    simp only[List.count_cons] at this hc ⊢
    simp only[Ec] at h2
    by_cases e:p=a
    · subst e;rw[Bx];simp;omega
    · rw[A4 _ _ e];have:(a == p)=false:=by simp[Ne.symm e]
      rw[this];simp;omega
  · rcases List.mem_cons.1 hp with rfl|hp
    · exact ha
    · exact I.rin _ hp
  all_goals
    by_cases e:q=a
    · subst e;rw[Bx] at hq;cases hq<;>exact ⟨ha.1,ha.2,by simp[fup]⟩
    · rw[A4 _ _ e] at hq
      first
        | (rw[A4 _ _ e];exact I.nin q c hq)
        | exact I.nds q c hq
        | (obtain ⟨h,lo,hi,m,L,t⟩:=I.hg q c hq
           exact ⟨h,lo,hi,m,L,t.fup hno e⟩)
theorem TInv.ref {a:Nat} (I:TInv n f N C R) (ha:f≤a∧a<n):TInv n f N (fup C a (C a+1)) (a::R):=by
 refine ⟨fun p hp1 hp2=> ?_,fun p hp=> ?_,fun q c hq=> ?_,I.nds,I.hg⟩
 ·have:=I.cnt p hp1 hp2
  simp only[List.count_cons]
  by_cases e:p=a
  ·subst e;rw[Bx];simp;omega
  ·rw[A4 _ _ e];have:(a == p)=false:=by simp[Ne.symm e]
   rw[this];simp;omega
 ·rcases List.mem_cons.1 hp with rfl|hp
  ·exact ha
  ·exact I.rin _ hp
 ·have:=I.nin q c hq
  refine ⟨this.1,this.2.1,?_⟩
  unfold fup;split<;>omega
theorem TInv.unref {a:Nat} (I:TInv n f N C (a::R)) (h:2≤C a):TInv n f N (fup C a (C a - 1)) R:=by
 refine ⟨fun p hp1 hp2=> ?_,fun p hp=>I.rin p (by simp[hp]),fun q c hq=> ?_,I.nds,I.hg⟩
 ·have:=I.cnt p hp1 hp2
  simp only[List.count_cons] at this
  by_cases e:p=a
  ·subst e;rw[Bx];simp at this;omega
  ·rw[A4 _ _ e];have h2:(a == p)=false:=by simp[Ne.symm e]
   rw[h2] at this;simpa using this
 ·have:=I.nin q c hq
  refine ⟨this.1,this.2.1,?_⟩
  unfold fup;split<;>omega
theorem TInv.drop {a:Nat} (I:TInv n f N C (a::R)) (h:C a=1) (hN:∀ d,N a≠some (.nd d)):TInv n f (fup N a none) (fup C a 0) R∧∀ q d,N q=some (.nd d)→a∉vals d.es:=by
  have hno:∀ q d,N q=some (.nd d)→a∉vals d.es:=fun q d hq=>I.noref (by simp[h]) hq
  have hr:=I.rin a (by simp)
  have he:∀ p,Ec (N a) p=0:=fun p=>by
    unfold Ec;split
    · rename_i d hd;exact absurd hd (hN d)
    · rfl
  refine ⟨⟨fun p hp1 hp2=> ?_,fun p hp=>I.rin p (by simp[hp]),fun q c hq=> ?_,fun q c hq=> ?_,fun q c hq=> ?_⟩,hno⟩
  · have:=I.cnt p hp1 hp2
    have h2:=Fb N p a none n hr.2
    rw[he p] at h2
    simp only[Ec] at h2
    simp only[List.count_cons] at this
    by_cases e:p=a
    · subst e;rw[Bx];simp at this;omega
    · rw[A4 _ _ e];have h3:(a == p)=false:=by simp[Ne.symm e]
      rw[h3] at this;simp at this;omega
  all_goals
    by_cases e:q=a
    · subst e;rw[Bx] at hq;cases hq
    · rw[A4 _ _ e] at hq
      first
        | (rw[A4 _ _ e];exact I.nin q c hq)
        | exact I.nds q c hq
        | (obtain ⟨h,lo,hi,m,L,t⟩:=I.hg q c hq
           exact ⟨h,lo,hi,m,L,t.fup hno e⟩)
end
/-! ### entries by key -/
def putE (k:Int) (v:Nat):List E→List E
 | []=>[(k,v)]
 | e::t=>if e.1<k then e::putE k v t else if e.1=k then (k,v)::t else (k,v)::e::t
def Bt (k:Int) (es:List E):List E:=es.filter (fun e=>decide (e.1≠k))
def Co (k:Int) (es:List E):Prop:=∃ v,(k,v)∈es
theorem Srt.cons {e:E} {t:List E} :Srt (e::t)↔(∀ x∈t,e.1<x.1)∧Srt t:=List.pairwise_cons
theorem Srt.app {A B:List E} :Srt (A++B)↔Srt A∧Srt B∧∀ a∈A,∀ b∈B,a.1<b.1:=List.pairwise_append
theorem putE_mem {k:Int} {v:Nat} {es:List E} (h:Srt es) (x:E):x∈putE k v es↔x=(k,v)∨(x∈es∧x.1≠k):=by
 induction es with
 | nil=>simp[putE]
 | cons e t ih=>
  obtain ⟨h1,h2⟩:=Srt.cons.1 h
  simp only[putE]
  split
  ·rename_i hlt
   rw[List.mem_cons,ih h2,List.mem_cons]
   constructor
   ·rintro (rfl|rfl|⟨a,b⟩)
    ·exact .inr ⟨.inl rfl,by omega⟩
    ·exact .inl rfl
    ·exact .inr ⟨.inr a,b⟩
   ·rintro (rfl|⟨rfl|a,b⟩)
    ·exact .inr (.inl rfl)
    ·exact .inl rfl
    ·exact .inr (.inr ⟨a,b⟩)
  ·split
   ·rename_i h3 h4
    rw[List.mem_cons,List.mem_cons]
    constructor
    ·rintro (rfl|a)
     ·exact .inl rfl
     ·exact .inr ⟨.inr a,by have:=h1 x a;omega⟩
    ·rintro (rfl|⟨rfl|a,b⟩)
     ·exact .inl rfl
     ·exact absurd h4 b
     ·exact .inr a
   ·rename_i h3 h4
    rw[List.mem_cons,List.mem_cons]
    constructor
    ·rintro (rfl|rfl|a)
     ·exact .inl rfl
     ·exact .inr ⟨.inl rfl,h4⟩
     ·exact .inr ⟨.inr a,by have:=h1 x a;omega⟩
    ·rintro (rfl|⟨rfl|a,b⟩)
     ·exact .inl rfl
     ·exact .inr (.inl rfl)
     ·exact .inr (.inr a)
theorem IX {k:Int} {v:Nat} {es:List E} (h:Srt es):Srt (putE k v es):=by
 induction es with
 | nil=>simp[putE,Srt]
 | cons e t ih=>
  obtain ⟨h1,h2⟩:=Srt.cons.1 h
  simp only[putE]
  split
  ·refine Srt.cons.2 ⟨fun x hx=> ?_,ih h2⟩
   rcases (putE_mem h2 x).1 hx with rfl|⟨a,_⟩
   ·assumption
   ·exact h1 x a
  ·split
   ·exact Srt.cons.2 ⟨fun x hx=>by have:=h1 x hx;dsimp only;omega,h2⟩
   ·refine Srt.cons.2 ⟨fun x hx=> ?_,h⟩
    rcases List.mem_cons.1 hx with rfl|hx
    ·dsimp only;omega
    ·have:=h1 x hx;dsimp only;omega
theorem putE_lt {k:Int} {v:Nat} {A:List E} (B:List E) (h:∀ e∈A,e.1<k):putE k v (A++B)=A++putE k v B:=by
 induction A with
 | nil=>rfl
 | cons e t ih=>simp only[List.cons_append,putE];rw[if_pos (h e (by simp)),ih (fun x hx=>h x (by simp[hx]))]
theorem KZ {k:Int} {v:Nat} {B:List E} (h:∀ e∈B,k<e.1):putE k v B=(k,v)::B:=by
 cases B with
 | nil=>rfl
 | cons e t=>have:=h e (by simp);simp only[putE];rw[if_neg (by omega),if_neg (by omega)]
theorem OE {k:Int} {v:Nat} (A:List E) {B:List E} (h:∀ e∈B,k<e.1):putE k v (A++B)=putE k v A++B:=by
 induction A with
 | nil=>simp only[List.nil_append];rw[KZ h];rfl
 | cons e t ih=>
  simp only[List.cons_append,putE]
  split
  ·rw[ih];rfl
  ·split<;>rfl
theorem putE_new {k:Int} {v:Nat} {A B:List E} (h1:∀ e∈A,e.1<k) (h2:∀ e∈B,k<e.1):putE k v (A++B)=A++(k,v)::B:=by
 rw[putE_lt B h1,KZ h2]
theorem Dz {k:Int} {v w:Nat} {A:List E} (B:List E) (h1:∀ e∈A,e.1<k):putE k v (A++(k,w)::B)=A++(k,v)::B:=by
 rw[putE_lt _ h1];simp[putE]
theorem IY (k:Int) (A B:List E):Bt k (A++B)=Bt k A++Bt k B:=List.filter_append ..
theorem FJ {k:Int} {A:List E} (h:∀ e∈A,e.1≠k):Bt k A=A:=by
 refine List.filter_eq_self.2 (fun e he=>decide_eq_true (h e he))
theorem Kj {k:Int} {v:Nat} {A B:List E} (h:Srt (A++(k,v)::B)):Bt k (A++(k,v)::B)=A++B:=by
 obtain ⟨h1,h2,h3⟩:=Srt.app.1 h
 obtain ⟨h4,h5⟩:=Srt.cons.1 h2
 rw[IY,FJ (fun e he=>by have:=h3 e he (k,v) (by simp);dsimp only at this;omega)]
 congr 1
 have:Bt k ((k,v)::B)=Bt k B:=by simp[Bt]
 rw[this,FJ (fun e he=>by have:=h4 e he;dsimp only at this;omega)]
theorem key_split {es:List E} (h:Srt es) (k:Int):(∃ A v B,es=A++(k,v)::B∧∀ e∈A,e.1<k)∨(¬ Co k es∧∃ A B,es=A++B∧(∀ e∈A,e.1<k)∧∀ e∈B,k<e.1):=by
 induction es with
 | nil=>exact .inr ⟨by simp[Co],[],[],rfl,by simp,by simp⟩
 | cons e t ih=>
  obtain ⟨h1,h2⟩:=Srt.cons.1 h
  rcases Int.lt_trichotomy e.1 k with q|q|q
  ·rcases ih h2 with ⟨A,v,B,rfl,h3⟩|⟨h3,A,B,rfl,h4,h5⟩
   ·exact .inl ⟨e::A,v,B,rfl,fun x hx=>by rcases List.mem_cons.1 hx with rfl|hx;exact q;exact h3 x hx⟩
   ·refine .inr ⟨?_,e::A,B,rfl,fun x hx=>by rcases List.mem_cons.1 hx with rfl|hx;exact q;exact h4 x hx,h5⟩
    rintro ⟨v,hv⟩
    rcases List.mem_cons.1 hv with rfl|hv
    ·dsimp only at q;omega
    ·exact h3 ⟨v,hv⟩
  ·obtain ⟨a,v⟩:=e
   dsimp only at q;subst q
   exact .inl ⟨[],v,t,rfl,by simp⟩
  ·refine .inr ⟨?_,[],e::t,rfl,by simp,fun x hx=> ?_⟩
   ·rintro ⟨v,hv⟩
    rcases List.mem_cons.1 hv with rfl|hv
    ·dsimp only at q;omega
    ·have:=h1 _ hv;dsimp only at this;omega
   ·rcases List.mem_cons.1 hx with rfl|hx
    ·exact q
    ·have:=h1 x hx;omega
theorem Rl (A B:List E) (hi:Int):nx (A++B) hi=nx A (nx B hi):=by cases A<;>rfl
theorem Zj {es:List E} {hi hi':Int} (h:hi≤hi'):nx es hi≤nx es hi':=by cases es<;>simp[nx,h]
theorem Sq.app {P:Nat→Int→Int→List E→Prop} {A B:List E} {hi:Int} {L:List E} :Sq P (A++B) hi L↔∃ L1 L2,L=L1++L2∧Sq P A (nx B hi) L1∧Sq P B hi L2:=by
 induction A generalizing L with
 | nil=>
  simp only[List.nil_append,Sq]
  exact ⟨fun h=>⟨[],L,rfl,rfl,h⟩,fun ⟨L1,L2,h1,h2,h3⟩=>by subst h1 h2;exact h3⟩
 | cons e t ih=>
  simp only[List.cons_append,Sq]
  constructor
  ·rintro ⟨L1,L2,rfl,h2,h3⟩
   obtain ⟨M1,M2,rfl,h4,h5⟩:=ih.1 h3
   exact ⟨L1++M1,M2,by simp,⟨L1,M1,rfl,by rw[←Rl];exact h2,h4⟩,h5⟩
  ·rintro ⟨_,M2,rfl,⟨L1,M1,rfl,h2,h4⟩,h5⟩
   exact ⟨L1,M1++M2,by simp,by rw[Rl];exact h2,ih.2 ⟨M1,M2,rfl,h4,h5⟩⟩
theorem Bd.app {N:Hm} {h:Nat} {A B:List E} {hi:Int} {L:List E} :Bd N h (A++B) hi L↔∃ L1 L2,L=L1++L2∧Bd N h A (nx B hi) L1∧Bd N h B hi L2:=by
 cases h with
 | zero=>
  constructor
  ·rintro ⟨rfl,h⟩
   exact ⟨A,B,rfl,⟨rfl,fun e he=>h e (by simp[he])⟩,⟨rfl,fun e he=>h e (by simp[he])⟩⟩
  ·rintro ⟨_,_,rfl,⟨rfl,h1⟩,⟨rfl,h2⟩⟩
   refine ⟨rfl,fun e he=> ?_⟩
   rcases List.mem_append.1 he with he|he
   ·exact h1 e he
   ·exact h2 e he
 | succ h=>exact Sq.app
theorem Bd.hi {N:Hm} {h:Nat} {es:List E} {hi hi':Int} {L:List E} (b:Bd N h es hi L) (hh:hi≤hi'):Bd N h es hi' L:=by
 cases h with
 | zero=>exact b
 | succ h=>
  induction es generalizing L with
  | nil=>exact b
  | cons e t ih=>
   obtain ⟨L1,L2,h1,h2,h3⟩:=b
   exact ⟨L1,L2,h1,h2.mono (Int.le_refl _) (Zj hh) (Nat.le_refl _),ih h3⟩
theorem Bd.fup {N:Hm} {a:Nat} {o:Option Pc} (hno:∀ q d,N q=some (.nd d)→a∉vals d.es) {h:Nat} {es:List E} {hi:Int} {L:List E} (ha:a∉vals es) (b:Bd N h es hi L):Bd (fup N a o) h es hi L:=by
 cases h with
 | zero=>exact ⟨b.1,fun e he=>by rw[A4 _ _ (fun q=>ha (by rw[←q];exact List.mem_map_of_mem he))];exact b.2 e he⟩
 | succ h=>exact Sq.imp b fun e he _ _ q=>q.fup hno (fun q=>ha (by rw[←q];exact List.mem_map_of_mem he))
theorem Sq.srt {P:Nat→Int→Int→List E→Prop} {es:List E} {hi:Int} {L:List E} (h:Sq P es hi L) (hs:Srt es) (hr:∀ e∈es,e.1<hi) (hP:∀ e∈es,∀ b L,P e.2 e.1 b L→Srt L∧BG e.1 b L):Srt L∧BG (nx es hi) hi L∧nx es hi≤hi:=by
 induction es generalizing L with
 | nil=>subst h;exact ⟨by simp[Srt],by simp[BG],Int.le_refl _⟩
 | cons e t ih=>
  obtain ⟨L1,L2,rfl,h2,h3⟩:=h
  obtain ⟨s1,s2⟩:=Srt.cons.1 hs
  obtain ⟨a1,a2,a3⟩:=ih h3 s2 (fun x hx=>hr x (by simp[hx])) (fun x hx=>hP x (by simp[hx]))
  obtain ⟨b1,b2⟩:=hP e (by simp) _ _ h2
  have hn:e.1≤nx t hi:=by
   cases t with
   | nil=>have:=hr e (by simp);simp only[nx];omega
   | cons x t=>have:=s1 x (by simp);simp only[nx];omega
  refine ⟨Srt.app.2 ⟨b1,a1,fun x hx y hy=>by have:=b2 x hx;have:=a2 y hy;omega⟩,fun x hx=> ?_,by have:=hr e (by simp);simp only[nx];omega⟩
  simp only[nx]
  rcases List.mem_append.1 hx with hx|hx
  ·have:=b2 x hx;omega
  ·have:=a2 x hx;omega
theorem Tr.srt {N:Hm} {h r:Nat} {lo hi:Int} {m:Nat} {L:List E} (t:Tr N h r lo hi m L):Srt L∧BG lo hi L:=by
 induction h generalizing r lo hi m L with
 | zero=>
  obtain ⟨es,_,_,h3,h4,rfl,_⟩:=t
  exact ⟨h4.srt,h3⟩
 | succ h ih=>
  obtain ⟨es,_,_,h3,h4,h5⟩:=t
  have:=Sq.srt h5 h4.srt (fun e he=>(h3 e he).2) (fun e he b L q=>ih q)
  refine ⟨this.1,fun x hx=> ?_⟩
  have hx2:=this.2.1 x hx
  cases es with
  | nil=>exact absurd rfl (h4.ne rfl)
  | cons e t=>have:=h3 e (by simp);simp only[nx] at hx2;omega
theorem Tr.uniq {N:Hm} {h h' r:Nat} {lo hi lo' hi':Int} {m m':Nat} {L L':List E} (t:Tr N h r lo hi m L) (t':Tr N h' r lo' hi' m' L'):h=h'∧L=L':=by
 induction h generalizing h' r lo hi lo' hi' m m' L L' with
 | zero=>
  obtain ⟨es,h1,_,_,_,rfl,_⟩:=t
  cases h' with
  | zero=>
   obtain ⟨es',h1',_,_,_,rfl,_⟩:=t'
   rw[h1] at h1';cases h1';exact ⟨rfl,rfl⟩
  | succ h'=>
   obtain ⟨es',h1',_⟩:=t'
   rw[h1] at h1';cases h1'
 | succ h ih=>
  obtain ⟨es,h1,_,_,h4,h5⟩:=t
  cases h' with
  | zero=>
   obtain ⟨es',h1',_⟩:=t'
   rw[h1] at h1';cases h1'
  | succ h'=>
   obtain ⟨es',h1',_,_,_,h5'⟩:=t'
   rw[h1] at h1';cases h1'
   have key:∀ es (L L':List E),Sq (fun c a b L=>Tr N h c a b 4 L) es hi L→Sq (fun c a b L=>Tr N h' c a b 4 L) es hi' L'→(es≠[]→h=h')∧L=L':=by
    intro es
    induction es with
    | nil=>intro L L' a b;exact ⟨fun q=>absurd rfl q,a.trans b.symm⟩
    | cons e t ih2=>
     rintro _ _ ⟨L1,L2,rfl,a2,a3⟩ ⟨M1,M2,rfl,b2,b3⟩
     obtain ⟨q1,rfl⟩:=ih a2 b2
     obtain ⟨_,rfl⟩:=ih2 _ _ a3 b3
     exact ⟨fun _=>q1,rfl⟩
   obtain ⟨a,b⟩:=key es L L' h5 h5'
   exact ⟨by rw[a (h4.ne rfl)],b⟩
/-! ### a key's way down -/
def Ym (es:List E) (k:Int):Nat:=(es.takeWhile fun e=>decide (e.1≤k)).length - 1
theorem F6 {es:List E} (h:Srt es) (k:Int):∃ A B,es=A++B∧(es.takeWhile fun e=>decide (e.1≤k))=A∧(∀ e∈A,e.1≤k)∧∀ e∈B,k<e.1:=by
 induction es with
 | nil=>exact ⟨[],[],rfl,rfl,by simp,by simp⟩
 | cons e t ih=>
  obtain ⟨h1,h2⟩:=Srt.cons.1 h
  by_cases q:e.1≤k
  ·obtain ⟨A,B,rfl,a,b,c⟩:=ih h2
   refine ⟨e::A,B,rfl,?_,fun x hx=> ?_,c⟩
   ·rw[List.takeWhile_cons,if_pos (decide_eq_true q),a]
   ·rcases List.mem_cons.1 hx with rfl|hx
    ·exact q
    ·exact b x hx
  ·refine ⟨[],e::t,rfl,?_,by simp,fun x hx=> ?_⟩
   ·rw[List.takeWhile_cons,if_neg (by simpa using q)]
   ·rcases List.mem_cons.1 hx with rfl|hx
    ·omega
    ·have:=h1 x hx;omega
theorem NJ {es:List E} (h:Srt es) (hne:es≠[]) (k:Int):∃ A e B,es=A++e::B∧A.length=Ym es k∧(A=[]∨e.1≤k)∧(∀ x∈A,x.1<e.1)∧∀ x∈B,k<x.1∧e.1<x.1:=by
 obtain ⟨A,B,e1,e2,h1,h2⟩:=F6 h k
 unfold Ym
 rw[e2]
 rcases List.eq_nil_or_concat A with rfl|⟨A',e,rfl⟩
 ·obtain ⟨e,t,rfl⟩:=List.exists_cons_of_ne_nil hne
  simp only[List.nil_append] at e1;subst e1
  exact ⟨[],e,t,rfl,rfl,.inl rfl,by simp,fun x hx=>⟨h2 x (by simp[hx]),(Srt.cons.1 h).1 x hx⟩⟩
 ·subst e1
  rw[List.concat_eq_append] at h h1 ⊢
  rw[List.append_assoc] at h
  obtain ⟨_,s2,s3⟩:=Srt.app.1 h
  refine ⟨A',e,B,by simp,by simp,.inr (h1 e (by simp)),fun x hx=>s3 x hx e (by simp),fun x hx=>⟨h2 x hx,(Srt.cons.1 s2).1 x hx⟩⟩
theorem UH {B:List E} {hi k:Int} (h:∀ x∈B,k<x.1) (hk:k<hi):k<nx B hi:=by
 cases B with
 | nil=>exact hk
 | cons e t=>exact h e (by simp)
theorem PA {B:List E} {hi:Int} (h:∀ x∈B,x.1<hi):nx B hi≤hi:=by
 cases B with
 | nil=>exact Int.le_refl _
 | cons e t=>exact Int.le_of_lt (h e (by simp))
theorem Sq.at {P:Nat→Int→Int→List E→Prop} {A B:List E} {e:E} {hi:Int} {L:List E} (h:Sq P (A++e::B) hi L):∃ L0 Lc L2,L=L0++(Lc++L2)∧Sq P A e.1 L0∧P e.2 e.1 (nx B hi) Lc∧Sq P B hi L2:=by
 obtain ⟨L0,L3,rfl,h1,L1,L2,rfl,h2,h3⟩:=Sq.app.1 h
 exact ⟨L0,L1,L2,rfl,h1,h2,h3⟩
theorem Sq.mk {P:Nat→Int→Int→List E→Prop} {A B:List E} {e:E} {hi:Int} {L0 Lc L2:List E} (h1:Sq P A e.1 L0) (h2:P e.2 e.1 (nx B hi) Lc) (h3:Sq P B hi L2):Sq P (A++e::B) hi (L0++(Lc++L2)):=
 Sq.app.2 ⟨L0,_,rfl,h1,Lc,L2,rfl,h2,h3⟩
theorem Sq.nilK {P:Nat→Int→Int→List E→Prop} {A:List E} {a b:Int} {L:List E} (h:Sq P A a L) (q:A=[]∨a=b):Sq P A b L:=by
 rcases q with rfl|rfl
 ·exact h
 ·exact h
theorem Sq.sides {N:Hm} {h:Nat} {A B:List E} {e:E} {hi:Int} {L0 L2:List E} {k:Int} (hs:Srt (A++e::B)) (hr:∀ x∈A++e::B,x.1<hi) (h1:Sq (fun c a b L=>Tr N h c a b 4 L) A e.1 L0) (h3:Sq (fun c a b L=>Tr N h c a b 4 L) B hi L2)
  (hA:A=[]∨e.1≤k) (hB:∀ x∈B,k<x.1) (hk:k<hi):(∀ x∈L0,x.1<k)∧∀ x∈L2,k<x.1:=by
 obtain ⟨s1,s2,s3⟩:=Srt.app.1 hs
 have a1:=Sq.srt h1 s1 (fun x hx=>s3 x hx e (by simp)) (fun _ _ _ _ q=>Tr.srt q)
 have a3:=Sq.srt h3 (Srt.cons.1 s2).2 (fun x hx=>hr x (by simp[hx])) (fun _ _ _ _ q=>Tr.srt q)
 refine ⟨fun x hx=> ?_,fun x hx=> ?_⟩
 ·rcases hA with rfl|hA
  ·simp only[Sq] at h1;subst h1;simp at hx
  ·have:=a1.2.1 x hx;omega
 ·have:=a3.2.1 x hx
  have:=UH hB hk
  omega
/-! ### halves -/
theorem Nc {es:List E} (hs:Srt es) (h8:es.length=8) {k:Int} {v:Nat} (hk:¬ Co k es):
  ∃ a b,putE k v es=a++b∧4≤a.length∧a.length≤5∧4≤b.length∧b.length≤5∧(nx (es.drop 4) 0≤k→a=es.take 4∧b=putE k v (es.drop 4))∧(k<nx (es.drop 4) 0→a=putE k v (es.take 4)∧b=es.drop 4):=by
 have hsp:=List.take_append_drop 4 es
 have hs':=hs
 rw[←hsp] at hs'
 obtain ⟨s1,s2,s3⟩:=Srt.app.1 hs'
 have hlen:∀ xs:List E,Srt xs→¬ Co k xs→(putE k v xs).length=xs.length+1:=fun xs s q=>by
  rcases key_split s k with ⟨A,w,B,rfl,_⟩|⟨_,A,B,rfl,h1,h2⟩
  ·exact absurd ⟨w,by simp⟩ q
  ·rw[putE_new h1 h2];simp;omega
 have n1:¬ Co k (es.take 4):=fun ⟨w,hw⟩=>hk ⟨w,List.mem_of_mem_take hw⟩
 have n2:¬ Co k (es.drop 4):=fun ⟨w,hw⟩=>hk ⟨w,List.mem_of_mem_drop hw⟩
 have l1:=hlen _ s1 n1
 have l2:=hlen _ s2 n2
 have l3:(es.take 4).length=4:=by rw[List.length_take];omega
 have l4:(es.drop 4).length=4:=by rw[List.length_drop];omega
 obtain ⟨y,t,e⟩:∃ y t,es.drop 4=y::t:=List.exists_cons_of_ne_nil (by intro q;rw[q] at l4;simp at l4)
 by_cases q:nx (es.drop 4) 0≤k
 ·refine ⟨es.take 4,putE k v (es.drop 4),?_,by omega,by omega,by omega,by omega,fun _=>⟨rfl,rfl⟩,fun r=>absurd q (by omega)⟩
  rw[←putE_lt _ (fun x hx=> ?_),hsp]
  rw[e] at q;simp only[nx] at q
  have:=s3 x hx y (by rw[e];simp);omega
 ·refine ⟨putE k v (es.take 4),es.drop 4,?_,by omega,by omega,by omega,by omega,fun r=>absurd r q,fun _=>⟨rfl,rfl⟩⟩
  rw[←OE _ (fun x hx=> ?_),hsp]
  rw[e] at q hx s2;simp only[nx] at q
  rcases List.mem_cons.1 hx with rfl|hx
  ·omega
  ·have:=(Srt.cons.1 s2).1 x hx;omega
theorem Nf {lo hi:Int} {a b:List E} (hs:Srt (a++b)) (hr:BG lo hi (a++b)) (ha:a≠[]) (hb:b≠[]):BG lo (nx b hi) a∧BG (nx b hi) hi b∧lo<nx b hi∧nx b hi<hi:=by
 obtain ⟨s1,s2,s3⟩:=Srt.app.1 hs
 obtain ⟨y,t,rfl⟩:=List.exists_cons_of_ne_nil hb
 obtain ⟨x,u,rfl⟩:=List.exists_cons_of_ne_nil ha
 simp only[nx]
 refine ⟨fun z hz=>⟨(hr z (List.mem_append_left _ hz)).1,s3 z hz y (by simp)⟩,fun z hz=>⟨?_,(hr z (List.mem_append_right _ hz)).2⟩,?_,(hr y (by simp)).2⟩
 ·rcases List.mem_cons.1 hz with rfl|hz
  ·exact Int.le_refl _
  ·exact Int.le_of_lt ((Srt.cons.1 s2).1 z hz)
 ·have:=s3 x (by simp) y (by simp)
  have:=(hr x (by simp)).1
  omega
end
section
open Go.RowKit
variable {Tb:Ae}
abbrev kL (es:List E):List Int:=es.map Prod.fst
abbrev vL (es:List E):List Int:=es.map fun e=>(e.2:Int)
def Ey (d:Nd):Pg:=⟨if d.lf then 4 else 3,Gj d.lf (kL d.es) (vL d.es)⟩
def Kk:Pc→Pg
 | .nd d=>Ey d
 | .dt b=>⟨5,b⟩
theorem Im {d:Nd} (h:d.es.length≤8):(Ey d).Ok:=by
 refine ⟨?_,VM (by simp) (by simpa using h)⟩
 unfold Ey;dsimp only;split<;>omega
structure TS where
 N:Hm
 C:Nat→Nat
 F:Nat→Bool
 k:Nat
structure TB where
 N:Hm
 C:Nat→Nat
 R:List Nat
abbrev TT:=Option (TS×List Nat)
structure Rel (n:Nat) (M:Nat→Pg) (N:Hm) (C:Nat→Nat) (R:List Nat):Prop where
 m:∀ p c,N p=some c→M p=Kk c∧(Kk c).Ok
 i:TInv n (manyN n+1) N C R
def trA (Tb:Ae) (pp mb n:Nat) (o:TB):TT→Ae
 | none=>fun h=>∃ M0,Rel n M0 o.N o.C o.R∧poA Tb pp mb n M0 o.C none h
 | some s=>fun h=>∃ M0 M,(Rel n M0 o.N o.C o.R∧Rel n M s.1.N s.1.C s.2)∧poA Tb pp mb n M0 o.C (some ⟨M,s.1.C,s.1.F,s.1.k⟩) h
def C3 (o:TB):TT→Hm
 | none=>o.N
 | some s=>s.1.N
def curC (o:TB):TT→Nat→Nat
 | none=>o.C
 | some s=>s.1.C
def TJ (n:Nat) (o:TB):TT→Nat→Bool
 | none=>AS n o.C
 | some s=>s.1.F
def Cs (o:TB):TT→List Nat
 | none=>o.R
 | some s=>s.2
variable {z w:World} {Γ:List Ae} {pp mb n:Nat} {o:TB} {t t':TS} {R:List Nat} {T:TT}
structure TrK (n:Nat) (o:TB) (T:TT):Prop where
 hn:16≤n∧n≤1024
 i:TInv n (manyN n+1) (C3 o T) (curC o T) (Cs o T)
 one:∀ p,p≤manyN n→curC o T p=1
 fr:∀ p,TJ n o T p=true→p<n∧curC o T p=0∧manyN n<p
theorem trA.k {h:Hp} (a:trA Tb pp mb n o T h):TrK n o T:=by
 cases T with
 | none=>
  obtain ⟨M0,hr,a⟩:=a
  have hn:=a.hn
  refine ⟨hn,hr.i,a.c0.2,fun p hp=> ?_⟩
  have hp':AS n o.C p=true:=hp
  simp[AS] at hp'
  refine ⟨hp'.1,hp'.2,?_⟩
  rcases Nat.lt_or_ge (manyN n) p with q|q
  ·exact q
  ·have:=a.c0.2 p q;omega
 | some s=>
  obtain ⟨M0,M,hr,a⟩:=a
  exact ⟨a.hn,hr.2.i,a.k.one,a.k.free⟩
theorem trA.perm {R':List Nat} {h:Hp} (hp:R.Perm R') (a:trA Tb pp mb n o (some (t,R)) h):trA Tb pp mb n o (some (t,R')) h:=by
 obtain ⟨M0,M,hr,a⟩:=a
 exact ⟨M0,M,⟨hr.1,⟨hr.2.m,hr.2.i.perm hp⟩⟩,a⟩
theorem trA.opens {a:Nat} {d:Nd} {h:Hp} (x:trA Tb pp mb n o (some (t,a::R)) h) (h1:t.C a=1) (hN:t.N a=some (.nd d)):trA Tb pp mb n o (some ({ t with N:=fup t.N a none },a::(vals d.es++R))) h:=by
 obtain ⟨M0,M,hr,x⟩:=x
 refine ⟨M0,M,⟨hr.1,⟨fun p c hp=> ?_,(hr.2.i.opens h1 hN).1⟩⟩,x⟩
 have hp:fup t.N a none p=some c:=hp
 by_cases e:p=a
 ·subst e;rw[Bx] at hp;cases hp
 ·rw[A4 _ _ e] at hp;exact hr.2.m p c hp
theorem Sep.tr1 (H:Sep z (trA Tb pp mb n o (some (t,R))::Γ) w):∃ x:(Nat→Pg)×(Nat→Pg),(Rel n x.1 o.N o.C o.R∧Rel n x.2 t.N t.C R)∧Sep z (poA Tb pp mb n x.1 o.C (some ⟨x.2,t.C,t.F,t.k⟩)::Γ) w:=by
 obtain ⟨⟨x,hp⟩,hx⟩:=H.ex 0 (σ:= { x:(Nat→Pg)×(Nat→Pg) // Rel n x.1 o.N o.C o.R∧Rel n x.2 t.N t.C R }) (B:=fun x=>poA Tb pp mb n x.1.1 o.C (some ⟨x.1.2,t.C,t.F,t.k⟩)) rfl (fun h q=>by
  obtain ⟨M0,M,hr,a⟩:=q;exact ⟨⟨(M0,M),hr⟩,a⟩)
 exact ⟨x,hp,hx⟩
theorem Sep.toTr1 {M0 M:Nat→Pg} {C:Nat→Nat} {F:Nat→Bool} {k:Nat} (H:Sep z (poA Tb pp mb n M0 o.C (some ⟨M,C,F,k⟩)::Γ) w) (h0:Rel n M0 o.N o.C o.R) {N:Hm} (h1:Rel n M N C R):Sep z (trA Tb pp mb n o (some (⟨N,C,F,k⟩,R))::Γ) w:=
 H.mono 0 (B:=trA Tb pp mb n o (some (⟨N,C,F,k⟩,R))) rfl (fun h a=>⟨M0,M,⟨h0,h1⟩,a⟩)
theorem Sep.tr0 (H:Sep z (trA Tb pp mb n o none::Γ) w):∃ M0,Rel n M0 o.N o.C o.R∧Sep z (poA Tb pp mb n M0 o.C none::Γ) w:=by
 obtain ⟨⟨x,hp⟩,hx⟩:=H.ex 0 (σ:= { x:Nat→Pg // Rel n x o.N o.C o.R }) (B:=fun x=>poA Tb pp mb n x.1 o.C none) rfl (fun h q=>by
  obtain ⟨M0,hr,a⟩:=q;exact ⟨⟨M0,hr⟩,a⟩)
 exact ⟨x,hp,hx⟩
theorem Sep.toTr0 {M0:Nat→Pg} (H:Sep z (poA Tb pp mb n M0 o.C none::Γ) w) (h0:Rel n M0 o.N o.C o.R):Sep z (trA Tb pp mb n o none::Γ) w:=
 H.mono 0 (B:=trA Tb pp mb n o none) rfl (fun h a=>⟨M0,h0,a⟩)
theorem OF (pp mb n:Nat) (o:TB):Cn prog 12 [Pt_ pp] [trA Tb pp mb n o none] (fun v Γ=>v=Iv_ 0∧Γ=[trA Tb pp mb n o (some (⟨o.N,o.C,AS n o.C,0⟩,o.R))]):=by
 intro z R w H
 obtain ⟨M0,hr,H⟩:=H.tr0
 refine Ret.mono (Cn.at (Wr pp mb n M0 o.C) H 1 [0] rfl rfl) ?_
 rintro v w' ⟨Γ',⟨rfl,rfl⟩,H'⟩
 exact ⟨_,⟨rfl,rfl⟩,Sep.toTr1 (C:=o.C) (F:=AS n o.C) (k:=0) (M:=M0) H' hr hr⟩
theorem Cw (pp mb n:Nat) (o:TB) (s:TS×List Nat):Cn prog 25 [Pt_ pp] [trA Tb pp mb n o (some s)] (fun v Γ=>v= .tuple #[]∧Γ=[trA Tb pp mb n o none]):=by
 obtain ⟨t,R⟩:=s
 intro z R w H
 obtain ⟨⟨M0,M⟩,hr,H⟩:=H.tr1
 refine Ret.mono (Cn.at (Ws pp mb n M0 o.C ⟨M,t.C,t.F,t.k⟩) H 1 [0] rfl rfl) ?_
 rintro v w' ⟨Γ',⟨rfl,rfl⟩,H'⟩
 exact ⟨_,⟨rfl,rfl⟩,Sep.toTr0 H' hr.1⟩
theorem Hf (pp mb n:Nat) (o:TB) (t:TS) (R:List Nat) (hk:t.k+manyN n≤40) (hm:mb≤1000000000):Cn prog 14 [Pt_ pp] [trA Tb pp mb n o (some (t,R))] (fun v Γ=>v=Iv_ 0∧Γ=[trA Tb pp (mb+2) n ⟨t.N,t.C,R⟩ none]):=by
 intro z R w H
 obtain ⟨⟨M0,M⟩,hr,H⟩:=H.tr1
 refine Ret.mono (Cn.at (TD pp mb n M0 o.C ⟨M,t.C,t.F,t.k⟩ hk hm) H 1 [0] rfl rfl) ?_
 rintro v w' ⟨Γ',⟨rfl,rfl⟩,H'⟩
 exact ⟨_,⟨rfl,rfl⟩,Sep.toTr0 (o:=⟨t.N,t.C,_⟩) H' hr.2⟩
theorem Sep.trP (H:Sep z (trA Tb pp mb n o T::Γ) w):∃ (M0:Nat→Pg) (u:Option PoT),(poC o.C u=curC o T∧UG n o.C u=TJ n o T∧u.isSome=T.isSome∧(∀ p c,C3 o T p=some c→ZZ M0 u p=Kk c∧(Kk c).Ok))∧Sep z (poA Tb pp mb n M0 o.C u::Γ) w∧∀ Γ' w',Sep z (poA Tb pp mb n M0 o.C u::Γ') w'→Sep z (trA Tb pp mb n o T::Γ') w':=by
 cases T with
 | none=>
  obtain ⟨M0,hr,H⟩:=H.tr0
  exact ⟨M0,none,⟨rfl,rfl,rfl,hr.m⟩,H,fun _ w' H'=>H'.toTr0 hr⟩
 | some s=>
  obtain ⟨t,R⟩:=s
  obtain ⟨⟨M0,M⟩,hr,H⟩:=H.tr1
  exact ⟨M0,some ⟨M,t.C,t.F,t.k⟩,⟨rfl,rfl,rfl,hr.2.m⟩,H,fun _ w' H'=>Sep.toTr1 (C:=t.C) (F:=t.F) (k:=t.k) H' hr.1 hr.2⟩
theorem Kl (pp mb n:Nat) (o:TB) (T:TT) (p:Nat) (hp:p<n):Cn prog 80 [Pt_ pp,Iv_ (p:Int)] [trA Tb pp mb n o T] (fun v Γ=>v=Iv_ (curC o T p:Int)∧Γ=[trA Tb pp mb n o T]):=by
 intro z R w H
 obtain ⟨M0,u,⟨hc,_⟩,H,back⟩:=H.trP
 refine Ret.mono (Cn.at (Wt pp mb n M0 o.C u p hp) H 1 [0] rfl rfl) ?_
 rintro v w' ⟨Γ',⟨rfl,rfl⟩,H'⟩
 exact ⟨_,⟨by rw[hc],rfl⟩,back _ _ H'⟩
theorem CC (pp mb n:Nat) (o:TB) (T:TT):Cn prog 18 [Pt_ pp] [trA Tb pp mb n o T] (fun v Γ=>v=Iv_ (cnt (TJ n o T) 0 1024:Int)∧Γ=[trA Tb pp mb n o T]):=by
 intro z R w H
 obtain ⟨M0,u,⟨_,hc,_⟩,H,back⟩:=H.trP
 refine Ret.mono (Cn.at (M9 pp mb n M0 o.C u) H 1 [0] rfl rfl) ?_
 rintro v w' ⟨Γ',⟨rfl,rfl⟩,H'⟩
 exact ⟨_,⟨by rw[hc],rfl⟩,back _ _ H'⟩
theorem Km (pp mb n:Nat) (o:TB) (T:TT):Cn prog 43 [Pt_ pp] [trA Tb pp mb n o T] (fun v Γ=>v= .bool T.isSome∧Γ=[trA Tb pp mb n o T]):=by
 intro z R w H
 obtain ⟨M0,u,⟨_,_,hc,_⟩,H,back⟩:=H.trP
 refine Ret.mono (Cn.at (Kh pp mb n M0 o.C u) H 1 [0] rfl rfl) ?_
 rintro v w' ⟨Γ',⟨rfl,rfl⟩,H'⟩
 exact ⟨_,⟨by rw[hc],rfl⟩,back _ _ H'⟩
/-! ### steps -/
structure St (t t':TS) (R:List Nat) (df dk:Nat):Prop where
 fr:∀ c∈R,∀ h lo hi m L,Tr t.N h c lo hi m L→Tr t'.N h c lo hi m L
 dt:∀ c∈R,∀ b,t.N c=some (.dt b)→t'.N c=some (.dt b)
 f1:∀ p,t'.F p=true→t.F p=true
 ev:∀ v b,t.F v=false→t'.N v=some (.dt b)→t.N v=some (.dt b)
 f:cnt t.F 0 1024≤cnt t'.F 0 1024+df
 k:t'.k≤t.k+dk
 op:∀ c∈R,t.N c=none→t.C c=1→t'.N c=none∧t'.C c=1
theorem St.trans {t1 t2 t3:TS} {R R1 R2:List Nat} {a b c d e f:Nat} (x:St t1 t2 R1 a b) (y:St t2 t3 R2 c d) (h1:∀ p∈R,p∈R1) (h2:∀ p∈R,p∈R2) (he:a+c≤e) (hf:b+d≤f):St t1 t3 R e f:=by
 refine ⟨fun c hc h lo hi m L q=>y.fr c (h2 c hc) _ _ _ _ _ (x.fr c (h1 c hc) _ _ _ _ _ q),fun c hc b q=>y.dt c (h2 c hc) b (x.dt c (h1 c hc) b q),fun p q=>x.f1 p (y.f1 p q),fun v b hv q=>x.ev v b hv (y.ev v b ?_ q),?_,?_,fun c hc a b=>by obtain ⟨a',b'⟩:=x.op c (h1 c hc) a b;exact y.op c (h2 c hc) a' b'⟩
 ·cases e:t2.F v with
  | false=>rfl
  | true=>have:=x.f1 v e;rw[hv] at this;cases this
 ·have:=x.f;have:=y.f;omega
 ·have:=x.k;have:=y.k;omega
theorem St.sub {R R':List Nat} {a b c d:Nat} (x:St t t' R a b) (h:∀ p∈R',p∈R) (h1:a≤c) (h2:b≤d):St t t' R' c d:=
 ⟨fun c hc=>x.fr c (h c hc),fun c hc=>x.dt c (h c hc),x.f1,x.ev,Nat.le_trans x.f (by omega),Nat.le_trans x.k (by omega),fun c hc=>x.op c (h c hc)⟩
theorem St.bd {R:List Nat} {a b:Nat} (x:St t t' R a b) {h:Nat} {es:List E} {hi:Int} {L:List E} (hv:∀ v∈vals es,v∈R) (q:Bd t.N h es hi L):Bd t'.N h es hi L:=by
 cases h with
 | zero=>exact ⟨q.1,fun e he=>by obtain ⟨b,hb⟩:=q.2 e he;exact ⟨b,x.dt _ (hv _ (List.mem_map_of_mem he)) b hb⟩⟩
 | succ h=>exact Sq.imp q fun e he _ _ r=>x.fr _ (hv _ (List.mem_map_of_mem he)) _ _ _ _ _ r
theorem St.one {a:Nat} {c:Option Pc} {C:Nat→Nat} {F:Nat→Bool} {k df dk:Nat} (hno:∀ q d,t.N q=some (.nd d)→a∉vals d.es) (hR:a∉R) (hc:∀ b,c≠some (.dt b)) (hF1:∀ p,F p=true→t.F p=true) (hF:cnt t.F 0 1024≤cnt F 0 1024+df) (hk:k≤t.k+dk) (hCC:∀ q∈R,t.N q=none→t.C q=1→C q=1):St t ⟨fup t.N a c,C,F,k⟩ R df dk:=by
 refine ⟨fun q hq h lo hi m L x=>x.fup hno (fun e=>hR (by rw[←e];exact hq)),fun q hq b x=> ?_,hF1,fun v b hv x=> ?_,hF,hk,fun q hq x y=>⟨?_,hCC q hq x y⟩⟩
 ·show fup t.N a c q=_
  rw[A4 _ _ (fun e=>hR (by rw[←e];exact hq))];exact x
 ·have x:fup t.N a c v=some (.dt b):=x
  by_cases e:v=a
  ·subst e;rw[Bx] at x;exact absurd x (hc b)
  ·rwa[A4 _ _ e] at x
 ·show fup t.N a c q=none
  rw[A4 _ _ (fun e=>hR (by rw[←e];exact hq))];exact x
theorem Hg {n f a:Nat} {N:Hm} {C:Nat→Nat} {R:List Nat} (I:TInv n f N C (a::R)) (h:C a=1):a∉R:=fun q=>by
 have hr:=I.rin a (by simp)
 have:=I.cnt a hr.1 hr.2
 rw[List.count_cons_self] at this
 have:=List.count_pos_iff.2 q;omega
theorem Rm {n f a:Nat} {N:Hm} {C:Nat→Nat} {R:List Nat} (I:TInv n f N C R) (h:C a=0):a∉R:=fun q=>by
 have:=I.pos q;omega
theorem Zk (pp mb n:Nat) (o:TB) (t:TS) (R:List Nat) (p:Nat) (hp:manyN n<p∧p<n) (hC:1≤t.C p) (hb:R.length+n<1000):
  Cn prog 13 [Pt_ pp,Iv_ (p:Int)] [trA Tb pp mb n o (some (t,R))] (fun v Γ=>v=Iv_ 0∧Γ=[trA Tb pp mb n o (some ({ t with C:=fup t.C p (t.C p+1) },p::R))]):=by
 intro z R' w H
 obtain ⟨⟨M0,M⟩,hr,H⟩:=H.tr1
 have:=hr.2.i.bound (p:=p) (by omega) hp.2
 refine Ret.mono (Cn.at (Zi pp mb n M0 o.C ⟨M,t.C,t.F,t.k⟩ p hp ⟨hC,by show t.C p<1000;omega⟩) H 1 [0] rfl rfl) ?_
 rintro v w' ⟨Γ',⟨rfl,rfl⟩,H'⟩
 exact ⟨_,⟨rfl,rfl⟩,Sep.toTr1 (C:=fup t.C p (t.C p+1)) (F:=t.F) (k:=t.k) H' hr.1 ⟨hr.2.m,hr.2.i.ref ⟨by omega,hp.2⟩⟩⟩
theorem OG (pp mb n:Nat) (o:TB) (t:TS) (R:List Nat) (p:Nat) (hC:2≤t.C p):
  Cn prog 84 [Pt_ pp,Iv_ (p:Int)] [trA Tb pp mb n o (some (t,p::R))] (fun v Γ=>v=Iv_ 0∧Γ=[trA Tb pp mb n o (some ({ t with C:=fup t.C p (t.C p - 1) },R))]):=by
 intro z R' w H
 obtain ⟨⟨M0,M⟩,hr,H⟩:=H.tr1
 have hp:=hr.2.i.rin p (by simp)
 refine Ret.mono (Cn.at (Wv pp mb n M0 o.C ⟨M,t.C,t.F,t.k⟩ p ⟨by omega,hp.2⟩ hC) H 1 [0] rfl rfl) ?_
 rintro v w' ⟨Γ',⟨rfl,rfl⟩,H'⟩
 exact ⟨_,⟨rfl,rfl⟩,Sep.toTr1 (C:=fup t.C p (t.C p - 1)) (F:=t.F) (k:=t.k) H' hr.1 ⟨hr.2.m,hr.2.i.unref hC⟩⟩
theorem Yn (pp mb n:Nat) (o:TB) (t:TS) (R:List Nat) (p:Nat) (hC:t.C p=1) (hN:∀ d,t.N p≠some (.nd d)):
  Cn prog 84 [Pt_ pp,Iv_ (p:Int)] [trA Tb pp mb n o (some (t,p::R))] (fun v Γ=>v=Iv_ 0∧Γ=[trA Tb pp mb n o (some ({ t with N:=fup t.N p none,C:=fup t.C p 0 },R))]):=by
 intro z R' w H
 obtain ⟨⟨M0,M⟩,hr,H⟩:=H.tr1
 have hp:=hr.2.i.rin p (by simp)
 refine Ret.mono (Cn.at (Yl pp mb n M0 o.C ⟨M,t.C,t.F,t.k⟩ p ⟨by omega,hp.2⟩ hC) H 1 [0] rfl rfl) ?_
 rintro v w' ⟨Γ',⟨rfl,rfl⟩,H'⟩
 refine ⟨_,⟨rfl,rfl⟩,Sep.toTr1 (C:=fup t.C p 0) (F:=t.F) (k:=t.k) H' hr.1 ⟨fun q c hq=> ?_,(hr.2.i.drop hC hN).1⟩⟩
 by_cases e:q=p
 ·subst e;rw[Bx] at hq;cases hq
 ·rw[A4 _ _ e] at hq;exact hr.2.m q c hq
theorem F7 (pp mb n:Nat) (o:TB) (t:TS) (R:List Nat) (p:Nat) (hN:∀ d,t.N p≠some (.nd d)):
  Cn prog 84 [Pt_ pp,Iv_ (p:Int)] [trA Tb pp mb n o (some (t,p::R))] (fun v Γ=>∃ t',(St t t' R 0 0∧(∀ q,q≠p→t'.N q=t.N q∧t'.C q=t.C q)∧t'.C p=t.C p - 1∧(t'.N p=t.N p∨t'.N p=none)∧t'.F=t.F)∧v=Iv_ 0∧Γ=[trA Tb pp mb n o (some (t',R))]):=by
 intro z R' w H
 have K:=H.says 0 rfl (fun h a=>trA.k a)
 have hpos:=K.i.pos (p:=p) (by simp[Cs])
 have hpos:1≤t.C p:=hpos
 rcases Nat.lt_or_ge (t.C p) 2 with h|h
 ·have h1:t.C p=1:=by omega
  refine Ret.mono (Cn.at (Yn pp mb n o t R p h1 hN) H 1 [0] rfl rfl) ?_
  rintro v w' ⟨Γ',⟨rfl,rfl⟩,H'⟩
  have hd:=(TInv.drop (show TInv n (manyN n+1) t.N t.C (p::R) from K.i) h1 hN).2
  refine ⟨_,⟨_,⟨St.one hd (Hg (show TInv n (manyN n+1) t.N t.C (p::R) from K.i) h1) (by simp) (fun _ q=>q) (by omega) (by omega) (fun q hq _ y=>by
   show fup t.C p 0 q=1
   rw[A4 _ _ (fun e=>Hg (show TInv n (manyN n+1) t.N t.C (p::R) from K.i) h1 (by rw[←e];exact hq))];exact y),fun q hq=>⟨A4 _ _ hq,A4 _ _ hq⟩,?_,.inr (Bx _ _ _),rfl⟩,rfl,rfl⟩,H'⟩
  show fup t.C p 0 p=t.C p - 1
  rw[Bx];omega
 ·refine Ret.mono (Cn.at (OG pp mb n o t R p h) H 1 [0] rfl rfl) ?_
  rintro v w' ⟨Γ',⟨rfl,rfl⟩,H'⟩
  refine ⟨_,⟨{ t with C:=fup t.C p (t.C p - 1) },⟨⟨fun _ _ _ _ _ _ _ q=>q,fun _ _ _ q=>q,fun _ q=>q,fun _ _ _ q=>q,Nat.le_refl _,Nat.le_refl _,fun c hc x y=>⟨x,?_⟩⟩,fun q hq=>⟨rfl,A4 _ _ hq⟩,Bx _ _ _,.inl rfl,rfl⟩,rfl,rfl⟩,H'⟩
  show fup t.C p (t.C p - 1) c=1
  rw[A4 _ _ (fun e=>by rw[e] at y;omega)];exact y
theorem Ng (pp mb n:Nat) (o:TB) (t:TS) (R R2:List Nat) (x:Pg) (hx:x.Ok) (bv:Value) (B:Ae) (hB:∀ h,B h→rdH 1 bv 240 (x.body.map u8) h) (hk:t.k<40) (c:Option Pc) (hc:∀ q,c=some q→x=Kk q)
  (hI:∀ a,manyN n<a→a<n→t.C a=0→TInv n (manyN n+1) (fup t.N a c) (fup t.C a 1) (a::R2)):
  Cn prog 44 [Pt_ pp,.agg #[Iv_ x.kind,bv]] [trA Tb pp mb n o (some (t,R)),B] (fun v Γ=>(cnt t.F 0 1024=0∧v= .tuple #[Iv_ 0,Iv_ 20]∧Γ=[trA Tb pp mb n o (some (t,R)),B])∨
   ∃ (a:Nat) (F:Nat→Bool) (k:Nat),((manyN n<a∧a<n)∧t.C a=0∧t.F a=true∧(∀ q,F q=true→t.F q=true)∧F a=false∧k≤t.k+1∧cnt t.F 0 1024=cnt F 0 1024+1)∧v= .tuple #[Iv_ (a:Int),Iv_ 0]∧Γ=[trA Tb pp mb n o (some (⟨fup t.N a c,fup t.C a 1,F,k⟩,a::R2)),B]):=by
 intro z R' w H
 have K:=H.says 0 rfl (fun h a=>trA.k a)
 obtain ⟨⟨M0,M⟩,hr,H⟩:=H.tr1
 refine Ret.mono (Cn.at (Ww pp mb n M0 o.C ⟨M,t.C,t.F,t.k⟩ x hx bv B hB hk) H 2 [0,1] rfl rfl) ?_
 rintro v w' ⟨Γ',(⟨h0,rfl,rfl⟩|⟨p,k2,⟨h1,h2,h3⟩,rfl,rfl⟩),H'⟩
 ·exact ⟨_,.inl ⟨h0,rfl,rfl⟩,Sep.toTr1 (C:=t.C) (F:=t.F) (k:=t.k) H' hr.1 hr.2⟩
 ·have hf:=K.fr p h1
  have hC:t.C p=0:=hf.2.1
  have hcnt:cnt (CS t.F p) 0 1024+1=cnt t.F 0 1024:=h3
  refine ⟨_,.inr ⟨p,CS t.F p,k2,⟨⟨hf.2.2,hf.1⟩,hC,h1,fun q hq=> ?_,?_,h2,by rw[←hcnt]⟩,rfl,rfl⟩,Sep.toTr1 (C:=fup t.C p 1) (F:=CS t.F p) (k:=k2) (N:=fup t.N p c) H' hr.1 ⟨fun q' c' hq'=> ?_,hI p hf.2.2 hf.1 hC⟩⟩
  ·unfold CS at hq;simp at hq;exact hq.1
  ·unfold CS;simp
  ·by_cases e:q'=p
   ·subst e;rw[Bx] at hq' ⊢
    rw[hc c' hq'] at hx ⊢
    exact ⟨rfl,hx⟩
   ·rw[A4 _ _ e] at hq' ⊢;exact hr.2.m q' c' hq'
theorem WA (pp mb n:Nat) (o:TB) (t:TS) (R R2:List Nat) (a:Nat) (x:Pg) (hx:x.Ok) (bv:Value) (B:Ae) (hB:∀ h,B h→rdH 1 bv 240 (x.body.map u8) h) (hk:t.k<40) (c:Pc) (hc:x=Kk c) (hp:manyN n<a∧a<n) (hC:t.C a≠0)
  (hI:TInv n (manyN n+1) (fup t.N a (some c)) t.C R2):
  Cn prog 161 [Pt_ pp,Iv_ (a:Int),.agg #[Iv_ x.kind,bv]] [trA Tb pp mb n o (some (t,R)),B] (fun v Γ=>∃ k,k≤t.k+1∧v=Iv_ 0∧Γ=[trA Tb pp mb n o (some (⟨fup t.N a (some c),t.C,t.F,k⟩,R2)),B]):=by
 intro z R' w H
 obtain ⟨⟨M0,M⟩,hr,H⟩:=H.tr1
 refine Ret.mono (Cn.at (Wu pp mb n M0 o.C ⟨M,t.C,t.F,t.k⟩ a x hx bv B hB hk ⟨.inr hp.1,hp.2⟩ hC) H 2 [0,1] rfl rfl) ?_
 rintro v w' ⟨Γ',⟨k2,h1,rfl,rfl⟩,H'⟩
 refine ⟨_,⟨k2,h1,rfl,rfl⟩,Sep.toTr1 (C:=t.C) (F:=t.F) (k:=k2) (N:=fup t.N a (some c)) H' hr.1 ⟨fun q' c' hq'=> ?_,hI⟩⟩
 by_cases e:q'=a
 ·subst e;rw[Bx] at hq' ⊢
  cases hq';rw[hc] at hx ⊢
  exact ⟨rfl,hx⟩
 ·rw[A4 _ _ e] at hq' ⊢;exact hr.2.m q' c' hq'
theorem CkN.of {lf:Bool} {es:List E} (h:(Nd.mk lf es).Ok) (hv:∀ v∈vals es,1≤v∧v<1024):CkN lf (kL es) (vL es):=by
 refine ⟨by simp,by simpa using h.len,?_,fun x hx=> ?_,fun y hy=> ?_,fun i x y hx hy=> ?_⟩
 ·cases lf with
  | true=>exact .inl rfl
  | false=>
   have:=h.ne rfl
   cases es with
   | nil=>exact absurd rfl this
   | cons e t=>simp
 ·obtain ⟨e,he,rfl⟩:=List.mem_map.1 hx
  have:=h.key e he
  exact ⟨this.1,by have:=this.2;omega⟩
 ·obtain ⟨e,he,rfl⟩:=List.mem_map.1 hy
  have:=hv e.2 (List.mem_map_of_mem he)
  omega
 ·simp only[List.getElem?_map] at hx hy
  cases h1:es[i]? with
  | none=>rw[h1] at hx;cases hx
  | some a=>
   cases h2:es[i+1]? with
   | none=>rw[h2] at hy;cases hy
   | some b=>
    rw[h1] at hx;rw[h2] at hy
    simp at hx hy;subst hx hy
    have hs:=h.srt
    exact (List.pairwise_iff_getElem.1 hs) i (i+1) (List.getElem?_eq_some_iff.1 h1).1 (List.getElem?_eq_some_iff.1 h2).1 (by omega) |> fun q=>by rw[(List.getElem?_eq_some_iff.1 h1).2,(List.getElem?_eq_some_iff.1 h2).2] at q;exact q
theorem Nh (lf:Bool) (es:List E):((Ey ⟨lf,es⟩).kind=4∧lf=true)∨((Ey ⟨lf,es⟩).kind=3∧lf=false):=by
 cases lf
 ·exact .inr ⟨rfl,rfl⟩
 ·exact .inl ⟨rfl,rfl⟩
theorem Rn (lf:Bool) (es:List E):decide (((Ey ⟨lf,es⟩).kind:Int)=4)=lf:=by cases lf<;>rfl
theorem TInv.take {n f a:Nat} {N:Hm} {C:Nat→Nat} {R:List Nat} (I:TInv n f N C R) (h0:C a=0) (ha:f≤a∧a<n):TInv n f (fup N a none) (fup C a 1) (a::R):=by
 have hN:N a=none:=by
  cases e:N a with
  | none=>rfl
  | some c=>have:=(I.nin a c e).2.2;omega
 have e:fup N a none=N:=by
  funext q;unfold fup;split
  ·rename_i h;rw[h,hN]
  ·rfl
 have:=I.ref ha
 rw[h0] at this
 rw[e];exact this
end
section
open Go.RowKit
variable {Tb:Ae}
theorem WB (pp ps pc pa pd n:Nat) (un:Bool) (D:Dsk) (G:StG) (own:Gl) (p:Nat) (lf:Bool) (es:List E) (hpG:(p:Int)<G.x.pages) (hf1:D.f1=0) (hq:Ey ⟨lf,es⟩=Db G.M own p) (hok:(Nd.mk lf es).Ok) (hck:CkN lf (kL es) (vL es)):Cn prog 72 [Pt_ pp,Iv_ (p:Int)] [plB pp ps pc pa n un,stoA ps pd D G own] (fun v Γ=>∃ v1 v2:Value,v= .tuple #[.agg #[.bool lf,v1,v2],Iv_ 0]∧Γ=[grow 3 1 v1 (kL es).length ((kL es).map Iv_),grow 3 1 v2 (vL es).length ((vL es).map Iv_),plB pp ps pc pa n un,stoA ps pd D G own]):=by
 intro z R w H;replace H:=H.l2;have hbl:(Ey ⟨lf,es⟩).body.length=240:=(Im hok.len).2
 have hkd:=Nh lf es
 refine Ad func72 rfl ntmps72 rfl (Za 2 [] H rfl ?_);intro b1 w H;refine Z2 21 [0,0,1,0] H rfl (Aw rfl (call42 _) (JC ps pd D G own p hpG hf1 (Ey ⟨lf,es⟩) hq) H.f2 ?_);rintro _ w _ (⟨hno,rfl,rfl⟩|⟨hyes,rv,rfl,rfl⟩) H'
 ·(exfalso;have:=Nh lf es;rw[hno] at this;have h0:noPg.kind=0:=rfl;omega)
 ·have H:=H'.l4;obtain ⟨gb,cap,rest,rfl,c1,c2,c3,H⟩:=H.ungrow 0 rfl (by omega);replace H:=H.l4;refine Za 3 [] H rfl ?_;intro b2 w H;refine Z4 21 [0,4,0,0,0,0] H rfl ?_;intro w H;refine Ak 30 rfl (fun h1=> ?_) (fun h1=> ?_)
  ·refine Z2 6 [0,0,0,0] H rfl (Af rfl (fun h2=> ?_) (fun h2=> ?_))
   ·(exfalso;omega)
   ·refine Z2 6 [1,0,0] H rfl (Aw rfl (call110 _) (KM _ _ _ (Ey ⟨lf,es⟩).body _ (fun h q=>q.rd (by omega) (by omega) (by rw[List.length_append,List.length_map,hbl];omega) (by rw[List.drop_zero,Nat.mul_one,List.take_left' (by rw[List.length_map,hbl])])) lf (kL es) (vL es) (by simp) (by simpa using hok.len) (fun x hx=>by have:=hck.k x hx;omega) (fun y hy=>by have:=hck.v y hy;omega) rfl) H.f1 ?_);rintro _ w _ ⟨v1,v2,rfl,rfl⟩ H;replace H:=H.l7;replace H:=(H.mono 1 (B:=grow 3 1 v2 ((vL es).length) ((vL es).map Iv_)) rfl (fun h q=>by rw[show (vL es).length=(kL es).length by simp];exact q)).l7
    have sv1:=H.says 0 rfl (fun h q=>q.slc)
    have sv2:=H.says 1 rfl (fun h q=>q.slc)
    refine Za 3 [] H rfl ?_;intro b3 w H;obtain ⟨ao4,cc5,rfl⟩:=sv1;obtain ⟨ao6,cc7,rfl⟩:=sv2;refine Z4 11 [0,0,3] H rfl ?_;intro w H;refine z_E_ rfl (call111 _) (Cr _ _ _ (kL es) (vL es) _ _ (fun h q=>q.rd) (fun h q=>q.rd) hck) H.f2.f2 ?_;intro w H;refine Z2 8 [4,0,2,0,0,4,0,0] H rfl (Ac rfl (LG rfl (by kernel_rfl) rfl rfl) (Zc 3 rfl (Af rfl (fun h3=> ?_) (fun h3=> ?_))))
    ·exact absurd (Rn lf es).symm h3
    ·refine Z4 10 [2,3,6] H rfl ?_;intro w H;refine Zl [6,3] H rfl ?_;exact ⟨_,⟨.slice ao4 ((kL es).length) cc5,.slice ao6 ((vL es).length) cc7,rfl,rfl⟩,H.perm 8 [0,1,7,5] rfl rfl⟩
  ·refine Z2 13 [1,0,0] H rfl (Aw rfl (call110 _) (KM _ _ _ (Ey ⟨lf,es⟩).body _ (fun h q=>q.rd (by omega) (by omega) (by rw[List.length_append,List.length_map,hbl];omega) (by rw[List.drop_zero,Nat.mul_one,List.take_left' (by rw[List.length_map,hbl])])) lf (kL es) (vL es) (by simp) (by simpa using hok.len) (fun x hx=>by have:=hck.k x hx;omega) (fun y hy=>by have:=hck.v y hy;omega) rfl) H.f1 ?_);rintro _ w _ ⟨v1,v2,rfl,rfl⟩ H;replace H:=H.l7;replace H:=(H.mono 1 (B:=grow 3 1 v2 ((vL es).length) ((vL es).map Iv_)) rfl (fun h q=>by rw[show (vL es).length=(kL es).length by simp];exact q)).l7
   have sv1:=H.says 0 rfl (fun h q=>q.slc)
   have sv2:=H.says 1 rfl (fun h q=>q.slc)
   refine Za 3 [] H rfl ?_;intro b8 w H;obtain ⟨ao9,cc10,rfl⟩:=sv1;obtain ⟨ao11,cc12,rfl⟩:=sv2;refine Z4 11 [0,0,3] H rfl ?_;intro w H;refine z_E_ rfl (call111 _) (Cr _ _ _ (kL es) (vL es) _ _ (fun h q=>q.rd) (fun h q=>q.rd) hck) H.f2.f2 ?_;intro w H;refine Z2 8 [4,0,2,0,0,4,0,0] H rfl (Ac rfl (LG rfl (by kernel_rfl) rfl rfl) (Zc 3 rfl (Af rfl (fun h4=> ?_) (fun h4=> ?_))))
   ·exact absurd (Rn lf es).symm h4
   ·refine Z4 10 [2,3,6] H rfl ?_;intro w H;refine Zl [6,3] H rfl ?_;exact ⟨_,⟨.slice ao9 ((kL es).length) cc10,.slice ao11 ((vL es).length) cc12,rfl,rfl⟩,H.perm 8 [0,1,7,5] rfl rfl⟩
theorem TInv.vok {n f:Nat} {N:Hm} {C:Nat→Nat} {R:List Nat} (I:TInv n f N C R) (hf:1≤f) (hn:n≤1024) {p:Nat} {lf:Bool} {es:List E} (h:N p=some (.nd ⟨lf,es⟩)):CkN lf (kL es) (vL es):=
 CkN.of (I.nds p _ h).1 (fun v hv=>by have:=(I.nds p _ h).2.2 v hv;omega)
theorem JE (pp mb n:Nat) (o:TB) (T:TT) (p:Nat) (lf:Bool) (es:List E) (hN:C3 o T p=some (.nd ⟨lf,es⟩)):
  Cn prog 72 [Pt_ pp,Iv_ (p:Int)] [trA Tb pp mb n o T] (fun v Γ=>∃ v1 v2:Value,v= .tuple #[.agg #[.bool lf,v1,v2],Iv_ 0]∧Γ=[grow 3 1 v1 (kL es).length ((kL es).map Iv_),grow 3 1 v2 (vL es).length ((vL es).map Iv_),trA Tb pp mb n o T]):=by
 intro z R w H
 have K:=H.says 0 rfl (fun h a=>trA.k a)
 obtain ⟨M0,u,⟨_,_,_,hm⟩,H,back⟩:=H.trP
 obtain ⟨X,hX,H⟩:=H.po
 have hr:=K.i.nin p _ hN
 have hq:Ey ⟨lf,es⟩=Db X.G.M (Rj X.g u) p:=by
  have h1:=(hm p _ hN).1
  cases u with
  | none=>exact h1.symm.trans (hX.m0 p (.inr (by omega)))
  | some T'=>exact h1.symm.trans ((hX.tx T' rfl).m p (.inr (by omega)))
 refine Ret.mono (Cn.at (WB pp X.ps X.pc X.pa X.pd n u.isSome X.D X.G (Rj X.g u) p lf es (by rw[hX.pg];omega) hX.fine.clean.f1 hq (K.i.nds p _ hN).1 (K.i.vok (by omega) hX.hn.2 hN)) H 7 [0,1,2,3,4,5,6] rfl rfl) ?_
 rintro v w' ⟨Γ',⟨v1,v2,rfl,rfl⟩,H'⟩
 have H3:=H'.pick 9 [2,3,4,5,6,7,8,0,1] rfl
 have H4:=back _ _ (H3.toPo (X:=X) hX rfl)
 exact ⟨_,⟨v1,v2,rfl,rfl⟩,H4.pick 3 [1,2,0] rfl⟩
theorem IZ {lf:Bool} {ks vs:List Int} {x:Int} (h:ks.length=vs.length) (h8:ks.length≤8):0+240 * 1≤(AX (AN (Fo lf ks vs)) x).length:=by
 have hp:=A7 (l:=Fo lf ks vs) (by rw[FH h];omega)
 unfold AX;rw[List.length_append,List.length_map];omega
theorem Kn {lf:Bool} {ks vs:List Int} {x:Int} (h:ks.length=vs.length) (h8:ks.length≤8):((AX (AN (Fo lf ks vs)) x).drop 0).take (240 * 1)=(Gj lf ks vs).map u8:=by
 have hp:=A7 (l:=Fo lf ks vs) (by rw[FH h];omega)
 unfold AX Gj
 rw[List.drop_zero,Nat.mul_one,List.take_append_of_le_length (by rw[List.length_map];omega),←List.map_take,List.drop_zero]
theorem Ko (lf:Bool) (kv vv:Value) (ks vs:List Int) (A B:Ae) (hA:∀ h,A h→rdH 1 kv ks.length (ks.map Iv_) h) (hB:∀ h,B h→rdH 1 vv vs.length (vs.map Iv_) h) (hck:CkN lf ks vs):Cn prog 120 [.agg #[.bool lf,kv,vv]] [A,B] (fun v Γ=>∃ pw:Nat,v= .tuple #[.agg #[Iv_ (if lf=true then 4 else 3),.slice (some ⟨pw,0,none⟩) 240 240],Iv_ 0]∧Γ=[blk pw (AX (AN (Fo lf ks vs)) ((2+6 * ks.length:Nat):Int)) 165,A,B]):=by
 intro z R w H;replace H:=H.l2;obtain ⟨ka,kc,rfl⟩:=H.says 0 rfl (fun h q=>(hA h q).slc);obtain ⟨va,vc,rfl⟩:=H.says 1 rfl (fun h q=>(hB h q).slc);have hclk:=H.says 0 rfl (fun h q=>(hA h q).slcap)
 have hclv:=H.says 1 rfl (fun h q=>(hB h q).slcap)
 have hlen:=hck.len;have hl8:=hck.l8
 refine Ad func120 rfl ntmps120 rfl (Za 2 [] H rfl ?_);intro b1 w H;refine Za 0 [] H rfl ?_;intro b2 w H;refine Z2 7 [1,3] H rfl (z_E_ rfl (call111 _) (Cr _ _ _ ks vs _ _ hA hB hck) H.f3.f3 ?_);intro w H;refine Z2 9 [4,3,3] H rfl (Aw rfl (call158 _) (Q1 lf _ _ ks vs _ _ hA hB hlen hl8 (fun x hx=>by have:=hck.k x hx;omega) (fun y hy=>by have:=hck.v y hy;omega)) H ?_);rintro _ w _ ⟨pw,rfl,rfl⟩ H;refine Z2 24 [4,0,4,0] H rfl (EQ rfl (fun h1=> ?_) (fun h1=> ?_))
 ·refine Z4 9 [3] H rfl ?_;intro w H;refine Zl [3,2] H rfl ?_;exact ⟨_,⟨pw,(by rw[if_pos h1]),rfl⟩,H.perm 5 [0,1,2] rfl rfl⟩
 ·refine Z4 11 [3] H rfl ?_;intro w H;refine Zl [3,2] H rfl ?_;exact ⟨_,⟨pw,(by rw[if_neg (by rw[h1];decide)]),rfl⟩,H.perm 5 [0,1,2] rfl rfl⟩
end
section
open Go.RowKit
variable {Tb:Ae}
variable {n:Nat} {t:TS} {R:List Nat} {a:Nat} {lf:Bool} {es:List E}
theorem TK {f h:Nat} {lo hi:Int} {m:Nat} {L:List E} (I:TInv n f t.N t.C (a::(vals es++R))) (hC:t.C a=1) (hN:t.N a=none) (hok:(Nd.mk lf es).Ok) (hdup:(vals es).Nodup) (hB:Bd t.N h es hi L) (hlf:lf=decide (h=0)) (hr:BG lo hi es) (hm:m≤es.length):
  TInv n f (fup t.N a (some (.nd ⟨lf,es⟩))) t.C (a::R)∧Tr (fup t.N a (some (.nd ⟨lf,es⟩))) h a lo hi m L∧(∀ q d,t.N q=some (.nd d)→a∉vals d.es)∧a∉R:=by
 have hno:∀ q d,t.N q=some (.nd d)→a∉vals d.es:=fun q d hq=>I.noref (by simp;omega) hq
 have hh:=Hg I hC
 simp only[List.mem_append,not_or] at hh
 have hT:Tr (fup t.N a (some (.nd ⟨lf,es⟩))) h a lo hi m L:=Tr.iff.2 ⟨es,by rw[Bx,hlf],hm,hr,by rw[←hlf];exact hok,hB.fup hno hh.1⟩
 exact ⟨(I.close (d:=⟨lf,es⟩) hC hN hok hdup ⟨_,_,_,_,_,hT⟩).1,hT,hno,hh.2⟩
theorem JF {f h:Nat} {lo hi:Int} {m:Nat} {L:List E} (I:TInv n f t.N t.C (vals es++R)) (hC:t.C a=0) (ha:f≤a∧a<n) (hok:(Nd.mk lf es).Ok) (hdup:(vals es).Nodup) (hB:Bd t.N h es hi L) (hlf:lf=decide (h=0)) (hr:BG lo hi es) (hm:m≤es.length):
  TInv n f (fup t.N a (some (.nd ⟨lf,es⟩))) (fup t.C a 1) (a::R)∧Tr (fup t.N a (some (.nd ⟨lf,es⟩))) h a lo hi m L∧(∀ q d,t.N q=some (.nd d)→a∉vals d.es)∧a∉R:=by
 have hno:∀ q d,t.N q=some (.nd d)→a∉vals d.es:=fun q d hq=>I.noref (by omega) hq
 have hh:=Rm I hC
 simp only[List.mem_append,not_or] at hh
 have hT:Tr (fup t.N a (some (.nd ⟨lf,es⟩))) h a lo hi m L:=Tr.iff.2 ⟨es,by rw[Bx,hlf],hm,hr,by rw[←hlf];exact hok,hB.fup hno hh.1⟩
 exact ⟨(I.fresh (d:=⟨lf,es⟩) hC ha hok hdup ⟨_,_,_,_,_,hT⟩).2.1,hT,hno,hh.2⟩
structure OwnP (t t':TS) (es:List E) (R:List Nat) (a:Nat):Prop where
 N0:t'.N a=none
 C1:t'.C a=1
 st:St t t' R 1 1
 fv:∀ c∈vals es,∀ h lo hi m L,Tr t.N h c lo hi m L→Tr t'.N h c lo hi m L
 dv:∀ c∈vals es,∀ b,t.N c=some (.dt b)→t'.N c=some (.dt b)
 sub:∀ q d,t'.N q=some (.nd d)→t.N q=some (.nd d)
theorem OwnP.bd {t':TS} (O:OwnP t t' es R a) {h:Nat} {hi:Int} {L:List E} (q:Bd t.N h es hi L):Bd t'.N h es hi L:=by
 cases h with
 | zero=>exact ⟨q.1,fun e he=>by obtain ⟨b,hb⟩:=q.2 e he;exact ⟨b,O.dv _ (List.mem_map_of_mem he) b hb⟩⟩
 | succ h=>exact Sq.imp q fun e he _ _ r=>O.fv _ (List.mem_map_of_mem he) _ _ _ _ _ r
theorem OH {N:Hm} {a:Nat} :∀ q d,fup N a none q=some (.nd d)→N q=some (.nd d):=fun q d h=>by
 by_cases e:q=a
 ·subst e;rw[Bx] at h;cases h
 ·rwa[A4 _ _ e] at h
theorem Ro {N:Hm} {a c:Nat} {b:List UInt8} (h:c≠a) (q:N c=some (.dt b)):fup N a none c=some (.dt b):=by rw[A4 _ _ h];exact q
theorem Kq {f:Nat} (I:TInv n f t.N t.C (a::R)) (hC:t.C a=1) (hN:t.N a=some (.nd ⟨lf,es⟩)):OwnP t { t with N:=fup t.N a none } es R a:=by
 have hO:=I.opens hC hN
 have hh:=Hg hO.1 hC
 have hv:∀ c∈vals es,c≠a:=fun c hc e=>hh (List.mem_append_left _ (by rw[←e];exact hc))
 have hR:a∉R:=fun q=>hh (List.mem_append_right _ q)
 exact ⟨Bx _ _ _,hC,(St.one hO.2 hR (by simp) (fun _ q=>q) (by omega) (by omega) (fun _ _ _ y=>y)),fun c hc h lo hi m L q=>q.fup hO.2 (hv c hc),fun c hc b q=>Ro (hv c hc) q,OH⟩
structure OwI (t:TS) (es:List E) (i:Nat) (C:Nat→Nat):Prop where
 i:i≤es.length
 ge:∀ q,t.C q≤C q
 same:∀ q,q∉vals es→C q=t.C q
theorem OwI.next {i:Nat} {C:Nat→Nat} {e:E} (I:OwI t es i C) (he:es[i]? =some e):OwI t es (i+1) (fup C e.2 (C e.2+1)):=by
 refine ⟨(List.getElem?_eq_some_iff.1 he).1,fun q=> ?_,fun q hq=> ?_⟩
 ·have:=I.ge q
  unfold fup;split
  ·rename_i h;subst h;omega
  ·exact this
 ·rw[A4 _ _ (fun h=>hq (by rw[h];exact List.mem_map_of_mem (List.mem_of_getElem? he)))]
  exact I.same q hq
theorem TL {i:Nat} {e:E} (he:es[i]? =some e):((vals es).take (i+1)).reverse=e.2::((vals es).take i).reverse:=by
 rw[List.take_add_one];simp[vals,he]
theorem WC {f c k:Nat} {F:Nat→Bool} {C:Nat→Nat} (I:TInv n f t.N t.C (a::R)) (hN:t.N a=some (.nd ⟨lf,es⟩)) (hc:t.C c=0) (hI:OwI ⟨fup t.N c none,fup t.C c 1,F,k⟩ es es.length C) (hF:∀ p,F p=true→t.F p=true) (hf:cnt t.F 0 1024=cnt F 0 1024+1) (hk:k≤t.k+1):
  OwnP t ⟨fup t.N c none,fup C a (C a - 1),F,k⟩ es R c:=by
 have hca:c≠a:=fun e=>by have:=I.pos (p:=a) (by simp);rw[e] at hc;omega
 have hno:∀ q d,t.N q=some (.nd d)→c∉vals d.es:=fun q d hq=>I.noref (by omega) hq
 have hcR:c∉R:=fun h=>by have:=I.pos (p:=c) (by simp[h]);omega
 have hv:∀ q∈vals es,q≠c:=fun q hq e=>hno _ _ hN (by rw[←e];exact hq)
 refine ⟨Bx _ _ _,?_,St.one hno hcR (by simp) hF (by omega) hk (fun q hq hn0 h1=> ?_),fun q hq h lo hi m L x=>x.fup hno (hv q hq),fun q hq b x=>Ro (hv q hq) x,OH⟩
 ·show fup C a (C a - 1) c=1
  rw[A4 _ _ hca,hI.same c (hno _ _ hN)]
  exact Bx _ _ _
 ·have hqa:q≠a:=fun e=>by rw[e,hN] at hn0;cases hn0
  have hqv:q∉vals es:=I.noref (a:=q) (by
   have:=List.count_pos_iff.2 hq
   rw[List.count_cons];omega) hN
  have hqc:q≠c:=fun e=>by rw[e] at h1;omega
  show fup C a (C a - 1) q=1
  rw[A4 _ _ hqa,hI.same q hqv]
  show fup t.C c 1 q=1
  rw[A4 _ _ hqc];exact h1
theorem Fh (pp mb n:Nat) (o:TB) (t:TS) (Q:List Nat) (a:Nat) (lf:Bool) (kv vv:Value) (es:List E) (A B:Ae) (hA:∀ h,A h→rdH 1 kv (kL es).length ((kL es).map Iv_) h) (hB:∀ h,B h→rdH 1 vv (vL es).length ((vL es).map Iv_) h) (h:Nat) (lo hi:Int) (m:Nat) (L:List E) (hBd:Bd t.N h es hi L) (hlf:lf=decide (h=0)) (hrg:BG lo hi es) (hm:m≤es.length) (hok:(Nd.mk lf es).Ok) (hdup:(vals es).Nodup) (hC:t.C a=1) (hN:t.N a=none) (hk:t.k<40):Cn prog 123 [Pt_ pp,Iv_ (a:Int),.agg #[.bool lf,kv,vv]] [trA Tb pp mb n o (some (t,a::(vals es++Q))),A,B] (fun v Γ=>∃ t2:TS,(St t t2 Q 0 1∧Tr t2.N h a lo hi m L∧t2.C=t.C∧t2.N=fup t.N a (some (.nd ⟨lf,es⟩)))∧v=Iv_ 0∧Γ=[trA Tb pp mb n o (some (t2,a::Q)),A,B]):=by
 intro z R w H;replace H:=H.l3;have K:=H.says 0 rfl (fun h a=>trA.k a)
 have hn:=K.hn
 obtain ⟨ka,kc,rfl⟩:=H.says 1 rfl (fun h q=>(hA h q).slc);obtain ⟨va,vc,rfl⟩:=H.says 2 rfl (fun h q=>(hB h q).slc);obtain ⟨hS1,hS2,hS3,hS4⟩:=TK K.i hC hN hok hdup hBd hlf hrg hm;have har:=K.i.rin a (by simp[Cs])
 have hck:CkN lf (kL es) (vL es):=CkN.of hok (fun v hv=>by have:=K.i.rin v (by simp[Cs,hv]);omega)
 refine Ad func123 rfl ntmps123 rfl (Za 2 [] H rfl ?_);intro b1 w H;refine Z2 6 [0,3] H rfl (Aw rfl (call120 _) (Ko lf _ _ (kL es) (vL es) _ _ hA hB hck) H.f3.f3 ?_);rintro _ w _ ⟨pw,rfl,rfl⟩ H;refine Za 3 [] H rfl ?_;intro b2 w H;refine Z4 19 [0,4,0,2] H rfl ?_;intro w H;refine Aw rfl (call161 _) (WA pp mb n o t _ (a::Q) a (Ey ⟨lf,es⟩) (Im hok.len) _ _ (fun h q=>q.rd (by omega) (by omega) (IZ (by simp) (by simpa using hok.len)) (Kn (by simp) (by simpa using hok.len))) hk (.nd ⟨lf,es⟩) rfl ⟨by omega,har.2⟩ (by omega) hS1) H.f1.f5 ?_;rintro _ w _ ⟨k2,hk2,rfl,rfl⟩ H;refine Zc 4 rfl (Zr rfl ?_);exact ⟨_,⟨_,⟨St.one hS3 hS4 (by simp) (fun _ q=>q) (by omega) hk2 (fun _ _ _ y=>y),hS2,rfl,rfl⟩,rfl,rfl⟩,H.perm 6 [0,3,4] rfl rfl⟩
theorem GQ (pp mb n:Nat) (o:TB) (t:TS) (Q:List Nat) (lf:Bool) (kv vv:Value) (es:List E) (A B:Ae) (hA:∀ h,A h→rdH 1 kv (kL es).length ((kL es).map Iv_) h) (hB:∀ h,B h→rdH 1 vv (vL es).length ((vL es).map Iv_) h) (h:Nat) (lo hi:Int) (m:Nat) (L:List E) (hBd:Bd t.N h es hi L) (hlf:lf=decide (h=0)) (hrg:BG lo hi es) (hm:m≤es.length) (hok:(Nd.mk lf es).Ok) (hdup:(vals es).Nodup) (hk:t.k<40):Cn prog 81 [Pt_ pp,.agg #[.bool lf,kv,vv]] [trA Tb pp mb n o (some (t,vals es++Q)),A,B] (fun v Γ=>(cnt t.F 0 1024=0∧v= .tuple #[Iv_ 0,Iv_ 20]∧Γ=[trA Tb pp mb n o (some (t,vals es++Q)),A,B])∨∃ (t2:TS) (a:Nat),(St t t2 Q 1 1∧Tr t2.N h a lo hi m L∧∀ q∈Q,t2.N q=t.N q∧t2.C q=t.C q)∧v= .tuple #[Iv_ (a:Int),Iv_ 0]∧Γ=[trA Tb pp mb n o (some (t2,a::Q)),A,B]):=by
 intro z R w H;replace H:=H.l3;have K:=H.says 0 rfl (fun h a=>trA.k a)
 have hn:=K.hn
 obtain ⟨ka,kc,rfl⟩:=H.says 1 rfl (fun h q=>(hA h q).slc);obtain ⟨va,vc,rfl⟩:=H.says 2 rfl (fun h q=>(hB h q).slc);have hck:CkN lf (kL es) (vL es):=CkN.of hok (fun v hv=>by have:=K.i.rin v (by simp[Cs,hv]);omega)
 refine Ad func81 rfl ntmps81 rfl (Za 2 [] H rfl ?_);intro b1 w H;refine Z2 7 [0,3] H rfl (Aw rfl (call120 _) (Ko lf _ _ (kL es) (vL es) _ _ hA hB hck) H.f3.f3 ?_);rintro _ w _ ⟨pw,rfl,rfl⟩ H;refine Za 3 [] H rfl ?_;intro b2 w H;refine Z4 18 [0,4,0,2] H rfl ?_;intro w H;refine Aw rfl (call44 _) (Ng pp mb n o t _ Q (Ey ⟨lf,es⟩) (Im hok.len) _ _ (fun h q=>q.rd (by omega) (by omega) (IZ (by simp) (by simpa using hok.len)) (Kn (by simp) (by simpa using hok.len))) hk (some (.nd ⟨lf,es⟩)) (fun q hq=>by cases hq;rfl) (fun a h1 h2 h3=>(JF K.i h3 ⟨h1,h2⟩ hok hdup hBd hlf hrg hm).1)) H.f1.f5 ?_;rintro _ w _ (⟨hnone,rfl,rfl⟩|⟨a,F,k2,⟨har,hCa,hFa,hF1,hF0,hk2,hcnt⟩,rfl,rfl⟩) H'
 ·have H:=H'.l6;refine Zc 7 rfl (Zr rfl ?_);exact ⟨_,.inl ⟨hnone,rfl,rfl⟩,H.perm 6 [0,3,4] rfl rfl⟩
 ·have H:=H'.l6;obtain ⟨hS1,hS2,hS3,hS4⟩:=JF K.i hCa ⟨har.1,har.2⟩ hok hdup hBd hlf hrg hm;refine Zc 7 rfl (Zr rfl ?_);exact ⟨_,.inr ⟨_,a,⟨St.one hS3 hS4 (by simp) hF1 (by omega) hk2 (fun q hq _ y=>(A4 _ _ (fun e=>hS4 (by rw[←e];exact hq))).trans y),hS2,fun q hq=>⟨A4 _ _ (fun e=>hS4 (by rw[←e];exact hq)),A4 _ _ (fun e=>hS4 (by rw[←e];exact hq))⟩⟩,rfl,rfl⟩,H.perm 6 [0,3,4] rfl rfl⟩
theorem TM (pp mb n:Nat) (o:TB) (t:TS) (Q:List Nat) (lf:Bool) (kv vv:Value) (es:List E) (A B:Ae) (hA:∀ h,A h→rdH 1 kv (kL es).length ((kL es).map Iv_) h) (hB:∀ h,B h→rdH 1 vv (vL es).length ((vL es).map Iv_) h) (hok:(Nd.mk lf es).Ok) (hck:CkN lf (kL es) (vL es)) (hk:t.k<40):Cn prog 81 [Pt_ pp,.agg #[.bool lf,kv,vv]] [trA Tb pp mb n o (some (t,Q)),A,B] (fun v Γ=>(cnt t.F 0 1024=0∧v= .tuple #[Iv_ 0,Iv_ 20]∧Γ=[trA Tb pp mb n o (some (t,Q)),A,B])∨∃ (a:Nat) (F:Nat→Bool) (k2:Nat),(t.C a=0∧(∀ q,F q=true→t.F q=true)∧k2≤t.k+1∧cnt t.F 0 1024=cnt F 0 1024+1)∧v= .tuple #[Iv_ (a:Int),Iv_ 0]∧Γ=[trA Tb pp mb n o (some (⟨fup t.N a none,fup t.C a 1,F,k2⟩,a::Q)),A,B]):=by
 intro z R w H;replace H:=H.l3;have K:=H.says 0 rfl (fun h a=>trA.k a)
 have hn:=K.hn
 obtain ⟨ka,kc,rfl⟩:=H.says 1 rfl (fun h q=>(hA h q).slc);obtain ⟨va,vc,rfl⟩:=H.says 2 rfl (fun h q=>(hB h q).slc);refine Ad func81 rfl ntmps81 rfl (Za 2 [] H rfl ?_);intro b1 w H;refine Z2 7 [0,3] H rfl (Aw rfl (call120 _) (Ko lf _ _ (kL es) (vL es) _ _ hA hB hck) H.f3.f3 ?_);rintro _ w _ ⟨pw,rfl,rfl⟩ H;refine Za 3 [] H rfl ?_;intro b2 w H;refine Z4 18 [0,4,0,2] H rfl ?_;intro w H;refine Aw rfl (call44 _) (Ng pp mb n o t _ Q (Ey ⟨lf,es⟩) (Im hok.len) _ _ (fun h q=>q.rd (by omega) (by omega) (IZ (by simp) (by simpa using hok.len)) (Kn (by simp) (by simpa using hok.len))) hk none (fun q hq=>by cases hq) (fun a h1 h2 h3=>TInv.take K.i h3 ⟨h1,h2⟩)) H.f1.f5 ?_;rintro _ w _ (⟨hnone,rfl,rfl⟩|⟨a,F,k2,⟨har,hCa,hFa,hF1,hF0,hk2,hcnt⟩,rfl,rfl⟩) H'
 ·have H:=H'.l6;refine Zc 7 rfl (Zr rfl ?_);exact ⟨_,.inl ⟨hnone,rfl,rfl⟩,H.perm 6 [0,3,4] rfl rfl⟩
 ·have H:=H'.l6;refine Zc 7 rfl (Zr rfl ?_);exact ⟨_,.inr ⟨a,F,k2,⟨hCa,hF1,hk2,hcnt⟩,rfl,rfl⟩,H.perm 6 [0,3,4] rfl rfl⟩
end
section
open Go.RowKit
variable {Tb:Ae}
theorem WD (es:List E) (c a:Nat) (Q:List Nat):(((vals es).take es.length).reverse++(c::a::Q)).Perm (a::c::(vals es++Q)):=by
 rw[List.take_of_length_le (by simp[vals])]
 have h1:((vals es).reverse++(c::a::Q)).Perm (vals es++(c::a::Q)):=List.Perm.append_right _ (List.reverse_perm _)
 refine h1.trans ?_
 have h2:(vals es++(c::a::Q)).Perm ((c::a::Q)++vals es):=List.perm_append_comm
 refine h2.trans ?_
 have h3:((c::a::Q)++vals es).Perm (a::c::(Q++vals es)):=by
  simp only[List.cons_append];exact List.Perm.swap _ _ _
 exact h3.trans (List.Perm.cons _ (List.Perm.cons _ List.perm_append_comm))
set_option maxHeartbeats 1000000 in
theorem Io (pp mb n:Nat) (o:TB) (t:TS) (Q:List Nat) (a:Nat) (lf:Bool) (es:List E) (hN:t.N a=some (.nd ⟨lf,es⟩)) (hk:t.k<40) (hb:Q.length+n≤980):Cn prog 121 [Pt_ pp,Iv_ (a:Int)] [trA Tb pp mb n o (some (t,a::Q))] (fun v Γ=>(cnt t.F 0 1024=0∧∃ (v1 v2:Value) (s:TS×List Nat),v= .tuple #[Iv_ 0,.agg #[.bool lf,v1,v2],Iv_ 20]∧Γ=[grow 3 1 v1 (kL es).length ((kL es).map Iv_),grow 3 1 v2 (vL es).length ((vL es).map Iv_),trA Tb pp mb n o (some s)])∨∃ (t2:TS) (c:Nat) (v1 v2:Value),OwnP t t2 es Q c∧v= .tuple #[Iv_ (c:Int),.agg #[.bool lf,v1,v2],Iv_ 0]∧Γ=[grow 3 1 v1 (kL es).length ((kL es).map Iv_),grow 3 1 v2 (vL es).length ((vL es).map Iv_),trA Tb pp mb n o (some (t2,c::(vals es++Q)))]):=by
 intro z R w H;replace H:=H.l1;have K:=H.says 0 rfl (fun h a=>trA.k a)
 have hn:=K.hn
 have har:=K.i.nin a _ hN
 have hck:CkN lf (kL es) (vL es):=K.i.vok (by omega) hn.2 hN
 have hok:=(K.i.nds a _ hN).1
 have hdup:=(K.i.nds a _ hN).2.1
 have hvr:=(K.i.nds a _ hN).2.2
 have hCp:=K.i.pos (p:=a) (by simp[Cs])
 have hCp:1≤t.C a:=hCp
 refine Ad func121 rfl ntmps121 rfl (Za 3 [] H rfl ?_);intro b1 w H;refine Zc 7 rfl (Aw rfl (call72 _) (JE pp mb n o (some (t,a::Q)) a lf es hN) H.f1 ?_);rintro _ w _ ⟨v1,v2,rfl,rfl⟩ H;replace H:=H.l4;have sv1:=H.says 0 rfl (fun h q=>q.slc)
 have sv2:=H.says 1 rfl (fun h q=>q.slc)
 refine Za 3 [] H rfl ?_;intro b2 w H;refine Az rfl rfl (Ag 0 H rfl rfl rfl rfl (vs:=[.bool lf,v1,v2]) rfl (Ab rfl (Ab sv1.one (Ab sv2.one Ar))) (by kernel_rfl) (by simp) (out:=[.bool lf,v1,v2]) rfl) ?_;rintro w H;replace H:=H.l5;refine Z0 11 [4] rfl (z_E_ rfl (call80 _) (Kl pp mb n o _ a (by omega)) H.f3 ?_);intro w H;replace H:=H.l5;refine Al 24 (v:=Iv_ (t.C a:Int)) rfl rfl (Z0 4 [0] rfl (Af rfl (fun h1=> ?_) (fun h1=> ?_)))
 ·refine Zc 1 rfl ?_;replace H:=H.f1;refine AI (Sep z (blk b2 [.bool lf,v1,v2] 142::R)) 6 rfl (by kernel_rfl) (Bc H fun w H'=> ?_)
  have H:=H'.l5;refine AM [0,1,2,3] [0,3] [] (by exact (H.pick 5 [0] rfl)) rfl (by kernel_rfl) rfl (Av [4] (by kernel_rfl) (by simp) (Au (A8 rfl rfl rfl (Ag 4 H rfl rfl rfl rfl (vs:=[.bool lf,v1,v2]) rfl (Ab rfl (Ab sv1.one (Ab sv2.one Ar))) (by kernel_rfl) (by simp) (out:=[.bool lf,v1,v2]) rfl) ?_)));rintro w H;replace H:=H.l5;refine Ap (H.pick 5 [0] rfl) (AM [5] [] [] (by exact (H.pick 5 [0] rfl)) rfl (by kernel_rfl) rfl (a_done (by kernel_rfl) (gn (Zc 2 rfl (Zl [4,3] H rfl ?_)))));replace H:=(H.mono 1 (B:=trA Tb pp mb n o (some ({ t with N:=fup t.N a none },a::(vals es++Q)))) rfl (fun h q=>q.opens (by omega) hN)).l5
  exact ⟨[grow 3 1 v1 ((kL es).length) ((kL es).map Iv_),grow 3 1 v2 ((vL es).length) ((vL es).map Iv_),trA Tb pp mb n o (some ({ t with N:=fup t.N a none },a::(vals es++Q)))],.inr ⟨_,a,v1,v2,Kq K.i (by omega) hN,rfl,rfl⟩,H.perm 5 [2,3,1] rfl rfl⟩
 ·refine Z2 6 [1,3] H rfl (Aw rfl (call81 _) (TM pp mb n o t (a::Q) lf _ _ es _ _ (fun h q=>q.rd) (fun h q=>q.rd) hok hck hk) H.f3.f3.f2 ?_);rintro _ w _ (⟨hnone,rfl,rfl⟩|⟨c,F,k2,⟨hCc,hF1,hk2,hcnt⟩,rfl,rfl⟩) H'
  ·have H:=H'.l5;refine Z0 16 [3] rfl ?_;replace H:=H.f3;refine AI (Sep z (blk b2 [.bool lf,v1,v2] 142::R)) 5 rfl (by kernel_rfl) (Bc H fun w H'=> ?_)
   have H:=H'.l5;refine AM [0,1,2] [0,3] [] (by exact (H.pick 5 [0] rfl)) rfl (by kernel_rfl) rfl (Av [3] (by kernel_rfl) (by simp) (Au (A8 rfl rfl rfl (Ag 4 H rfl rfl rfl rfl (vs:=[.bool lf,v1,v2]) rfl (Ab rfl (Ab sv1.one (Ab sv2.one Ar))) (by kernel_rfl) (by simp) (out:=[.bool lf,v1,v2]) rfl) ?_)));rintro w H;replace H:=H.l5;refine Ap (H.pick 5 [0] rfl) (AM [4] [] [] (by exact (H.pick 5 [0] rfl)) rfl (by kernel_rfl) rfl (a_done (by kernel_rfl) (gn (Zc 2 rfl (Zl [4,3] H rfl ?_)))));exact ⟨[grow 3 1 v1 ((kL es).length) ((kL es).map Iv_),grow 3 1 v2 ((vL es).length) ((vL es).map Iv_),trA Tb pp mb n o (some (t,a::Q))],.inl ⟨hnone,v1,v2,_,rfl,rfl⟩,H.perm 5 [2,3,1] rfl rfl⟩
  ·have H:=H'.l5;refine Z0 19 [4] rfl ?_;obtain ⟨ao1,cc1,rfl⟩:=sv1;obtain ⟨ao2,cc2,rfl⟩:=sv2;refine Z2 8 [2,3,0] H rfl ?_;refine AJ (σ:=Nat×(Nat→Nat)) (fun ⟨i,C⟩=>[(43,Iv_ (i:Int)),(0,Pt_ pp),(1,Iv_ (a:Int)),(5,Pt_ b1),(7,Pt_ b2),(9,Iv_ (c:Int)),(41,.slice ao2 ((vL es).length) cc2),(42,Iv_ (((vL es).length:Nat):Int))])
     (fun ⟨i,C⟩ w=>Sep z (trA Tb pp mb n o (some (⟨fup t.N c none,C,F,k2⟩,((vals es).take i).reverse++(c::a::Q)))::grow 3 1 (.slice ao1 ((kL es).length) cc1) ((kL es).length) ((kL es).map Iv_)::grow 3 1 (.slice ao2 ((vL es).length) cc2) ((vL es).length) ((vL es).map Iv_)::blk b2 [.bool lf,.slice ao1 ((kL es).length) cc1,.slice ao2 ((vL es).length) cc2] 142::blk b1 [.bool false,.slice none 0 0,.slice none 0 0] 142::R) w∧(OwI ⟨fup t.N c none,fup t.C c 1,F,k2⟩ es i C)) (fun ⟨i,C⟩=>es.length - i) ⟨0,fup t.C c 1⟩
     (fun _ hF=>(hF.co rfl (by go_num) (hF.all rfl))) ⟨(by simpa using H),⟨Nat.zero_le _,fun _=>Nat.le_refl _,fun _ _=>rfl⟩⟩ ?_
   clear H;rintro ⟨i,C⟩ w ⟨H',hI⟩;dsimp only at hI H' ⊢
   have H:=H'.l5;have hI:=hI
   have hil:=hI.i
   refine Z0 6 [0] rfl (Af rfl (fun h2=> ?_) (fun h2=> ?_))
   ·have hil2:i<es.length:=by simp only[List.length_map] at h2;omega
    obtain ⟨e,he⟩:∃ e,es[i]? =some e:=⟨_,List.getElem?_eq_getElem hil2⟩;have hem:e.2∈vals es:=List.mem_map_of_mem (List.mem_of_getElem? he)
    have hev:=hvr e.2 hem
    have hec:1≤C e.2:=by
      have h1:=hI.ge e.2
      have h2:=K.i.posE hN hem
      have h3:fup t.C c 1 e.2≤C e.2:=h1
      have h4:1≤t.C e.2:=h2
      unfold fup at h3;split at h3<;>omega
    have hes8:=hok.len;dsimp only at hes8
    refine Zc 6 rfl ?_;have hat:=(H.rd 2 rfl (fun h q=>q.rd)).at (j:=i) (u:=Iv_ (e.2:Int)) (by simp[he])
    refine Ac rfl (AD rfl (z:=1) (j:=i) (r:=i) (by kernel_rfl) rfl rfl rfl (by omega) hat (by omega)) (Ac rfl (AR rfl rfl (by kernel_rfl) (AB hat)) (Zc 7 rfl (z_E_ rfl (call13 _) (Zk pp mb n o _ _ e.2 ⟨by omega,hev.2⟩ hec (by simp only[List.length_append,List.length_reverse,List.length_take,List.length_cons];omega)) H ?_)));intro w H;refine Z1 17 [4] [(i:Int)+1] rfl (by omega) (gf ?_);intro _ hF;refine ⟨⟨i+1,fup C e.2 (C e.2+1)⟩,(hF.co rfl (by go_num) (hF.all rfl)),⟨(by rw[TL he];exact H),?_⟩,?_⟩
    ·exact hI.next he
    ·(dsimp only;omega)
   ·obtain rfl:i=es.length:=by simp only[List.length_map] at h2;omega
    have hCa2:2≤C a:=by
      have h1:fup t.C c 1 a≤C a:=hI.ge a
      have h2:c≠a:=fun e=>by rw[e] at hCc;omega
      rw[A4 _ _ (Ne.symm h2)] at h1;omega
    refine Zc 2 rfl (gx (Zc 3 rfl ?_));replace H:=(H.mono 0 (B:=trA Tb pp mb n o (some (⟨fup t.N c none,C,F,k2⟩,a::c::(vals es++Q)))) rfl (fun h q=>q.perm (WD es c a Q))).l5
    replace H:=H.f3;refine AI (Sep z (blk b2 [.bool lf,.slice ao1 ((kL es).length) cc1,.slice ao2 ((vL es).length) cc2] 142::R)) 8 rfl (by kernel_rfl) (Bc H fun w H'=> ?_)
    have H:=H'.l5;refine AM [0,1,2,3] [0,3] [] (by exact (H.pick 5 [0] rfl)) rfl (by kernel_rfl) rfl (Av [4] (by kernel_rfl) (by simp) (Au (BL rfl rfl rfl rfl rfl rfl (fun w=>call84 _ w) (OG pp mb n o _ _ a hCa2) H.f1 rfl ?_)));rintro _ w _ ⟨rfl,rfl⟩ H;replace H:=H.l5;refine Ap (H.pick 5 [1] rfl) (AM [5] [] [] (by exact (H.pick 5 [1] rfl)) rfl (by kernel_rfl) rfl (Av [6] (by kernel_rfl) (by simp) (Au (A8 rfl rfl rfl (Ag 4 H rfl rfl rfl rfl (vs:=[.bool lf,.slice ao1 ((kL es).length) cc1,.slice ao2 ((vL es).length) cc2]) rfl (by simp[u8,u32,Value.oneCell']) (by kernel_rfl) (by simp) (out:=[.bool lf,.slice ao1 ((kL es).length) cc1,.slice ao2 ((vL es).length) cc2]) rfl) ?_))));rintro w H;replace H:=H.l5;refine Ap (H.pick 5 [1] rfl) (AM [7] [] [] (by exact (H.pick 5 [1] rfl)) rfl (by kernel_rfl) rfl (a_done (by kernel_rfl) (gn (Zc 2 rfl (Zl [4,3] H rfl ?_)))));exact ⟨[grow 3 1 (.slice ao1 ((kL es).length) cc1) ((kL es).length) ((kL es).map Iv_),grow 3 1 (.slice ao2 ((vL es).length) cc2) ((vL es).length) ((vL es).map Iv_),trA Tb pp mb n o (some (⟨fup t.N c none,fup C a (C a - 1),F,k2⟩,c::(vals es++Q)))],.inr ⟨_,c,.slice ao1 ((kL es).length) cc1,.slice ao2 ((vL es).length) cc2,WC K.i hN hCc hI hF1 hcnt hk2,rfl,rfl⟩,H.perm 5 [2,3,0] rfl rfl⟩
end
end Go.Proofs.YtjegbnfpodadcaaGreatDoor
