/-
  Steps to: The law ThinRefuses holds. No condition.
-/
import Derived.Test.YtjegbnfpodadcaaGreatDoorPart2
import Derived.Test.YtjegbnfpodadcaaGreatDoorCards
import Derived.Test.YtjegbnfpodadcaaGreatDoorTie
import Derived.WalkKit
import Derived.WalkSpells
import Derived.Deep.Quiet
import Derived.KernelRfl
import Derived.IntWalk
import Derived.Maps.AppendAt
import Derived.Laws.AppendOwnNone
import Derived.Laws.CopyRow
import Derived.StillTail
import Derived.Deep.RegionHeld
import Derived.Laws.IdiomStrings
import Derived.Laws.BytesArg
import Derived.Laws.OwnMore
import Derived.Lib.Strings
import Derived.ArgAppend
import Derived.Test.YtjegbnfpodadcaaGreatDoorRows
import Derived.RangeFuncLeaves
import Derived.RangeFuncRecord
import Derived.RangeFuncCalls
import Derived.RangeFuncSeq
import Derived.OrdersIn
import Derived.TacticsIn
import Derived.Laws.IdiomRangeMap
import Derived.Defers
import Derived.Laws.LoneSync
import Derived.LoopN
import Derived.Lib.TrailingZeros
import Derived.Test.YtjegbnfpodadcaaGreatDoorProg
import Derived.Shelf.Sort.Plain
import Derived.Shelf.Slices.In.SortNone
import Derived.DataReads
import Derived.ProofKit
import Derived.OpenShut
import Derived.Lib.SmallJoins
import Derived.Deep.DeepHandedRow
import Derived.Lib.LaidTab
set_option maxRecDepth 100000
set_option linter.unusedSimpArgs false
set_option linter.unusedVariables false
open Go.Proofs.Tryz
namespace Go.Proofs.YtjegbnfpodadcaaGreatDoor
open Go.RowKit
theorem VB (pt:Nat) (sum:UInt32) (v:Value) (n:Nat) (bs:List UInt8) (hn:bs.length=n) (A:Ae) (hA:∀ h,A h→rdH 1 v n (bs.map u8) h):Cn prog 133 [Pt_ pt,u32 sum,v] [tblA pt,A] (fun v Γ=>v=u32 (D4 sum bs)∧Γ=[tblA pt,A]):=by
 subst hn;exact QO pt sum v bs A hA
set_option maxHeartbeats 1000000 in
theorem XW (pl pd pt:Nat) (s:Sup) (at_ sq us:Int) (br nu:Bool) (D:Dsk) (hf1:D.f1=0) (hr:0≤s.start∧0<s.len∧s.start+s.len≤D.n) (ha:0≤at_∧at_≤1099511627776) (hu:0≤us∧us≤1099511627776) (hsl:s.len≤4096) (F:Nat→List UInt8) (hF:∀ j:Nat,F j=D.cont (ringAt s (at_+j))):Cn prog 96 [Pt_ pl] [lgB pl pd pt s at_ sq us br nu,tblA pt,diskA pd D] (fun v Γ=>((∀ ims,¬ nextP F s.epoch sq (s.len - us) ims)∧v= .tuple #[.agg #[Iv_ 0,.slice none 0 0],Iv_ 0]∧Γ=[lgB pl pd pt s at_ sq us br nu,tblA pt,diskA pd D])∨(∃ ims v' hq,nextP F s.epoch sq (s.len - us) ims∧v= .tuple #[.agg #[Iv_ sq,v'],Iv_ 0]∧imgsH v' ims hq∧Γ=[poolA hq,lgB pl pd pt s at_ sq us br nu,tblA pt,diskA pd D])):=by
 intro z R w H;replace H:=H.l3;have hF1:∀ j:Nat,(F j).length=256:=fun j=>by
   rw[hF];refine Dsk.cont_len (H.says 2 rfl (fun h q=>diskA.ok q)) ?_
   have hm1:=Int.emod_nonneg (at_+j) (by omega:s.len≠0)
   have hm2:=Int.emod_lt_of_pos (at_+j) (by omega:0<s.len)
   unfold ringAt;omega
 replace H:=(Ph H).l4
 refine Ad func96 rfl ntmps96 rfl (Za 2 [] H rfl ?_);intro b1 w H;refine Za 6 [] H rfl ?_;intro b2 w H;refine Z4 10 [0,9,3,0] H rfl ?_;intro w H;refine Aw rfl (call131 _) (Oi _ _ _ _ _ _ _ _ _ _ _ hf1 hr (by omega) (F 0) (by rw[hF];simp)) H.f5.f4 ?_;rintro _ w _ ⟨g,cap,rest,rfl,⟨cg,cc,cl⟩,rfl⟩ H;replace H:=H.l7;replace H:=H.f5;obtain ⟨hq1,⟨shq1,hshq1⟩,H⟩:=Dn H (fun h q=>D6 q (hF1 _) ⟨cg,cc,cl⟩);replace H:=H.l6;refine Z2 24 [4,1,1,0] H rfl (Aw rfl (call132 _) (QQ _ _ _ _ (F 0) _ (fun h q=>hshq1.le q)) H.f5 ?_);rintro _ w _ (⟨hh,v1,rfl,rfl⟩|⟨hh,rfl,rfl⟩) H'
 ·have H:=H'.l7;have hch:=hh
  refine Zc 1 rfl ?_;obtain ⟨ao1,cc1,rfl⟩:=H.says 0 rfl (fun h q=>q.slc);have H:Sep z (grow 3 1 (.slice ao1 (Bm (F 0)) cc1) (Bm (F 0)) (hN (F 0) (Bm (F 0)))::tblA pt::poolA hq1::lgB pl pd pt s at_ sq us br nu::diskA pd D::blk b2 [Iv_ 0,.slice none 0 0] 114::blk b1 [Iv_ 0,.slice none 0 0] 114::R) w:=H
  replace H:=H.f2;obtain ⟨hq2,⟨shq2,hns⟩,H⟩:=Dn H (fun h q=>q.rd);replace H:=H.l6;have hcnt:=hh.2.2.2.1
  refine Zc 2 rfl (AL rfl (BO (P:=prog) H rfl (zs:=[Iv_ 0,Iv_ 0,.slice none 0 0,u32 0]) (by kernel_rfl)) ?_);rintro _ w ⟨b3,rfl,H⟩;replace H:=H.l7;refine Z4 6 [0] H rfl ?_;intro w H;refine AG (Sep z _) (by kernel_rfl) (by kernel_rfl) H.drew (BF 13 [0,0,2,3,1] (fun _ hx=>(AK (hx.blk 0 rfl) (AK (hx.blk 3 rfl) AW))) rfl (by kernel_rfl) rfl (Bj 56 rfl (fun h1=> ?_) (fun h1=> ?_)))
  ·refine Br 25 [] rfl (by kernel_rfl) (AU (fun w H'=> ?_));have H:=H'.l7;refine gn (Z4 10 [5,2,6] H rfl ?_);intro w H;refine Zl [6,2] H rfl ?_;exact ⟨_,.inl ⟨fun ims=>by rintro ⟨q1,q2,q3,q4,q5,q6,q7⟩;first|exact hh q1|(exfalso;simp only[BX,BY] at q2 q3;omega)|exact absurd (q6 i (by omega)).1 hi|(have q8:=q6 i (by omega);simp only[ES,ET,BV,BX,BY] at *;exfalso;omega)|exact absurd (show AQ (Dx F (Bm (F 0)))=C8 (F 0) from q7) ‹_›,rfl,rfl⟩,H.perm 7 [3,2,4] rfl rfl⟩
  ·refine BF 9 [1,0,10,1] (fun _ hx=>(AK (hx.blk 0 rfl) (AK (hx.blk 3 rfl) AW))) rfl (by kernel_rfl) rfl (Bj 65 rfl (fun h2=> ?_) (fun h2=> ?_))
   ·refine Br 16 [] rfl (by kernel_rfl) (AU (fun w H'=> ?_));have H:=H'.l7;refine gn (Z4 10 [5,2,6] H rfl ?_);intro w H;refine Zl [6,2] H rfl ?_;exact ⟨_,.inl ⟨fun ims=>by rintro ⟨q1,q2,q3,q4,q5,q6,q7⟩;first|exact hh q1|(exfalso;simp only[BX,BY] at q2 q3;omega)|exact absurd (q6 i (by omega)).1 hi|(have q8:=q6 i (by omega);simp only[ES,ET,BV,BX,BY] at *;exfalso;omega)|exact absurd (show AQ (Dx F (Bm (F 0)))=C8 (F 0) from q7) ‹_›,rfl,rfl⟩,H.perm 7 [3,2,4] rfl rfl⟩
   ·refine Hl 16 [2,0,0,2,6,3,0,11,3,0,0] [1+((Bm (F 0):Nat):Int),s.len - us] rfl (by kernel_rfl) (by omega) (AU (fun w H'=> ?_));have H:=H'.l7;refine gn (Zc 1 rfl (Af rfl (fun h3=> ?_) (fun h3=> ?_)))
    ·refine Z4 8 [5,2,6] H rfl ?_;intro w H;refine Zl [6,2] H rfl ?_;exact ⟨_,.inl ⟨fun ims=>by rintro ⟨q1,q2,q3,q4,q5,q6,q7⟩;first|exact hh q1|(exfalso;simp only[BX,BY] at q2 q3;omega)|exact absurd (q6 i (by omega)).1 hi|(have q8:=q6 i (by omega);simp only[ES,ET,BV,BX,BY] at *;exfalso;omega)|exact absurd (show AQ (Dx F (Bm (F 0)))=C8 (F 0) from q7) ‹_›,rfl,rfl⟩,H.perm 7 [3,2,4] rfl rfl⟩
    ·refine Zc 14 rfl ?_;replace H:=(H.nilg 43 1).l8
     refine Z2 8 [2,1,0] H rfl ?_;refine AJ (σ:=Nat×Value×List Value×Hp) (fun ⟨i,v,pvs,hq⟩=>[(86,Iv_ (i:Int)),(9,u32 (AQ (Dx F i))),(10,v),(0,Pt_ pl),(2,Pt_ b1),(4,Pt_ b2),(7,Pt_ b3),(85,Iv_ ((Bm (F 0):Nat):Int))])
       (fun ⟨i,v,pvs,hq⟩ w=>Sep z (grow 43 1 v i pvs::blk b3 [Iv_ (BX (F 0)),Iv_ (BY (F 0)),.slice ao1 (Bm (F 0)) cc1,u32 (C8 (F 0))] 230::poolA hq::tblA pt::lgB pl pd pt s at_ sq us br nu::diskA pd D::blk b2 [Iv_ 0,.slice none 0 0] 114::blk b1 [Iv_ 0,.slice none 0 0] 114::R) w∧(i≤Bm (F 0)∧pvs.length=i∧Ck hq2 hq∧∀ (j:Nat) (pv:Value),pvs[j]? =some pv→rdH 1 pv 256 ((F (1+j)).map u8) hq)) (fun ⟨i,v,pvs,hq⟩=>Bm (F 0) - i) ⟨0,.slice none 0 0,[],hq2⟩
       (fun _ hF=>(hF.co rfl (by go_num) (hF.co rfl (ZL F) (hF.co rfl (by go_num) (hF.all rfl))))) ⟨H,by omega,rfl,fun k o e=>e,fun j pv h=>by simp at h⟩ ?_
     clear H;rintro ⟨i,v,pvs,hq⟩ w ⟨H',hI⟩;dsimp only at hI H' ⊢
     have H:=H'.l8;have sv:=H.says 0 rfl (fun h q=>q.slc)
     obtain ⟨hic,hpl,hsub,hpvs⟩:=hI;refine Z0 6 [0] rfl (Af rfl (fun h4=> ?_) (fun h4=> ?_))
     ·have hlt:i<Bm (F 0):=by omega
      refine Z3 20 [9,4,0] [at_+1,(at_+1)+(i:Int)] H rfl (by omega) (Aw rfl (call131 _) (Oi _ _ _ _ _ _ _ _ _ _ _ hf1 hr (by omega) (F (1+i)) (by rw[hF];congr 2;omega)) H.f5.f5 ?_);rintro _ w _ ⟨g,cap,rest,rfl,⟨cg,cc,cl⟩,rfl⟩ H;replace H:=H.l9;replace H:=H.f5;obtain ⟨hq3,⟨shq3,hshq3⟩,H⟩:=Dn H (fun h q=>D6 q (hF1 _) ⟨cg,cc,cl⟩);replace H:=H.l8;refine Z2 25 [4,1,1,0] H rfl (z_E_ rfl (call133 _) (VB _ _ _ 256 (F (1+i)) (hF1 _) _ (fun h q=>hshq3.le q)) H.f5 ?_);intro w H;refine Zc 6 rfl (AL rfl (AV H rfl (by kernel_rfl) Jh rfl (by decide) (by decide) (out:=[.slice (some ⟨g,0,none⟩) 256 cap]) (by kernel_rfl)) ?_);rintro _ w ⟨b4,rfl,H⟩;replace H:=H.l9;refine AL rfl (Bb 5 H rfl rfl (by kernel_rfl) Jh rfl rfl (H.rd 0 rfl (fun h q=>q.rd (by omega) (by omega) (by simp) rfl)) (by simp[Value.oneCell']) (by omega)) ?_;rintro v5 w H;replace H:=H.l9;have sv5:=H.says 5 rfl (fun h q=>q.slc)
      refine Z1 8 [] [(i:Int)+1] rfl (by omega) ?_;replace H:=H.d.f7.f7.f5.f5.f4.f5.f7.f7;refine gf ?_;intro _ hF;refine ⟨⟨i+1,v5,pvs++[.slice (some ⟨g,0,none⟩) 256 cap],hq3⟩,(hF.co rfl (by go_num) (hF.co rfl (congrArg u32 (Su F i)) (hF.all rfl))),⟨H,?_⟩,?_⟩
      ·refine ⟨by omega,by simp[hpl],fun k o e=>shq3 k o (hsub k o e),fun j pv h=> ?_⟩;rcases Nat.lt_or_ge j i with q|q
       ·rw[List.getElem?_append_left (by omega)] at h;exact (hpvs j pv h).le shq3
       ·rw[List.getElem?_append_right (by omega)] at h;obtain rfl:j=i:=by have:=(List.getElem?_eq_some_iff.1 h).1;simp at this;omega
        simp[hpl] at h;subst h;exact hshq3
      ·omega
     ·obtain rfl:i=Bm (F 0):=by omega
      refine Zc 2 rfl (gx (Zc 3 rfl ?_));obtain ⟨ao2,cc2,rfl⟩:=H.says 0 rfl (fun h q=>q.slc);have H:Sep z (grow 43 1 (.slice ao2 (Bm (F 0)) cc2) (Bm (F 0)) pvs::blk b3 [Iv_ (BX (F 0)),Iv_ (BY (F 0)),.slice ao1 (Bm (F 0)) cc1,u32 (C8 (F 0))] 230::poolA hq::tblA pt::lgB pl pd pt s at_ sq us br nu::diskA pd D::blk b2 [Iv_ 0,.slice none 0 0] 114::blk b1 [Iv_ 0,.slice none 0 0] 114::R) w:=H
      replace H:=H.f2;obtain ⟨hq4,⟨shq4,hpv4⟩,H⟩:=Dn H (fun h q=>q.rd);replace H:=H.l7;have hns4:=hns.le (fun k o e=>shq4 k o (hsub k o e))
      replace H:=(H.nilg 116 3).l8
      refine Za 6 [10,4,0] H rfl ?_;intro b6 w H;refine Z4 12 [0] H rfl ?_;intro w H;refine AJ (σ:=Nat×Value×List ImE×Hp) (fun ⟨i,v,es,hq5⟩=>[(124,Iv_ (i:Int)),(0,Pt_ pl),(2,Pt_ b1),(4,Pt_ b2),(7,Pt_ b3),(9,u32 (AQ (Dx F (Bm (F 0))))),(14,Pt_ b6),(122,.slice ao2 (Bm (F 0)) cc2),(123,Iv_ ((Bm (F 0):Nat):Int))])
        (fun ⟨i,v,es,hq5⟩ w=>Sep z (blk b6 [Iv_ sq,v] 114::grow 116 3 v i (Fy es)::poolA hq5::blk b3 [Iv_ (BX (F 0)),Iv_ (BY (F 0)),.slice ao1 (Bm (F 0)) cc1,u32 (C8 (F 0))] 230::tblA pt::lgB pl pd pt s at_ sq us br nu::diskA pd D::blk b2 [Iv_ 0,.slice none 0 0] 114::blk b1 [Iv_ 0,.slice none 0 0] 114::R) w∧(i≤Bm (F 0)∧es.length=i∧es.map Prod.fst=(List.range i).map (fun j=>BV (F (1+j)))∧Ck hq4 hq5∧imesOk es hq5∧∀ j,j<i→HF (F (1+j))∧ES (F (1+j))=s.epoch∧ET (F (1+j))=sq∧(BV (F (1+j))).num=DP (F 0) j∧AQ (Dx F (Bm (F 0)))=C8 (F 0))) (fun ⟨i,v,es,hq5⟩=>Bm (F 0) - i) ⟨0,.slice none 0 0,[],hq4⟩
        (fun _ hF=>(hF.co rfl (by go_num) (hF.all rfl))) ⟨H,by omega,rfl,rfl,fun k o e=>e,fun e he=>absurd he (by simp),fun j h=>by omega⟩ ?_
      clear H;rintro ⟨i,v,es,hq5⟩ w ⟨H',hI⟩;dsimp only at hI H' ⊢
      have H:=H'.l9;have sv:=H.says 1 rfl (fun h q=>q.slc)
      obtain ⟨hic,hel,hes,hsub5,hok,hall⟩:=hI;refine Z0 6 [0] rfl (Af rfl (fun h5=> ?_) (fun h5=> ?_))
      ·have hlt:i<Bm (F 0):=by omega
       refine Zc 5 rfl ?_;obtain ⟨pv,hpv⟩:∃ pv,pvs[i]? =some pv:=⟨_,List.getElem?_eq_getElem (by omega)⟩;have hsec:=(hpvs i pv hpv).le (fun k o e=>hsub5 k o (shq4 k o e))
       obtain ⟨sb,so,sc,rfl⟩:=hsec.sl (by rw[List.length_map,hF1];decide);have hat2:=(H.rd 2 rfl (fun h q=>(hpv4.le hsub5).le q)).at (j:=i) hpv
       have hat1:=(H.rd 2 rfl (fun h q=>(hns4.le hsub5).le q)).at (j:=i) (u:=Iv_ (DP (F 0) i)) (by simp[hN,show i<Bm (F 0) from by omega])
       refine Zc 2 rfl (Ac rfl (AD rfl (z:=1) (j:=i) (r:=i) (by kernel_rfl) rfl rfl rfl (by omega) hat2 (by omega)) (Ac rfl (AR rfl rfl (by kernel_rfl) (AB hat2)) (Z2 11 [1,5,0] H rfl (Aw rfl (call134 _) (Pk _ _ _ _ (F (1+i)) _ (fun h q=>hsec.le q)) H.f2.f4 ?_))));rintro _ w _ (⟨hi,g3,cap3,rest3,rfl,⟨cg3,cc3,cl3⟩,rfl⟩|⟨hi,rfl,rfl⟩) H'
       ·have H:=H'.l10;refine Zc 1 rfl ?_;replace H:=H.f2;obtain ⟨hq6,⟨shq6,hbody⟩,H⟩:=Dn H (fun h q=>D6 q (by simp[hF1]) ⟨cg3,cc3,cl3⟩);replace H:=H.l9;refine Za 4 [] H rfl ?_;intro b7 w H;refine Z4 8 [0] H rfl ?_;intro w H;refine AG (Sep z _) (by kernel_rfl) (by kernel_rfl) H.drew (BF 9 [0,0] (fun _ hx=>(AK (hx.blk 5 rfl) AW)) rfl (by kernel_rfl) rfl (Bj 148 rfl (fun h6=> ?_) (fun h6=> ?_)))
        ·refine Br 21 [] rfl (by kernel_rfl) (AU (fun w H'=> ?_));have H:=H'.l10;refine gn (Z4 10 [8,2,9] H rfl ?_);intro w H;refine Zl [9,2] H rfl ?_;exact ⟨_,.inl ⟨fun ims=>by rintro ⟨q1,q2,q3,q4,q5,q6,q7⟩;first|exact hh q1|(exfalso;simp only[BX,BY] at q2 q3;omega)|exact absurd (q6 i (by omega)).1 hi|(have q8:=q6 i (by omega);simp only[ES,ET,BV,BX,BY] at *;exfalso;omega)|exact absurd (show AQ (Dx F (Bm (F 0)))=C8 (F 0) from q7) ‹_›,rfl,rfl⟩,H.perm 10 [6,2,7] rfl rfl⟩
        ·refine BF 6 [1,0] (fun _ hx=>(AK (hx.blk 5 rfl) AW)) rfl (by kernel_rfl) rfl (Bj 154 rfl (fun h7=> ?_) (fun h7=> ?_))
         ·refine Br 15 [] rfl (by kernel_rfl) (AU (fun w H'=> ?_));have H:=H'.l10;refine gn (Z4 10 [8,2,9] H rfl ?_);intro w H;refine Zl [9,2] H rfl ?_;exact ⟨_,.inl ⟨fun ims=>by rintro ⟨q1,q2,q3,q4,q5,q6,q7⟩;first|exact hh q1|(exfalso;simp only[BX,BY] at q2 q3;omega)|exact absurd (q6 i (by omega)).1 hi|(have q8:=q6 i (by omega);simp only[ES,ET,BV,BX,BY] at *;exfalso;omega)|exact absurd (show AQ (Dx F (Bm (F 0)))=C8 (F 0) from q7) ‹_›,rfl,rfl⟩,H.perm 10 [6,2,7] rfl rfl⟩
         ·refine BF 5 [0,0,2,1] (fun _ hx=>(AK (hx.blk 0 rfl) (AK (hx.blk 5 rfl) AW))) rfl (by kernel_rfl) rfl (A6 rfl rfl rfl (AD rfl (z:=1) (j:=i) (r:=i) (by kernel_rfl) rfl rfl rfl (by omega) hat1 (by omega)) (A6 rfl rfl rfl (AR rfl rfl (by kernel_rfl) (fun _ hx=>(hx.rd 1 rfl (fun h q=>(hns4.le (fun k o e=>shq6 k o (hsub5 k o e))).le q)).at (j:=i) (u:=Iv_ (DP (F 0) i)) (by simp[hN,show i<Bm (F 0) from by omega]))) (Br 3 [] rfl (by kernel_rfl) (Bj 164 rfl (fun h8=> ?_) (fun h8=> ?_)))))
          ·refine Br 5 [] rfl (by kernel_rfl) (AU (fun w H'=> ?_));have H:=H'.l10;refine gn (Z4 10 [8,2,9] H rfl ?_);intro w H;refine Zl [9,2] H rfl ?_;exact ⟨_,.inl ⟨fun ims=>by rintro ⟨q1,q2,q3,q4,q5,q6,q7⟩;first|exact hh q1|(exfalso;simp only[BX,BY] at q2 q3;omega)|exact absurd (q6 i (by omega)).1 hi|(have q8:=q6 i (by omega);simp only[ES,ET,BV,BX,BY] at *;exfalso;omega)|exact absurd (show AQ (Dx F (Bm (F 0)))=C8 (F 0) from q7) ‹_›,rfl,rfl⟩,H.perm 10 [6,2,7] rfl rfl⟩
          ·refine BF 3 [3,0] (fun _ hx=>(AK (hx.blk 5 rfl) AW)) rfl (by kernel_rfl) rfl (A6 rfl rfl rfl (US (k:= .u32) rfl (by kernel_rfl) rfl rfl) (Br 1 [] rfl (by kernel_rfl) (AU (fun w H'=> ?_))));have H:=H'.l10;refine gn (Zc 1 rfl (Af rfl (fun h9=> ?_) (fun h9=> ?_)))
           ·refine Z4 8 [8,2,9] H rfl ?_;intro w H;refine Zl [9,2] H rfl ?_;exact ⟨_,.inl ⟨fun ims=>by rintro ⟨q1,q2,q3,q4,q5,q6,q7⟩;first|exact hh q1|(exfalso;simp only[BX,BY] at q2 q3;omega)|exact absurd (q6 i (by omega)).1 hi|(have q8:=q6 i (by omega);simp only[ES,ET,BV,BX,BY] at *;exfalso;omega)|exact absurd (show AQ (Dx F (Bm (F 0)))=C8 (F 0) from q7) ‹_›,rfl,rfl⟩,H.perm 10 [6,2,7] rfl rfl⟩
           ·refine Z2 6 [1,3,0,0,3] H rfl (AL rfl (AV H rfl (by kernel_rfl) CU rfl (by decide) (by decide) (out:=[Iv_ ((BV (F (1+i))).num),Iv_ ((BV (F (1+i))).kind),.slice (some ⟨g3,0,none⟩) 240 cap3]) (by kernel_rfl)) ?_);rintro _ w ⟨b8,rfl,H⟩;replace H:=H.l11;refine AL rfl (Bb 5 H rfl rfl (by kernel_rfl) CU rfl rfl (H.rd 0 rfl (fun h q=>q.rd (by omega) (by omega) (by simp) rfl)) (by simp[Value.oneCell']) (by omega)) ?_;rintro v9 w H';have H':Sep z (blk b8 [Iv_ ((BV (F (1+i))).num),Iv_ ((BV (F (1+i))).kind),.slice (some ⟨g3,0,none⟩) 240 cap3] 116::blk b7 [Iv_ ((BV (F (1+i))).num),Iv_ ((BV (F (1+i))).kind),.slice (some ⟨g3,0,none⟩) 240 cap3] 116::poolA hq6::tblA pt::blk b6 [Iv_ sq,v] 114::grow 116 3 v9 (i+1) (Fy es++[Iv_ ((BV (F (1+i))).num),Iv_ ((BV (F (1+i))).kind),.slice (some ⟨g3,0,none⟩) 240 cap3])::blk b3 [Iv_ (BX (F 0)),Iv_ (BY (F 0)),.slice ao1 (Bm (F 0)) cc1,u32 (C8 (F 0))] 230::lgB pl pd pt s at_ sq us br nu::diskA pd D::blk b2 [Iv_ 0,.slice none 0 0] 114::blk b1 [Iv_ 0,.slice none 0 0] 114::R) w:=H'
            have ev9:(Fy es++[Iv_ ((BV (F (1+i))).num),Iv_ ((BV (F (1+i))).kind),.slice (some ⟨g3,0,none⟩) 240 cap3]:List Value)=Fy (es++[(BV (F (1+i)),.slice (some ⟨g3,0,none⟩) 240 cap3)]):=Mx es (BV (F (1+i)),.slice (some ⟨g3,0,none⟩) 240 cap3)
            rw[ev9] at H';have H:=H'.l11;have sv9:=H.says 5 rfl (fun h q=>q.slc)
            refine Z0 1 [1] rfl (Az rfl rfl (LN 4 H rfl rfl rfl rfl sv9.cells sv9.one (by kernel_rfl)) ?_);rintro w H;replace H:=H.l11;refine Z1 7 [] [(i:Int)+1] rfl (by omega) ?_;replace H:=H.f1.d.d.f8.f8.f8.f8.f5.f8.f6.f8.f8;refine gf ?_;intro _ hF;refine ⟨⟨i+1,v9,es++[(BV (F (1+i)),.slice (some ⟨g3,0,none⟩) 240 cap3)],hq6⟩,(hF.co rfl (by go_num) (hF.all rfl)),⟨H,?_⟩,?_⟩
            ·refine ⟨by omega,by simp[hel],by simp[hes,List.range_succ],fun k o e=>shq6 k o (hsub5 k o e),?_,fun j hj=> ?_⟩
             ·intro e he;rcases List.mem_append.1 he with q|q
              ·exact (hok e q).le shq6
              ·rw[List.mem_singleton.1 q];simpa [BV,hF1] using hbody
             ·rcases Nat.lt_or_ge j i with q|q
              ·exact hall j q
              ·obtain rfl:j=i:=by omega
               simp only[ES,ET,BX,BY,BV] at *;exact ⟨hi,by omega,by omega,by omega,Decidable.of_not_not ‹_›⟩
            ·omega
       ·have H:=H'.l9;refine Za 5 [] H rfl ?_;intro b10 w H;refine Z4 8 [0] H rfl ?_;intro w H;refine AG (Sep z _) (by kernel_rfl) (by kernel_rfl) H.drew (Br 30 [] rfl (by kernel_rfl) (AU (fun w H'=> ?_)));have H:=H'.l10;refine gn (Z4 10 [8,2,9] H rfl ?_);intro w H;refine Zl [9,2] H rfl ?_;exact ⟨_,.inl ⟨fun ims=>by rintro ⟨q1,q2,q3,q4,q5,q6,q7⟩;first|exact hh q1|(exfalso;simp only[BX,BY] at q2 q3;omega)|exact absurd (q6 i (by omega)).1 hi|(have q8:=q6 i (by omega);simp only[ES,ET,BV,BX,BY] at *;exfalso;omega)|exact absurd (show AQ (Dx F (Bm (F 0)))=C8 (F 0) from q7) ‹_›,rfl,rfl⟩,H.perm 10 [6,1,7] rfl rfl⟩
      ·obtain rfl:i=Bm (F 0):=by omega
       refine Zc 2 rfl (gx (Z2 5 [0,2] H rfl (Az rfl rfl (Ag 8 H rfl rfl rfl rfl (vs:=[Iv_ sq,v]) rfl (Ab rfl (Ab sv.one Ar)) (by kernel_rfl) (by simp) (out:=[Iv_ sq,v]) rfl) ?_)));rintro w H;replace H:=H.l9;refine Zc 4 rfl (Zl [8,2] H rfl ?_);replace H:=H.f1.f2;obtain ⟨hq7,⟨shq7,him7⟩,H⟩:=Dn H (fun h q=>q.rd);replace H:=H.l8;exact ⟨_,.inr ⟨_,v,hq7,⟨hh,by unfold BX;omega,by unfold BY;omega,by omega,rfl,fun j hj=>⟨(hall j hj).1,(hall j hj).2.1,(hall j hj).2.2.1,(hall j hj).2.2.2.1⟩,(hall 0 (by omega)).2.2.2.2⟩,rfl,⟨es,hes,by simpa using him7,hok.le shq7⟩,rfl⟩,H.perm 8 [0,4,3,5] rfl rfl⟩
 ·have H:=H'.l6;refine Zc 3 rfl (AL rfl (BO (P:=prog) H rfl (zs:=[Iv_ 0,Iv_ 0,.slice none 0 0,u32 0]) (by kernel_rfl)) ?_);rintro _ w ⟨b11,rfl,H⟩;replace H:=H.l7;refine Z4 6 [0] H rfl ?_;intro w H;refine AG (Sep z _) (by kernel_rfl) (by kernel_rfl) H.drew (Br 38 [] rfl (by kernel_rfl) (AU (fun w H'=> ?_)));have H:=H'.l7;refine gn (Z4 10 [5,2,6] H rfl ?_);intro w H;refine Zl [6,2] H rfl ?_;exact ⟨_,.inl ⟨fun ims=>by rintro ⟨q1,q2,q3,q4,q5,q6,q7⟩;first|exact hh q1|(exfalso;simp only[BX,BY] at q2 q3;omega)|exact absurd (q6 i (by omega)).1 hi|(have q8:=q6 i (by omega);simp only[ES,ET,BV,BX,BY] at *;exfalso;omega)|exact absurd (show AQ (Dx F (Bm (F 0)))=C8 (F 0) from q7) ‹_›,rfl,rfl⟩,H.perm 7 [3,1,4] rfl rfl⟩
open Go.RowKit
theorem Oj (pd pt:Nat) (D:Dsk) (s:Sup) (hok:s.Ok (D.n:Int)):Cn prog 56 [Pt_ pd,Pt_ pt,.agg #[Iv_ s.gen,Iv_ s.epoch,Iv_ s.pages,Iv_ s.start,Iv_ s.len,Iv_ s.head,Iv_ s.seq]] [diskA pd D] (fun v Γ=>∃ pl,v=Pt_ pl∧Γ=[lgB pl pd pt s s.head s.seq 0 false (decide (s.epoch<4294967296)),diskA pd D]):=by
 refine Cn.mono (Cn.onDisk (post:=fun v Γ=>∃ pl,v=Pt_ pl∧Γ=[lgB pl pd pt s s.head s.seq 0 false (decide (s.epoch<4294967296))]) (fun hD bd m f0=> ?_)) ?_
 ·have hn2:=hD.n2
  refine Cn.mono (VA pd bd m (D.n * 256) f0 D.f1 D.f2 D.f3 D.left D.cut pt s (by omega) (by rw[show ((D.n * 256:Nat):Int) / 256=(D.n:Int) from by omega];exact hok)) ?_
  rintro v Γ ⟨pl,rfl,rfl⟩
  exact ⟨_,⟨pl,rfl,rfl⟩,rfl⟩
 ·rintro v Γ ⟨Γ',⟨pl,rfl,rfl⟩,rfl⟩
  exact ⟨pl,rfl,rfl⟩
set_option maxHeartbeats 1000000 in
theorem XX (pd pt:Nat) (s:Sup) (D:Dsk) (hok:s.Ok (D.n:Int)) (hf1:D.f1=0):Cn prog 54 [Pt_ pd,Pt_ pt,.agg #[Iv_ s.gen,Iv_ s.epoch,Iv_ s.pages,Iv_ s.start,Iv_ s.len,Iv_ s.head,Iv_ s.seq]] [tblA pt,diskA pd D] (fun v Γ=>∃ pl rs a q u v' hq,v= .tuple #[Pt_ pl,v',Iv_ 0]∧Runs D s s.head s.seq 0 rs a q u∧(s.len≤u∨∀ ims,¬ nextP (CH D s a) s.epoch q (s.len - u) ims)∧recsH v' rs hq∧Γ=[poolA hq,lgB pl pd pt s a q u false (decide (s.epoch<4294967296)),tblA pt,diskA pd D]):=by
 intro z R w H;replace H:=H.l2;have hn2:=H.says 1 rfl (fun h q=>(diskA.ok q).n2)
 have hsg:=Sup.get hok
 have hr:0≤s.start∧0<s.len∧s.start+s.len≤D.n:=by have:=hok.2;omega
 have hhd:=hok.2.2.2.2.2.2.2
 refine Ad func54 rfl ntmps54 rfl (Za 2 [] H rfl ?_);intro b1 w H;refine Z2 10 [0,7] H rfl (Aw rfl (call56 _) (Oj _ _ _ s hok) H.f2 ?_);rintro _ w _ ⟨pl,rfl,rfl⟩ H;refine Zc 17 rfl ?_;replace H:=(H.nilg 114 2).l5
 replace H:=(Ph H).l6
 refine Zc 3 rfl ?_;refine AJ (σ:=List RcE×Value×Int×Int×Int×Hp) (fun ⟨es,v,a,q,u,hq⟩=>[(10,v),(5,Pt_ b1),(9,Pt_ pl)])
   (fun ⟨es,v,a,q,u,hq⟩ w=>Sep z (poolA hq::grow 114 2 v es.length (HG es)::lgB pl pd pt s a q u false (decide (s.epoch<4294967296))::diskA pd D::blk b1 [Iv_ s.gen,Iv_ s.epoch,Iv_ s.pages,Iv_ s.start,Iv_ s.len,Iv_ s.head,Iv_ s.seq] 103::tblA pt::R) w∧(Runs D s s.head s.seq 0 (es.map Prod.fst) a q u∧rcesOk es hq∧(0≤a∧a≤4096)∧(s.seq≤q∧q≤s.seq+u)∧(0≤u∧u≤s.len)∧es.length≤u)) (fun ⟨es,v,a,q,u,hq⟩=>(s.len - u).toNat) ⟨[],.slice none 0 0,s.head,s.seq,0,(fun _=>none)⟩
   (fun _ hF=>(hF.co rfl (by go_num) (hF.all rfl))) ⟨H,.nil _ _ _,fun e he=>absurd he (by simp),by omega,by omega,by omega,by simp⟩ ?_
 clear H;rintro ⟨es,v,a,q,u,hq⟩ w ⟨H',hI⟩;dsimp only at hI H' ⊢
 have H:=H'.l6;have sv:=H.says 1 rfl (fun h q=>q.slc)
 obtain ⟨hrun,hok2,ha,hq1,hu,hel⟩:=hI;refine Zc 2 rfl (AG (Sep z _) (by kernel_rfl) (by kernel_rfl) H.drew (BF 7 [11,0,4,1] (fun _ hx=>(AK (hx.blk 2 rfl) (AK (hx.blk 4 rfl) AW))) rfl (by kernel_rfl) rfl (AU (fun w H'=> ?_))));have H:=H'.l6;refine gn (Zc 1 rfl (Af rfl (fun h1=> ?_) (fun h1=> ?_)))
 ·refine Zc 6 rfl (Aw rfl (call96 _) (XW _ _ _ _ _ _ _ _ _ _ hf1 hr (by omega) (by omega) (by omega) (CH D s a) (fun j=>rfl)) H.f3.f5.f4 ?_);rintro _ w _ (⟨hno,rfl,rfl⟩|⟨ims,v1,hq1,hyes,rfl,him,rfl⟩) H'
  ·have H:=H'.l6;have hcase:=True.intro
   refine Za 3 [] H rfl ?_;intro b2 w H;refine Z4 27 [0,4,1,0,0,3] H rfl ?_;intro w H;refine gx (Zc 12 rfl (Zr rfl ?_));replace H:=H.f5.f5;obtain ⟨hq7,⟨shq7,hrs7⟩,H⟩:=Dn H (fun h q=>q.rd);replace H:=H.l6;exact ⟨_,⟨pl,es.map Prod.fst,a,q,u,v,hq7,rfl,hrun,by first|exact .inl (by omega)|exact .inr hno,⟨es,rfl,by simpa using hrs7,hok2.le shq7⟩,rfl⟩,H.perm 6 [0,2,3,4] rfl rfl⟩
  ·have H:=H'.l7;obtain ⟨ao1,cc1,hv1⟩:=him.slc;have sv1:Slc v1 ims.length:=⟨ao1,cc1,hv1⟩
   clear hv1;have hlen:=hyes.len
   refine Za 3 [] H rfl ?_;intro b3 w H;refine Az rfl rfl (Ag 0 H rfl rfl rfl rfl (vs:=[Iv_ q,v1]) rfl (Ab rfl (Ab sv1.one Ar)) (by kernel_rfl) (by simp) (out:=[Iv_ q,v1]) rfl) ?_;rintro w H;replace H:=H.l8;refine Zc 5 rfl ?_;replace H:=H.f1.f5;obtain ⟨hq2,⟨shq2,him2⟩,H⟩:=Mw H (M:=imgsH v1 ims) (fun h q=>him.le q) (fun _ _ a b=>a.le b);replace H:=H.l7;refine Z2 13 [4,1,1,0] H rfl (Ac rfl (CL rfl (sz:=3) (by kernel_rfl) rfl sv1) (Z0 3 [0] rfl (Af rfl (fun h2=> ?_) (fun h2=> ?_))))
   ·(exfalso;omega)
   ·refine Z2 6 [1,2] H rfl (AL rfl (AV H rfl (by kernel_rfl) ER rfl (by decide) (by decide) (out:=[Iv_ q,v1]) (by kernel_rfl)) ?_);rintro _ w ⟨b4,rfl,H⟩;replace H:=H.l8;refine AL rfl (Bb 6 H rfl rfl (by kernel_rfl) ER rfl rfl (H.rd 0 rfl (fun h q=>q.rd (by omega) (by omega) (by simp) rfl)) (Ab rfl (Ab sv1.one Ar)) (by omega)) ?_;rintro v5 w H';have H':Sep z (blk b4 [Iv_ q,v1] 114::poolA hq2::blk b3 [Iv_ q,v1] 114::lgB pl pd pt s a q u false (decide (s.epoch<4294967296))::tblA pt::diskA pd D::grow 114 2 v5 (es.length+1) (HG es++[Iv_ q,v1])::blk b1 [Iv_ s.gen,Iv_ s.epoch,Iv_ s.pages,Iv_ s.start,Iv_ s.len,Iv_ s.head,Iv_ s.seq] 103::R) w:=H'
    have ev5:(HG es++[Iv_ q,v1]:List Value)=HG (es++[(⟨q,ims⟩,v1)]):=Ss es (⟨q,ims⟩,v1)
    rw[ev5] at H';rw[show (es.length+1:Nat)=(es++[((⟨q,ims⟩:Rc),v1)]).length from by simp] at H';have H:=H'.l8;have sv5:=H.says 6 rfl (fun h q=>q.slc)
    refine Z2 7 [1,2,0] H rfl (Ac rfl (CL rfl (sz:=3) (by kernel_rfl) rfl sv1) (Z1 1 [] [1+(ims.length:Int)] rfl (by omega) (z_E_ rfl (call97 _) (IU _ _ _ _ _ _ _ _ _ _ (by omega) (by omega) (by omega) (by omega) (by omega)) H.f3 ?_)));intro w H;refine Zc 2 rfl ?_;replace H:=H.f3.d.f1.d.f2.f5.f4.f3.f5.f5;refine gf ?_;intro _ hF;refine ⟨⟨es++[(⟨q,ims⟩,v1)],v5,(a+(1+(ims.length:Int))) % s.len,q+1,u+(1+(ims.length:Int)),hq2⟩,(hF.all rfl),⟨H,?_⟩,?_⟩
    ·dsimp only
     have hm1:=Int.emod_nonneg (a+(1+(ims.length:Int))) (by omega:s.len≠0)
     have hm2:=Int.emod_lt_of_pos (a+(1+(ims.length:Int))) (by omega:0<s.len)
     refine ⟨?_,?_,by omega,by omega,by omega,by simp;omega⟩
     ·rw[List.map_append];exact .snoc hrun (by omega) hyes
     ·intro e he;rcases List.mem_append.1 he with q|q
      ·exact (hok2 e q).le shq2
      ·rw[List.mem_singleton.1 q];exact him2
    ·(dsimp only;omega)
 ·refine Zc 2 rfl (gx (Zc 12 rfl (Zr rfl ?_)));obtain ⟨hq7,⟨shq7,hrs7⟩,H⟩:=Dn H (fun h q=>q.rd);replace H:=H.l5;exact ⟨_,⟨pl,es.map Prod.fst,a,q,u,v,hq7,rfl,hrun,by first|exact .inl (by omega)|exact .inr hno,⟨es,rfl,by simpa using hrs7,hok2.le shq7⟩,rfl⟩,H.perm 5 [0,1,4,2] rfl rfl⟩
open Go.RowKit
set_option maxHeartbeats 1000000 in
theorem SL (pl pd pt:Nat) (s:Sup) (at_ sq us:Int) (br nu:Bool) (v:Value) (ims:List Img) (A:Ae) (hA:∀ h,A h→imgsH v ims h) (hnu:nu=decide (s.epoch<4294967296)) (hep0:0≤s.epoch∧s.epoch≤1099511627776) (hsq:0≤sq∧sq≤2199023255552) (hlen:1≤ims.length∧ims.length≤40) (hsl:0≤s.len∧s.len≤1099511627776) (hu:0≤us∧us≤2199023255552):Cn prog 151 [Pt_ pl,v] [lgB pl pd pt s at_ sq us br nu,tblA pt,A] (fun v Γ=>(¬ D7 ims∧v= .tuple #[.slice none 0 0,Iv_ 1]∧Γ=[lgB pl pd pt s at_ sq us br nu,tblA pt,A])∨(D7 ims∧¬ (1+(ims.length:Int)≤(if br then 0 else s.len - us)∧nu=true∧sq<1099511627776)∧v= .tuple #[.slice none 0 0,Iv_ 15]∧Γ=[lgB pl pd pt s at_ sq us br nu,tblA pt,A])∨(D7 ims∧(1+(ims.length:Int)≤(if br then 0 else s.len - us)∧nu=true∧sq<1099511627776)∧∃ v',v= .tuple #[v',Iv_ 0]∧Γ=[grow 5 1 v' ((1+ims.length) * 256) ((Bg s.epoch sq ims).flatten.map u8),lgB pl pd pt s at_ sq us br nu,tblA pt,A])):=by
 intro z R w H;replace H:=H.l3;obtain ⟨ao,ic,rfl⟩:=H.says 2 rfl (fun h q=>(hA h q).slc);obtain ⟨es,hes,H'⟩:=Sep.imA 2 H rfl hA;clear H;have hel:es.length=ims.length:=by rw[←hes];simp
 have H:=H'.l3;refine Ad func151 rfl ntmps151 rfl (Zc 13 rfl (AL rfl (Fj H rfl) ?_));rintro _ w ⟨m1,rfl,H⟩;replace H:=H.l4;refine Zc 4 rfl ?_;replace H:=H.f1;refine AI (Sep z (lgB pl pd pt s at_ sq us br nu::R)) 12 rfl (by kernel_rfl) (Bc H fun w H'=> ?_)
 have H:=H'.l4;refine AM [0,1,2,3,4,5,6,7,8] [2,3,0,0,10,0,0] [] (by exact (H.pick 4 [0] rfl)) rfl (by kernel_rfl) rfl (B4 9 rfl (by kernel_rfl) (by kernel_rfl) (by kernel_rfl) rfl rfl rfl (AF rfl rfl (out:=[Iv_ s.epoch,Iv_ sq,.slice none 0 0,u32 0]) (by kernel_rfl)) (H.pick 4 [0] rfl) (Av [10] (by kernel_rfl) (by simp) (Au (Ce rfl rfl rfl rfl (BO (P:=prog) H rfl (zs:=[Iv_ 0,Iv_ 0,.slice none 0 0,u32 0]) (by kernel_rfl)) ?_))));rintro _ w ⟨b2,rfl,H⟩;replace H:=H.l5;refine Ap (H.pick 5 [1] rfl) (Av [11] (by kernel_rfl) (by simp) (Au (A8 rfl rfl rfl (Ag 0 H rfl rfl rfl rfl (vs:=[Iv_ s.epoch,Iv_ sq,.slice none 0 0,u32 0]) rfl (by simp[u8,u32,Value.oneCell']) (by kernel_rfl) (by simp) (out:=[Iv_ s.epoch,Iv_ sq,.slice none 0 0,u32 0]) rfl) ?_)));rintro w H;replace H:=H.l5;refine Ap (H.pick 5 [1] rfl) (a_done (by kernel_rfl) (gn (Zc 8 rfl ?_)));replace H:=(H.nilg 3 1).l6
 refine Zc 2 rfl ?_;refine AJ (σ:=Nat×Value) (fun ⟨i,v1⟩=>[(32,Iv_ (i:Int)),(0,Pt_ pl),(1,.slice ao ims.length ic),(6,.slice none 0 0),(7,.map (some m1)),(8,Pt_ b2),(30,.slice ao ims.length ic),(31,Iv_ (ims.length:Int))])
   (fun ⟨i,v1⟩ w=>Sep z (grow 3 1 v1 i (EU (ims.take i))::blk b2 [Iv_ s.epoch,Iv_ sq,v1,u32 0] 230::lgB pl pd pt s at_ sq us br nu::Ay m1 (seen ((ims.take i).map Img.num)) (((ims.take i).map Img.num).length)::tblA pt::imA A (.slice ao ims.length ic) es::R) w∧(i≤ims.length∧(∀ (j:Nat) (m:Img),j<i→ims[j]? =some m→m.Ok)∧((ims.take i).map Img.num).Nodup)) (fun ⟨i,v1⟩=>ims.length - i) ⟨0,.slice none 0 0⟩
   (fun _ hF=>(hF.co rfl (by go_num) (hF.all rfl))) ⟨H,by omega,fun j m h=>by omega,by simp⟩ ?_
 clear H;rintro ⟨i,v1⟩ w ⟨H',hI⟩;dsimp only at hI H' ⊢
 have H:=H'.l6;have sv1:=H.says 0 rfl (fun h q=>q.slc)
 obtain ⟨hin,hall,hnd⟩:=hI;refine Z0 6 [0] rfl (Af rfl (fun h1=> ?_) (fun h1=> ?_))
 ·have hlt:i<ims.length:=by omega
  refine Zc 6 rfl ?_;obtain ⟨⟨im,bv⟩,he⟩:∃ e:ImE,es[i]? =some e:=⟨_,List.getElem?_eq_getElem (by omega)⟩;have him:ims[i]? =some im:=by rw[←hes];simp[he]
  have sbv:Slc bv im.body.length:=H.says 5 rfl (fun h q=>(q.2.2 _ (List.mem_of_getElem? he)).slc)
  have hati:=imA.at 5 H rfl he
  have hat:=hati 0 (Iv_ im.num) rfl
  refine Ac rfl (AD rfl (z:=3) (j:=i) (r:=i * 3) (by kernel_rfl) rfl rfl rfl (by omega) hat (by omega)) (Ac rfl (DW rfl rfl (vs:=[Iv_ im.num,Iv_ im.kind,bv]) (by kernel_rfl) (by simp) (AB hati)) (Za 0 [] H rfl ?_));intro b3 w H;refine Az rfl rfl (Ag 0 H rfl rfl rfl rfl (vs:=[Iv_ im.num,Iv_ im.kind,bv]) rfl (Ab rfl (Ab rfl (Ab sbv.one Ar))) (by kernel_rfl) (by simp) (out:=[Iv_ im.num,Iv_ im.kind,bv]) rfl) ?_;rintro w H;replace H:=H.l7;refine Zc 4 rfl ?_;replace H:=H.f3;refine AI (Sep z (lgB pl pd pt s at_ sq us br nu::blk b3 [Iv_ im.num,Iv_ im.kind,bv] 116::R)) 11 rfl (by kernel_rfl) (Bc H fun w H'=> ?_)
  have H:=H'.l7;refine AM [0,1,2,3,4] [1,0,0,1,3] [] (by exact (H.pick 7 [0,1] rfl)) rfl (by kernel_rfl) rfl (Av [5] (by kernel_rfl) (by simp) (Au (BL rfl rfl rfl rfl rfl rfl (fun w=>call99 _ w) (KK _ _ _ _ im.body _ (fun h q=>q.2.2 _ (List.mem_of_getElem? he))) H.f6.f6 rfl ?_)));rintro _ w _ (⟨hbad,rfl,rfl⟩|⟨hgood,pw,rfl,rfl⟩) H'
  ·have H:Sep z (tblA pt::imA A (.slice ao ims.length ic) es::lgB pl pd pt s at_ sq us br nu::blk b3 [Iv_ im.num,Iv_ im.kind,bv] 116::grow 3 1 v1 i (EU (ims.take i))::blk b2 [Iv_ s.epoch,Iv_ sq,v1,u32 0] 230::Ay m1 (seen ((ims.take i).map Img.num)) (((ims.take i).map Img.num).length)::R) w:=H'
   clear H';refine Ap (H.pick 7 [2,3] rfl) (AM [6,7,8,9,10] [] [] (by exact (H.pick 7 [2,3] rfl)) rfl (by kernel_rfl) rfl (a_done (by kernel_rfl) (gn (Z0 21 [3] rfl (Zr rfl ?_)))));replace H:=(H.mono 1 (B:=A) rfl (fun h q=>q.1)).l7
   exact ⟨_,.inl ⟨by rintro ⟨q1,q2⟩;first|exact hbad (q1 im (List.mem_of_getElem? him))|(exact Jr q2 him ‹_›),rfl,rfl⟩,H.perm 7 [2,0,1] rfl rfl⟩
  ·have H:Sep z (blk pw (AX (Bf ([80,80,65,71]++Ah 1 im.kind++Ah 4 im.num++[0,0,0]++im.body)) 252) 165::tblA pt::imA A (.slice ao ims.length ic) es::lgB pl pd pt s at_ sq us br nu::blk b3 [Iv_ im.num,Iv_ im.kind,bv] 116::grow 3 1 v1 i (EU (ims.take i))::blk b2 [Iv_ s.epoch,Iv_ sq,v1,u32 0] 230::Ay m1 (seen ((ims.take i).map Img.num)) (((ims.take i).map Img.num).length)::R) w:=H'
   clear H';refine Ap (H.pick 8 [3,4] rfl) (AM [6,7,8,9,10] [] [] (by exact (H.pick 8 [3,4] rfl)) rfl (by kernel_rfl) rfl (a_done (by kernel_rfl) (gn (Z2 9 [4,0,4,0] H rfl (Ac rfl (E5 (e:=4) (zv:= .bool false) rfl (by kernel_rfl) (by kernel_rfl) rfl rfl (AB (H.bk 7 rfl))) (Al 51 (v:= .bool (decide (im.num∈(ims.take i).map Img.num))) rfl (Sv _ _) (Zc 3 rfl (Af rfl (fun h2=> ?_) (fun h2=> ?_)))))))))
   ·refine Zc 7 rfl (Zr rfl ?_);replace H:=(H.mono 2 (B:=A) rfl (fun h q=>q.1)).l8
    exact ⟨_,.inl ⟨by rintro ⟨q1,q2⟩;first|exact hbad (q1 im (List.mem_of_getElem? him))|(exact Jr q2 him ‹_›),rfl,rfl⟩,H.perm 8 [3,1,2] rfl rfl⟩
   ·refine Z2 7 [0,4,0] H rfl (Az rfl rfl (Dg 7 (e:=4) H rfl rfl (by kernel_rfl) rfl rfl rfl) ?_);rintro w H;replace H:=H.l8;refine Zc 2 rfl ?_;have htk:(ims.take (i+1)).map Img.num=(ims.take i).map Img.num++[im.num]:=by rw[List.take_add_one,him];simp
    have hps:=Sw (ns:=(ims.take i).map Img.num) (k:=im.num) ‹_›
    rw[hps.1,hps.2,←htk] at H;have H:Sep z (blk pw (AX (Bf ([80,80,65,71]++Ah 1 im.kind++Ah 4 im.num++[0,0,0]++im.body)) 252) 165::tblA pt::imA A (.slice ao ims.length ic) es::lgB pl pd pt s at_ sq us br nu::blk b3 [Iv_ im.num,Iv_ im.kind,bv] 116::grow 3 1 v1 i (EU (ims.take i))::blk b2 [Iv_ s.epoch,Iv_ sq,v1,u32 0] 230::Ay m1 (seen ((ims.take (i+1)).map Img.num)) (((ims.take (i+1)).map Img.num).length)::R) w:=H
    refine Z2 5 [2,6,0,0,4,0] H rfl (AL rfl (AV H rfl (by kernel_rfl) Bq rfl (by decide) (by decide) (out:=[Iv_ im.num]) (by kernel_rfl)) ?_);rintro _ w ⟨b4,rfl,H⟩;replace H:=H.l9;refine AL rfl (Bb 6 H rfl rfl (by kernel_rfl) Bq rfl rfl (H.rd 0 rfl (fun h q=>q.rd (by omega) (by omega) (by simp) rfl)) (by simp[Value.oneCell']) (by omega)) ?_;rintro v5 w H';have H':Sep z (blk b4 [Iv_ im.num] 3::blk pw (AX (Bf ([80,80,65,71]++Ah 1 im.kind++Ah 4 im.num++[0,0,0]++im.body)) 252) 165::tblA pt::imA A (.slice ao ims.length ic) es::lgB pl pd pt s at_ sq us br nu::blk b3 [Iv_ im.num,Iv_ im.kind,bv] 116::grow 3 1 v5 (i+1) (EU (ims.take i)++[Iv_ im.num])::blk b2 [Iv_ s.epoch,Iv_ sq,v1,u32 0] 230::Ay m1 (seen ((ims.take (i+1)).map Img.num)) (((ims.take (i+1)).map Img.num).length)::R) w:=H'
    have ev5:(EU (ims.take i)++[Iv_ im.num]:List Value)=EU (ims.take (i+1)):=Sx him
    rw[ev5] at H';have H:=H'.l9;have sv5:=H.says 6 rfl (fun h q=>q.slc)
    refine Z0 1 [2] rfl (Az rfl rfl (JP 7 H rfl rfl rfl rfl sv5.cells sv5.one (by kernel_rfl)) ?_);rintro w H;replace H:=H.l9;refine Z1 7 [] [(i:Int)+1] rfl (by omega) ?_;replace H:=H.f5.d.f1.d.d.f1.f1.f5.f3.f5.f5;refine gf ?_;intro _ hF;refine ⟨⟨i+1,v5⟩,(hF.co rfl (by go_num) (hF.all rfl)),⟨H,?_⟩,?_⟩
    ·dsimp only
     refine ⟨by omega,fun j m hj h=> ?_,?_⟩
     ·rcases Nat.lt_or_ge j i with q|q
      ·exact hall j m q h
      ·obtain rfl:j=i:=by omega
       rw[him] at h;cases h;exact hgood
     ·rw[htk,List.nodup_append];exact ⟨hnd,by simp,fun a ha b hb=>by simp at hb;subst hb;exact fun e=>absurd (e▸ha) ‹_›⟩
    ·(dsimp only;omega)
 ·obtain rfl:i=ims.length:=by omega
  refine Zc 2 rfl (gx (Zc 4 rfl ?_));rw[List.take_length] at H;rw[List.take_length] at hnd;have H:Sep z (grow 3 1 v1 ims.length (EU ims)::blk b2 [Iv_ s.epoch,Iv_ sq,v1,u32 0] 230::lgB pl pd pt s at_ sq us br nu::Ay m1 (seen (ims.map Img.num)) ((ims.map Img.num).length)::tblA pt::imA A (.slice ao ims.length ic) es::R) w:=H
  have hallm:∀ m∈ims,m.Ok:=fun m hm=>by obtain ⟨j,hj,rfl⟩:=List.mem_iff_getElem.1 hm;exact hall j _ hj (List.getElem?_eq_getElem hj)
  refine Z1 5 [] [1+(ims.length:Int)] rfl (by omega) (z_E_ rfl (call152 _) (QR _ _ _ _ _ _ _ _ _ (by omega)) H.f2 ?_);intro w H;refine Z0 2 [0] rfl (Ak 70 rfl (fun h3=> ?_) (fun h3=> ?_))
  ·refine Zc 23 rfl (Zr rfl ?_);replace H:=(H.mono 5 (B:=A) rfl (fun h q=>q.1)).l6
   exact ⟨_,.inr (.inl ⟨⟨hallm,hnd⟩,by rintro ⟨q1,q2,q3⟩;first|omega|simp_all,rfl,rfl⟩),H.perm 6 [0,4,5] rfl rfl⟩
  ·refine Z2 7 [13,0,0] H rfl (G0 77 rfl (fun h4=> ?_) (fun h4=> ?_))
   ·refine Zc 16 rfl (Zr rfl ?_);replace H:=(H.mono 5 (B:=A) rfl (fun h q=>q.1)).l6
    exact ⟨_,.inr (.inl ⟨⟨hallm,hnd⟩,by rintro ⟨q1,q2,q3⟩;first|omega|simp_all,rfl,rfl⟩),H.perm 6 [0,4,5] rfl rfl⟩
   ·have hnt:nu=true:=by simpa using h4
    have hep:s.epoch<4294967296:=by rw[hnt] at hnu;simpa using hnu.symm
    refine Z2 8 [10,0,0,0] H rfl (Af rfl (fun h5=> ?_) (fun h5=> ?_))
    ·refine Zc 7 rfl (Zr rfl ?_);replace H:=(H.mono 5 (B:=A) rfl (fun h q=>q.1)).l6
     exact ⟨_,.inr (.inl ⟨⟨hallm,hnd⟩,by rintro ⟨q1,q2,q3⟩;first|omega|simp_all,rfl,rfl⟩),H.perm 6 [0,4,5] rfl rfl⟩
    ·refine Zc 9 rfl ?_;replace H:=(H.nilg 5 1).l7
     refine Zc 2 rfl ?_;refine AJ (σ:=Nat×Value) (fun ⟨i,v2⟩=>[(86,Iv_ (i:Int)),(6,v2),(0,Pt_ pl),(8,Pt_ b2),(84,.slice ao ims.length ic),(85,Iv_ (ims.length:Int))])
       (fun ⟨i,v2⟩ w=>Sep z (grow 5 1 v2 (i * 256) ((Ch s.epoch sq (ims.take i)).map u8)::lgB pl pd pt s at_ sq us br nu::grow 3 1 v1 ims.length (EU ims)::blk b2 [Iv_ s.epoch,Iv_ sq,v1,u32 0] 230::Ay m1 (seen (ims.map Img.num)) ((ims.map Img.num).length)::tblA pt::imA A (.slice ao ims.length ic) es::R) w∧(i≤ims.length)) (fun ⟨i,v2⟩=>ims.length - i) ⟨0,.slice none 0 0⟩
       (fun _ hF=>(hF.co rfl (by go_num) (hF.co rfl (by go_num) (hF.all rfl)))) ⟨H,by omega⟩ ?_
     clear H;rintro ⟨i,v2⟩ w ⟨H',hI⟩;dsimp only at hI H' ⊢
     have H:=H'.l7;have sv2:=H.says 0 rfl (fun h q=>q.slc)
     have sv1:=H.says 2 rfl (fun h q=>q.slc)
     have hin2:=hI;clear hI
     refine Z0 6 [0] rfl (Af rfl (fun h6=> ?_) (fun h6=> ?_))
     ·have hlt:i<ims.length:=by omega
      refine Zc 6 rfl ?_;obtain ⟨⟨im,bv⟩,he⟩:∃ e:ImE,es[i]? =some e:=⟨_,List.getElem?_eq_getElem (by omega)⟩;have him:ims[i]? =some im:=by rw[←hes];simp[he]
      have sbv:Slc bv im.body.length:=H.says 6 rfl (fun h q=>(q.2.2 _ (List.mem_of_getElem? he)).slc)
      have hati:=imA.at 6 H rfl he
      have hat:=hati 0 (Iv_ im.num) rfl
      refine Ac rfl (AD rfl (z:=3) (j:=i) (r:=i * 3) (by kernel_rfl) rfl rfl rfl (by omega) hat (by omega)) (Ac rfl (DW rfl rfl (vs:=[Iv_ im.num,Iv_ im.kind,bv]) (by kernel_rfl) (by simp) (AB hati)) (Za 0 [] H rfl ?_));intro b6 w H;refine Az rfl rfl (Ag 0 H rfl rfl rfl rfl (vs:=[Iv_ im.num,Iv_ im.kind,bv]) rfl (Ab rfl (Ab rfl (Ab sbv.one Ar))) (by kernel_rfl) (by simp) (out:=[Iv_ im.num,Iv_ im.kind,bv]) rfl) ?_;rintro w H;replace H:=H.l8;refine Zc 3 rfl ?_;replace H:=H.f4.f3;refine AI (Sep z (lgB pl pd pt s at_ sq us br nu::blk b2 [Iv_ s.epoch,Iv_ sq,v1,u32 0] 230::blk b6 [Iv_ im.num,Iv_ im.kind,bv] 116::R)) 15 rfl (by kernel_rfl) (Bc H fun w H'=> ?_)
      have H:=H'.l8;refine AM [0,1,2,3,4,5,6,7,8] [1,0,0,0,1,0,1,1,0,2,3] [] (by exact (H.pick 8 [0,1,2] rfl)) rfl (by kernel_rfl) rfl (Av [9] (by kernel_rfl) (by simp) (Au (BL rfl rfl rfl rfl rfl rfl (fun w=>call177 _ w) (Pj _ _ _ _ _ _ im.body _ (fun h q=>q.2.2 _ (List.mem_of_getElem? he))) H.f7.f7 rfl ?_)));rintro _ w _ (⟨hbad,rfl,rfl⟩|⟨hgood,pw,rfl,rfl⟩) H'
      ·exact absurd ⟨by omega,by omega,hall i im (by omega) him⟩ hbad
      ·have H:Sep z (blk pw (AX (Bf (Cg s.epoch sq im)) 252) 165::tblA pt::imA A (.slice ao ims.length ic) es::lgB pl pd pt s at_ sq us br nu::blk b2 [Iv_ s.epoch,Iv_ sq,v1,u32 0] 230::blk b6 [Iv_ im.num,Iv_ im.kind,bv] 116::grow 5 1 v2 (i * 256) ((Ch s.epoch sq (ims.take i)).map u8)::grow 3 1 v1 ims.length (EU ims)::Ay m1 (seen (ims.map Img.num)) ((ims.map Img.num).length)::R) w:=H'
       clear H';refine Ap (H.pick 9 [3,4,5] rfl) (AM [10,11,12,13,14] [] [] (by exact (H.pick 9 [3,4,5] rfl)) rfl (by kernel_rfl) rfl (a_done (by kernel_rfl) (gn (Z0 14 [4] rfl (AL rfl (Bb 6 H rfl rfl (by kernel_rfl) Cf rfl rfl (H.rd 0 rfl (fun h q=>HD (lo:=0) (n:=256) (c:=256) (ys:=Bf (Cg s.epoch sq im)) q (sect_len (Nat.le_of_eq (FW hgood.2.2.2.2))) (by omega) (by omega) (by omega) (by rw[List.drop_zero];exact List.take_of_length_le (Nat.le_of_eq (sect_len (Nat.le_of_eq (FW hgood.2.2.2.2))))))) (by simp[u8,Value.oneCell']) (by omega)) ?_)))));rintro v7 w H';have H':Sep z (blk pw (AX (Bf (Cg s.epoch sq im)) 252) 165::tblA pt::imA A (.slice ao ims.length ic) es::lgB pl pd pt s at_ sq us br nu::blk b2 [Iv_ s.epoch,Iv_ sq,v1,u32 0] 230::blk b6 [Iv_ im.num,Iv_ im.kind,bv] 116::grow 5 1 v7 ((i * 256)+256) ((Ch s.epoch sq (ims.take i)).map u8++(Bf (Cg s.epoch sq im)).map u8)::grow 3 1 v1 ims.length (EU ims)::Ay m1 (seen (ims.map Img.num)) ((ims.map Img.num).length)::R) w:=H'
       have ev7:((Ch s.epoch sq (ims.take i)).map u8++(Bf (Cg s.epoch sq im)).map u8:List Value)=(Ch s.epoch sq (ims.take (i+1))).map u8:=(by rw[←List.map_append,QI him])
       rw[ev7] at H';rw[show ((i * 256)+256:Nat)=(i+1) * 256 from by omega] at H';have H:=H'.l9;have sv7:=H.says 6 rfl (fun h q=>q.slc)
       refine Z1 8 [] [(i:Int)+1] rfl (by omega) ?_;replace H:=H.f5.d.d.f1.f1.f6.f4.f6.f5.f6;refine gf ?_;intro _ hF;refine ⟨⟨i+1,v7⟩,(hF.co rfl (by go_num) (hF.all rfl)),⟨H,?_⟩,?_⟩
       ·dsimp only;omega
       ·(dsimp only;omega)
     ·obtain rfl:i=ims.length:=by omega
      refine Zc 2 rfl (gx (Zc 3 rfl ?_));rw[List.take_length] at H;have H:Sep z (grow 5 1 v2 (ims.length * 256) ((Ch s.epoch sq ims).map u8)::lgB pl pd pt s at_ sq us br nu::grow 3 1 v1 ims.length (EU ims)::blk b2 [Iv_ s.epoch,Iv_ sq,v1,u32 0] 230::Ay m1 (seen (ims.map Img.num)) ((ims.map Img.num).length)::tblA pt::imA A (.slice ao ims.length ic) es::R) w:=H
      refine Z2 6 [1,1,0] H rfl (z_E_ rfl (call178 _) (UA _ _ _ (Ch s.epoch sq ims) (My hallm) _ (fun h q=>q.rd)) H.f5 ?_);intro w H;refine Z4 5 [3,4] H rfl ?_;intro w H;replace H:=H.f4.f3;refine AI (Sep z (lgB pl pd pt s at_ sq us br nu::blk b2 [Iv_ s.epoch,Iv_ sq,v1,u32 (AQ (Ch s.epoch sq ims))] 230::R)) 11 rfl (by kernel_rfl) (Bc H fun w H'=> ?_)
      have H:=H'.l7;refine AM [0,1,2,3,4] [1,0,0,1,4] [] (by exact (H.pick 7 [0,1] rfl)) rfl (by kernel_rfl) rfl (Av [5] (by kernel_rfl) (by simp) (Au (BL rfl rfl rfl rfl rfl rfl (fun w=>call179 _ w) (QP _ _ _ _ _ (ims.map Img.num) _ (fun h q=>by rw[List.length_map,←Vs];exact q.rd)) H.f4.f3 rfl ?_)));rintro _ w _ (⟨hbad,rfl,rfl⟩|⟨hgood,pw,rfl,rfl⟩) H'
      ·exact absurd ⟨by omega,by omega,by simp;omega,fun x hx=>by obtain ⟨m,hm,rfl⟩:=List.mem_map.1 hx;exact (hallm m hm).1⟩ hbad
      ·have H:Sep z (blk pw (AX (Bf (hdL s.epoch sq ims)) ((26+4 * (ims.map Img.num).length:Nat):Int)) 165::tblA pt::grow 3 1 v1 ims.length (EU ims)::lgB pl pd pt s at_ sq us br nu::blk b2 [Iv_ s.epoch,Iv_ sq,v1,u32 (AQ (Ch s.epoch sq ims))] 230::grow 5 1 v2 (ims.length * 256) ((Ch s.epoch sq ims).map u8)::Ay m1 (seen (ims.map Img.num)) ((ims.map Img.num).length)::imA A (.slice ao ims.length ic) es::R) w:=H'
       clear H';refine Ap (H.pick 8 [3,4] rfl) (AM [6,7,8,9,10] [] [] (by exact (H.pick 8 [3,4] rfl)) rfl (by kernel_rfl) rfl (a_done (by kernel_rfl) (gn (Zc 5 rfl (AL rfl (P6 H rfl (by kernel_rfl) Cf rfl rfl (H.rd 0 rfl (fun h q=>HD (lo:=0) (n:=256) (c:=256) (ys:=Bf (hdL s.epoch sq ims)) q (sect_len (by rw[hdL_len];omega)) (by omega) (by omega) (by omega) (by rw[List.drop_zero];exact List.take_of_length_le (Nat.le_of_eq (sect_len (by rw[hdL_len];omega)))))) (H.rd 5 rfl (fun h q=>q.rd)) (by omega) (by simp[u8,Value.oneCell']) (by omega)) ?_)))));rintro v8 w H';have H':Sep z (grow 5 1 v8 (256+(ims.length * 256)) ((Bf (hdL s.epoch sq ims)).map u8++(Ch s.epoch sq ims).map u8)::blk pw (AX (Bf (hdL s.epoch sq ims)) ((26+4 * (ims.map Img.num).length:Nat):Int)) 165::tblA pt::grow 3 1 v1 ims.length (EU ims)::lgB pl pd pt s at_ sq us br nu::blk b2 [Iv_ s.epoch,Iv_ sq,v1,u32 (AQ (Ch s.epoch sq ims))] 230::grow 5 1 v2 (ims.length * 256) ((Ch s.epoch sq ims).map u8)::Ay m1 (seen (ims.map Img.num)) ((ims.map Img.num).length)::imA A (.slice ao ims.length ic) es::R) w:=H'
       rw[show ((Bf (hdL s.epoch sq ims)).map u8++(Ch s.epoch sq ims).map u8:List Value)=(Bg s.epoch sq ims).flatten.map u8 from (by rw[←List.map_append,QJ])] at H';rw[show (256+(ims.length * 256):Nat)=(1+ims.length) * 256 from by omega] at H';have H:=H'.l9;have sv8:=H.says 0 rfl (fun h q=>q.slc)
       refine Zc 6 rfl (Zr rfl ?_);replace H:=(H.mono 8 (B:=A) rfl (fun h q=>q.1)).l9
       exact ⟨_,.inr (.inr ⟨⟨hallm,hnd⟩,⟨by omega,by first|assumption|simp_all,by omega⟩,v8,rfl,rfl⟩),H.perm 9 [0,4,2,8] rfl rfl⟩
open Go.RowKit
theorem SM (bs bn b off m cap:Nat) (hm:m * 256≤cap) (hc:cap≤9223372036854775807) (hm1:m≤1099511627776):It prog 166 [Pt_ bs,Pt_ bn] [blk bs [.slice (some ⟨b,off,none⟩) (m * 256) cap] 43,blk bn [Iv_ 256] 3] (((List.range m).map fun i=>Value.slice (some ⟨b,off+i * 256,none⟩) 256 256).map fun v=>[v]):=by
 intro z l J hY w H'
 have H:=H'.l2
 refine IM (args:=[.func (.yield l) #[] #[],Pt_ bs,Pt_ bn]) func166 rfl rfl 31 ntmps166 rfl ?_
 refine Cq ?_
 refine BQ ?_
 refine s_do rfl rfl rfl (Ep rfl rfl) ?_
 refine AH ?_
 refine Dw ?_
 refine J3 (σ:=Nat) (fun i=>[(4,Iv_ ((i * 256:Nat):Int)),(0,.func (.yield l) #[] #[]),(1,Pt_ bs),(2,Pt_ bn)])
  (fun i w=>Sep z (blk bs [.slice (some ⟨b,off,none⟩) (m * 256) cap] 43::blk bn [Iv_ 256] 3::J i) w∧(i≤m)) (fun i=>m - i) 0
  (fun _ hF=>(hF.co rfl (congrArg Iv_ (by simp)) (hF.all rfl))) ⟨H,Nat.zero_le _⟩ ?_
 clear H;rintro i w ⟨H',hI⟩
 have H:=H'.l2
 have him:=hI;clear hI
 refine Cq ?_
 refine Cq ?_
 refine BQ ?_
 refine s_do rfl rfl rfl (CA rfl rfl) ?_
 refine s_do rfl rfl rfl (AZ rfl rfl (by kernel_rfl) (AB (H.cel 0 rfl 0 rfl))) ?_
 refine s_do rfl rfl rfl (Gc rfl (z:=1) (by kernel_rfl) rfl) ?_
 refine s_do rfl rfl rfl (OV rfl rfl rfl) ?_
 refine AH ?_
 refine XG rfl (fun h1=> ?_) (fun h1=> ?_)
 ·-- yes:((i * 256:Nat):Int)<((m * 256:Nat):Int)
  have hlt:i<m:=by omega
  refine FF ?_
  refine Cq ?_
  refine Dw ?_
  refine Cq ?_
  refine Qn (Sep z _) (by kernel_rfl) (by kernel_rfl) H.drew ?_
  refine A6 rfl rfl rfl (AZ rfl rfl (by kernel_rfl) (fun _ hx=>hx.cel 1 rfl 0 rfl)) ?_
  refine A6 rfl rfl rfl (AZ rfl rfl (by kernel_rfl) (fun _ hx=>hx.cel 0 rfl 0 rfl)) ?_
  refine A6 rfl rfl rfl (CA rfl rfl) ?_
  refine A6 rfl rfl rfl (BD rfl (z:=1) (p:=(i * 256)) (q:=m * 256) (o':=off+i * 256) (l':=(m * 256 - i * 256)) (c':=(cap - i * 256)) (by kernel_rfl) rfl (.inr ⟨_,_,_,rfl,rfl,(by omega)⟩) (.inl ⟨rfl,rfl⟩) (by omega) (by omega) (by omega) (by omega) (by omega) (by omega)) ?_
  refine A6 rfl rfl rfl (Gc rfl (z:=1) (by kernel_rfl) rfl) ?_
  refine A6 rfl rfl rfl (I7 rfl rfl rfl) ?_
  refine Al 18 (v:=Iv_ 256) rfl (congrArg Iv_ (by omega)) ?_
  refine A6 rfl rfl rfl (Ep rfl rfl) ?_
  refine AU (fun w H'=> ?_)
  have H:=H'.l2
  refine Cq ?_
  refine IL ?_
  refine DO rfl rfl rfl (CA rfl rfl) ?_
  refine DO rfl rfl rfl (AZ rfl rfl (by kernel_rfl) (AB (H.cel 0 rfl 0 rfl))) ?_
  refine DO rfl rfl rfl (CA rfl rfl) ?_
  refine DO rfl rfl rfl (CA rfl rfl) ?_
  refine DO rfl rfl rfl (CA rfl rfl) ?_
  refine DO rfl rfl rfl (DB rfl rfl rfl (r:=(((i+1) * 256:Nat):Int)) (by omega) (by omega)) ?_
  refine DO rfl rfl rfl (CA rfl rfl) ?_
  refine DO rfl rfl rfl (CA rfl rfl) ?_
  refine DO rfl rfl rfl (DB rfl rfl rfl (r:=(((i+1) * 256:Nat):Int)) (by omega) (by omega)) ?_
  refine DO rfl rfl rfl (RU rfl (sz:=1) (p:=(i * 256)) (q:=((i+1) * 256)) (o':=off+i * 256) (l':=256) (by kernel_rfl) rfl rfl rfl rfl (by omega) (by omega) (by omega) (by omega) (by omega) (by omega) (by omega)) ?_
  refine J5 rfl rfl rfl rfl rfl rfl (hY i _ (by simp[List.getElem?_range hlt]) _ H) ?_
  rintro _ w ⟨rfl,H'⟩
  refine ⟨_,rfl,?_⟩
  have H:=H'.l2
  refine DO rfl rfl rfl (I6 rfl rfl) ?_
  refine O8 ?_
  refine G5 rfl ?_
  refine FF ?_
  refine BQ ?_
  refine s_do rfl rfl rfl (CA rfl rfl) ?_
  refine s_do rfl rfl rfl (AZ rfl rfl (by kernel_rfl) (AB (H.cel 1 rfl 0 rfl))) ?_
  refine s_do rfl rfl rfl (DB rfl rfl rfl (r:=(((i+1) * 256:Nat):Int)) (by omega) (by omega)) ?_
  refine s_do rfl rfl rfl (Ep rfl rfl) ?_
  refine AH ?_
  intro _ hF
  refine ⟨(i+1),(hF.all rfl),⟨H,?_⟩,?_⟩
  ·omega
  ·omega
 ·-- no:((i * 256:Nat):Int)<((m * 256:Nat):Int)
  refine J2 ?_
  refine Ht ?_
  obtain rfl:i=m:=by omega
  exact fun _ hF=>⟨hF.defers,by simpa using H⟩
theorem VC (b off n c:Nat):Cn prog 127 [.slice (some ⟨b,off,none⟩) n c,Iv_ 256] [] (fun v Γ=>(∃ bs bn,v= .func (.func 166) #[] #[Pt_ bs,Pt_ bn]∧Γ=[blk bs [.slice (some ⟨b,off,none⟩) n c] 43,blk bn [Iv_ 256] 3])):=by
 intro z R w H;replace H:=H.l0;refine Ad func127 rfl ntmps127 rfl (Za 2 [] H rfl ?_);intro b1 w H;refine Za 0 [] H rfl ?_;intro b2 w H;refine Z2 15 [0,0,4] H rfl (Ac rfl (FD rfl rfl rfl) (Zc 4 rfl (Zr rfl ?_)));exact ⟨_,⟨b1,b2,rfl,rfl⟩,H.perm 2 [1,0] rfl rfl⟩
open Go.RowKit
set_option maxHeartbeats 1000000 in
theorem Ol (pd b off c:Nat) (D:Dsk) (x:Int) (fua:Bool) (ps:List (List UInt8)) (A:Ae) (hps:∀ p∈ps,p.length=256) (hm:1≤ps.length∧ps.length≤4096) (hver:∀ i,(D.ver i).length≤1099511627776) (hA:∀ h,A h→rdH 1 (.slice (some ⟨b,off,none⟩) (ps.length * 256) c) (ps.length * 256) (ps.flatten.map u8) h):Cn prog 88 [Pt_ pd,Iv_ x,.slice (some ⟨b,off,none⟩) (ps.length * 256) c,.bool fua] [diskA pd D,A] (fun v Γ=>(¬ (0≤x∧x+ps.length≤(D.n:Int))∧v=Iv_ 2∧Γ=[diskA pd D,A])∨((0≤x∧x+ps.length≤(D.n:Int))∧(D.f2=1∨(D.cut=true∧D.left=0))∧v=Iv_ 11∧Γ=[diskA pd { D with f2:=AY D.f2 },A])∨((0≤x∧x+ps.length≤(D.n:Int))∧(¬ D.f2=1∧¬ (D.cut=true∧D.left=0))∧v=Iv_ 0∧Γ=[diskA pd { Dsk.ws { D with f2:=AY D.f2 } fua x.toNat ps with left:=max 0 (D.left - 1) },A])):=by
 intro z R w H';have H:=H'.l2;obtain ⟨bd,m,f0,bs,es,clk,hq,hD,hIn,H'⟩:=H.disk;clear H;have hn1:=hD.n1;have hn2:=hD.n2;have hf1:=hD.f1;have hf2:=hD.f2;have hf3:=hD.f3;have hlf:=hD.left;have hbl:=hIn.len
 have H:=H'.l6;refine L9 func88 rfl 73 ntmps88 rfl (AO (AC (Eo rfl rfl rfl (Ge H rfl rfl (cs:=[Pt_ pd]) rfl) ?_)));rintro _ w ⟨b1,rfl,H'⟩;have H:=H'.l7;refine Eo rfl rfl rfl (Ge H rfl rfl (cs:=[Iv_ x]) rfl) ?_;rintro _ w ⟨b2,rfl,H'⟩;have H:=H'.l8;refine Eo rfl rfl rfl (Ge H rfl rfl (cs:=[.bool fua]) rfl) ?_;rintro _ w ⟨b3,rfl,H'⟩;have H:=H'.l9;refine BP 1 rfl rfl (AH (AO (E2 (AO (AC (BP 1 rfl rfl (s_do rfl rfl rfl (Gc rfl (z:=1) (by kernel_rfl) rfl) (BP 2 rfl rfl (PQ 14 rfl (fun h1=> ?_) (fun h1=> ?_))))))))))
 ·omega
 ·refine BP 1 rfl rfl (s_do rfl rfl rfl (Gc rfl (z:=1) (by kernel_rfl) rfl) (s_do rfl rfl rfl (NO rfl rfl rfl (r:=((ps.length * 256:Nat):Int) % 256) (by omega) (by omega) (by omega)) (BP 3 rfl rfl (AH (FC rfl (fun h2=> ?_) (fun h2=> ?_))))))
  ·omega
  ·refine AO (AC (FQ 3 [0,1] (AK (H.blk 2 rfl) (AK (H.blk 1 rfl) AW)) rfl (by kernel_rfl) rfl (s_do rfl rfl rfl (Gc rfl (z:=1) (by kernel_rfl) rfl) (s_do rfl rfl rfl (NN rfl rfl rfl (r:=(ps.length:Int)) (by omega) (by omega) (by omega) (by omega)) (EZ rfl rfl rfl rfl rfl (fun w=>call112 _ w) (N5 _ _ _ _ _ _ _ _ _ _ _ _ (by omega)) H.f3 rfl ?_)))));rintro _ w _ ⟨rfl,rfl⟩ H';have H:=H'.l9;refine s_do rfl rfl rfl (Ax rfl rfl) (BP 1 rfl rfl (AH (FC rfl (fun h3=> ?_) (fun h3=> ?_))))
   ·refine AO (AC (BP 1 rfl rfl (AH (Ek (Mc rfl [Iv_ 2] ⟨rfl,trivial⟩ (v:=Iv_ 2) rfl ?_)))));replace H:=H.f7.f7.f7.f7.f4;have H':=Sep.toDisk (D:=D) (pd:=pd) (bd:=bd) (m:=m) (f0:=f0) (bs:=bs) (es:=es) (clk:=clk) (hq:=hq) (Γ:=blk b3 [.bool fua] 4::blk b2 [Iv_ x] 3::blk b1 [Pt_ pd] 53::A::R) H hD hIn
    have H:=H'.l5;exact ⟨[diskA pd D,A],.inl ⟨by omega,rfl,rfl⟩,H.perm 5 [0,4] rfl rfl⟩
   ·obtain ⟨k,rfl⟩:∃ k:Nat,x=(k:Int):=⟨x.toNat,by omega⟩;have hk:k+ps.length≤D.n:=by omega
    refine AO (AO (AC (FQ 1 [0] (AK (H.blk 3 rfl) AW) rfl (by kernel_rfl) rfl (EZ rfl rfl rfl rfl rfl (fun w=>call113 _ w) (Sb _ _ _ _ _ _ _ _ _ _ (by omega)) H rfl ?_))));rintro _ w _ ⟨rfl,rfl⟩ H';have H:=H'.l9;refine BP 1 rfl rfl (AH (FC rfl (fun h4=> ?_) (fun h4=> ?_)))
    ·refine Dk (FC rfl (fun h5=> ?_) (fun h5=> ?_))
     ·refine AO (AC (BP 1 rfl rfl (AH (Ek (Mc rfl [Iv_ 11] ⟨rfl,trivial⟩ (v:=Iv_ 11) rfl ?_)))));replace H:=H.f7.f7.f7.f7.f4;have H':=Sep.toDisk (D:= { D with f2:=AY D.f2 }) (pd:=pd) (bd:=bd) (m:=m) (f0:=f0) (bs:=bs) (es:=es) (clk:=clk) (hq:=hq) (Γ:=blk b3 [.bool fua] 4::blk b2 [Iv_ (k:Int)] 3::blk b1 [Pt_ pd] 53::A::R) H (hD.f hD.f1 (EE hD.f2) hD.f3 hD.left) (hIn.f _ _ _ _ _)
      have H:=H'.l5;exact ⟨[diskA pd { D with f2:=AY D.f2 },A],.inr (.inl ⟨by omega,by simp_all,rfl,rfl⟩),H.perm 5 [0,4] rfl rfl⟩
     ·exact absurd h4 h5
    ·refine AC (FQ 1 [0] (AK (H.blk 3 rfl) AW) rfl (by kernel_rfl) rfl (EZ rfl rfl rfl rfl rfl (fun w=>call126 _ w) (Ql _ _ _ _ _ _ _ _ _ _) H rfl ?_));rintro _ w _ ⟨rfl,rfl⟩ H';have H:=H'.l9;refine BP 1 rfl rfl (AH (PM rfl (fun h6=> ?_) (fun h6=> ?_)))
     ·refine AO (AC (BP 1 rfl rfl (AH (Ek (Mc rfl [Iv_ 11] ⟨rfl,trivial⟩ (v:=Iv_ 11) rfl ?_)))));replace H:=H.f7.f7.f7.f7.f4;have H':=Sep.toDisk (D:= { D with f2:=AY D.f2 }) (pd:=pd) (bd:=bd) (m:=m) (f0:=f0) (bs:=bs) (es:=es) (clk:=clk) (hq:=hq) (Γ:=blk b3 [.bool fua] 4::blk b2 [Iv_ (k:Int)] 3::blk b1 [Pt_ pd] 53::A::R) H (hD.f hD.f1 (EE hD.f2) hD.f3 hD.left) (hIn.f _ _ _ _ _)
      have H:=H'.l5;exact ⟨[diskA pd { D with f2:=AY D.f2 },A],.inr (.inl ⟨by omega,by simp_all,rfl,rfl⟩),H.perm 5 [0,4] rfl rfl⟩
     ·refine Dk (AO (AO (AC (BP 1 rfl rfl (EZ rfl rfl rfl rfl rfl (fun w=>call114 _ w) (Ie _ _ (ps.length * 256) _ ps.flatten _ (hA) (by omega)) H.f8 rfl ?_)))));rintro _ w _ ⟨g,cap,rest,rfl,⟨cg,cc,cl⟩,rfl⟩ H';have H:=H'.l10;refine EZ rfl rfl rfl rfl rfl (fun w=>call127 _ w) (VC _ _ _ _) H rfl ?_;rintro _ w _ ⟨bs_,bn_,rfl,rfl⟩ H';have H:=H'.l12;refine AH (E2 ?_);replace H:=H.f2.f10;obtain ⟨hq2,⟨hs2,hg2⟩,H'⟩:=Sj H;clear H;have H:=H'.l11;replace H:=H.f10.f1.f10.f10.f7;have H':=Sep.toDiskQ (D:= { D with f2:=AY D.f2 }) (pd:=pd) (bd:=bd) (m:=m) (f0:=f0) (bs:=bs) (es:=es) (clk:=clk) (hq:=hq2) (Γ:=blk bs_ [.slice (some ⟨g,0,none⟩) (ps.length * 256) cap] 43::blk bn_ [Iv_ 256] 3::A::blk b3 [.bool fua] 4::blk b2 [Iv_ (k:Int)] 3::blk b1 [Pt_ pd] 53::R) H (hD.f hD.f1 (EE hD.f2) hD.f3 hD.left) ((hIn.f _ _ _ _ _).le hs2)
      have H:=H'.l7;replace H:=H.f3.f1.f4.f5.f6.f6.f6;have H':Sep z ((blk b1 [Pt_ pd] 53::blk b2 [Iv_ ((k+0:Nat):Int)] 3::blk b3 [.bool fua] 4::diskQ pd (Dsk.ws { D with f2:=AY D.f2 } fua k (ps.take 0)) hq2::A::R)++[blk bs_ [.slice (some ⟨g,0,none⟩) (ps.length * 256) cap] 43,blk bn_ [Iv_ 256] 3]) w:=Sep.swap (As:=[blk bs_ [.slice (some ⟨g,0,none⟩) (ps.length * 256) cap] 43,blk bn_ [Iv_ 256] 3]) (Bs:=blk b1 [Pt_ pd] 53::blk b2 [Iv_ ((k+0:Nat):Int)] 3::blk b3 [.bool fua] 4::diskQ pd (Dsk.ws { D with f2:=AY D.f2 } fua k (ps.take 0)) hq2::A::R) (by simpa [Dsk.ws] using H)
      clear H;have hwsn:=fun i=>Dsk.ws_n fua (ps.take i) { D with f2:=AY D.f2 } k
      have hwsf:=fun i=>Dsk.ws_f fua (ps.take i) { D with f2:=AY D.f2 } k
      refine U7 (fun i=>blk b1 [Pt_ pd] 53::blk b2 [Iv_ ((k+i:Nat):Int)] 3::blk b3 [.bool fua] 4::diskQ pd (Dsk.ws { D with f2:=AY D.f2 } fua k (ps.take i)) hq2::A::R) rfl (fun u w=>call166 u w) rfl (SM bs_ bn_ g 0 ps.length cap (by omega) (by omega) (by omega)) H' ?_ ?_
      ·rintro ro i v hv w;obtain ⟨hi,rfl⟩:i<ps.length∧v= .slice (some ⟨g,0+i * 256,none⟩) 256 256:=by
         have hl:=(List.getElem?_eq_some_iff.1 hv).1;simp at hl
         rw[List.getElem?_map,List.getElem?_range hl] at hv;simp at hv;exact ⟨hl,by rw[←hv,Nat.zero_add]⟩
       obtain ⟨p,hp⟩:∃ p,ps[i]? =some p:=⟨_,List.getElem?_eq_getElem hi⟩;have hp256:=hps p (List.mem_of_getElem? hp)
       have hrd:=Sk hg2 hps hp
       refine BQ (BP 1 rfl rfl (AH ?_));refine fun a hF=>⟨rfl,fun F w H'=> ?_⟩
       revert a hF;have H:=H'.l5;have H':=H.pick 4 [3,0,1,2] rfl
       have H:Sep z (diskQ pd (Dsk.ws { D with f2:=AY D.f2 } fua k (ps.take i)) hq2::blk b1 [Pt_ pd] 53::blk b2 [Iv_ ((k+i:Nat):Int)] 3::blk b3 [.bool fua] 4::A::(R++([blk bs_ [.slice (some ⟨g,0,none⟩) (ps.length * 256) cap] 43,blk bn_ [Iv_ 256] 3]++F))) w:=H'
       clear H';obtain ⟨bd,m,f0,bs,es,clk,hD2,hIn2,H'⟩:=H.diskQ;clear H;have H:=H'.l9;have hnn:=hwsn i;have hki:k+i<(Dsk.ws { D with f2:=AY D.f2 } fua k (ps.take i)).n:=by rw[hnn];show k+i<D.n;omega
       have hnD:(Dsk.ws { D with f2:=AY D.f2 } fua k (ps.take i)).n=D.n:=hnn
       refine Dw (Cq (Cq (BQ (FQ 1 [0] (AK (H.blk 7 rfl) AW) rfl (by kernel_rfl) rfl (AH (HW rfl (fun h7=> ?_) (fun h7=> ?_)))))))
       ·subst h7;refine Cq (BQ (FQ 2 [0,1] (AK (H.blk 5 rfl) (AK (H.blk 6 rfl) AW)) rfl (by kernel_rfl) rfl (EZ rfl rfl rfl rfl rfl (fun w=>call128 _ w) (Uv _ _ _ _ _ _ _ _ _ _ (k+i) (by omega) (by omega)) H rfl ?_)));rintro _ w _ ⟨rfl,rfl⟩ H';have H:=H'.l9;refine BP 1 rfl rfl (Eo rfl rfl rfl (Fi 1 H rfl rfl (by kernel_rfl) rfl rfl (m:=256) (news:=(p.map u8)) (.inl (H.rd 3 rfl (fun h q=>hrd.le q))) (by simp[u8,Value.oneCell']) (by have:=hIn2.len;simp;omega) (k:=256) (by omega) (out:=((bs.take ((k+i) * 256)++p++bs.drop ((k+i) * 256+256)).map u8)) (by simp[hp256,List.take_of_length_le])) ?_);rintro _ w ⟨rfl,H'⟩;have H:=H'.l9;refine AH (HA (Sep z (blk pd [.slice (some ⟨bd,0,none⟩) ((Dsk.ws { D with f2:=AY D.f2 } true k (ps.take i)).n * 256) ((Dsk.ws { D with f2:=AY D.f2 } true k (ps.take i)).n * 256),.map (some m),Iv_ f0,Iv_ ((Dsk.ws { D with f2:=AY D.f2 } true k (ps.take i)).f1),Iv_ ((Dsk.ws { D with f2:=AY D.f2 } true k (ps.take i)).f2),Iv_ ((Dsk.ws { D with f2:=AY D.f2 } true k (ps.take i)).f3),.bool ((Dsk.ws { D with f2:=AY D.f2 } true k (ps.take i)).cut),Iv_ ((Dsk.ws { D with f2:=AY D.f2 } true k (ps.take i)).left)] 92::blk bd ((bs.take ((k+i) * 256)++p++bs.drop ((k+i) * 256+256)).map u8) 5::Ay m (es.map Ent.ie) clk::poolA hq2::seps (es.map Ent.row)::blk b1 [Pt_ pd] 53::blk b2 [Iv_ ((k+i:Nat):Int)] 3::blk b3 [.bool true] 4::A::(R++([blk bs_ [.slice (some ⟨g,0,none⟩) (ps.length * 256) cap] 43,blk bn_ [Iv_ 256] 3]++F)))) 6 rfl (by kernel_rfl) (Bc H fun w H'=> ?_))
        have H:=H'.l9;refine DE [0,1,2,3,4] [0,1,1,2] (by kernel_rfl) (fun _ hx=>(AK (hx.blk 5 rfl) (AK (hx.blk 0 rfl) (AK (hx.blk 6 rfl) AW)))) (by exact (H.pick 9 [0,1,2,3,4,5,6,7,8] rfl)) rfl (by kernel_rfl) rfl rfl (Cz [5] (by kernel_rfl) (by simp) (Au (Y1 rfl rfl rfl (LP 2 (e:=207) H rfl rfl (by kernel_rfl) rfl rfl) ?_)));rintro _ w ⟨rfl,H'⟩;have H:=H'.l9;refine Bn (fun h=>absurd rfl h) (DK (by kernel_rfl) ?_);obtain ⟨es2,hIn3,hpe,hrow⟩:=QC hIn2 hki hp256 (bs':=(bs.take ((k+i) * 256)++p++bs.drop ((k+i) * 256+256))) rfl;replace H:=H.f4;have H':=H.mono 0 rfl hrow
        rw[hpe] at H';have H:=H'.l9;replace H:=H.f4.f4.f4.f4;have e3:Dsk.ws { D with f2:=AY D.f2 } true k (ps.take (i+1))=(Dsk.ws { D with f2:=AY D.f2 } true k (ps.take i)).w1 true (k+i) p:=by rw[Dsk.ws_take hp]
        have H':=Sep.toDiskQ (D:=(Dsk.ws { D with f2:=AY D.f2 } true k (ps.take i)).w1 true (k+i) p) (pd:=pd) (bd:=bd) (m:=m) (f0:=f0) (bs:=(bs.take ((k+i) * 256)++p++bs.drop ((k+i) * 256+256))) (es:=es2) (clk:=clk) (hq:=hq2) (Γ:=blk b1 [Pt_ pd] 53::blk b2 [Iv_ ((k+i:Nat):Int)] 3::blk b3 [.bool true] 4::A::(R++([blk bs_ [.slice (some ⟨g,0,none⟩) (ps.length * 256) cap] 43,blk bn_ [Iv_ 256] 3]++F))) H (hD2.w1 hp256) hIn3
        rw[←e3] at H';have H:=H'.l5;refine BQ (FQ 1 [0] (AK (H.blk 2 rfl) AW) rfl (by kernel_rfl) rfl (s_do rfl rfl rfl (DB rfl rfl rfl (r:=((k+(i+1):Nat):Int)) (by omega) (by omega)) (Fd rfl rfl (RP 2 H rfl rfl rfl rfl rfl rfl (by kernel_rfl)) ?_)));rintro w H';have H:=H'.l5;refine AH ?_;replace H:=H.f4.f1.f4.f4.f4;exact fun _ _=>H
       ·subst h7;replace H:=H.f4;obtain ⟨v0,pvs,Rest,hgv,hpl,H',hcl⟩:=QB hIn2 hki H;clear H;have H:=H'.l10;have sv0:=H.says 0 rfl (fun h q=>q.slc)
        have hpl2:pvs.length≤1099511627776:=by rw[hpl,Dsk.ws_ver _ _ _ _ _ (.inr (by rw[List.length_take];omega))];exact hver _
        refine HA (Sep z (emp::seps Rest::blk pd [.slice (some ⟨bd,0,none⟩) ((Dsk.ws { D with f2:=AY D.f2 } false k (ps.take i)).n * 256) ((Dsk.ws { D with f2:=AY D.f2 } false k (ps.take i)).n * 256),.map (some m),Iv_ f0,Iv_ ((Dsk.ws { D with f2:=AY D.f2 } false k (ps.take i)).f1),Iv_ ((Dsk.ws { D with f2:=AY D.f2 } false k (ps.take i)).f2),Iv_ ((Dsk.ws { D with f2:=AY D.f2 } false k (ps.take i)).f3),.bool ((Dsk.ws { D with f2:=AY D.f2 } false k (ps.take i)).cut),Iv_ ((Dsk.ws { D with f2:=AY D.f2 } false k (ps.take i)).left)] 92::blk bd (bs.map u8) 5::Ay m (es.map Ent.ie) clk::poolA hq2::blk b1 [Pt_ pd] 53::blk b2 [Iv_ ((k+i:Nat):Int)] 3::blk b3 [.bool false] 4::A::(R++([blk bs_ [.slice (some ⟨g,0,none⟩) (ps.length * 256) cap] 43,blk bn_ [Iv_ 256] 3]++F)))) 15 rfl (by kernel_rfl) (Bc H fun w H'=> ?_)
        have H:=H'.l10;refine DE [0,1,2,3,4,5,6,7,8,9] [0,1,1,2,0,1,1,2] (by kernel_rfl) (fun _ hx=>(AK (hx.blk 6 rfl) (AK (hx.blk 2 rfl) (AK (hx.blk 7 rfl) AW)))) (by exact (Sep.mono 0 (B:=emp) (H.pick 10 [0,1,2,3,4,5,6,7,8,9] rfl) rfl (fun _ _=>trivial))) rfl (by kernel_rfl) rfl rfl (Dv 10 (by kernel_rfl) rfl rfl (by kernel_rfl) (by kernel_rfl) (by kernel_rfl) rfl rfl rfl (E5 (e:=207) (zv:= .slice none 0 0) rfl (by kernel_rfl) (by kernel_rfl) rfl rfl (fun _ hx=>hx.bk 4 rfl)) (Sep.mono 0 (B:=emp) (H.pick 10 [0,1,2,3,4,5,6,7,8,9] rfl) rfl (fun _ _=>trivial)) (Al 58 (v:=v0) rfl hgv (DE [11] [] (by kernel_rfl) (fun _ _=>AW) (by exact (Sep.mono 0 (B:=emp) (H.pick 10 [0,1,2,3,4,5,6,7,8,9] rfl) rfl (fun _ _=>trivial))) rfl (by kernel_rfl) rfl rfl (Cz [12] (by kernel_rfl) (by simp) (Au (Ce rfl rfl rfl rfl (AV H rfl (by kernel_rfl) (Elt.mk (P:=prog) (e:=43) (z:= .slice none 0 0) (sz:=1) (by_:=24) (by kernel_rfl) rfl (by omega) (by omega)) rfl (by decide) (by decide) (out:=[.slice (some ⟨g,(0+i * 256),none⟩) 256 256]) (by kernel_rfl)) ?_))))));rintro _ w ⟨b4,rfl,H'⟩;have H:=H'.l11;refine Bn (fun _=>(Sep.mono 0 (B:=emp) (H.pick 11 [1,2,3,4,5,6,7,8,9,10] rfl) rfl (fun _ _=>trivial))) (Cz [13] (by kernel_rfl) (by simp) (Au (Ce rfl rfl rfl rfl (Bb 1 H rfl rfl (by kernel_rfl) (Elt.mk (P:=prog) (e:=43) (z:= .slice none 0 0) (sz:=1) (by_:=24) (by kernel_rfl) rfl (by omega) (by omega)) rfl rfl (H.rd 0 rfl (fun h q=>q.rd (by omega) (by omega) (by simp) rfl)) (by simp[Value.oneCell']) (by omega)) ?_)))
        rintro v5 w H';have H:=H'.l11;have sv5:=H.says 1 rfl (fun h q=>q.slc)
        refine Bn (fun _=>(Sep.mono 0 (B:=emp) (H.pick 11 [1,2,3,4,5,6,7,8,9,10] rfl) rfl (fun _ _=>trivial))) (Cz [14] (by kernel_rfl) (by simp) (Au (A8 rfl rfl rfl (Dg 5 (e:=207) H rfl rfl (by kernel_rfl) rfl rfl rfl) ?_)));rintro w H';have H:=H'.l11;refine Bn (fun h=>absurd rfl h) (DK (by kernel_rfl) ?_);replace H:=H.f2.f2;obtain ⟨es2,hIn3,hpe,hrow⟩:=hcl v5 _ p hp256 hrd;have H':=Sep.made 2 H hrow
        rw[hpe] at H';have H:=H'.l10;replace H:=H.f5.f5.f5.f5;have e3:Dsk.ws { D with f2:=AY D.f2 } false k (ps.take (i+1))=(Dsk.ws { D with f2:=AY D.f2 } false k (ps.take i)).w1 false (k+i) p:=by rw[Dsk.ws_take hp]
        have H':=Sep.toDiskQ (D:=(Dsk.ws { D with f2:=AY D.f2 } false k (ps.take i)).w1 false (k+i) p) (pd:=pd) (bd:=bd) (m:=m) (f0:=f0) (bs:=bs) (es:=es2) (clk:=putC (es.map Ent.ie) ((k+i:Nat):Int) clk) (hq:=hq2) (Γ:=blk b4 [.slice (some ⟨g,(0+i * 256),none⟩) 256 256] 43::blk b1 [Pt_ pd] 53::blk b2 [Iv_ ((k+i:Nat):Int)] 3::blk b3 [.bool false] 4::A::(R++([blk bs_ [.slice (some ⟨g,0,none⟩) (ps.length * 256) cap] 43,blk bn_ [Iv_ 256] 3]++F))) H (hD2.w1 hp256) hIn3
        rw[←e3] at H';have H:=H'.l6;refine BQ (FQ 1 [0] (AK (H.blk 3 rfl) AW) rfl (by kernel_rfl) rfl (s_do rfl rfl rfl (DB rfl rfl rfl (r:=((k+(i+1):Nat):Int)) (by omega) (by omega)) (Fd rfl rfl (RP 3 H rfl rfl rfl rfl rfl rfl (by kernel_rfl)) ?_)));rintro w H';have H:=H'.l6;refine AH ?_;replace H:=H.f1.d.f4.f1.f4.f4.f4;exact fun _ _=>H
      ·rintro D0 w H';rw[List.length_map,List.length_range] at H';have H:=H'.l6;obtain ⟨bd,m,f0,bs,es,clk,hD2,hIn2,H'⟩:=(H.pick 6 [4,0,1,2,3,5] rfl).diskQ;clear H;have H:=H'.l10;have hlf2:=hD2.left
       refine AO (BI 9 (by kernel_rfl) (by kernel_rfl) (Bc H fun w H'=> ?_))
       have H:=H'.l10;refine Uo 5 [0,0,7,1] (AK (H.blk 6 rfl) (AK (H.blk 0 rfl) AW)) rfl (by kernel_rfl) rfl (Cd rfl rfl rfl (JO rfl rfl rfl (r:=((Dsk.ws { D with f2:=AY D.f2 } fua k (ps.take ps.length)).left) - 1) (by omega) (by omega)) (Cd rfl rfl rfl (Lq rfl rfl rfl) (NV 2 [7] rfl (by kernel_rfl) (Cy (Fd rfl rfl (ZF 0 H rfl rfl rfl rfl rfl rfl (by kernel_rfl)) ?_)))));rintro w H';have H:=H'.l10;refine AH (AO (AC (BP 1 rfl rfl (AH (Ek ?_)))));replace H:=H.f5;refine Md H (rs:=[.tmp 8]) rfl [Iv_ 0] (fun _=>⟨rfl,trivial⟩) (v:=Iv_ 0) rfl (fun w H'=> ?_);clear H;have H:=H'.l9;have hlw:=(hwsf ps.length).2.2.2.2
       have H':=Sep.toDisk (D:= { Dsk.ws { D with f2:=AY D.f2 } fua k (ps.take ps.length) with left:=max (0:Int) ((Dsk.ws { D with f2:=AY D.f2 } fua k (ps.take ps.length)).left - 1) }) (pd:=pd) (bd:=bd) (m:=m) (f0:=f0) (bs:=bs) (es:=es) (clk:=clk) (hq:=hq2) (Γ:=blk b1 [Pt_ pd] 53::blk b2 [Iv_ ((k+ps.length:Nat):Int)] 3::blk b3 [.bool fua] 4::A::(R++[blk bs_ [.slice (some ⟨g,0,none⟩) (ps.length * 256) cap] 43,blk bn_ [Iv_ 256] 3])) H (hD2.f hD2.f1 hD2.f2 hD2.f3 (by omega)) (hIn2.f _ _ _ _ _)
       have H:=H'.l5;have H':=Sep.front (As:=diskA pd { Dsk.ws { D with f2:=AY D.f2 } fua k (ps.take ps.length) with left:=max (0:Int) ((Dsk.ws { D with f2:=AY D.f2 } fua k (ps.take ps.length)).left - 1) } ::A::R) (Bs:=[blk bs_ [.slice (some ⟨g,0,none⟩) (ps.length * 256) cap] 43,blk bn_ [Iv_ 256] 3]) (H.pick 5 [0,4] rfl)
       exact ⟨[diskA pd { Dsk.ws { D with f2:=AY D.f2 } fua k (ps.take ps.length) with left:=max (0:Int) ((Dsk.ws { D with f2:=AY D.f2 } fua k (ps.take ps.length)).left - 1) },A],.inr (.inr ⟨by omega,by simp_all,by rw[List.take_length,hlw] at *;exact ⟨rfl,rfl⟩⟩),H'⟩
open Go.RowKit
theorem MK (pd b off c n:Nat) (D:Dsk) (x:Int) (ps:List (List UInt8)) (A:Ae) (hps:∀ p∈ps,p.length=256) (hm:1≤ps.length∧ps.length≤4096) (hver:∀ i,(D.ver i).length≤1099511627776) (hn:ps.length * 256=n) (hA:∀ h,A h→rdH 1 (.slice (some ⟨b,off,none⟩) n c) n (ps.flatten.map u8) h):
  Cn prog 88 [Pt_ pd,Iv_ x,.slice (some ⟨b,off,none⟩) n c,.bool false] [diskA pd D,A] (fun v Γ=>(¬ (0≤x∧x+ps.length≤(D.n:Int))∧v=Iv_ 2∧Γ=[diskA pd D,A])∨((0≤x∧x+ps.length≤(D.n:Int))∧D.bad∧v=Iv_ 11∧Γ=[diskA pd D.wf,A])∨((0≤x∧x+ps.length≤(D.n:Int))∧¬ D.bad∧v=Iv_ 0∧Γ=[diskA pd (D.wr x.toNat ps),A])):=by
 subst hn
 refine Cn.mono (Ol pd b off c D x false ps A hps hm hver hA) ?_
 rintro v Γ (⟨h1,h2,h3⟩|⟨h1,h2,h3,h4⟩|⟨h1,⟨h2,h2'⟩,h3,h4⟩)
 ·exact .inl ⟨h1,h2,h3⟩
 ·exact .inr (.inl ⟨h1,h2,h3,h4⟩)
 ·exact .inr (.inr ⟨h1,fun q=>by rcases q with q|q;exact h2 q;exact h2' q,h3,h4⟩)
set_option maxHeartbeats 1000000 in
theorem SN (pl pd pt:Nat) (s:Sup) (at_ sq us:Int) (br nu:Bool) (v:Value) (ims:List Img) (A:Ae) (hA:∀ h,A h→imgsH v ims h) (D:Dsk) (hok:s.Ok (D.n:Int)) (hnu:nu=decide (s.epoch<4294967296)) (hat:0≤at_∧at_<s.len) (hsq:0≤sq∧sq≤2199023255552) (hu:0≤us∧us≤s.len) (hver:∀ i,(D.ver i).length≤1000000000000):Cn prog 107 [Pt_ pl,v] [lgB pl pd pt s at_ sq us br nu,tblA pt,diskA pd D,A] (fun v Γ=>(ims.length > 40∧v=Iv_ 16∧Γ=[lgB pl pd pt s at_ sq us br nu,tblA pt,diskA pd D,A])∨(ims.length≤40∧(ims=[]∨¬ D7 ims)∧v=Iv_ 1∧Γ=[lgB pl pd pt s at_ sq us br nu,tblA pt,diskA pd D,A])∨((1≤ims.length∧ims.length≤40)∧D7 ims∧¬ (1+(ims.length:Int)≤(if br then 0 else s.len - us)∧nu=true∧sq<1099511627776)∧v=Iv_ 15∧Γ=[lgB pl pd pt s at_ sq us br nu,tblA pt,diskA pd D,A])∨
  ((1≤ims.length∧ims.length≤40)∧D7 ims∧(1+(ims.length:Int)≤(if br then 0 else s.len - us)∧nu=true∧sq<1099511627776)∧∃ (k:Nat),(k:Int)=min (1+(ims.length:Int)) (s.len - at_)∧((¬ D.bad∧k=1+ims.length∧v=Iv_ 0∧Γ=[lgB pl pd pt s ((at_+(1+(ims.length:Int))) % s.len) (sq+1) (us+(1+(ims.length:Int))) br nu,tblA pt,diskA pd (D.wr (s.start+at_).toNat ((Bg s.epoch sq ims).take k)),A])∨(¬ D.bad∧k<1+ims.length∧¬ Dsk.bad (D.wr (s.start+at_).toNat ((Bg s.epoch sq ims).take k))∧v=Iv_ 0∧Γ=[lgB pl pd pt s ((at_+(1+(ims.length:Int))) % s.len) (sq+1) (us+(1+(ims.length:Int))) br nu,tblA pt,diskA pd ((D.wr (s.start+at_).toNat ((Bg s.epoch sq ims).take k)).wr s.start.toNat ((Bg s.epoch sq ims).drop k)),A])∨
    (D.bad∧v=Iv_ 11∧Γ=[lgB pl pd pt s at_ (sq+1) us true nu,tblA pt,diskA pd D.wf,A])∨(¬ D.bad∧k<1+ims.length∧Dsk.bad (D.wr (s.start+at_).toNat ((Bg s.epoch sq ims).take k))∧v=Iv_ 11∧Γ=[lgB pl pd pt s at_ (sq+1) us true nu,tblA pt,diskA pd (Dsk.wf (D.wr (s.start+at_).toNat ((Bg s.epoch sq ims).take k))),A])))):=by
 intro z R w H;replace H:=H.l4;obtain ⟨ao,ic,rfl⟩:=H.says 3 rfl (fun h q=>(hA h q).slc);have hn2:=H.says 2 rfl (fun h q=>(diskA.ok q).n2)
 have hims:=H.says 3 rfl (fun h q=>(hA h q).small)
 have hsg:=Sup.get hok
 have hok2:=hok.2
 have hlen40:ims.length≤40∨40<ims.length:=by omega
 refine Ad func107 rfl ntmps107 rfl (Z0 15 [0] rfl (Af rfl (fun h1=> ?_) (fun h1=> ?_)))
 ·refine Zc 6 rfl (Zr rfl ?_);exact ⟨_,.inl ⟨by omega,rfl,rfl⟩,H.perm 4 [0,1,2,3] rfl rfl⟩
 ·have hlen40:ims.length≤40:=by omega
  refine Z0 8 [0] rfl (Af rfl (fun h2=> ?_) (fun h2=> ?_))
  ·refine Zc 6 rfl (Zr rfl ?_);exact ⟨_,.inr (.inl ⟨by omega,by first|exact .inr hrec|exact .inl (List.eq_nil_of_length_eq_zero (by omega)),rfl,rfl⟩),H.perm 4 [0,1,2,3] rfl rfl⟩
  ·refine Zc 7 rfl (Aw rfl (call151 _) (SL _ _ _ _ _ _ _ _ _ _ _ _ hA hnu (by omega) (by omega) ⟨by omega,by omega⟩ (by omega) (by omega)) H.f3.f2.f2 ?_);rintro _ w _ (⟨hrec,rfl,rfl⟩|⟨hrec,hroom,rfl,rfl⟩|⟨hrec,hroom,v1,rfl,rfl⟩) H'
   ·have H:=H'.l4;refine Z0 22 [3] rfl (Zr rfl ?_);exact ⟨_,.inr (.inl ⟨by omega,by first|exact .inr hrec|exact .inl (List.eq_nil_of_length_eq_zero (by omega)),rfl,rfl⟩),H.perm 4 [0,1,3,2] rfl rfl⟩
   ·have H:=H'.l4;refine Z0 22 [3] rfl (Zr rfl ?_);exact ⟨_,.inr (.inr (.inl ⟨⟨by omega,by omega⟩,hrec,hroom,rfl,rfl⟩)),H.perm 4 [0,1,3,2] rfl rfl⟩
   ·have H:=H'.l5;have hrb:=Vt (e:=s.epoch) (sq:=sq) hrec.1 hlen40
    refine Zc 1 rfl ?_;obtain ⟨gb,gc,rfl,hgc,hgc2⟩:=H.says 0 rfl (fun h q=>q.sl (by omega));generalize hps:Bg s.epoch sq ims=ps at H hrb
    obtain ⟨hp256,hpl⟩:=hrb;have hfl:=Sy hp256
    have H:Sep z (grow 5 1 (.slice (some ⟨gb,0,none⟩) ((1+ims.length) * 256) gc) ((1+ims.length) * 256) (ps.flatten.map u8)::lgB pl pd pt s at_ sq us br nu::tblA pt::A::diskA pd D::R) w:=H
    obtain ⟨k,hk⟩:∃ k:Nat,(k:Int)=min (1+(ims.length:Int)) (s.len - at_):=⟨(min (1+(ims.length:Int)) (s.len - at_)).toNat,by omega⟩;have hkl:(ps.take k).length=k:=by rw[List.length_take];omega
    have hkd:(ps.drop k).length=1+ims.length - k:=by rw[List.length_drop];omega
    refine Z0 17 [4] rfl (AG (Sep z _) (by kernel_rfl) (by kernel_rfl) H.drew (Hl 13 [2,6,1,0,9,1,0] [s.len - at_,(s.len - at_) * 256] rfl (by kernel_rfl) (by omega) (A6 rfl rfl rfl (I7 rfl rfl rfl) (Al 38 (v:=Iv_ ((k * 256:Nat):Int)) rfl (congrArg Iv_ (by omega)) (Br 1 [] rfl (by kernel_rfl) (AU (fun w H'=> ?_)))))));have H:=H'.l5;refine gn (Zc 2 rfl ?_);replace H:=H.f1;refine AI (Sep z (lgB pl pd pt s at_ sq us br nu::R)) 19 rfl (by kernel_rfl) (Bc H fun w H'=> ?_)
    have H:=H'.l5;refine Iz [0,1,2,3,4,5,6,7,8,9,10,11,12,13,14,15] [0,0,0,2,5,0,0,9,0,0] [s.start+at_] (by exact (H.pick 5 [0] rfl)) rfl (by kernel_rfl) (by omega) rfl (B4 16 rfl (by kernel_rfl) (by kernel_rfl) (by kernel_rfl) rfl rfl rfl (BD rfl (z:=1) (p:=0) (q:=(k * 256)) (o':=0) (l':=(k * 256)) (c':=gc) (by kernel_rfl) rfl (.inl ⟨rfl,rfl⟩) (.inr ⟨_,_,_,rfl,rfl,rfl⟩) (by omega) (by omega) (by omega) (by omega) (by omega) (by omega)) (H.pick 5 [0] rfl) (Av [17] (by kernel_rfl) (by simp) (Au (BL rfl rfl rfl rfl rfl rfl (fun w=>call88 _ w) (MK _ _ _ _ _ _ _ (ps.take k) _ (fun p hp=>hp256 p (List.mem_of_mem_take hp)) (by omega) (fun i=>by have:=hver i;omega) (by rw[hkl]) (fun h q=>by rw[QK hp256];exact (grow.rdB q).pre (by omega) (by omega))) H.f1.f4 rfl ?_))));rintro _ w _ (⟨hn1,rfl,rfl⟩|⟨_,hbad1,rfl,rfl⟩|⟨_,hgood1,rfl,rfl⟩) H'
    ·exact absurd ⟨by omega,by omega⟩ hn1
    ·have H:=H'.l5;refine Ap (H.pick 5 [2] rfl) (AM [18] [] [] (by exact (H.pick 5 [2] rfl)) rfl (by kernel_rfl) rfl (a_done (by kernel_rfl) (gn (Z5 52 [4,3,10,2,0,10,2,12,2] [sq+1] H rfl (by omega) ?_))));intro w H;refine Zr rfl ?_;subst hps;exact ⟨_,.inr (.inr (.inr ⟨⟨by omega,by omega⟩,hrec,hroom,k,hk,.inr (.inr (.inl ⟨hbad1,rfl,rfl⟩))⟩)),H.perm 5 [2,3,0,4] rfl rfl⟩
    ·have H:=H'.l5;refine Ap (H.pick 5 [2] rfl) (AM [18] [] [] (by exact (H.pick 5 [2] rfl)) rfl (by kernel_rfl) rfl (a_done (by kernel_rfl) (gn (Z0 14 [3,0] rfl (Af rfl (fun h3=> ?_) (fun h3=> ?_))))))
     ·replace H:=H.f2;refine AI (Sep z (lgB pl pd pt s at_ sq us br nu::R)) 14 rfl (by kernel_rfl) (Bc H fun w H'=> ?_)
      have H:=H'.l5;refine AM [0,1,2,3,4,5,6,7,8,9,10] [0,0,0,2,5,0,0] [] (by exact (H.pick 5 [0] rfl)) rfl (by kernel_rfl) rfl (B4 11 rfl (by kernel_rfl) (by kernel_rfl) (by kernel_rfl) rfl rfl rfl (BD rfl (z:=1) (p:=(k * 256)) (q:=((1+ims.length) * 256)) (o':=k * 256) (l':=((1+ims.length) * 256) - (k * 256)) (c':=gc - (k * 256)) (by kernel_rfl) rfl (.inr ⟨_,_,_,rfl,rfl,rfl⟩) (.inl ⟨rfl,rfl⟩) (by omega) (by omega) (by omega) (by omega) (by omega) (by omega)) (H.pick 5 [0] rfl) (Av [12] (by kernel_rfl) (by simp) (Au (BL rfl rfl rfl rfl rfl rfl (fun w=>call88 _ w) (MK _ _ _ _ _ _ _ (ps.drop k) _ (fun p hp=>hp256 p (List.mem_of_mem_drop hp)) (by omega) (fun i=>by have h1:=hver i;have h2:=Dsk.wr_len D (s.start+at_).toNat (ps.take k) i;omega) (by rw[hkd];omega) (fun h q=>by have:=(grow.rdB q).cut (lo:=k * 256) (m:=(1+ims.length) * 256 - k * 256) (c':=gc - k * 256) (by omega) (by omega) (by omega);rw[QL hp256];rwa[List.take_of_length_le (by rw[List.length_drop];omega),Nat.zero_add] at this)) H.f2.f2 rfl ?_))));rintro _ w _ (⟨hn2,rfl,rfl⟩|⟨_,hbad2,rfl,rfl⟩|⟨_,hgood2,rfl,rfl⟩) H'
      ·exact absurd ⟨by omega,by rw[Dsk.wr_n];omega⟩ hn2
      ·have H:=H'.l5;refine Ap (H.pick 5 [2] rfl) (AM [13] [] [] (by exact (H.pick 5 [2] rfl)) rfl (by kernel_rfl) rfl (a_done (by kernel_rfl) (gn (Z5 36 [3,10,2,0,10,2,12,2] [sq+1] H rfl (by omega) ?_))));intro w H;refine Zr rfl ?_;subst hps;exact ⟨_,.inr (.inr (.inr ⟨⟨by omega,by omega⟩,hrec,hroom,k,hk,.inr (.inr (.inr ⟨hgood1,by omega,hbad2,rfl,rfl⟩))⟩)),H.perm 5 [2,3,0,4] rfl rfl⟩
      ·have H:=H'.l5;refine Ap (H.pick 5 [2] rfl) (AM [13] [] [] (by exact (H.pick 5 [2] rfl)) rfl (by kernel_rfl) rfl (a_done (by kernel_rfl) (gn (Z1 17 [4] [1+(ims.length:Int)] rfl (by omega) (z_E_ rfl (call97 _) (IU _ _ _ _ _ _ _ _ _ _ (by omega) (by omega) (by omega) (by omega) (by omega)) H.f2 ?_)))));intro w H;refine Zc 8 rfl (Zr rfl ?_);subst hps;exact ⟨_,.inr (.inr (.inr ⟨⟨by omega,by omega⟩,hrec,hroom,k,hk,.inr (.inl ⟨hgood1,by omega,hgood2,rfl,rfl⟩)⟩)),H.perm 5 [0,3,1,4] rfl rfl⟩
     ·refine Z1 18 [4] [1+(ims.length:Int)] rfl (by omega) (z_E_ rfl (call97 _) (IU _ _ _ _ _ _ _ _ _ _ (by omega) (by omega) (by omega) (by omega) (by omega)) H.f2 ?_);intro w H;refine Zc 8 rfl (Zr rfl ?_);subst hps;exact ⟨_,.inr (.inr (.inr ⟨⟨by omega,by omega⟩,hrec,hroom,k,hk,.inl ⟨hgood1,by omega,rfl,rfl⟩⟩)),H.perm 5 [0,3,1,4] rfl rfl⟩
open Go.RowKit Go.Shelf
def ML:Go.Shelf.Ren:=⟨fun|189=>63|125=>103|257=>102|128=>147|129=>148|294=>138|295=>139|296=>140|297=>141|298=>142|299=>143|216=>144|300=>145|301=>146|328=>170|329=>171|330=>172|331=>173|332=>174|215=>175|343=>191|n=>n,fun|28=>74|3=>3|46=>196|0=>0|51=>172|53=>134|4=>4|183=>240|182=>239|131=>127|5=>5|9=>9|218=>265|222=>226|228=>286|229=>247|n=>n,fun|n=>n⟩
theorem MM:Go.Proofs.Lays.n189 prog ML:= {
 mixed:=by kernel_rfl,
 f125:=func103.trans (congrArg some (by kernel_rfl)),
 f128:=func147.trans (congrArg some (by kernel_rfl)),
 f129:=func148.trans (congrArg some (by kernel_rfl)),
 f189:=func63.trans (congrArg some (by kernel_rfl)),
 f215:=func175.trans (congrArg some (by kernel_rfl)),
 f216:=func144.trans (congrArg some (by kernel_rfl)),
 f257:=func102.trans (congrArg some (by kernel_rfl)),
 f294:=func138.trans (congrArg some (by kernel_rfl)),
 f295:=func139.trans (congrArg some (by kernel_rfl)),
 f296:=func140.trans (congrArg some (by kernel_rfl)),
 f297:=func141.trans (congrArg some (by kernel_rfl)),
 f298:=func142.trans (congrArg some (by kernel_rfl)),
 f299:=func143.trans (congrArg some (by kernel_rfl)),
 f300:=func145.trans (congrArg some (by kernel_rfl)),
 f301:=func146.trans (congrArg some (by kernel_rfl)),
 f328:=func170.trans (congrArg some (by kernel_rfl)),
 f329:=func171.trans (congrArg some (by kernel_rfl)),
 f330:=func172.trans (congrArg some (by kernel_rfl)),
 f331:=func173.trans (congrArg some (by kernel_rfl)),
 f332:=func174.trans (congrArg some (by kernel_rfl)),
 f343:=func191.trans (congrArg some (by kernel_rfl)),
 t0:=underlying0,
 a0:=isAgg0,
 z0:=sizeOf0,
 v0:=zeroValue0,
 t3:=underlying3,
 a3:=isAgg3,
 z3:=sizeOf3,
 v3:=zeroValue3,
 t4:=underlying4,
 a4:=isAgg4,
 z4:=sizeOf4,
 v4:=zeroValue4,
 t5:=underlying5,
 a5:=isAgg5,
 z5:=sizeOf5,
 v5:=zeroValue5,
 t9:=underlying9,
 a9:=isAgg9,
 z9:=sizeOf9,
 v9:=zeroValue9,
 t28:=underlying74,
 a28:=isAgg74,
 z28:=sizeOf74,
 v28:=zeroValue74,
 t46:=underlying196,
 a46:=isAgg196,
 z46:=sizeOf196,
 v46:=zeroValue196,
 t51:=underlying172,
 a51:=isAgg172,
 z51:=sizeOf172,
 v51:=zeroValue172,
 t53:=underlying134,
 a53:=isAgg134,
 z53:=sizeOf134,
 v53:=zeroValue134,
 t131:=underlying127,
 a131:=isAgg127,
 z131:=sizeOf127,
 v131:=zeroValue127,
 t182:=underlying239,
 a182:=isAgg239,
 z182:=sizeOf239,
 v182:=zeroValue239,
 t183:=underlying240,
 a183:=isAgg240,
 z183:=sizeOf240,
 v183:=zeroValue240,
 t218:=underlying265,
 a218:=isAgg265,
 z218:=sizeOf265,
 v218:=zeroValue265,
 t222:=underlying226,
 a222:=isAgg226,
 z222:=sizeOf226,
 v222:=zeroValue226,
 t228:=underlying286,
 a228:=isAgg286,
 z228:=sizeOf286,
 v228:=zeroValue286,
 t229:=underlying247,
 a229:=isAgg247,
 z229:=sizeOf247,
 v229:=zeroValue247 }
open Go.Sort in
theorem SO {z w:World} {R:List Ae} {b n:Nat} {cs:List Value} {ty:TypeId} (H:Sep z (blk b cs ty::R) w) (ys:List Int) (os:Array Obj):
  Sep z (blk b ((putCells Iv_ 0 ys.toArray cs.toArray).toList) ty::R) (Go.Sort.grow (putRow Iv_ (Go.Sort.ahead w n) b 0 ys.toArray) os):=by
 have hb:w.heap[b]? =some (.cells cs.toArray ty (0,0)):=H.blk 0 rfl
 have hlt:b<w.heap.size:=(Array.getElem?_eq_some_iff.1 hb).1
 have h1:Sep z (blk b ((putCells Iv_ 0 ys.toArray cs.toArray).toList) ty::R) (putRow Iv_ (Go.Sort.ahead w n) b 0 ys.toArray):=by
  refine H.write 0 rfl rfl rfl rfl (o':= .cells (putCells Iv_ 0 ys.toArray cs.toArray) ty (0,0)) ?_ ?_
  ·show (w.heap.modify b _)[b]? =_
   rw[Array.getElem?_modify,if_pos rfl,hb];rfl
  ·intro k hk
   show (w.heap.modify b _)[k]? =_
   rw[Array.getElem?_modify,if_neg (Ne.symm hk)]
 refine h1.ext0 ⟨rfl,rfl,rfl,?_,fun k hk _=> ?_⟩
 ·show _≤(_++os:Array Obj).size
  simp
 ·show (_++os:Array Obj)[k]? =_
  rw[Array.getElem?_append_left hk]
theorem QV (v:Value) (zs:List Int) (hl:zs.length≤1099511627776):Cn prog 63 [v] [grow 3 1 v zs.length (zs.map Iv_)]
  (fun u Γ=>u= .tuple #[]∧∃ ys:List Int,ys=zs.mergeSort (fun x y=>decide (x≤y))∧Γ=[grow 3 1 v ys.length (ys.map Iv_)]):=by
 intro z R w H
 have H:Sep z (grow 3 1 v zs.length (zs.map Iv_)::R) w:=H
 rcases H.says 0 rfl (fun h q=>q.form) with ⟨rfl,h0⟩|⟨b,c,rfl,hc⟩
 ·obtain rfl:zs=[]:=List.length_eq_zero_iff.1 h0
  refine (Go.Proofs.Any.slices_Sort_int_none MM none 0 w).mono ?_
  rintro e w' ⟨rfl,rfl⟩
  exact ⟨_,⟨rfl,[],by simp,rfl⟩,H⟩
 ·obtain ⟨⟨cap,cur⟩,⟨hv,h1,h2,h3,h4⟩,H1⟩:=H.into (σ:=Nat×List Value) (p:=fun x=>c=x.1∧zs.length≤x.1∧x.1≤maxLen∧x.2.length=x.1∧x.2.take zs.length=zs.map Iv_) (As:=fun x=>[blk b x.2 3]) (fun h q=>by
   rcases q.2 with ⟨q,_⟩|⟨g,cap,cur,hv,hg,hc,hm,hs,ht⟩
   ·cases q
   ·simp only[Value.slice.injEq,Option.some.injEq,Addr.mk.injEq,and_true,true_and] at hv
    obtain ⟨rfl,rfl⟩:=hv
    refine ⟨(c,cur.toList),⟨rfl,hc,hm,by simpa using hs,by simpa using ht⟩,fun _=>0,fun i A hi=> ?_⟩
    cases i with
    | zero=>simp at hi;subst hi;show Hp.part _ _ _ _=_;unfold Hp.part;rw[if_pos rfl];simpa using hg
    | succ i=>simp at hi)
  dsimp only at hv h1 h2 h3 h4 H1
  subst hv
  have H1:Sep z (blk b cur 3::R) w:=H1
  have hb:w.heap[b]? =some (.cells cur.toArray 3 (0,0)):=H1.blk 0 rfl
  have hlt:b<w.heap.size:=(Array.getElem?_eq_some_iff.1 hb).1
  have hcur:∀ j,j<zs.length→cur[j]? =some (Iv_ zs[j]!):=fun j hj=>by
   have:(cur.take zs.length)[j]? =(zs.map Iv_)[j]? :=by rw[h4]
   rw[List.getElem?_take,if_pos hj,List.getElem?_map,List.getElem?_eq_getElem hj] at this
   rw[this,getElem!_pos zs j hj];rfl
  have hH:Go.Sort.Holds Iv_ w b 0 zs.toArray:=fun j hj=>by
   have hj':j<zs.length:=by simpa using hj
   refine ⟨?_,?_⟩
   ·have:=hcur j hj'
    simp[World.cell?,hb,this]
   ·simp[World.frozen?,hb]
  refine (Go.Proofs.Any.slices_Sort_int MM b 0 c zs w hH hlt (by omega)).mono ?_
  rintro e w' ⟨rfl,n,os,rfl⟩
  have H2:=SO (n:=n) H1 (zs.mergeSort fun x y=>decide (x≤y)) os
  have hml:(zs.mergeSort fun x y=>decide (x≤y)).length=zs.length:=List.length_mergeSort _
  refine ⟨_,⟨rfl,_,rfl,rfl⟩,H2.mono 0 rfl (fun h q=> ?_)⟩
  rw[hml]
  refine blk.grow q h1 (by unfold maxLen at h2;omega) ?_ ?_
  ·simp[Go.Sort.putCells,h3]
  ·apply List.ext_getElem?
   intro j
   rw[List.getElem?_take]
   simp only[Nat.mul_one]
   by_cases hj:j<zs.length
   ·rw[if_pos hj]
    have hjc:j<cur.length:=by omega
    have hjm:j<(zs.mergeSort fun x y=>decide (x≤y)).length:=by omega
    simp[Go.Sort.putCells,hjc,hjm,hj]
   ·rw[if_neg hj,List.getElem?_eq_none (by simp;omega)]
open Go.RowKit
def XY (l:List IE):List IE→Value→List IE→Prop:=fun s v s2=>∃ p∈BU l (s.map fun p:IE=>p.2.2),v= .int .i64 p.1∧s2=s++[p]
def Pl (l:List IE):List IE→Prop:=fun s=>BU l (s.map fun p:IE=>p.2.2)=[]
def kC (s:List IE):List Value:=s.map fun p=> .int .i64 p.1
def vecA (b:Nat) (l s:List IE):Ae:=fun h=>((∀ p∈s,p∈l)∧(s.map fun p:IE=>p.2.2).Nodup)∧∃ v,seps [blk b [v] 74,grow 3 1 v s.length (kC s)] h
theorem Sep.vec {z w:World} {Γ:List Ae} {b:Nat} {l s:List IE} (H:Sep z (vecA b l s::Γ) w):((∀ p∈s,p∈l)∧(s.map fun p:IE=>p.2.2).Nodup)∧∃ v,Sep z (YtjegbnfpodadcaaGreatDoor.blk b [v] 74::YtjegbnfpodadcaaGreatDoor.grow 3 1 v s.length (kC s)::Γ) w:=by
 obtain ⟨v,hp,H'⟩:=H.into (σ:=Value) (p:=fun _=>(∀ p∈s,p∈l)∧(s.map fun p:IE=>p.2.2).Nodup) (As:=fun v=>[YtjegbnfpodadcaaGreatDoor.blk b [v] 74,YtjegbnfpodadcaaGreatDoor.grow 3 1 v s.length (kC s)]) (fun h q=>by obtain ⟨q,v,hv⟩:=q;exact ⟨v,q,hv⟩)
 exact ⟨hp,v,H'⟩
theorem Sep.toVec {z w:World} {Γ:List Ae} {b:Nat} {l s:List IE} {v:Value} (H:Sep z (YtjegbnfpodadcaaGreatDoor.blk b [v] 74::YtjegbnfpodadcaaGreatDoor.grow 3 1 v s.length (kC s)::Γ) w) (h1:∀ p∈s,p∈l) (h2:(s.map fun p:IE=>p.2.2).Nodup):Sep z (vecA b l s::Γ) w:=
 H.made 2 (A:=vecA b l s) (fun h q=>⟨⟨h1,h2⟩,v,q⟩)
theorem VD (s:List IE) (p:IE):kC s++[Iv_ p.1]=kC (s++[p]):=by simp[kC]
theorem Fg {l s:List IE} {p:IE} (h1:(∀ p∈s,p∈l)∧(s.map fun p:IE=>p.2.2).Nodup) (hp:p∈BU l (s.map fun p:IE=>p.2.2)):(∀ q∈s++[p],q∈l)∧((s++[p]).map fun p:IE=>p.2.2).Nodup:=by
 obtain ⟨q1,q2⟩:=CB hp
 refine ⟨fun q hq=> ?_,?_⟩
 ·rcases List.mem_append.1 hq with hq|hq
  ·exact h1.1 q hq
  ·simp at hq;subst hq;exact q1
 ·rw[List.map_append,List.nodup_append]
  refine ⟨h1.2,by simp,fun a ha b hb=> ?_⟩
  simp at hb;subst hb
  exact fun e=>q2 (e▸ha)
theorem F1 {α β:Type} {f:α→β} {l:List α} (h:(l.map f).Nodup):l.Nodup:=(List.pairwise_map.1 h).imp fun h e=>h (congrArg f e)
theorem If {α:Type} :∀ {s l:List α},s.Nodup→(∀ p∈s,p∈l)→s.length≤l.length
 | [],_,_,_=>Nat.zero_le _
 | x::s,l,hn,h=>by
  obtain ⟨l1,l2,rfl⟩:=List.append_of_mem (h x (by simp))
  have hx:=List.nodup_cons.1 hn
  have:=If (s:=s) (l:=l1++l2) hx.2 fun p hp=>by
   have:=h p (by simp[hp])
   simp only[List.mem_append,List.mem_cons] at this ⊢
   rcases this with q|rfl|q
   ·exact .inl q
   ·exact absurd hp hx.1
   ·exact .inr q
  simp only[List.length_append,List.length_cons] at this ⊢
  omega
theorem Jx {l s:List IE} (h:(∀ p∈s,p∈l)∧(s.map fun p:IE=>p.2.2).Nodup):s.length≤l.length:=by
 have hs:s.Nodup:=F1 h.2
 exact If hs h.1
theorem Gr {l s:List IE} (hn:(l.map fun p:IE=>p.2.2).Nodup) (h:(∀ p∈s,p∈l)∧(s.map fun p:IE=>p.2.2).Nodup) (hf:Pl l s):s.Perm l:=by
 have hs:s.Nodup:=F1 h.2
 have hl:l.Nodup:=F1 hn
 refine (List.perm_ext_iff_of_nodup hs hl).2 fun p=>⟨h.1 p,fun hp=> ?_⟩
 have:p.2.2∈s.map fun p:IE=>p.2.2:=by
  by_cases q:p.2.2∈s.map fun p:IE=>p.2.2
  ·exact q
  ·have:p∈BU l (s.map fun p:IE=>p.2.2):=by simpa [BU] using ⟨hp,by simpa using q⟩
   rw[show BU l (s.map fun p:IE=>p.2.2)=[] from hf] at this
   cases this
 obtain ⟨q,hq,e⟩:=List.mem_map.1 this
 obtain ⟨i,hi,rfl⟩:=List.mem_iff_getElem.1 (h.1 q hq)
 obtain ⟨j,hj,rfl⟩:=List.mem_iff_getElem.1 hp
 obtain rfl:=Fk hn (List.getElem?_eq_getElem hi) (List.getElem?_eq_getElem hj) e
 exact hq
open Go.RowKit
structure PgE where
 n:Nat
 pg:Pg
 v:Value
 born:Nat
def PgE.ie (e:PgE):IE:=((e.n:Int),.agg #[.int .i64 e.pg.kind,e.v],e.born)
structure PgsIn (f:Bh) (es:List PgE) (clk:Nat) (hq:Hp):Prop where
 ent:∀ e∈es,f e.n=some e.pg∧e.pg.Ok∧rdH 1 e.v 240 (e.pg.body.map u8) hq
 all:∀ n p,f n=some p→∃ e∈es,e.n=n
 nodup:(es.map PgE.n).Nodup
 born:(es.map PgE.born).Nodup
 clk:∀ e∈es,e.born<clk
def pgsA (m:Nat) (f:Bh) (hq:Hp):Ae:=fun h=>∃ es clk,PgsIn f es clk hq∧Ay m (es.map PgE.ie) clk h
theorem Sep.pgs {z w:World} {Γ:List Ae} (i:Nat) {m:Nat} {f:Bh} {hq:Hp} (H:Sep z Γ w) (hi:Γ[i]? =some (pgsA m f hq)):∃ es clk,PgsIn f es clk hq∧Sep z (Γ.set i (Ay m (es.map PgE.ie) clk)) w:=by
 obtain ⟨x,hp,H'⟩:=H.exAt i (σ:=List PgE×Nat) (p:=fun x=>PgsIn f x.1 x.2 hq) (B:=fun x=>Ay m (x.1.map PgE.ie) x.2) hi (fun h ⟨es,clk,h1,h2⟩=>⟨(es,clk),h1,h2⟩)
 exact ⟨x.1,x.2,hp,H'⟩
theorem Sep.toPgs {z w:World} {Γ:List Ae} (i:Nat) {m:Nat} {es:List PgE} {clk:Nat} {f:Bh} {hq:Hp} (H:Sep z Γ w) (hi:Γ[i]? =some (Ay m (es.map PgE.ie) clk)) (hp:PgsIn f es clk hq):Sep z (Γ.set i (pgsA m f hq)) w:=H.mono i hi fun h q=>⟨es,clk,hp,q⟩
def DQ (m:Nat) (f:Bh) (k:Nat) (hq:Hp):Ae:=fun h=>∃ es clk,PgsIn f es clk hq∧es.length=k∧Ay m (es.map PgE.ie) clk h
theorem Sep.pgsc {z w:World} {Γ:List Ae} (i:Nat) {m k:Nat} {f:Bh} {hq:Hp} (H:Sep z Γ w) (hi:Γ[i]? =some (DQ m f k hq)):∃ es clk,PgsIn f es clk hq∧es.length=k∧Sep z (Γ.set i (Ay m (es.map PgE.ie) clk)) w:=by
 obtain ⟨x,hp,H'⟩:=H.exAt i (σ:=List PgE×Nat) (p:=fun x=>PgsIn f x.1 x.2 hq∧x.1.length=k) (B:=fun x=>Ay m (x.1.map PgE.ie) x.2) hi (fun h ⟨es,clk,h1,h2,h3⟩=>⟨(es,clk),⟨h1,h2⟩,h3⟩)
 exact ⟨x.1,x.2,hp.1,hp.2,H'⟩
theorem Sep.toPgsc {z w:World} {Γ:List Ae} (i:Nat) {m k:Nat} {es:List PgE} {clk:Nat} {f:Bh} {hq:Hp} (H:Sep z Γ w) (hi:Γ[i]? =some (Ay m (es.map PgE.ie) clk)) (hp:PgsIn f es clk hq) (hk:es.length=k):Sep z (Γ.set i (DQ m f k hq)) w:=H.mono i hi fun h q=>⟨es,clk,hp,hk,q⟩
theorem PgsIn.le {f:Bh} {es:List PgE} {clk:Nat} {hq hq':Hp} (h:PgsIn f es clk hq) (s:Ck hq hq'):PgsIn f es clk hq':=⟨fun e he=>⟨(h.ent e he).1,(h.ent e he).2.1,(h.ent e he).2.2.le s⟩,h.all,h.nodup,h.born,h.clk⟩
theorem pgsA.le {m:Nat} {f:Bh} {hq hq':Hp} (s:Ck hq hq'):∀ h,pgsA m f hq h→pgsA m f hq' h:=fun _ ⟨es,clk,h1,h2⟩=>⟨es,clk,h1.le s,h2⟩
theorem PgsIn.none (hq:Hp) (clk:Nat):PgsIn CV [] clk hq:=⟨fun e he=>(by cases he),fun n p h=>(by cases h),by simp,by simp,fun e he=>(by cases he)⟩
theorem PgsIn.get {f:Bh} {es:List PgE} {clk:Nat} {hq:Hp} (h:PgsIn f es clk hq) (n:Nat):(f n=Option.none∧Cl (es.map PgE.ie) (n:Int)=Option.none)∨∃ (p:Pg) (v:Value),f n=some p∧p.Ok∧rdH 1 v 240 (p.body.map u8) hq∧Cl (es.map PgE.ie) (n:Int)=some (.agg #[Iv_ p.kind,v]):=by
 have key:∀ l:List PgE,(∀ e∈l,e∈es)→((∀ e∈l,e.n≠n)∧Cl (l.map PgE.ie) (n:Int)=Option.none)∨∃ e∈es,e.n=n∧Cl (l.map PgE.ie) (n:Int)=some (.agg #[Iv_ e.pg.kind,e.v]):=by
  intro l
  induction l with
  | nil=>intro _;exact .inl ⟨fun e he=>(by cases he),rfl⟩
  | cons e l ih=>
   intro hl
   simp only[List.map_cons,PgE.ie,Cl]
   by_cases q:(n:Int)=(e.n:Int)
   ·exact .inr ⟨e,hl e (by simp),by omega,by rw[if_pos q]⟩
   ·rw[if_neg q]
    rcases ih (fun e he=>hl e (by simp[he])) with ⟨h1,h2⟩|h1
    ·refine .inl ⟨fun e' he=> ?_,h2⟩
     rcases List.mem_cons.1 he with rfl|he
     ·omega
     ·exact h1 e' he
    ·exact .inr h1
 rcases key es (fun _ h=>h) with ⟨h1,h2⟩|⟨e,he,hn,hg⟩
 ·refine .inl ⟨?_,h2⟩
  cases hf:f n with
  | none=>rfl
  | some p=>
   obtain ⟨e,he,hn⟩:=h.all n p hf
   exact absurd hn (h1 e he)
 ·subst hn
  obtain ⟨a,b,c⟩:=h.ent e he
  exact .inr ⟨e.pg,e.v,a,b,c,hg⟩
theorem PgsIn.has {f:Bh} {es:List PgE} {clk:Nat} {hq:Hp} (h:PgsIn f es clk hq) (n:Nat):Cm (es.map PgE.ie) (n:Int)=(f n).isSome:=by
 unfold Cm
 rcases h.get n with ⟨h1,h2⟩|⟨p,v,h1,_,_,h2⟩<;>rw[h1,h2]<;>rfl
theorem upd_pgs (es:List PgE) (k:Nat) (p:Pg) (v:Value):updM (es.map PgE.ie) (k:Int) (.agg #[Iv_ p.kind,v])=(es.map fun e=>if e.n=k then { e with pg:=p,v:=v } else e).map PgE.ie∨¬ (es.map PgE.n).Nodup:=by
 induction es with
 | nil=>exact .inl rfl
 | cons e es ih=>
  by_cases hn:((e::es).map PgE.n).Nodup
  ·left
   have hn':=hn
   simp only[List.map_cons,List.nodup_cons] at hn'
   by_cases q:(k:Int)=(e.n:Int)
   ·have hk:e.n=k:=by omega
    have hrest:(es.map fun e=>if e.n=k then { e with pg:=p,v:=v } else e)=es:=by
     conv=>rhs;rw[←List.map_id es]
     exact List.map_congr_left fun e' he'=>by
      rw[if_neg];rfl
      intro e2
      exact hn'.1 (List.mem_map.2 ⟨e',he',by omega⟩)
    simp only[List.map_cons,PgE.ie,updM,if_pos q,if_pos hk]
    rw[hrest];subst hk;rfl
   ·have hk:¬ e.n=k:=by omega
    simp only[List.map_cons,PgE.ie,updM,if_neg q,if_neg hk]
    rcases ih with ih|ih
    ·congr 1
    ·exact absurd hn'.2 ih
  ·exact .inr hn
theorem PgsIn.put {f:Bh} {es:List PgE} {clk:Nat} {hq:Hp} (h:PgsIn f es clk hq) {k:Nat} {p:Pg} {v:Value} (hp:p.Ok) (hv:rdH 1 v 240 (p.body.map u8) hq):∃ es2,Eq (es.map PgE.ie) (k:Int) (.agg #[Iv_ p.kind,v]) clk=es2.map PgE.ie∧PgsIn (pgSet f k p) es2 (putC (es.map PgE.ie) (k:Int) clk) hq∧es2.length=es.length+(if (f k).isSome then 0 else 1):=by
 have hh:=h.has k
 unfold Eq putC
 cases hs:(f k).isSome with
 | true=>
  rw[hs] at hh
  rw[hh,if_pos rfl,if_pos rfl]
  rcases upd_pgs es k p v with e|e
  ·refine ⟨_,e,⟨fun e' he'=> ?_,fun n q hq'=> ?_,?_,?_,fun e' he'=> ?_⟩,by simp⟩
   ·obtain ⟨e0,h0,rfl⟩:=List.mem_map.1 he'
    obtain ⟨a,b,c⟩:=h.ent e0 h0
    by_cases g:e0.n=k
    ·rw[if_pos g];exact ⟨by unfold pgSet;rw[if_pos g],hp,hv⟩
    ·rw[if_neg g];exact ⟨by unfold pgSet;rw[if_neg g];exact a,b,c⟩
   ·unfold pgSet at hq'
    have:∃ e0∈es,e0.n=n:=by
     split at hq'
     ·rename_i g;subst g
      obtain ⟨p0,hp0⟩:=Option.isSome_iff_exists.1 hs
      exact h.all n p0 hp0
     ·exact h.all n q hq'
    obtain ⟨e0,h0,hn⟩:=this
    exact ⟨_,List.mem_map_of_mem h0,by split<;>exact hn⟩
   ·rw[List.map_map]
    rw[show (PgE.n ∘ fun e=>if e.n=k then { e with pg:=p,v:=v } else e)=PgE.n from by funext e;simp only[Function.comp_apply];split<;>rfl]
    exact h.nodup
   ·rw[List.map_map]
    rw[show (PgE.born ∘ fun e=>if e.n=k then { e with pg:=p,v:=v } else e)=PgE.born from by funext e;simp only[Function.comp_apply];split<;>rfl]
    exact h.born
   ·obtain ⟨e0,h0,rfl⟩:=List.mem_map.1 he'
    have:=h.clk e0 h0
    split<;>exact this
  ·exact absurd h.nodup e
 | false=>
  rw[hs] at hh
  rw[hh]
  simp only[Bool.false_eq_true,if_false]
  have hnone:f k=Option.none:=by simpa using hs
  refine ⟨es++[⟨k,p,v,clk⟩],by simp[PgE.ie],⟨fun e' he'=> ?_,fun n q hq'=> ?_,?_,?_,fun e' he'=> ?_⟩,by simp⟩
  ·rcases List.mem_append.1 he' with g|g
   ·obtain ⟨a,b,c⟩:=h.ent e' g
    have:e'.n≠k:=fun e=>by rw[e,hnone] at a;cases a
    exact ⟨by unfold pgSet;rw[if_neg this];exact a,b,c⟩
   ·simp at g;subst g;exact ⟨by simp[pgSet],hp,hv⟩
  ·unfold pgSet at hq'
   split at hq'
   ·rename_i g;exact ⟨⟨k,p,v,clk⟩,by simp,g.symm⟩
   ·obtain ⟨e0,h0,hn⟩:=h.all n q hq'
    exact ⟨e0,by simp[h0],hn⟩
  ·rw[List.map_append,List.nodup_append]
   refine ⟨h.nodup,by simp,fun a ha b hb=> ?_⟩
   simp at hb;subst hb
   obtain ⟨e0,h0,rfl⟩:=List.mem_map.1 ha
   intro e
   have:=(h.ent e0 h0).1
   rw[e,hnone] at this;cases this
  ·rw[List.map_append,List.nodup_append]
   refine ⟨h.born,by simp,fun a ha b hb=> ?_⟩
   simp at hb;subst hb
   obtain ⟨e0,h0,rfl⟩:=List.mem_map.1 ha
   have:=h.clk e0 h0
   omega
  ·rcases List.mem_append.1 he' with g|g
   ·have:=h.clk e' g;omega
   ·simp at g;subst g;simp
theorem PgsIn.keys {f:Bh} {es:List PgE} {clk:Nat} {hq:Hp} {s:List IE} (h:PgsIn f es clk hq) (hs:s.Perm (es.map PgE.ie)):
  ((s.map fun p:IE=>p.1).mergeSort (fun x y=>decide (x≤y))).Pairwise (· < ·)∧∀ k:Int,k∈(s.map fun p:IE=>p.1).mergeSort (fun x y=>decide (x≤y))↔0≤k∧(f k.toNat).isSome=true:=by
 have hp:((s.map fun p:IE=>p.1).mergeSort (fun x y=>decide (x≤y))).Perm (es.map fun e:PgE=>(e.n:Int)):=by
  refine (List.mergeSort_perm _ _).trans ?_
  have:=hs.map (fun p:IE=>p.1)
  rwa[List.map_map] at this
 have hnd:((s.map fun p:IE=>p.1).mergeSort (fun x y=>decide (x≤y))).Nodup:=by
  refine hp.symm.nodup ?_
  have h1:=List.pairwise_map.1 h.nodup
  exact List.pairwise_map.2 (h1.imp fun h e=>h (by omega))
 refine ⟨?_,fun k=> ?_⟩
 ·have hso:((s.map fun p:IE=>p.1).mergeSort (fun x y=>decide (x≤y))).Pairwise (fun x y=>decide (x≤y)=true):=List.pairwise_mergeSort (fun a b c h1 h2=>by simp at *;omega) (fun a b=>by simp;omega) _
  exact (hso.and hnd).imp fun h=>by have h1:=h.1;have h2:=h.2;simp at h1;omega
 ·rw[hp.mem_iff,List.mem_map]
  constructor
  ·rintro ⟨e,he,rfl⟩
   exact ⟨by omega,by rw[Int.toNat_natCast,(h.ent e he).1];rfl⟩
  ·rintro ⟨h1,h2⟩
   obtain ⟨p,hp⟩:=Option.isSome_iff_exists.1 h2
   obtain ⟨e,he,hk⟩:=h.all _ p hp
   exact ⟨e,he,by omega⟩
open Go.RowKit
theorem UB (v1 v2:Value) (l m_:List UInt8) (A B:Ae) (hA:∀ h,A h→rdH 1 v1 l.length (l.map u8) h) (hB:∀ h,B h→rdH 1 v2 m_.length (m_.map u8) h):Cn prog 115 [v1,v2] [A,B] (fun v Γ=>v= .bool (decide (l=m_))∧Γ=[A,B]):=by
 intro z R w H;replace H:=H.l2;refine Ad func115 rfl ntmps115 rfl (Zc 8 rfl (Ac rfl (CN (l:=l) rfl (by kernel_rfl) (by kernel_rfl) rfl (AB (H.rd 0 rfl hA))) (Zc 1 rfl (Ac rfl (CN (l:=m_) rfl (by kernel_rfl) (by kernel_rfl) rfl (AB (H.rd 1 rfl hB))) (Ac rfl (P2 rfl (by kernel_rfl) rfl rfl) (Zc 4 rfl (Zr rfl ?_)))))));exact ⟨_,⟨rfl,rfl⟩,H⟩
theorem SP (b off n c:Nat) (bs:List UInt8) (A:Ae) (hA:∀ h,A h→rdH 1 (.slice (some ⟨b,off,none⟩) n c) n (bs.map u8) h) (hn:0<n∧n≤1073741824):Cn prog 104 [.slice (some ⟨b,off,none⟩) n c] [A] (fun v Γ=>(∃ v1,v=v1∧Γ=[grow 5 1 v1 n (bs.map u8),A])):=by
 intro z R w H;replace H:=H.l1;refine Ad func104 rfl ntmps104 rfl (Zc 9 rfl (Ac rfl (LL rfl (by kernel_rfl) rfl rfl) (Zc 7 rfl (AL rfl (Hk H rfl (by kernel_rfl) Cf) ?_))));rintro _ w ⟨b1,rfl,H⟩;replace H:=H.l2;refine Zc 1 rfl ?_;replace H:=(H.mono 0 (B:=grow 5 1 (.slice (some ⟨b1,0,none⟩) 0 0) 0 []) rfl (fun h q=>q.grow (by omega) (by omega) (by simp) rfl)).l2
 refine AL rfl (Bb 0 H rfl rfl (by kernel_rfl) Cf rfl rfl (H.rd 1 rfl hA) (by simp[u8,Value.oneCell']) (by omega)) ?_;rintro v2 w H';have ev2:([]++bs.map u8:List Value)=bs.map u8:=by simp
 rw[ev2] at H';rw[show (0+n:Nat)=n from by omega] at H';have H:=H'.l2;have sv2:=H.says 0 rfl (fun h q=>q.slc)
 refine Zc 4 rfl (Zr rfl ?_);exact ⟨_,⟨_,rfl,rfl⟩,H⟩
open Go.RowKit
theorem Fl (ns:List Int):(ns.flatMap (Ah 8)).length=8 * ns.length:=by
 induction ns with
 | nil=>rfl
 | cons x ns ih=>simp only[List.flatMap_cons,List.length_append,Ai,ih,List.length_cons];omega
theorem Pm {ns:List Int} {i:Nat} {x:Int} (h:ns[i]? =some x):(ns.take i).flatMap (Ah 8)++Ah 8 x=(ns.take (i+1)).flatMap (Ah 8):=by
 rw[List.take_add_one,h];simp
theorem QW (ns:List Int):∀ {j:Nat} {x:Int},ns[j]? =some x→((ns.flatMap (Ah 8)).drop (8 * j)).take 8=Ah 8 x:=by
 induction ns with
 | nil=>intro j x h;simp at h
 | cons y ys ih=>
  intro j x h
  cases j with
  | zero=>
   simp at h;subst h
   rw[List.flatMap_cons,Nat.mul_zero,List.drop_zero,List.take_left' (Ai 8 y)]
  | succ j=>
   rw[List.flatMap_cons,show 8 * (j+1)=(Ah 8 y).length+8 * j from by rw[Ai];omega,List.drop_append]
   rw[List.drop_of_length_le (by omega),List.nil_append,show (Ah 8 y).length+8 * j - (Ah 8 y).length=8 * j from by omega]
   exact ih (by simpa using h)
theorem Sup.list_len (s:Sup):s.list.length=7:=rfl
theorem VE (s:Sup):IQ [80,83,85,80] (C2 s):=by
 have hl:=FY s
 refine ⟨G8 (by omega),?_⟩
 have:=BM (l:=IT s) (by omega) (p:=0) (k:=4) (by omega)
 rw[List.drop_zero,List.drop_zero] at this
 unfold C2;rw[this];rfl
theorem VF {s:Sup} (hs:∀ x∈s.list,0≤x∧x≤1099511627776) {k:Nat} {x:Int} (hx:s.list[k]? =some x):A5 (((C2 s).drop (4+8 * k)).take 8)=x:=by
 have hl:=FY s
 have hk:k<7:=(List.getElem?_eq_some_iff.1 hx).1
 unfold C2
 rw[BM (by omega) (by omega)]
 unfold IT
 rw[List.drop_append,List.drop_of_length_le (by simp),List.nil_append,show 4+8 * k - ([80,83,85,80]:List UInt8).length=8 * k from by simp,QW _ hx]
 have:=hs x (List.mem_of_getElem? hx)
 exact Cj this.1 (by omega) (by omega)
theorem SQ (s:Sup):rz (((C2 s).drop 60).take 192)=0:=by
 have hl:=FY s
 have:=KI (l:=IT s) (by omega)
 rw[hl] at this;exact this
theorem XZ {n:Nat} {p:Pg} (h:p.Ok):IQ [80,80,65,71] (DG n p):=⟨G8 (Nat.le_of_eq (E8 h)),ME h⟩
theorem VG {n:Nat} {p:Pg} (h:p.Ok):A5 (((DG n p).drop 4).take 1)=p.kind:=by
 have hl:=E8 (n:=n) h
 unfold DG
 rw[BM (by omega) (by omega),show Hn n p=[80,80,65,71]++Ah 1 p.kind++(Ah 4 (n:Int)++[0,0,0]++p.body) from by simp[Hn],GF _ _ _ (by simp) (by simp[Ai])]
 exact Cj (by have:=h.1;omega) (by have:=h.1;omega) (by have:=h.1;omega)
theorem X0 {n:Nat} {p:Pg} (h:p.Ok) (hn:n≤1023):A5 (((DG n p).drop 5).take 4)=(n:Int):=by
 have hl:=E8 (n:=n) h
 unfold DG
 rw[BM (by omega) (by omega),show Hn n p=([80,80,65,71]++Ah 1 p.kind)++Ah 4 (n:Int)++([0,0,0]++p.body) from by simp[Hn],GF _ _ _ (by simp[Ai]) (by simp[Ai])]
 exact Cj (by omega) (by omega) (by omega)
theorem Pn {n:Nat} {p:Pg} (h:p.Ok):A5 (((DG n p).drop 9).take 3)=0:=by
 have hl:=E8 (n:=n) h
 unfold DG
 rw[BM (by omega) (by omega),show Hn n p=([80,80,65,71]++Ah 1 p.kind++Ah 4 (n:Int))++[0,0,0]++p.body from by simp[Hn],GF _ _ _ (by simp[Ai]) (by simp)]
 decide
theorem VH {n:Nat} {p:Pg} (h:p.Ok):((DG n p).drop 12).take 240=p.body:=by
 have hl:=E8 (n:=n) h
 unfold DG
 rw[BM (by omega) (by omega),show Hn n p=([80,80,65,71]++Ah 1 p.kind++Ah 4 (n:Int)++[0,0,0])++p.body++[] from by simp[Hn],GF _ _ _ (by simp[Ai]) h.2.symm]
theorem SR {s:Sup} {k:Nat} {x:Int} (hx:s.list[k]? =some x):((s.list.take k).map Iv_++List.replicate (7 - k) (Iv_ 0)).take k++[Iv_ x]++((s.list.take k).map Iv_++List.replicate (7 - k) (Iv_ 0)).drop (k+1)=(s.list.take (k+1)).map Iv_++List.replicate (7 - (k+1)) (Iv_ 0):=by
 have hk:k<7:=(List.getElem?_eq_some_iff.1 hx).1
 have hl:((s.list.take k).map Iv_).length=k:=by simp[Sup.list];omega
 rw[List.take_append_of_le_length (by omega),List.take_of_length_le (by omega),List.drop_append,List.drop_of_length_le (by omega),List.nil_append,hl,List.drop_replicate,List.take_add_one,hx,show 7 - k - (k+1 - k)=7 - (k+1) from by omega]
 simp
theorem VI {s:Sup} {k:Nat} {x:Int} (hx:s.list[k]? =some x):((s.list.take (k+1)).map Iv_++List.replicate (7 - (k+1)) (Iv_ 0))[k]? =some (Iv_ x):=by
 have hk:k<7:=(List.getElem?_eq_some_iff.1 hx).1
 have hl:((s.list.take (k+1)).map Iv_).length=k+1:=by simp[Sup.list];omega
 rw[List.getElem?_append_left (by omega),List.getElem?_map,List.getElem?_take,if_pos (by omega),hx];rfl
theorem Po (pt:Nat) (s:Sup) (hs:∀ x∈s.list,0≤x∧x≤1099511627776):Cn prog 129 [Pt_ pt,.agg #[Iv_ s.gen,Iv_ s.epoch,Iv_ s.pages,Iv_ s.start,Iv_ s.len,Iv_ s.head,Iv_ s.seq]] [tblA pt] (fun v Γ=>∃ pw,v= .tuple #[.slice (some ⟨pw,0,none⟩) 256 256,Iv_ 0]∧Γ=[blk pw (AX (C2 s) 60) 165,tblA pt]):=by
 intro z R w H;replace H:=H.l1;have hsl7:=Sup.list_len s
 refine Ad func129 rfl ntmps129 rfl (Za 2 [] H rfl ?_);intro b1 w H;refine Zc 6 rfl (AL rfl (BO (P:=prog) H rfl (zs:=(AX (AN []) 0)) (by kernel_rfl)) ?_);rintro _ w ⟨b2,rfl,H⟩;replace H:=H.l3;refine Zc 4 rfl (z_E_ rfl (call135 _) (HI _ 0 [80,83,85,80] _ (A7 (by first|omega|(simp[Ai,Fl,-List.length_flatMap]<;>omega))) (by first|omega|(simp<;>omega))) H ?_);intro w H;replace H:=H.l3;rw[show Bp (AN []) ([80,83,85,80]) 0=AN ([80,83,85,80]) from BR rfl (by first|omega|(simp[Ai,Fl,-List.length_flatMap]<;>omega))] at H;have H:Sep z (blk b2 (AX (AN ([80,83,85,80])) 4) 165::blk b1 [Iv_ s.gen,Iv_ s.epoch,Iv_ s.pages,Iv_ s.start,Iv_ s.len,Iv_ s.head,Iv_ s.seq] 103::tblA pt::R) w:=H
 refine Z2 19 [0,1,0,1,1,0,2,1,0,3,1,0,4,1,0,5,1,0,6,1,0] H rfl (Ac rfl (AF rfl rfl (out:=[Iv_ s.gen,Iv_ s.epoch,Iv_ s.pages,Iv_ s.start,Iv_ s.len,Iv_ s.head,Iv_ s.seq]) (by kernel_rfl)) (Zc 4 rfl ?_));refine AJ (σ:=Nat) (fun k=>[(25,Iv_ (k:Int)),(0,Pt_ pt),(6,Pt_ b2),(24,.agg #[Iv_ s.gen,Iv_ s.epoch,Iv_ s.pages,Iv_ s.start,Iv_ s.len,Iv_ s.head,Iv_ s.seq])])
   (fun k w=>Sep z (blk b2 (AX (AN ([80,83,85,80]++(s.list.take k).flatMap (Ah 8))) ((4+8 * k:Nat):Int)) 165::blk b1 [Iv_ s.gen,Iv_ s.epoch,Iv_ s.pages,Iv_ s.start,Iv_ s.len,Iv_ s.head,Iv_ s.seq] 103::tblA pt::R) w∧(k≤7)) (fun k=>7 - k) 0
   (fun _ hF=>(hF.co rfl (by go_num) (hF.all rfl))) ⟨(by simpa using H),by omega⟩ ?_
 clear H;rintro k w ⟨H',hI⟩;have H:=H'.l3;have hk7:=hI;clear hI
 refine Z0 6 [0] rfl (Af rfl (fun h1=> ?_) (fun h1=> ?_))
 ·refine Zc 6 rfl ?_;obtain ⟨x,hx⟩:∃ x,s.list[k]? =some x:=⟨_,List.getElem?_eq_getElem (by simp[Sup.list];omega)⟩;have hx0:=hs x (List.mem_of_getElem? hx)
  refine Ac rfl (LQ rfl (by kernel_rfl) rfl (l:=s.list) (j:=k) rfl rfl rfl rfl hx) (Zc 7 rfl (z_E_ rfl (call91 _) (Cv _ _) H ?_));intro w H;replace H:=H.l3;refine Ac rfl (Ax rfl rfl) (Zc 1 rfl (Ak 31 rfl (fun h2=> ?_) (fun h2=> ?_)))
  ·(exfalso;omega)
  ·refine Zc 10 rfl (z_E_ rfl (call92 _) (CW _ (4+8 * k) 8 x _ (A7 (by first|omega|(simp[Ai,Fl,-List.length_flatMap]<;>omega))) (by omega)) H ?_);intro w H;replace H:=H.l3;rw[show ((4+8 * k+8:Nat):Int)=(((4+8 * (k+1):Nat):Int):Int) from by omega] at H;rw[show Bp (AN ([80,83,85,80]++(s.list.take k).flatMap (Ah 8))) (Ah 8 x) (4+8 * k)=AN ([80,83,85,80]++(s.list.take k).flatMap (Ah 8)++Ah 8 x) from BR (by first|omega|(simp[Ai,Fl,-List.length_flatMap]<;>omega)) (by first|omega|(simp[Ai,Fl,-List.length_flatMap]<;>omega))] at H;have H:Sep z (blk b2 (AX (AN ([80,83,85,80]++(s.list.take k).flatMap (Ah 8)++Ah 8 x)) ((4+8 * (k+1):Nat):Int)) 165::blk b1 [Iv_ s.gen,Iv_ s.epoch,Iv_ s.pages,Iv_ s.start,Iv_ s.len,Iv_ s.head,Iv_ s.seq] 103::tblA pt::R) w:=H
   refine Z1 7 [] [(k:Int)+1] rfl (by omega) (gf ?_);intro _ hF;refine ⟨(k+1),(hF.co rfl (by go_num) (hF.all rfl)),⟨(by rw[←Pm hx,←List.append_assoc];exact H),?_⟩,?_⟩
   ·omega
   ·omega
 ·obtain rfl:k=7:=by omega
  refine Zc 2 rfl (gx (Zc 3 rfl ?_));have H:Sep z (blk b2 (AX (AN (IT s)) 60) 165::blk b1 [Iv_ s.gen,Iv_ s.epoch,Iv_ s.pages,Iv_ s.start,Iv_ s.len,Iv_ s.head,Iv_ s.seq] 103::tblA pt::R) w:=H
  refine Zc 2 rfl (z_E_ rfl (call136 _) (Hc _ _ _ _ (A7 (by first|omega|(simp[Ai,FY]<;>omega)))) H.f2.f1 ?_);intro w H;refine Zc 5 rfl (Zr rfl ?_);exact ⟨_,⟨b2,rfl,rfl⟩,H.perm 3 [0,1] rfl rfl⟩
theorem Jy (pt b o c:Nat) (sec:List UInt8) (A:Ae) (hA:∀ h,A h→rdH 1 (.slice (some ⟨b,o,none⟩) 256 c) 256 (sec.map u8) h) (s:Sup) (hs:∀ x∈s.list,0≤x∧x≤1099511627776) (hsec:sec=C2 s):Cn prog 95 [Pt_ pt,.slice (some ⟨b,o,none⟩) 256 c] [tblA pt,A] (fun v Γ=>v= .tuple #[.agg #[Iv_ s.gen,Iv_ s.epoch,Iv_ s.pages,Iv_ s.start,Iv_ s.len,Iv_ s.head,Iv_ s.seq],.bool true]∧Γ=[tblA pt,A]):=by
 intro z R w H;replace H:=H.l2;have hsl:=H.says 1 rfl (fun h q=>(hA h q).len)
 have hcb:=H.says 1 rfl (fun h q=>(hA h q).cap)
 obtain ⟨c0,c1,c2,c3,hd⟩:=Mv hsl;refine Ad func95 rfl ntmps95 rfl (Za 2 [] H rfl ?_);intro b1 w H;refine Zc 7 rfl (Aw rfl (call116 _) (Ka _ _ _ _ _ sec _ hA) H.f2.f2 ?_);rintro _ w _ (⟨hs0,rfl,rfl⟩|⟨hs0,rfl,rfl⟩) H'
 ·have H:=H'.l3;refine Za 3 [] H rfl ?_;intro b2 w H;refine Za 16 [0] H rfl ?_;intro b3 w H;refine Z0 12 [0,1,2,3,4,5,6] rfl (Ac rfl (AF rfl rfl (out:=[Pt_ b3,.pointer (some ⟨b3,1,none⟩),.pointer (some ⟨b3,2,none⟩),.pointer (some ⟨b3,3,none⟩),.pointer (some ⟨b3,4,none⟩),.pointer (some ⟨b3,5,none⟩),.pointer (some ⟨b3,6,none⟩)]) (by kernel_rfl)) (Zc 4 rfl ?_));refine AJ (σ:=Nat) (fun k=>[(28,Iv_ (k:Int)),(4,Pt_ b1),(6,Pt_ b2),(8,Pt_ b3),(27,.agg #[Pt_ b3,.pointer (some ⟨b3,1,none⟩),.pointer (some ⟨b3,2,none⟩),.pointer (some ⟨b3,3,none⟩),.pointer (some ⟨b3,4,none⟩),.pointer (some ⟨b3,5,none⟩),.pointer (some ⟨b3,6,none⟩)])])
    (fun k w=>Sep z (blk b3 ((s.list.take k).map Iv_++List.replicate (7 - k) (Iv_ 0)) 103::blk b2 [.slice (some ⟨b,(o+(4+8 * k)),none⟩) (252 - (4+8 * k)) (c - (4+8 * k))] 210::tblA pt::A::blk b1 [Iv_ 0,Iv_ 0,Iv_ 0,Iv_ 0,Iv_ 0,Iv_ 0,Iv_ 0] 103::R) w∧(k≤7)) (fun k=>7 - k) 0
    (fun _ hF=>(hF.co rfl (by go_num) (hF.all rfl))) ⟨H,by omega⟩ ?_
  clear H;rintro k w ⟨H',hI⟩;have H:=H'.l5;have hk7:=hI;clear hI
  refine Z0 6 [0] rfl (Af rfl (fun h1=> ?_) (fun h1=> ?_))
  ·have hk7b:k<7:=by omega
   refine Zc 6 rfl ?_;obtain ⟨x,hx⟩:∃ x,s.list[k]? =some x:=⟨_,List.getElem?_eq_getElem (by simp[Sup.list];omega)⟩;have hx0:=hs x (List.mem_of_getElem? hx)
   have hgx:A5 ((sec.drop (4+8 * k)).take 8)=x:=by rw[hsec];exact VF hs hx
   refine Ac rfl (Es (m:=7) rfl (by kernel_rfl) rfl rfl rfl (j:=k) rfl (u:= .pointer (some ⟨b3,k,none⟩)) (by rcases (show k=0∨k=1∨k=2∨k=3∨k=4∨k=5∨k=6 by omega) with rfl|rfl|rfl|rfl|rfl|rfl|rfl<;>rfl)) (Zc 6 rfl (z_E_ rfl (call117 _) (C9 8 _ b (o+(4+8 * k)) (252 - (4+8 * k)) (c - (4+8 * k)) ((sec.drop (4+8 * k)).take (252 - (4+8 * k))) _ (fun h q=>(hA h q).cut (lo:=(4+8 * k)) (m:=(252 - (4+8 * k))) (c':=(c - (4+8 * k))) (by omega) (by omega) (by omega)) (by omega) (by omega) ((sec.drop (4+8 * k)).take 8) (by rw[List.take_take,Nat.min_eq_left (by omega)]) (o+(4+8 * (k+1))) (252 - (4+8 * (k+1))) (c - (4+8 * (k+1))) (by omega) (by omega) (by omega)) H.f3.f2 ?_));intro w H;replace H:=H.l5;refine Al 32 (v:=Iv_ x) rfl (congrArg Iv_ hgx) (Zc 1 rfl (Az rfl rfl (Ag 2 H rfl rfl rfl rfl (vs:=[Iv_ x]) rfl (by simp[u8,u32,Value.oneCell']) (by kernel_rfl) (by have:=Sup.list_len s;simp;omega) (out:=((s.list.take (k+1)).map Iv_++List.replicate (7 - (k+1)) (Iv_ 0))) (SR hx)) ?_));rintro w H;replace H:=H.l5;refine Zc 6 rfl (Ac rfl (AZ rfl rfl (by kernel_rfl) (AB (H.cel 2 rfl k (VI hx)))) (z_E_ rfl (call91 _) (Cv _ _) H ?_));intro w H;replace H:=H.l5;refine Ac rfl (Ax rfl rfl) (Zc 2 rfl (Af rfl (fun h2=> ?_) (fun h2=> ?_)))
   ·(exfalso;omega)
   ·refine Z1 7 [] [(k:Int)+1] rfl (by omega) ?_;replace H:=H.f4.f2.f4.f3.f4;refine gf ?_;intro _ hF;refine ⟨(k+1),(hF.co rfl (by go_num) (hF.all rfl)),⟨H,?_⟩,?_⟩
    ·omega
    ·omega
  ·obtain rfl:k=7:=by omega
   refine Zc 2 rfl (gx (Zc 4 rfl ?_));have H:Sep z (blk b3 [Iv_ s.gen,Iv_ s.epoch,Iv_ s.pages,Iv_ s.start,Iv_ s.len,Iv_ s.head,Iv_ s.seq] 103::blk b2 [.slice (some ⟨b,(o+(4+8 * 7)),none⟩) (252 - (4+8 * 7)) (c - (4+8 * 7))] 210::tblA pt::A::blk b1 [Iv_ 0,Iv_ 0,Iv_ 0,Iv_ 0,Iv_ 0,Iv_ 0,Iv_ 0] 103::R) w:=H
   refine Zc 1 rfl (z_E_ rfl (call130 _) (MJ _ b (o+(4+8 * 7)) (252 - (4+8 * 7)) (c - (4+8 * 7)) ((sec.drop (4+8 * 7)).take (252 - (4+8 * 7))) _ (fun h q=>(hA h q).cut (lo:=(4+8 * 7)) (m:=(252 - (4+8 * 7))) (c':=(c - (4+8 * 7))) (by omega) (by omega) (by omega)) (by omega)) H.f3.f2 ?_);intro w H;replace H:=H.l5;refine Ac rfl (Ax rfl rfl) (Zc 2 rfl (Af rfl (fun h3=> ?_) (fun h3=> ?_)))
   ·exact absurd (by rw[hsec];exact SQ s) h3
   ·refine Z4 10 [2,7,4] H rfl ?_;intro w H;refine Zl [4,7] H rfl ?_;exact ⟨_,⟨rfl,rfl⟩,H.perm 5 [3,1] rfl rfl⟩
 ·exact absurd (hsec▸VE s) hs0
section
open Go.RowKit
section late
variable {P:Program} {ops:Array Oper} {Q:Exit→Act→World→Prop} {S:World→Prop} {E:List Nat}
def F2 (ops:Array Oper):Nat→Nat→Nat→Bool
 | 0,_,_=>false
 | f+1,j,i=>match ops[j]? with
  | some o=>o.after.any fun e=>Region.binds .any e && (e.on == i || F2 ops f e.on i)
  | none=>false
theorem Gi {listed:Array Bool} (hd:Dc ops listed) (hsz:listed.size=ops.size):∀ f j i,F2 ops f j i=true→listed.getD j false=true→listed.getD i false=true
 | 0,j,i,h,_=>by cases h
 | f+1,j,i,h,hl=>by
  unfold F2 at h
  cases ho:ops[j]? with
  | none=>rw[ho] at h;cases h
  | some o=>
   rw[ho] at h
   simp only[Array.any_eq_true] at h
   obtain ⟨q,hq,he⟩:=h
   simp only[Bool.and_eq_true,Bool.or_eq_true,beq_iff_eq] at he
   have hj:j<ops.size:=(Array.getElem?_eq_some_iff.1 ho).1
   have hk:=hd j o ho (by
    have hh:j<listed.size:=by omega
    simp[hh] at hl ⊢;exact hl) (by omega) _ (Array.getElem_mem hq) he.1
   rcases he.2 with e|e
   ·rw[←e];exact hk
   ·exact Gi hd hsz f _ i e hk
theorem NE {listed:Array Bool} (hd:Dc ops listed) (hsz:listed.size=ops.size) {f j i:Nat} (h:F2 ops f j i=true) (hj:j∈Region.ready .any ops listed):listed.getD i false=true:=by
 cases f with
 | zero=>cases h
 | succ f=>
  obtain ⟨_,o,ho,hall⟩:=mem_ready.1 hj
  unfold F2 at h
  rw[ho] at h
  simp only[Array.any_eq_true] at h
  obtain ⟨q,hq,he⟩:=h
  simp only[Bool.and_eq_true,Bool.or_eq_true,beq_iff_eq] at he
  have hk:=hall _ (Array.getElem_mem hq) he.1
  rcases he.2 with e|e
  ·rw[←e];exact hk
  ·exact Gi hd hsz f _ i e hk
def GI (P:Program) (ops:Array Oper) (Q:Exit→Act→World→Prop) (S:World→Prop) (E:List Nat):Nat→Array Bool→Act→World→Prop
 | 0,listed,a,w=>Region.ready .any ops listed=[]∧Q .normal a w
 | fuel+1,listed,a,w=>
  (Region.ready .any ops listed=[]→Q .normal a w)∧
  ∀ i∈Region.ready .any ops listed,wpOp P ops Q i (fun a' w'=>(E.contains i=false→S w')∧GI P ops Q S E fuel (listed.setIfInBounds i true) a' w') a w
theorem Jz:∀ (fuel:Nat) (listed:Array Bool) (a:Act) (w:World),GI P ops Q S E fuel listed a w→wpAny P .any ops Q fuel listed a w
 | 0,_,_,_,h=>h
 | fuel+1,_,_,_,h=>⟨h.1,fun i hi=>wpOp_mono (fun a' w' h'=>Jz fuel _ a' w' h'.2) (h.2 i hi)⟩
theorem MN {i:Nat} {oi:Oper} {v:Value} (hi:ops[i]? =some oi) {f:Nat} (hE:∀ j∈E,F2 ops f j i=true) (hsel:∀ (j:Nat) (o:Oper) cs b,ops[j]? =some o→o.op≠ .select cs b)
  (hQ:∀ c a w,Q (.panic c) (a.put oi.dst v) w→Q (.panic c) a w):
  ∀ (fuel:Nat) (listed:Array Bool) (a:Act) (w:World),Dc ops listed→listed.size=ops.size→
   (∀ j oj,ops[j]? =some oj→j≠i→listed.getD j true=false→(∀ e∈oj.after,Region.binds .any e=true→e.on≠i)→oi.apart ops oj=true)→
   i∈Region.ready .any ops listed→YieldsIf P ops S oi v a→S w→
   GI P ops Q S E fuel (listed.setIfInBounds i true) (a.put oi.dst v) w→GI P ops Q S E (fuel+1) listed a w:=by
 have hib:i<ops.size:=(Array.getElem?_eq_some_iff.1 hi).1
 intro fuel
 induction fuel with
 | zero=>
  intro listed a w hd hsz _ hr hy hS H
  refine ⟨fun h=>(by rw[h] at hr;cases hr),fun j hj=> ?_⟩
  by_cases hji:j=i
  ·subst hji;exact hy.wpOp hi hS ⟨fun _=>hS,H⟩
  ·have:=ready_mono hj hji
   rw[H.1] at this
   cases this
 | succ fuel ih=>
  intro listed a w hd hsz hfree hr hy hS H
  refine ⟨fun h=>(by rw[h] at hr;cases hr),fun j hj=> ?_⟩
  by_cases hji:j=i
  ·subst hji;exact hy.wpOp hi hS ⟨fun _=>hS,H⟩
  ·have h1:=H.2 j (ready_mono hj hji)
   have hjl:E.contains j=false:=by
    cases hc:E.contains j with
    | false=>rfl
    | true=>
     have hm:j∈E:=by simpa using hc
     have h2:=NE hd hsz (hE j hm) hj
     have h0:=(mem_ready.1 hr).1
     have hh:i<listed.size:=by omega
     simp[hh] at h2 h0
     rw[h2] at h0;cases h0
   obtain ⟨hjun,oj,hoj,hall⟩:=mem_ready.1 hj
   have hnot:∀ e∈oj.after,Region.binds .any e=true→e.on≠i:=fun e he hb heq=>by
    have h1:=hall e he hb
    have h0:=(mem_ready.1 hr).1
    rw[heq] at h1
    rcases Nat.lt_or_ge i listed.size with h'|h'
    ·simp[h'] at h0 h1;rw[h0] at h1;cases h1
    ·simp[Array.getElem?_eq_none h'] at h1
   have h2:=wpOp_putIf hoj (hfree j oj hoj hji hjun hnot) (fun cs b=>hsel i oi cs b hi) (fun cs b=>hsel j oj cs b hoj) hQ hy h1
   have hfree':∀ k ok,ops[k]? =some ok→k≠i→(listed.setIfInBounds j true).getD k true=false→
     (∀ e∈ok.after,Region.binds .any e=true→e.on≠i)→oi.apart ops ok=true:=fun k ok hk hki hun hno=>by
    refine hfree k ok hk hki ?_ hno
    by_cases hjk:j=k
    ·subst hjk;exact hjun
    ·rw[getD_set_ne true hjk] at hun;exact hun
   refine wpOp_mono (fun a' w' h3=>⟨fun _=>h3.2.1 hjl,ih (listed.setIfInBounds j true) a' w' (hd.next hj) (by simpa using hsz) hfree' (ready_mono hr (Ne.symm hji)) h3.1 (h3.2.1 hjl) ?_⟩) h2
   rw[Array.setIfInBounds_comm _ _ hji]
   exact h3.2.2
theorem NF {listed:Array Bool} {a:Act} {w:World} (hr:Region.ready .any ops listed=[]) (h:Q .normal a w):∀ fuel,GI P ops Q S E fuel listed a w
 | 0=>⟨hr,h⟩
 | _+1=>⟨fun _=>h,by rw[hr];simp⟩
end late
section late2
variable {P:Program} {ops:List Oper} {N R:Act→World→Prop} {X:Nat→Act→World→Prop} {S:World→Prop} {E:List Nat} {a:Act} {w:World} {fuel:Nat} {listed:Array Bool} {n d i:Nat} {ds:List Deferred} {L:List (Nat×Value)} {v:Value} {o:Oper}
def Kb (P:Program) (ops:List Oper) (Q:Exit→Act→World→Prop) (S:World→Prop) (E:List Nat) (fuel:Nat) (listed:Array Bool) (a:Act) (w:World):Prop:=Dc ops.toArray listed→listed.size=ops.length→GI P ops.toArray Q S E fuel listed a w
theorem SS {id:Nat} (S:World→Prop) (E:List Nat) (k:Nat) (hk:ops.length=k) (hm:P.follows .mixedOrders=true)
  (h:∀ w',Ext No w w'→w'.heap.size=w.heap.size→∀ a,Fr n ds L a→Kb P ops (Qp N X R) S E k (Array.replicate k false) a w'):∀ a,Fr n ds L a→(Code.region id ops.toArray true).wp P (Qp N X R) a w:=fun a hF=>
 wp_region_any hm (Jz (S:=S) (E:=E) _ _ _ _ (by have:=h _ (Ext.drawn No w) rfl a hF (Dc.start _ _) (by simp[hk]);simpa [hk] using this))
theorem Hd (i:Nat) (hi:ops[i]? =some o) (hE:(E.all fun j=>F2 ops.toArray ops.length j i)=true) (hs:Region.noSelect ops.toArray=true) (hf:Region.free .any ops.toArray listed i=true) (hr:(Region.ready .any ops.toArray listed).contains i=true)
  (hw:BC ops L o.guard=true) (hd:o.dst=some d) (hlt:Nat.blt d n=true) (hdo:Ao P S n ds L o v) (hS:S w)
  (K:∀ a',Fr n ds ((d,v)::L) a'→Kb P ops (Qp N X R) S E fuel (listed.setIfInBounds i true) a' w):∀ a,Fr n ds L a→Kb P ops (Qp N X R) S E (fuel+1) listed a w:=fun a hF hdc hsz=>
 have hi':ops.toArray[i]? =some o:=by simpa using hi
 have hr':i∈Region.ready .any ops.toArray listed:=by simpa using hr
 MN (i:=i) (oi:=o) (v:=v) hi' (fun j hj=>(List.all_eq_true.1 hE) j hj) (Region.noSelect_spec hs) (fun _ _ _ h=>h.elim) fuel listed a w hdc (by simpa using hsz) (Region.free_spec hi' hf) hr' (.inl ⟨wantL_ok hF hw,fun w' h=>hdo a hF w' h⟩) hS
  (by rw[hd];exact K _ (hF.put d v hlt) (hdc.next hr') (by simpa using hsz))
theorem CX (rs:List Nat) (hr:Region.ready .any ops.toArray listed=rs) (hne:rs≠[])
  (h:∀ i∈rs,∀ a,Fr n ds L a→wpOp P ops.toArray (Qp N X R) i (fun a' w'=>(E.contains i=false→S w')∧Kb P ops (Qp N X R) S E fuel (listed.setIfInBounds i true) a' w') a w):∀ a,Fr n ds L a→Kb P ops (Qp N X R) S E (fuel+1) listed a w:=fun a hF hdc hsz=>
 ⟨fun e=>absurd (hr▸e) hne,fun i hi=>wpOp_mono (fun a' w' q=>⟨q.1,q.2 (hdc.next hi) (by simpa using hsz)⟩) (h i (hr▸hi) a hF)⟩
theorem MO {fuel:Nat} (hr:Region.ready .any ops.toArray listed=[]) (h:∀ a,Fr n ds L a→N a w):∀ a,Fr n ds L a→Kb P ops (Qp N X R) S E fuel listed a w:=fun a hF _ _=>NF hr (h a hF) _
end late2
section
variable {P:Program} {o:Oper} {w z:World} {Γ:List Ae} {n:Nat} {ds:List Deferred} {L:List (Nat×Value)} {x:Operand}
def Pp (P:Program) (t:TypeId):Bool:=match P.underlying t with
 | some (.slice e)=>(match P.info? e with|some i=>(match i.zero with|some (.int .i64 0)=>true|_=>false)|none=>false)
 | _=>false
theorem ST {t:TypeId} (h:Pp P t=true):∃ e i,P.underlying t=some (.slice e)∧P.info? e=some i∧i.zero=some (Iv_ 0):=by
 unfold Pp at h
 split at h
 ·rename_i e h1
  split at h
  ·rename_i i h2
   split at h
   ·rename_i h3;exact ⟨e,i,h1,h2,h3⟩
   ·cases h
  ·cases h
 ·cases h
theorem SU (i:Nat) {t:TypeId} {b off k c:Nat} {ct:TypeId} {cs:List Value} (H:Sep z Γ w) (hi:Γ[i]? =some (blk b cs ct)) (ho:o.op= .call { callee:= .builtin .clear,args:= #[x],argTypes:= #[t] }) (hd:Pp P t=true) (hx:ev L x=some (.slice (some ⟨b,off,none⟩) k c)) (hk:0<k) (hl:off+k≤cs.length):
  B8 P n ds L o w (fun v w'=>v= .tuple #[]∧Sep z (Γ.set i (blk b (cs.take off++List.replicate k (Iv_ 0)++cs.drop (off+k)) ct)) w'):=fun a hF=>by
 obtain ⟨e,i0,h1,h2,h3⟩:=ST hd
 have hb:=H.blk i hi
 have hst:=run_storeCells_at P b off ct (List.replicate k (Iv_ 0)) 0 cs.toArray w hb (by simpa using hl) (fun c hc=>by rw[List.mem_replicate.1 hc |>.2];rfl)
 simp only[List.length_replicate,Nat.add_zero,List.toList_toArray] at hst
 have hz:(zeroValue e).run P w= .ok (Iv_ 0) w:=by simp[zeroValue,typeInfo,h2,h3,go_sem]
 have hzc:(Builtin.zeroCells (Value.cells (Iv_ 0)) k).toList=List.replicate k (Iv_ 0):=by
  refine List.ext_getElem (by simp[Builtin.zeroCells,Value.cells]) fun j g1 g2=> ?_
  simp[Builtin.zeroCells,Value.cells,Nat.mod_one]
 have main:(Builtin.clear_ #[t] o.type #[.slice (some ⟨b,off,none⟩) k c]).run P w= .ok (.tuple #[]) (w.setRow b (cs.take off++List.replicate k (Iv_ 0)++cs.drop (off+k)).toArray):=by
  obtain ⟨k',rfl⟩:∃ k',k=k'+1:=⟨k - 1,by omega⟩
  simp only[Builtin.clear_,List.getElem?_toArray,List.getElem?_cons_zero,Sem.run_bind,run_underlying h1,Result.andThen_ok,hz,hzc,hst,Sem.run_pure]
 refine ⟨.tuple #[],w.setRow b (cs.take off++List.replicate k (Iv_ 0)++cs.drop (off+k)).toArray,?_,rfl,H.write i hi rfl rfl rfl (setRow_heap w b _ _ ct (0,0) hb) (fun q hq=>setRow_other w b q _ hq)⟩
 simp only[execOp,ho,resolve,invoke,builtin,Sem.run_bind,Sem.run_pure,Result.andThen_ok,List.map_toArray,List.map_cons,List.map_nil,hF.ev hx,main]
end
end
open Go.RowKit
theorem Fm (k:Nat) (ns:List Int):(ns.flatMap (Ah k)).length=k * ns.length:=by
 induction ns with
 | nil=>rfl
 | cons x ns ih=>simp only[List.flatMap_cons,List.length_append,Ai,ih,List.length_cons];rw[Nat.mul_add];omega
theorem Pq {k:Nat} {ns:List Int} {i:Nat} {x:Int} (h:ns[i]? =some x):(ns.take i).flatMap (Ah k)++Ah k x=(ns.take (i+1)).flatMap (Ah k):=by
 rw[List.take_add_one,h];simp
theorem QX (k:Nat) (ns:List Int):∀ {j:Nat} {x:Int},ns[j]? =some x→((ns.flatMap (Ah k)).drop (k * j)).take k=Ah k x:=by
 induction ns with
 | nil=>intro j x h;simp at h
 | cons y ys ih=>
  intro j x h
  cases j with
  | zero=>simp at h;subst h;rw[List.flatMap_cons,Nat.mul_zero,List.drop_zero,List.take_left' (Ai k y)]
  | succ j=>
   rw[List.flatMap_cons,show k * (j+1)=(Ah k y).length+k * j by rw[Ai,Nat.mul_add];omega,List.drop_append,List.drop_of_length_le (by omega),List.nil_append,show (Ah k y).length+k * j - (Ah k y).length=k * j by omega]
   exact ih (by simpa using h)
abbrev JA (ns:List Int):List UInt8:=ns.flatMap (Ah 2)
theorem VJ {ns:List Int} (h:ns.length=120):(JA ns).length=240:=by rw[Fm,h]
theorem SV {L:List UInt8} (h:L.length=240):((AN L).drop 0).take 240=L:=by
 unfold AN;rw[List.drop_zero,List.take_left' h]
theorem X1 {ns:List Int} (hs:∀ x∈ns,0≤x∧x≤1000) {j:Nat} {x:Int} (h:ns[j]? =some x):A5 (((JA ns).drop (2 * j)).take 2)=x:=by
 rw[QX 2 ns h]
 have:=hs x (List.mem_of_getElem? h)
 exact Cj this.1 (by omega) (by omega)
theorem DR {ns:List Int} {i:Nat} {x:Int} (h:ns[i]? =some x):(ns.take i).map Iv_++[Iv_ x]=(ns.take (i+1)).map Iv_:=by
 rw[List.take_add_one,h];simp
def Do (lf:Bool):Int:=if lf=true then 1 else 0
theorem QY (lf:Bool):0≤Do lf∧Do lf≤1:=by cases lf<;>simp[Do]
theorem X2 (lf:Bool):(decide (Do lf=1))=lf:=by cases lf<;>simp[Do]
def Om (e:Int×Int):List UInt8:=Ah 4 e.1++Ah 2 e.2
abbrev Fz (ks vs:List Int) (i:Nat):List UInt8:=((ks.zip vs).take i).flatMap Om
theorem CP (l:List (Int×Int)):(l.flatMap Om).length=6 * l.length:=by
 induction l with
 | nil=>rfl
 | cons x l ih=>simp only[List.flatMap_cons,List.length_append,Om,Ai,List.length_cons] at ih ⊢;omega
theorem QZ {ks vs:List Int} {i:Nat} {x y:Int} (hx:ks[i]? =some x) (hy:vs[i]? =some y):(ks.zip vs)[i]? =some (x,y):=by
 simp[List.getElem?_zip_eq_some,hx,hy]
theorem VK {ks vs:List Int} {i:Nat} (h1:i≤ks.length) (h2:i≤vs.length):(Fz ks vs i).length=6 * i:=by
 rw[CP,List.length_take,List.length_zip];omega
theorem VL {ks vs:List Int} {i:Nat} {x y:Int} (hx:ks[i]? =some x) (hy:vs[i]? =some y):Fz ks vs (i+1)=Fz ks vs i++Ah 4 x++Ah 2 y:=by
 unfold Fz;rw[List.take_add_one,QZ hx hy];simp[Om]
theorem SW (ks vs:List Int):Fz ks vs 0=[]:=by simp[Fz]
def Fo (lf:Bool) (ks vs:List Int):List UInt8:=Ah 1 (Do lf)++Ah 1 (ks.length:Int)++Fz ks vs ks.length
def Gj (lf:Bool) (ks vs:List Int):List UInt8:=((AN (Fo lf ks vs)).drop 0).take 240
theorem FH {lf:Bool} {ks vs:List Int} (h:ks.length=vs.length):(Fo lf ks vs).length=2+6 * ks.length:=by
 unfold Fo;rw[List.length_append,List.length_append,Ai,Ai,VK (Nat.le_refl _) (by omega)]
theorem VM {lf:Bool} {ks vs:List Int} (h:ks.length=vs.length) (h8:ks.length≤8):(Gj lf ks vs).length=240:=by
 have:=FH (lf:=lf) h
 unfold Gj;rw[List.drop_zero,List.length_take,A7 (by omega)];omega
theorem Ig {lf:Bool} {ks vs:List Int} (h:ks.length=vs.length) (h8:ks.length≤8) {p k:Nat} (hp:p+k≤2+6 * ks.length):((Gj lf ks vs).drop p).take k=((Fo lf ks vs).drop p).take k:=by
 have hl:=FH (lf:=lf) h
 unfold Gj AN
 rw[List.drop_zero,List.drop_take,List.take_take,Nat.min_eq_left (by omega),List.drop_append_of_le_length (by omega),List.take_append_of_le_length (by rw[List.length_drop];omega)]
theorem VN {lf:Bool} {ks vs:List Int} (h:ks.length=vs.length) (h8:ks.length≤8):A5 (((Gj lf ks vs).drop 0).take 1)=Do lf:=by
 rw[Ig h h8 (by omega)]
 have:=QY lf
 unfold Fo;rw[List.drop_zero,List.append_assoc,List.take_left' (Ai 1 _)]
 exact Cj this.1 (by omega) (by omega)
theorem VO {lf:Bool} {ks vs:List Int} (h:ks.length=vs.length) (h8:ks.length≤8):A5 (((Gj lf ks vs).drop 1).take 1)=(ks.length:Int):=by
 rw[Ig h h8 (by omega)]
 unfold Fo;rw[GF _ _ _ (by rw[Ai]) (by rw[Ai])]
 exact Cj (by omega) (by omega) (by omega)
theorem X3 (ks vs:List Int):∀ {i:Nat} {x y:Int},ks[i]? =some x→vs[i]? =some y→∀ n,i<n→∃ t,(Fz ks vs n).drop (6 * i)=Ah 4 x++Ah 2 y++t:=by
 intro i x y hx hy n hn
 have e:(ks.zip vs).take n=(ks.zip vs).take i++((ks.zip vs).take n).drop i:=by
  have h0:((ks.zip vs).take n).take i=(ks.zip vs).take i:=by rw[List.take_take,Nat.min_eq_left (by omega)]
  rw[←h0,List.take_append_drop]
 have h1:((ks.zip vs).take n)[i]? =some (x,y):=by rw[List.getElem?_take,if_pos hn,QZ hx hy]
 have hlt:=(List.getElem?_eq_some_iff.1 h1).1
 have e2:((ks.zip vs).take n).drop i=(x,y)::((ks.zip vs).take n).drop (i+1):=by
  rw[List.drop_eq_getElem_cons hlt];congr 1
  exact (List.getElem?_eq_some_iff.1 h1).2
 have hl:(((ks.zip vs).take i).flatMap Om).length=6 * i:=by
  rw[CP,List.length_take]
  simp at hlt;simp;omega
 have e4:(ks.zip vs).take n=(ks.zip vs).take i++(x,y)::((ks.zip vs).take n).drop (i+1):=by rw[←e2];exact e
 generalize ((ks.zip vs).take n).drop (i+1)=T at e4
 exact ⟨T.flatMap Om,by unfold Fz;rw[e4,List.flatMap_append,List.drop_left' hl,List.flatMap_cons];rfl⟩
theorem UC (lf:Bool) {ks vs:List Int} {i:Nat} {x y:Int} (hx:ks[i]? =some x) (hy:vs[i]? =some y):∃ t,(Fo lf ks vs).drop (2+6 * i)=Ah 4 x++(Ah 2 y++t):=by
 have hi:=(List.getElem?_eq_some_iff.1 hx).1
 obtain ⟨t,e⟩:=X3 ks vs hx hy ks.length hi
 refine ⟨t,?_⟩
 have h2:(Ah 1 (Do lf)++Ah 1 (ks.length:Int)).length=2:=by simp[Ai]
 unfold Fo;rw[List.drop_append,List.drop_of_length_le (by rw[h2];omega),List.nil_append,h2,show 2+6 * i - 2=6 * i by omega,e,List.append_assoc]
theorem X4 {lf:Bool} {ks vs:List Int} (h:ks.length=vs.length) (h8:ks.length≤8) {i:Nat} {x y:Int} (hx:ks[i]? =some x) (hy:vs[i]? =some y) (hb:0≤x∧x≤1048575):A5 (((Gj lf ks vs).drop (2+6 * i)).take 4)=x:=by
 have hi:=(List.getElem?_eq_some_iff.1 hx).1
 rw[Ig h h8 (by omega)]
 obtain ⟨t,e⟩:=UC lf hx hy
 rw[e,List.take_left' (Ai 4 _)]
 exact Cj hb.1 (by omega) (by omega)
theorem X5 {lf:Bool} {ks vs:List Int} (h:ks.length=vs.length) (h8:ks.length≤8) {i:Nat} {x y:Int} (hx:ks[i]? =some x) (hy:vs[i]? =some y) (hb:0≤y∧y≤1023):A5 (((Gj lf ks vs).drop (2+6 * i+4)).take 2)=y:=by
 have hi:=(List.getElem?_eq_some_iff.1 hx).1
 rw[Ig h h8 (by omega)]
 obtain ⟨t,e⟩:=UC lf hx hy
 have e5:(Fo lf ks vs).drop (2+6 * i+4)=((Fo lf ks vs).drop (2+6 * i)).drop 4:=by rw[List.drop_drop]
 rw[e5,e,List.drop_left' (Ai 4 _),List.take_left' (Ai 2 _)]
 exact Cj hb.1 (by omega) (by omega)
theorem On {lf:Bool} {ks vs:List Int} (h:ks.length=vs.length) (h8:ks.length≤8):rz (((Gj lf ks vs).drop (2+6 * ks.length)).take (240 - (2+6 * ks.length)))=0:=by
 have hl:=FH (lf:=lf) h
 unfold Gj AN
 rw[List.drop_zero,List.drop_take,List.take_take,Nat.min_self,←hl,List.drop_left' rfl]
 refine Oe.2 (fun x hx=> ?_)
 have:=List.mem_of_mem_take hx
 exact (List.mem_replicate.1 this).2
theorem Fp (pw a k a2:Nat) (x:Int) (bs:List UInt8) (hb:bs.length=256) (hk:a+k≤256∧k≤8) (ha:a+k=a2):
  Cn prog 92 [Pt_ pw,Iv_ x,Iv_ (k:Int)] [blk pw (AX bs (a:Int)) 165] (fun v Γ=>∃ bs':List UInt8,bs'.length=256∧v= .tuple #[]∧Γ=[blk pw (AX bs' (a2:Int)) 165]):=by
 subst ha
 refine Cn.mono (CW pw a k x bs hb hk) ?_
 rintro v Γ ⟨h1,h2⟩
 exact ⟨_,(Ds (by rw[Ai];omega)).trans hb,h1,h2⟩
def KL:List Value:=List.replicate 48 (.int .i64 0)
theorem Q0 {i:Nat} (h:i<8) (k:Nat) (u:Value) (hk:([Iv_ 0,Iv_ 0,Iv_ 0,Iv_ 0,Iv_ 0,Iv_ 0]:List Value)[k]? =some u):KL[i * 6+k]? =some u:=by
 have hk6:k<6:=by simpa using (List.getElem?_eq_some_iff.1 hk).1
 have:u=Iv_ 0:=by
  rcases (show k=0∨k=1∨k=2∨k=3∨k=4∨k=5 by omega) with rfl|rfl|rfl|rfl|rfl|rfl<;>simp at hk<;>exact hk.symm
 subst this
 unfold KL;rw[List.getElem?_replicate,if_pos (by omega)]
theorem Kc (pw:Nat) (a:Int) (bs:List UInt8) (hb:bs.length=256):Cn prog 94 [Pt_ pw] [blk pw (AX bs a) 165] (fun v Γ=>v= .slice (some ⟨pw,0,none⟩) 240 240∧Γ=[blk pw (AX bs a) 165]):=by
 intro z R w H;replace H:=H.l1;refine Ad func94 rfl ntmps94 rfl (Z0 10 [0] rfl (Ac rfl (Qb (n':=256) (z:=1) rfl (by kernel_rfl) rfl rfl rfl (q:=240) rfl rfl (by decide) (by decide)) (Zc 4 rfl (Zr rfl ?_))));exact ⟨_,⟨rfl,rfl⟩,H⟩
theorem NG (nv:Value) (ns:List Int) (hns:ns.length=120) (hall:∀ x∈ns,0≤x∧x≤1000) (A:Ae) (hA:∀ h,A h→rdH 1 nv 120 (ns.map Iv_) h):Cn prog 66 [nv] [A] (fun v Γ=>∃ pw,v= .tuple #[.slice (some ⟨pw,0,none⟩) 240 240,Iv_ 0]∧Γ=[blk pw (AX (AN (JA ns)) ((2 * 120:Nat):Int)) 165,A]):=by
 intro z R w H;replace H:=H.l1;obtain ⟨ao,pc,rfl⟩:=H.says 0 rfl (fun h q=>(hA h q).slc);refine Ad func66 rfl ntmps66 rfl (Z0 19 [4] rfl (AL rfl (BO (P:=prog) H rfl (zs:=(AX (AN []) 0)) (by kernel_rfl)) ?_));rintro _ w ⟨b1,rfl,H⟩;replace H:=H.l2;refine Zc 11 rfl ?_;refine AJ (σ:=Nat) (fun i=>[(12,Iv_ (i:Int)),(4,Pt_ b1),(10,.slice ao 120 pc),(11,Iv_ 120)])
   (fun i w=>Sep z (blk b1 (AX (AN ((ns.take i).flatMap (Ah 2))) ((2 * i:Nat):Int)) 165::A::R) w∧(i≤120)) (fun i=>120 - i) 0
   (fun _ hF=>(hF.co rfl (by go_num) (hF.all rfl))) ⟨(by simpa using H),by omega⟩ ?_
 clear H;rintro i w ⟨H',hI⟩;have H:=H'.l2;have hin:=hI;clear hI
 refine Z0 6 [0] rfl (Af rfl (fun h1=> ?_) (fun h1=> ?_))
 ·obtain ⟨x,hx⟩:∃ x,ns[i]? =some x:=⟨_,List.getElem?_eq_getElem (by omega)⟩;have hx0:=hall x (List.mem_of_getElem? hx)
  refine Zc 6 rfl ?_;have hat:=(H.rd 1 rfl hA).at (j:=i) (u:=Iv_ x) (by simp[hx])
  refine Ac rfl (AD rfl (z:=1) (j:=i) (r:=i) (by kernel_rfl) rfl rfl rfl (by omega) hat (by omega)) (Ac rfl (AR rfl rfl (by kernel_rfl) (AB hat)) (Zc 7 rfl (z_E_ rfl (call91 _) (Cv _ _) H ?_)));intro w H;replace H:=H.l2;refine Ac rfl (Ax rfl rfl) (Zc 2 rfl (Af rfl (fun h2=> ?_) (fun h2=> ?_)))
  ·(exfalso;omega)
  ·refine Zc 4 rfl (z_E_ rfl (call92 _) (CW _ (2 * i) 2 x _ (A7 (by first|omega|(simp[Ai,Fm,-List.length_flatMap]<;>omega))) (by omega)) H ?_);intro w H;replace H:=H.l2;rw[show ((2 * i+2:Nat):Int)=(((2 * (i+1):Nat):Int):Int) from by omega] at H;rw[show Bp (AN ((ns.take i).flatMap (Ah 2))) (Ah 2 x) (2 * i)=AN ((ns.take i).flatMap (Ah 2)++Ah 2 x) from BR (by first|omega|(simp[Ai,Fm,-List.length_flatMap]<;>omega)) (by first|omega|(simp[Ai,Fm,-List.length_flatMap]<;>omega))] at H;have H:Sep z (blk b1 (AX (AN ((ns.take i).flatMap (Ah 2)++Ah 2 x)) ((2 * (i+1):Nat):Int)) 165::A::R) w:=H
   refine Z1 7 [] [(i:Int)+1] rfl (by omega) (gf ?_);intro _ hF;refine ⟨(i+1),(hF.co rfl (by go_num) (hF.all rfl)),⟨(by rw[←Pq hx];exact H),?_⟩,?_⟩
   ·omega
   ·omega
 ·obtain rfl:i=120:=by omega
  refine Zc 2 rfl (gx (Zc 3 rfl ?_));rw[List.take_of_length_le (by omega)] at H;have H:Sep z (blk b1 (AX (AN (JA ns)) ((2 * 120:Nat):Int)) 165::A::R) w:=H
  refine Zc 1 rfl (z_E_ rfl (call94 _) (Kc _ _ _ (A7 (by first|omega|(simp[Ai,Fm,-List.length_flatMap]<;>omega)))) H ?_);intro w H;refine Zc 5 rfl (Zr rfl ?_);exact ⟨_,⟨b1,rfl,rfl⟩,H.perm 2 [0,1] rfl rfl⟩
theorem X6 (k:Nat) (pr b o n c:Nat) (xs:List UInt8) (A:Ae) (hA:∀ h,A h→rdH 1 (.slice (some ⟨b,o,none⟩) n c) n (xs.map u8) h) (hn:n≤c) (hk:k≤n) (hk0:0<k) (ys:List UInt8) (hy:xs.take k=ys) (o2 n2 c2:Nat) (ho2:(if c=k then o else o+k)=o2) (h2_:n - k=n2) (h3_:c - k=c2):Cn prog 117 [Pt_ pr,Iv_ (k:Int)] [blk pr [.slice (some ⟨b,o,none⟩) n c] 210,A] (fun v Γ=>v=Iv_ (A5 ys)∧Γ=[blk pr [.slice (some ⟨b,o2,none⟩) n2 c2] 210,A]):=by
 intro z R w H;replace H:=H.l2;subst hy ho2 h2_ h3_;have hxl:=H.says 1 rfl (fun h q=>(hA h q).len)
 have hcb:=H.says 1 rfl (fun h q=>(hA h q).cap)
 refine Ad func117 rfl ntmps117 rfl (Z2 18 [0,0,0] H rfl (Ac rfl (BD rfl (z:=1) (p:=0) (q:=k) (o':=o) (l':=k) (c':=c) (by kernel_rfl) rfl (.inl ⟨rfl,rfl⟩) (.inr ⟨_,_,_,rfl,rfl,rfl⟩) (by omega) (by omega) (by omega) (by omega) (by omega) (by omega)) (Zc 5 rfl ?_)));refine AJ (σ:=Nat) (fun j=>[(15,Iv_ (j:Int)),(5,Iv_ (A5 (xs.take j))),(0,Pt_ pr),(1,Iv_ (k:Int)),(4,Iv_ 0),(13,.slice (some ⟨b,o,none⟩) k c),(14,Iv_ (k:Int))])
   (fun j w=>Sep z (blk pr [.slice (some ⟨b,o,none⟩) n c] 210::A::R) w∧(j≤k)) (fun j=>k - j) 0
   (fun _ hF=>(hF.co rfl (by go_num) (hF.co rfl (by go_num) (hF.all rfl)))) ⟨H,by omega⟩ ?_
 clear H;rintro j w ⟨H',hI⟩;have H:=H'.l2;have hjk:=hI;clear hI
 refine Z0 6 [0] rfl (Af rfl (fun h1=> ?_) (fun h1=> ?_))
 ·obtain ⟨x,hx⟩:∃ x,xs[j]? =some x:=⟨_,List.getElem?_eq_getElem (by omega)⟩;refine Z1 7 [1,j,o+j] [] rfl (by omega) (Ac rfl (AZ rfl rfl (by kernel_rfl) (AB (H.cell 1 rfl (fun h q=>(hA h q).at hx)))) (Zc 5 rfl (Ac rfl (P5 rfl rfl rfl (m:=8) rfl (by decide)) (Zc 1 rfl (Ac rfl (OZ rfl (by kernel_rfl) rfl) (Ac rfl (Up rfl rfl rfl (Mu _) ⟨by omega,by have:=x.toNat_lt;omega⟩) (Z1 8 [] [(j:Int)+1] rfl (by omega) (gf ?_))))))));intro _ hF;refine ⟨(j+1),(hF.co rfl (by go_num) (hF.co rfl (congrArg Iv_ (KH hx)) (hF.all rfl))),⟨H,?_⟩,?_⟩
  ·omega
  ·omega
 ·obtain rfl:j=k:=by omega
  refine Zc 2 rfl (gx (Z2 10 [0,0,0] H rfl (Ac rfl (RX rfl (z:=1) (by kernel_rfl) rfl rfl (p:=j) rfl (by omega) (by omega) (o':=if c=j then o else o+j) (l':=n - j) (c':=c - j) (by rw[Nat.mul_one]) rfl rfl) (Z4 12 [0,0] H rfl ?_))));intro w H;refine Zr rfl ?_;exact ⟨_,⟨rfl,rfl⟩,H⟩
theorem NH (b o c:Nat) (bd:List UInt8) (A:Ae) (hA:∀ h,A h→rdH 1 (.slice (some ⟨b,o,none⟩) 240 c) 240 (bd.map u8) h) (ns:List Int) (hns:ns.length=120) (hall:∀ x∈ns,0≤x∧x≤1000) (hbd:bd=JA ns):Cn prog 100 [.slice (some ⟨b,o,none⟩) 240 c] [A] (fun v Γ=>∃ v1,v= .tuple #[v1,.bool true]∧Γ=[grow 3 1 v1 120 (ns.map Iv_),A]):=by
 intro z R w H;replace H:=H.l1;have hbl:=H.says 0 rfl (fun h q=>(hA h q).len)
 have hcb:=H.says 0 rfl (fun h q=>(hA h q).cap)
 refine Ad func100 rfl ntmps100 rfl (Za 21 [4] H rfl ?_);intro b1 w H;refine Z4 10 [0] H rfl ?_;intro w H;replace H:=(H.nilg 3 1).l3
 refine Zc 5 rfl ?_;refine AJ (σ:=Nat×Value×Nat) (fun ⟨i,v,x⟩=>[(12,Iv_ (i:Int)),(5,v),(4,Pt_ b1)])
   (fun ⟨i,v,x⟩ w=>Sep z (grow 3 1 v i ((ns.take i).map Iv_)::blk b1 [.slice (some ⟨b,x,none⟩) (240 - 2 * i) (c - 2 * i)] 210::A::R) w∧(i≤120∧(i<120→x=o+2 * i))) (fun ⟨i,v,x⟩=>120 - i) ⟨0,.slice none 0 0,o⟩
   (fun _ hF=>(hF.co rfl (by go_num) (hF.co rfl (by go_num) (hF.all rfl)))) ⟨H,⟨by omega,fun _=>rfl⟩⟩ ?_
 clear H;rintro ⟨i,v,x⟩ w ⟨H',hI⟩;dsimp only at hI H' ⊢
 have H:=H'.l3;have sv:=H.says 0 rfl (fun h q=>q.slc)
 obtain ⟨hin,hxo⟩:=hI;refine Z0 6 [0] rfl (Af rfl (fun h1=> ?_) (fun h1=> ?_))
 ·have hlt:i<120:=by omega
  have hx2:=hxo hlt
  obtain ⟨y,hy⟩:∃ y,ns[i]? =some y:=⟨_,List.getElem?_eq_getElem (by omega)⟩;have hy0:=hall y (List.mem_of_getElem? hy)
  have hgy:A5 ((bd.drop (2 * i)).take 2)=y:=by rw[hbd];exact X1 hall hy
  refine Zc 6 rfl (z_E_ rfl (call117 _) (X6 2 _ b x (240 - 2 * i) (c - 2 * i) ((bd.drop (2 * i)).take (240 - 2 * i)) _ (fun h q=>by have:=(hA h q).cut (lo:=2 * i) (m:=240 - 2 * i) (c':=c - 2 * i) (by omega) (by omega) (by omega);rw[hx2];exact this) (by omega) (by omega) (by omega) ((bd.drop (2 * i)).take 2) (by rw[List.take_take,Nat.min_eq_left (by omega)]) (if c - 2 * i=2 then x else x+2) (240 - 2 * (i+1)) (c - 2 * (i+1)) rfl (by omega) (by omega)) H.f2.f2 ?_);intro w H;replace H:=H.l3;refine Al 14 (v:=Iv_ y) rfl (congrArg Iv_ hgy) (Zc 7 rfl (z_E_ rfl (call91 _) (Cv _ _) H ?_));intro w H;replace H:=H.l3;refine Ac rfl (Ax rfl rfl) (Zc 2 rfl (Af rfl (fun h2=> ?_) (fun h2=> ?_)))
  ·(exfalso;omega)
  ·refine Zc 5 rfl (AL rfl (AV H rfl (by kernel_rfl) Bq rfl (by decide) (by decide) (out:=[Iv_ y]) (by kernel_rfl)) ?_);rintro _ w ⟨b2,rfl,H⟩;replace H:=H.l4;refine AL rfl (Bb 3 H rfl rfl (by kernel_rfl) Bq rfl rfl (H.rd 0 rfl (fun h q=>q.rd (by omega) (by omega) (by simp) rfl)) (by simp[Value.oneCell']) (by omega)) ?_;rintro v3 w H';have H':Sep z (blk b2 [Iv_ y] 3::blk b1 [.slice (some ⟨b,(if c - 2 * i=2 then x else x+2),none⟩) (240 - 2 * (i+1)) (c - 2 * (i+1))] 210::A::grow 3 1 v3 (i+1) ((ns.take i).map Iv_++[Iv_ y])::R) w:=H'
   have ev3:((ns.take i).map Iv_++[Iv_ y]:List Value)=(ns.take (i+1)).map Iv_:=(DR hy)
   rw[ev3] at H';have H:=H'.l4;have sv3:=H.says 3 rfl (fun h q=>q.slc)
   refine Z1 8 [] [(i:Int)+1] rfl (by omega) ?_;replace H:=H.d.f1.f1.f2;refine gf ?_;intro _ hF;refine ⟨⟨i+1,v3,if c - 2 * i=2 then x else x+2⟩,(hF.co rfl (by go_num) (hF.all rfl)),⟨H,?_⟩,?_⟩
   ·refine ⟨by dsimp only;omega,fun q=> ?_⟩;dsimp only at q ⊢;rw[if_neg (by omega)];omega
   ·omega
 ·obtain rfl:i=120:=by omega
  refine Zc 2 rfl (gx (Zc 10 rfl (Zr rfl ?_)));rw[List.take_of_length_le (by omega)] at H;exact ⟨_,⟨v,rfl,rfl⟩,H.perm 3 [0,2] rfl rfl⟩
theorem Q1 (lf:Bool) (kv vv:Value) (ks vs:List Int) (A B:Ae) (hA:∀ h,A h→rdH 1 kv ks.length (ks.map Iv_) h) (hB:∀ h,B h→rdH 1 vv vs.length (vs.map Iv_) h) (hkv:ks.length=vs.length) (h8:ks.length≤8) (hk:∀ x∈ks,0≤x∧x≤1048575) (hv:∀ y∈vs,0≤y∧y≤1023):Cn prog 158 [.agg #[.bool lf,kv,vv]] [A,B] (fun v Γ=>∃ pw,v= .tuple #[.slice (some ⟨pw,0,none⟩) 240 240,Iv_ 0]∧Γ=[blk pw (AX (AN (Fo lf ks vs)) ((2+6 * ks.length:Nat):Int)) 165,A,B]):=by
 intro z R w H;replace H:=H.l2;obtain ⟨ka,kc,rfl⟩:=H.says 0 rfl (fun h q=>(hA h q).slc);obtain ⟨va,vc,rfl⟩:=H.says 1 rfl (fun h q=>(hB h q).slc);have lfx:=hkv
 refine Ad func158 rfl ntmps158 rfl (Za 2 [] H rfl ?_);intro b1 w H;refine Z2 15 [1,0,0,2,0,0,0] H rfl (Ak 15 rfl (fun h1=> ?_) (fun h1=> ?_))
 ·(exfalso;omega)
 ·refine Z2 7 [1,0,0,0] H rfl (Af rfl (fun h2=> ?_) (fun h2=> ?_))
  ·(exfalso;omega)
  ·refine Zc 4 rfl (AL rfl (BO (P:=prog) H rfl (zs:=(AX (AN []) 0)) (by kernel_rfl)) ?_);rintro _ w ⟨b2,rfl,H⟩;replace H:=H.l4;refine Zc 7 rfl (Lt (fun a w=>Fr 59 [] [(5,Iv_ (Do lf)),(0,.agg #[.bool lf,.slice ka ks.length kc,.slice va vs.length vc]),(1,Pt_ b1),(2,.slice none 0 0),(3,Iv_ 0),(4,Pt_ b2),(8,.pointer (some ⟨b1,1,none⟩)),(9,.slice ka ks.length kc),(10,Iv_ (ks.length:Int)),(11,.pointer (some ⟨b1,2,none⟩)),(12,.slice va vs.length vc),(13,Iv_ (vs.length:Int)),(14,.bool (decide ((ks.length:Int)≠(vs.length:Int)))),(15,.bool false),(16,.pointer (some ⟨b1,1,none⟩)),(17,.slice ka ks.length kc),(18,Iv_ (ks.length:Int)),(19,.bool (decide ((8:Int)<(ks.length:Int)))),(20,.bool (decide ((8:Int)<(ks.length:Int))))] a∧Sep z (blk b2 (AX (AN ([])) 0) 165::blk b1 [.bool lf,.slice ka ks.length kc,.slice va vs.length vc] 142::A::B::R) w) ?_ ?_)
   ·refine Z2 6 [0,1,0] H rfl (EQ rfl (fun h3=> ?_) (fun h3=> ?_))
    ·refine Zc 3 rfl ?_;exact gf fun _ hF=>⟨(hF.co rfl (congrArg Iv_ (by simp[Do, *])) (hF.all rfl)),H⟩
    ·refine Zc 1 rfl ?_;exact gf fun _ hF=>⟨(hF.co rfl (congrArg Iv_ (by simp[Do, *])) (hF.all rfl)),H⟩
   rintro a w ⟨hF,H⟩;revert a;refine Zc 3 rfl (z_E_ rfl (call92 _) (CW _ 0 1 (Do lf) _ (A7 (by first|omega|(simp[Ai,lfx,CP,List.length_zip,-List.length_flatMap]<;>omega))) (by omega)) H ?_);intro w H;replace H:=H.l4;rw[show Bp (AN []) (Ah 1 (Do lf)) 0=AN (Ah 1 (Do lf)) from BR rfl (by first|omega|(simp[Ai,lfx,CP,List.length_zip,-List.length_flatMap]<;>omega))] at H;have H:Sep z (blk b2 (AX (AN (Ah 1 (Do lf))) 1) 165::blk b1 [.bool lf,.slice ka ks.length kc,.slice va vs.length vc] 142::A::B::R) w:=H
   refine Z2 7 [1,1,0] H rfl (z_E_ rfl (call92 _) (CW _ 1 1 (ks.length:Int) _ (A7 (by first|omega|(simp[Ai,lfx,CP,List.length_zip,-List.length_flatMap]<;>omega))) (by omega)) H ?_);intro w H;replace H:=H.l4;rw[show Bp (AN (Ah 1 (Do lf))) (Ah 1 (ks.length:Int)) 1=AN (Ah 1 (Do lf)++Ah 1 (ks.length:Int)) from BR (by first|omega|(simp[Ai,lfx,CP,List.length_zip,-List.length_flatMap]<;>omega)) (by first|omega|(simp[Ai,lfx,CP,List.length_zip,-List.length_flatMap]<;>omega))] at H;have H:Sep z (blk b2 (AX (AN (Ah 1 (Do lf)++Ah 1 (ks.length:Int))) 2) 165::blk b1 [.bool lf,.slice ka ks.length kc,.slice va vs.length vc] 142::A::B::R) w:=H
   refine Z2 12 [1,1,0] H rfl ?_;refine AJ (σ:=Nat) (fun i=>[(32,Iv_ (i:Int)),(1,Pt_ b1),(4,Pt_ b2),(30,.slice ka ks.length kc),(31,Iv_ (ks.length:Int))])
     (fun i w=>Sep z (blk b2 (AX (AN (Ah 1 (Do lf)++Ah 1 (ks.length:Int)++Fz ks vs i)) ((2+6 * i:Nat):Int)) 165::blk b1 [.bool lf,.slice ka ks.length kc,.slice va vs.length vc] 142::A::B::R) w∧(i≤ks.length)) (fun i=>ks.length - i) 0
     (fun _ hF=>(hF.co rfl (by go_num) (hF.all rfl))) ⟨(by rw[SW,List.append_nil];exact H),by omega⟩ ?_
   clear H;rintro i w ⟨H',hI⟩;have H:=H'.l4;have hin:=hI;clear hI
   refine Z0 6 [0] rfl (Af rfl (fun h4=> ?_) (fun h4=> ?_))
   ·have hlt:i<ks.length:=by omega
    obtain ⟨x,hx⟩:∃ x,ks[i]? =some x:=⟨_,List.getElem?_eq_getElem hlt⟩;obtain ⟨y,hy⟩:∃ y,vs[i]? =some y:=⟨_,List.getElem?_eq_getElem (by omega)⟩;have hx0:=hk x (List.mem_of_getElem? hx)
    have hy0:=hv y (List.mem_of_getElem? hy)
    refine Zc 6 rfl ?_;have hka:=(H.rd 2 rfl hA).at (j:=i) (u:=Iv_ x) (by simp[hx])
    have hva:=(H.rd 3 rfl hB).at (j:=i) (u:=Iv_ y) (by simp[hy])
    refine Zc 1 rfl (Ac rfl (AD rfl (z:=1) (j:=i) (r:=i) (by kernel_rfl) rfl rfl rfl (by omega) hka (by omega)) (Ac rfl (AR rfl rfl (by kernel_rfl) (AB hka)) (Zc 8 rfl (z_E_ rfl (call91 _) (Cv _ _) H ?_))));intro w H;replace H:=H.l4;refine Ac rfl (Ax rfl rfl) (Zc 1 rfl (Ak 40 rfl (fun h5=> ?_) (fun h5=> ?_)))
    ·(exfalso;omega)
    ·have hva:=(H.rd 3 rfl hB).at (j:=i) (u:=Iv_ y) (by simp[hy])
     refine Z2 3 [2,1,0] H rfl (Ac rfl (AD rfl (z:=1) (j:=i) (r:=i) (by kernel_rfl) rfl rfl rfl (by omega) hva (by omega)) (Ac rfl (AR rfl rfl (by kernel_rfl) (AB hva)) (z_E_ rfl (call91 _) (Cv _ _) H ?_)));intro w H;replace H:=H.l4;refine Ac rfl (Ax rfl rfl) (Zc 3 rfl (Af rfl (fun h6=> ?_) (fun h6=> ?_)))
     ·(exfalso;omega)
     ·refine Zc 5 rfl (z_E_ rfl (call92 _) (CW _ (2+6 * i) 4 x _ (A7 (by first|omega|(simp[Ai,lfx,CP,List.length_zip,-List.length_flatMap]<;>omega))) (by omega)) H ?_);intro w H;replace H:=H.l4;rw[show Bp (AN (Ah 1 (Do lf)++Ah 1 (ks.length:Int)++Fz ks vs i)) (Ah 4 x) (2+6 * i)=AN (Ah 1 (Do lf)++Ah 1 (ks.length:Int)++Fz ks vs i++Ah 4 x) from BR (by first|omega|(simp[Ai,lfx,CP,List.length_zip,-List.length_flatMap]<;>omega)) (by first|omega|(simp[Ai,lfx,CP,List.length_zip,-List.length_flatMap]<;>omega))] at H;have H:Sep z (blk b2 (AX (AN (Ah 1 (Do lf)++Ah 1 (ks.length:Int)++Fz ks vs i++Ah 4 x)) ((2+6 * i+4:Nat):Int)) 165::blk b1 [.bool lf,.slice ka ks.length kc,.slice va vs.length vc] 142::A::B::R) w:=H
      refine Zc 3 rfl ?_;have hva:=(H.rd 3 rfl hB).at (j:=i) (u:=Iv_ y) (by simp[hy])
      refine Z2 3 [2,1,0] H rfl (Ac rfl (AD rfl (z:=1) (j:=i) (r:=i) (by kernel_rfl) rfl rfl rfl (by omega) hva (by omega)) (Ac rfl (AR rfl rfl (by kernel_rfl) (AB hva)) (z_E_ rfl (call92 _) (CW _ (2+6 * i+4) 2 y _ (A7 (by first|omega|(simp[Ai,lfx,CP,List.length_zip,-List.length_flatMap]<;>omega))) (by omega)) H ?_)));intro w H;replace H:=H.l4;rw[show ((2+6 * i+6:Nat):Int)=(((2+6 * (i+1):Nat):Int):Int) from by omega] at H;rw[show Bp (AN (Ah 1 (Do lf)++Ah 1 (ks.length:Int)++Fz ks vs i++Ah 4 x)) (Ah 2 y) (2+6 * i+4)=AN (Ah 1 (Do lf)++Ah 1 (ks.length:Int)++Fz ks vs i++Ah 4 x++Ah 2 y) from BR (by first|omega|(simp[Ai,lfx,CP,List.length_zip,-List.length_flatMap]<;>omega)) (by first|omega|(simp[Ai,lfx,CP,List.length_zip,-List.length_flatMap]<;>omega))] at H;have H:Sep z (blk b2 (AX (AN (Ah 1 (Do lf)++Ah 1 (ks.length:Int)++Fz ks vs i++Ah 4 x++Ah 2 y)) ((2+6 * (i+1):Nat):Int)) 165::blk b1 [.bool lf,.slice ka ks.length kc,.slice va vs.length vc] 142::A::B::R) w:=H
      refine Z1 7 [] [(i:Int)+1] rfl (by omega) (gf ?_);intro _ hF;refine ⟨(i+1),(hF.co rfl (by go_num) (hF.all rfl)),⟨(by rw[VL hx hy,←List.append_assoc,←List.append_assoc];exact H),?_⟩,?_⟩
      ·omega
      ·omega
   ·obtain rfl:i=ks.length:=by omega
    refine Zc 2 rfl (gx (Zc 3 rfl ?_));have H:Sep z (blk b2 (AX (AN (Fo lf ks vs)) ((2+6 * ks.length:Nat):Int)) 165::blk b1 [.bool lf,.slice ka ks.length kc,.slice va vs.length vc] 142::A::B::R) w:=H
    refine Zc 1 rfl (z_E_ rfl (call94 _) (Kc _ _ _ (A7 (by first|omega|(simp[Ai,FH hkv]<;>omega)))) H ?_);intro w H;refine Zc 5 rfl (Zr rfl ?_);exact ⟨_,⟨b2,rfl,rfl⟩,H.perm 4 [0,2,3] rfl rfl⟩
theorem KM (b o c:Nat) (bd:List UInt8) (A:Ae) (hA:∀ h,A h→rdH 1 (.slice (some ⟨b,o,none⟩) 240 c) 240 (bd.map u8) h) (lf:Bool) (ks vs:List Int) (hkv:ks.length=vs.length) (h8:ks.length≤8) (hk:∀ x∈ks,0≤x∧x≤1048575) (hv:∀ y∈vs,0≤y∧y≤1023) (hbd:bd=Gj lf ks vs):Cn prog 110 [.slice (some ⟨b,o,none⟩) 240 c] [A] (fun v Γ=>∃ v1 v2,v= .tuple #[.agg #[.bool lf,v1,v2],.bool true]∧Γ=[grow 3 1 v1 ks.length (ks.map Iv_),grow 3 1 v2 ks.length (vs.map Iv_),A]):=by
 intro z R w H;replace H:=H.l1;have hbl:=H.says 0 rfl (fun h q=>(hA h q).len)
 have hcb:=H.says 0 rfl (fun h q=>(hA h q).cap)
 have hlf:=QY lf
 have g0:A5 ((bd.drop 0).take 1)=Do lf:=by rw[hbd];exact VN hkv h8
 have g1:A5 ((bd.drop 1).take 1)=(ks.length:Int):=by rw[hbd];exact VO hkv h8
 refine Ad func110 rfl ntmps110 rfl (Za 2 [] H rfl ?_);intro b1 w H;refine Za 18 [4] H rfl ?_;intro b2 w H;refine Z4 5 [0] H rfl ?_;intro w H;refine z_E_ rfl (call117 _) (C9 1 _ b o 240 (c) ((bd.drop 0).take 240) _ (fun h q=>by have:=(hA h q).cut (lo:=0) (m:=240) (c':=c) (by omega) (by omega) (by omega);exact this) (by omega) (by omega) ((bd.drop 0).take 1) (by rw[List.take_take,Nat.min_eq_left (by omega)]) (o+1) 239 (c - 1) (by omega) (by omega) (by omega)) H.f2.f1 ?_;intro w H;replace H:=H.l3;refine Al 16 (v:=Iv_ (Do lf)) rfl (congrArg Iv_ g0) (z_E_ rfl (call117 _) (C9 1 _ b (o+1) 239 ((c - 1)) ((bd.drop 1).take 239) _ (fun h q=>by have:=(hA h q).cut (lo:=1) (m:=239) (c':=(c - 1)) (by omega) (by omega) (by omega);exact this) (by omega) (by omega) ((bd.drop 1).take 1) (by rw[List.take_take,Nat.min_eq_left (by omega)]) (o+2) 238 (c - 2) (by omega) (by omega) (by omega)) H ?_);intro w H;replace H:=H.l3;refine Al 17 (v:=Iv_ (ks.length:Int)) rfl (congrArg Iv_ g1) (Z0 10 [0] rfl (Ak 20 rfl (fun h1=> ?_) (fun h1=> ?_)))
 ·(exfalso;omega)
 ·refine Z0 5 [0] rfl (Af rfl (fun h2=> ?_) (fun h2=> ?_))
  ·(exfalso;omega)
  ·refine Z0 6 [0] rfl (Al 26 (v:= .bool lf) rfl (congrArg Value.bool (X2 lf)) (Za 1 [] H rfl ?_));intro b3 w H;refine Z4 5 [0] H rfl ?_;intro w H;replace H:=(H.nilg 3 1).l5
   replace H:=(H.nilg 3 1).l6
   refine Zc 6 rfl ?_;refine AJ (σ:=Nat×Value×Value) (fun ⟨i,v,u⟩=>[(29,Iv_ (i:Int)),(2,Pt_ b1),(4,Pt_ b2),(7,Pt_ b3),(28,Iv_ (ks.length:Int))])
     (fun ⟨i,v,u⟩ w=>Sep z (grow 3 1 u i ((vs.take i).map Iv_)::grow 3 1 v i ((ks.take i).map Iv_)::blk b3 [.bool lf,v,u] 142::blk b2 [.slice (some ⟨b,(o+(2+6 * i)),none⟩) (240 - (2+6 * i)) (c - (2+6 * i))] 210::A::blk b1 [.bool false,.slice none 0 0,.slice none 0 0] 142::R) w∧(i≤ks.length)) (fun ⟨i,v,u⟩=>ks.length - i) ⟨0,.slice none 0 0,.slice none 0 0⟩
     (fun _ hF=>(hF.co rfl (by go_num) (hF.all rfl))) ⟨H,Nat.zero_le _⟩ ?_
   clear H;rintro ⟨i,v,u⟩ w ⟨H',hI⟩;dsimp only at hI H' ⊢
   have H:=H'.l6;have su:=H.says 0 rfl (fun h q=>q.slc)
   have sv:=H.says 1 rfl (fun h q=>q.slc)
   have hin:=hI
   refine Z0 6 [0] rfl (Af rfl (fun h3=> ?_) (fun h3=> ?_))
   ·have hlt:i<ks.length:=by omega
    obtain ⟨x,hx⟩:∃ x,ks[i]? =some x:=⟨_,List.getElem?_eq_getElem hlt⟩;obtain ⟨y,hy⟩:∃ y,vs[i]? =some y:=⟨_,List.getElem?_eq_getElem (by omega)⟩;have hx0:=hk x (List.mem_of_getElem? hx)
    have hy0:=hv y (List.mem_of_getElem? hy)
    have gx:A5 ((bd.drop (2+6 * i)).take 4)=x:=by rw[hbd];exact X4 hkv h8 hx hy hx0
    have gy:A5 ((bd.drop (2+6 * i+4)).take 2)=y:=by rw[hbd];exact X5 hkv h8 hx hy hy0
    refine Zc 6 rfl (z_E_ rfl (call117 _) (C9 4 _ b (o+(2+6 * i)) (240 - (2+6 * i)) ((c - (2+6 * i))) ((bd.drop (2+6 * i)).take (240 - (2+6 * i))) _ (fun h q=>by have:=(hA h q).cut (lo:=(2+6 * i)) (m:=(240 - (2+6 * i))) (c':=(c - (2+6 * i))) (by omega) (by omega) (by omega);exact this) (by omega) (by omega) ((bd.drop (2+6 * i)).take 4) (by rw[List.take_take,Nat.min_eq_left (by omega)]) (o+(2+6 * i+4)) (240 - (2+6 * i+4)) (c - (2+6 * i+4)) (by omega) (by omega) (by omega)) H.f4.f4 ?_);intro w H;replace H:=H.l6;refine Al 31 (v:=Iv_ x) rfl (congrArg Iv_ gx) (z_E_ rfl (call117 _) (C9 2 _ b (o+(2+6 * i+4)) (240 - (2+6 * i+4)) ((c - (2+6 * i+4))) ((bd.drop (2+6 * i+4)).take (240 - (2+6 * i+4))) _ (fun h q=>by have:=(hA h q).cut (lo:=(2+6 * i+4)) (m:=(240 - (2+6 * i+4))) (c':=(c - (2+6 * i+4))) (by omega) (by omega) (by omega);exact this) (by omega) (by omega) ((bd.drop (2+6 * i+4)).take 2) (by rw[List.take_take,Nat.min_eq_left (by omega)]) (o+(2+6 * (i+1))) (240 - (2+6 * (i+1))) (c - (2+6 * (i+1))) (by omega) (by omega) (by omega)) H ?_);intro w H;replace H:=H.l6;refine Al 32 (v:=Iv_ y) rfl (congrArg Iv_ gy) (Zc 8 rfl (z_E_ rfl (call91 _) (Cv _ _) H ?_));intro w H;replace H:=H.l6;refine Ac rfl (Ax rfl rfl) (Zc 1 rfl (Ak 36 rfl (fun h4=> ?_) (fun h4=> ?_)))
    ·(exfalso;omega)
    ·refine Zc 1 rfl (z_E_ rfl (call91 _) (Cv _ _) H ?_);intro w H;replace H:=H.l6;refine Ac rfl (Ax rfl rfl) (Zc 3 rfl (Af rfl (fun h5=> ?_) (fun h5=> ?_)))
     ·(exfalso;omega)
     ·refine Zc 2 rfl ?_;replace H:=H.f4;refine SS (Sep z (blk b3 [.bool lf,v,u] 142::R)) [11,12,13] 14 rfl (by kernel_rfl) (Bc H fun w H'=> ?_)
      have H:=H'.l6;refine Hd 0 rfl (by kernel_rfl) (by kernel_rfl) (by kernel_rfl) (by kernel_rfl) rfl rfl rfl (Dl rfl (k:=1) (r:=1) (by kernel_rfl) rfl rfl) (H.pick 6 [0] rfl) (Hd 1 rfl (by kernel_rfl) (by kernel_rfl) (by kernel_rfl) (by kernel_rfl) rfl rfl rfl (AZ rfl rfl (by kernel_rfl) (fun _ hx=>hx.cel 0 rfl 1 rfl)) (H.pick 6 [0] rfl) (Hd 2 rfl (by kernel_rfl) (by kernel_rfl) (by kernel_rfl) (by kernel_rfl) rfl rfl rfl (CA rfl rfl) (H.pick 6 [0] rfl) (Hd 5 rfl (by kernel_rfl) (by kernel_rfl) (by kernel_rfl) (by kernel_rfl) rfl rfl rfl (Dl rfl (k:=2) (r:=2) (by kernel_rfl) rfl rfl) (H.pick 6 [0] rfl) (Hd 6 rfl (by kernel_rfl) (by kernel_rfl) (by kernel_rfl) (by kernel_rfl) rfl rfl rfl (AZ rfl rfl (by kernel_rfl) (fun _ hx=>hx.cel 0 rfl 2 rfl)) (H.pick 6 [0] rfl) (Hd 7 rfl (by kernel_rfl) (by kernel_rfl) (by kernel_rfl) (by kernel_rfl) rfl rfl rfl (CA rfl rfl) (H.pick 6 [0] rfl) (CX [3,8] (by kernel_rfl) (by simp) (Hx ?_ ?_)))))))
      ·refine Ce rfl rfl rfl rfl (AV H rfl (by kernel_rfl) Bq rfl (by decide) (by decide) (out:=[Iv_ x]) (by kernel_rfl)) ?_;rintro _ w ⟨b4,rfl,H⟩;replace H:=H.l7;refine Bn (fun _=>(H.pick 7 [1] rfl)) (CX [4,8] (by kernel_rfl) (by simp) (Hx ?_ ?_))
       ·refine Ce rfl rfl rfl rfl (Bb 5 H rfl rfl (by kernel_rfl) Bq rfl rfl (H.rd 0 rfl (fun h q=>q.rd (by omega) (by omega) (by simp) rfl)) (by simp[Value.oneCell']) (by omega)) ?_;rintro v5 w H';have H':Sep z (blk b4 [Iv_ x] 3::blk b3 [.bool lf,v,u] 142::blk b2 [.slice (some ⟨b,(o+(2+6 * (i+1))),none⟩) (240 - (2+6 * (i+1))) (c - (2+6 * (i+1)))] 210::A::grow 3 1 u i ((vs.take i).map Iv_)::grow 3 1 v5 (i+1) ((ks.take i).map Iv_++[Iv_ x])::blk b1 [.bool false,.slice none 0 0,.slice none 0 0] 142::R) w:=H'
        have ev5:((ks.take i).map Iv_++[Iv_ x]:List Value)=(ks.take (i+1)).map Iv_:=(DR hx)
        rw[ev5] at H';have H:=H'.l7;have sv5:=H.says 5 rfl (fun h q=>q.slc)
        refine Bn (fun _=>(H.pick 7 [1] rfl)) (Hd 10 rfl (by kernel_rfl) (by kernel_rfl) (by kernel_rfl) (by kernel_rfl) rfl rfl rfl (Dl rfl (k:=1) (r:=1) (by kernel_rfl) rfl rfl) (H.pick 7 [1] rfl) (CX [8] (by kernel_rfl) (by simp) (Au (Ce rfl rfl rfl rfl (AV H rfl (by kernel_rfl) Bq rfl (by decide) (by decide) (out:=[Iv_ y]) (by kernel_rfl)) ?_))));rintro _ w ⟨b6,rfl,H⟩;replace H:=H.l8;refine Bn (fun _=>(H.pick 8 [2] rfl)) (CX [9] (by kernel_rfl) (by simp) (Au (Ce rfl rfl rfl rfl (Bb 5 H rfl rfl (by kernel_rfl) Bq rfl rfl (H.rd 0 rfl (fun h q=>q.rd (by omega) (by omega) (by simp) rfl)) (by simp[Value.oneCell']) (by omega)) ?_)));rintro v7 w H';have H':Sep z (blk b6 [Iv_ y] 3::blk b4 [Iv_ x] 3::blk b3 [.bool lf,v,u] 142::blk b2 [.slice (some ⟨b,(o+(2+6 * (i+1))),none⟩) (240 - (2+6 * (i+1))) (c - (2+6 * (i+1)))] 210::A::grow 3 1 v7 (i+1) ((vs.take i).map Iv_++[Iv_ y])::grow 3 1 v5 (i+1) ((ks.take (i+1)).map Iv_)::blk b1 [.bool false,.slice none 0 0,.slice none 0 0] 142::R) w:=H'
        have ev7:((vs.take i).map Iv_++[Iv_ y]:List Value)=(vs.take (i+1)).map Iv_:=(DR hy)
        rw[ev7] at H';have H:=H'.l8;have sv7:=H.says 5 rfl (fun h q=>q.slc)
        refine Bn (fun _=>(H.pick 8 [2] rfl)) (CX [11] (by kernel_rfl) (by simp) (Au (A8 rfl rfl rfl (LN 2 H rfl rfl rfl rfl sv5.cells sv5.one (by kernel_rfl)) ?_)));rintro w H;replace H:=H.l8;refine Bn (fun h=>absurd h (by decide)) (CX [12] (by kernel_rfl) (by simp) (Au (RR rfl rfl rfl rfl (Dl rfl (k:=2) (r:=2) (by kernel_rfl) rfl rfl) (Bn (fun h=>absurd h (by decide)) (CX [13] (by kernel_rfl) (by simp) (Au (A8 rfl rfl rfl (JP 2 H rfl rfl rfl rfl sv7.cells sv7.one (by kernel_rfl)) ?_)))))));rintro w H;replace H:=H.l8;refine Bn (fun h=>absurd h (by decide)) (MO (by kernel_rfl) (gn (Z1 6 [] [(i:Int)+1] rfl (by omega) ?_)));replace H:=H.f1.d.d.f5.f3.f3.f3.f5.f5;refine gf ?_;intro _ hF;refine ⟨⟨i+1,v5,v7⟩,(hF.co rfl (by go_num) (hF.all rfl)),⟨H,?_⟩,?_⟩
        ·dsimp only;omega
        ·omega
       ·refine Ce rfl rfl rfl rfl (AV H rfl (by kernel_rfl) Bq rfl (by decide) (by decide) (out:=[Iv_ y]) (by kernel_rfl)) ?_;rintro _ w ⟨b8,rfl,H⟩;replace H:=H.l8;refine Bn (fun _=>(H.pick 8 [2] rfl)) (CX [4] (by kernel_rfl) (by simp) (Au (Ce rfl rfl rfl rfl (Bb 6 H rfl rfl (by kernel_rfl) Bq rfl rfl (H.rd 1 rfl (fun h q=>q.rd (by omega) (by omega) (by simp) rfl)) (by simp[Value.oneCell']) (by omega)) ?_)));rintro v9 w H';have H':Sep z (blk b8 [Iv_ y] 3::blk b4 [Iv_ x] 3::blk b3 [.bool lf,v,u] 142::blk b2 [.slice (some ⟨b,(o+(2+6 * (i+1))),none⟩) (240 - (2+6 * (i+1))) (c - (2+6 * (i+1)))] 210::A::grow 3 1 u i ((vs.take i).map Iv_)::grow 3 1 v9 (i+1) ((ks.take i).map Iv_++[Iv_ x])::blk b1 [.bool false,.slice none 0 0,.slice none 0 0] 142::R) w:=H'
        have ev9:((ks.take i).map Iv_++[Iv_ x]:List Value)=(ks.take (i+1)).map Iv_:=(DR hx)
        rw[ev9] at H';have H:=H'.l8;have sv9:=H.says 6 rfl (fun h q=>q.slc)
        refine Bn (fun _=>(H.pick 8 [2] rfl)) (Hd 10 rfl (by kernel_rfl) (by kernel_rfl) (by kernel_rfl) (by kernel_rfl) rfl rfl rfl (Dl rfl (k:=1) (r:=1) (by kernel_rfl) rfl rfl) (H.pick 8 [2] rfl) (CX [9] (by kernel_rfl) (by simp) (Au (Ce rfl rfl rfl rfl (Bb 5 H rfl rfl (by kernel_rfl) Bq rfl rfl (H.rd 0 rfl (fun h q=>q.rd (by omega) (by omega) (by simp) rfl)) (by simp[Value.oneCell']) (by omega)) ?_))));rintro v10 w H';have H':Sep z (blk b8 [Iv_ y] 3::blk b4 [Iv_ x] 3::blk b3 [.bool lf,v,u] 142::blk b2 [.slice (some ⟨b,(o+(2+6 * (i+1))),none⟩) (240 - (2+6 * (i+1))) (c - (2+6 * (i+1)))] 210::A::grow 3 1 v10 (i+1) ((vs.take i).map Iv_++[Iv_ y])::grow 3 1 v9 (i+1) ((ks.take (i+1)).map Iv_)::blk b1 [.bool false,.slice none 0 0,.slice none 0 0] 142::R) w:=H'
        have ev10:((vs.take i).map Iv_++[Iv_ y]:List Value)=(vs.take (i+1)).map Iv_:=(DR hy)
        rw[ev10] at H';have H:=H'.l8;have sv10:=H.says 5 rfl (fun h q=>q.slc)
        refine Bn (fun _=>(H.pick 8 [2] rfl)) (CX [11] (by kernel_rfl) (by simp) (Au (A8 rfl rfl rfl (LN 2 H rfl rfl rfl rfl sv9.cells sv9.one (by kernel_rfl)) ?_)));rintro w H;replace H:=H.l8;refine Bn (fun h=>absurd h (by decide)) (CX [12] (by kernel_rfl) (by simp) (Au (RR rfl rfl rfl rfl (Dl rfl (k:=2) (r:=2) (by kernel_rfl) rfl rfl) (Bn (fun h=>absurd h (by decide)) (CX [13] (by kernel_rfl) (by simp) (Au (A8 rfl rfl rfl (JP 2 H rfl rfl rfl rfl sv10.cells sv10.one (by kernel_rfl)) ?_)))))));rintro w H;replace H:=H.l8;refine Bn (fun h=>absurd h (by decide)) (MO (by kernel_rfl) (gn (Z1 6 [] [(i:Int)+1] rfl (by omega) ?_)));replace H:=H.f1.d.d.f5.f3.f3.f3.f5.f5;refine gf ?_;intro _ hF;refine ⟨⟨i+1,v9,v10⟩,(hF.co rfl (by go_num) (hF.all rfl)),⟨H,?_⟩,?_⟩
        ·dsimp only;omega
        ·omega
      ·refine Ce rfl rfl rfl rfl (AV H rfl (by kernel_rfl) Bq rfl (by decide) (by decide) (out:=[Iv_ y]) (by kernel_rfl)) ?_;rintro _ w ⟨b11,rfl,H⟩;replace H:=H.l7;refine Bn (fun _=>(H.pick 7 [1] rfl)) (CX [3] (by kernel_rfl) (by simp) (Au (Ce rfl rfl rfl rfl (AV H rfl (by kernel_rfl) Bq rfl (by decide) (by decide) (out:=[Iv_ x]) (by kernel_rfl)) ?_)));rintro _ w ⟨b12,rfl,H⟩;replace H:=H.l8;refine Bn (fun _=>(H.pick 8 [2] rfl)) (CX [4] (by kernel_rfl) (by simp) (Au (Ce rfl rfl rfl rfl (Bb 6 H rfl rfl (by kernel_rfl) Bq rfl rfl (H.rd 0 rfl (fun h q=>q.rd (by omega) (by omega) (by simp) rfl)) (by simp[Value.oneCell']) (by omega)) ?_)));rintro v13 w H';have H':Sep z (blk b12 [Iv_ x] 3::blk b11 [Iv_ y] 3::blk b3 [.bool lf,v,u] 142::blk b2 [.slice (some ⟨b,(o+(2+6 * (i+1))),none⟩) (240 - (2+6 * (i+1))) (c - (2+6 * (i+1)))] 210::A::grow 3 1 u i ((vs.take i).map Iv_)::grow 3 1 v13 (i+1) ((ks.take i).map Iv_++[Iv_ x])::blk b1 [.bool false,.slice none 0 0,.slice none 0 0] 142::R) w:=H'
       have ev13:((ks.take i).map Iv_++[Iv_ x]:List Value)=(ks.take (i+1)).map Iv_:=(DR hx)
       rw[ev13] at H';have H:=H'.l8;have sv13:=H.says 6 rfl (fun h q=>q.slc)
       refine Bn (fun _=>(H.pick 8 [2] rfl)) (Hd 10 rfl (by kernel_rfl) (by kernel_rfl) (by kernel_rfl) (by kernel_rfl) rfl rfl rfl (Dl rfl (k:=1) (r:=1) (by kernel_rfl) rfl rfl) (H.pick 8 [2] rfl) (CX [9] (by kernel_rfl) (by simp) (Au (Ce rfl rfl rfl rfl (Bb 5 H rfl rfl (by kernel_rfl) Bq rfl rfl (H.rd 1 rfl (fun h q=>q.rd (by omega) (by omega) (by simp) rfl)) (by simp[Value.oneCell']) (by omega)) ?_))));rintro v14 w H';have H':Sep z (blk b12 [Iv_ x] 3::blk b11 [Iv_ y] 3::blk b3 [.bool lf,v,u] 142::blk b2 [.slice (some ⟨b,(o+(2+6 * (i+1))),none⟩) (240 - (2+6 * (i+1))) (c - (2+6 * (i+1)))] 210::A::grow 3 1 v14 (i+1) ((vs.take i).map Iv_++[Iv_ y])::grow 3 1 v13 (i+1) ((ks.take (i+1)).map Iv_)::blk b1 [.bool false,.slice none 0 0,.slice none 0 0] 142::R) w:=H'
       have ev14:((vs.take i).map Iv_++[Iv_ y]:List Value)=(vs.take (i+1)).map Iv_:=(DR hy)
       rw[ev14] at H';have H:=H'.l8;have sv14:=H.says 5 rfl (fun h q=>q.slc)
       refine Bn (fun _=>(H.pick 8 [2] rfl)) (CX [11] (by kernel_rfl) (by simp) (Au (A8 rfl rfl rfl (LN 2 H rfl rfl rfl rfl sv13.cells sv13.one (by kernel_rfl)) ?_)));rintro w H;replace H:=H.l8;refine Bn (fun h=>absurd h (by decide)) (CX [12] (by kernel_rfl) (by simp) (Au (RR rfl rfl rfl rfl (Dl rfl (k:=2) (r:=2) (by kernel_rfl) rfl rfl) (Bn (fun h=>absurd h (by decide)) (CX [13] (by kernel_rfl) (by simp) (Au (A8 rfl rfl rfl (JP 2 H rfl rfl rfl rfl sv14.cells sv14.one (by kernel_rfl)) ?_)))))));rintro w H;replace H:=H.l8;refine Bn (fun h=>absurd h (by decide)) (MO (by kernel_rfl) (gn (Z1 6 [] [(i:Int)+1] rfl (by omega) ?_)));replace H:=H.f1.d.d.f5.f3.f3.f3.f5.f5;refine gf ?_;intro _ hF;refine ⟨⟨i+1,v13,v14⟩,(hF.co rfl (by go_num) (hF.all rfl)),⟨H,?_⟩,?_⟩
       ·dsimp only;omega
       ·omega
   ·obtain rfl:i=ks.length:=by omega
    refine Zc 2 rfl (gx (Zc 5 rfl (z_E_ rfl (call130 _) (MJ _ b (o+(2+6 * ks.length)) (240 - (2+6 * ks.length)) ((c - (2+6 * ks.length))) ((bd.drop (2+6 * ks.length)).take (240 - (2+6 * ks.length))) _ (fun h q=>by have:=(hA h q).cut (lo:=(2+6 * ks.length)) (m:=(240 - (2+6 * ks.length))) (c':=(c - (2+6 * ks.length))) (by omega) (by omega) (by omega);exact this) (.inr ⟨by omega,by rw[hbd];exact On hkv h8,by omega⟩)) H.f4.f4 ?_)));intro w H;replace H:=H.l6;refine Ac rfl (Ax rfl rfl) (Zc 2 rfl (Af rfl (fun h6=> ?_) (fun h6=> ?_)))
    ·exact absurd (by rw[hbd];exact On hkv h8) h6
    ·refine Z2 5 [4,3] H rfl (Az rfl rfl (Ag 5 H rfl rfl rfl rfl (vs:=[.bool lf,v,u]) rfl (Ab rfl (Ab sv.one (Ab su.one Ar))) (by kernel_rfl) (by simp) (out:=[.bool lf,v,u]) rfl) ?_);rintro w H;replace H:=H.l6;refine Zc 4 rfl (Zl [5,3] H rfl ?_);have e1:ks.take ks.length=ks:=List.take_length
     have e2:vs.take ks.length=vs:=by rw[hkv];exact List.take_length
     rw[e1,e2] at H;exact ⟨_,⟨v,u,rfl,rfl⟩,H.perm 6 [3,2,1] rfl rfl⟩
theorem SX:Cn prog 93 [.agg #[Iv_ 0,Iv_ 0,Iv_ 0,Iv_ 0,Iv_ 0,Iv_ 0]] [] (fun v Γ=>v= .bool true∧Γ=[]):=by
 intro z R w H;replace H:=H.l0;refine Ad func93 rfl ntmps93 rfl (Za 2 [] H rfl ?_);intro b1 w H;refine Z2 7 [0,0,0] H rfl (z_E_ rfl (call91 _) (Cv _ _) H ?_);intro w H;refine Zc 1 rfl (Ak 6 rfl (fun h1=> ?_) (fun h1=> ?_))
 ·refine Z2 2 [1,0,0] H rfl (z_E_ rfl (call91 _) (Cv _ _) H ?_);intro w H;refine Zc 2 rfl (Ak 11 rfl (fun h2=> ?_) (fun h2=> ?_))
  ·refine Z2 2 [2,0,0] H rfl (z_E_ rfl (call91 _) (Cv _ _) H ?_);intro w H;refine Zc 2 rfl (Ak 16 rfl (fun h3=> ?_) (fun h3=> ?_))
   ·refine Z2 2 [3,0,0] H rfl (z_E_ rfl (call91 _) (Cv _ _) H ?_);intro w H;refine Zc 2 rfl (Ak 21 rfl (fun h4=> ?_) (fun h4=> ?_))
    ·refine Z2 2 [4,0,0] H rfl (z_E_ rfl (call91 _) (Cv _ _) H ?_);intro w H;refine Zc 2 rfl (Ak 26 rfl (fun h5=> ?_) (fun h5=> ?_))
     ·refine Z2 2 [5,0,0] H rfl (z_E_ rfl (call91 _) (Cv _ _) H ?_);intro w H;refine Zc 5 rfl (Zr rfl ?_);exact ⟨_,⟨congrArg Value.bool (by first|rfl|decide),rfl⟩,H.perm 1 [] rfl rfl⟩
     ·(exfalso;omega)
    ·(exfalso;omega)
   ·(exfalso;omega)
  ·(exfalso;omega)
 ·(exfalso;omega)
theorem SY (vv:Value) (A:Ae) (hA:∀ h,A h→rdH 6 vv 8 KL h):Cn prog 49 [.agg #[Iv_ 1,vv,.slice none 0 0]] [A] (fun v Γ=>∃ (pw:Nat) (bs:List UInt8),bs.length=256∧v= .tuple #[.slice (some ⟨pw,0,none⟩) 240 240,Iv_ 0]∧Γ=[blk pw (AX bs ((21+19 * 8:Nat):Int)) 165,A]):=by
 intro z R w H;replace H:=H.l1;obtain ⟨va,vc,rfl⟩:=H.says 0 rfl (fun h q=>(hA h q).slc);refine Ad func49 rfl ntmps49 rfl (Za 2 [] H rfl ?_);intro b1 w H;refine Z2 9 [0,0,0] H rfl (z_E_ rfl (call91 _) (Cv _ _) H ?_);intro w H;replace H:=H.l2;refine Ac rfl (Ax rfl rfl) (Zc 1 rfl (Ak 13 rfl (fun h1=> ?_) (fun h1=> ?_)))
 ·(exfalso;omega)
 ·refine Z2 18 [2,0,0,4,1,0,0,4] H rfl (AL rfl (BO (P:=prog) H rfl (zs:=(AX (AN []) 0)) (by kernel_rfl)) ?_);rintro _ w ⟨b2,rfl,H⟩;replace H:=H.l3;refine Zc 3 rfl ?_;have H:Sep z (blk b2 (AX (AN []) ((0:Nat):Int)) 165::blk b1 [Iv_ 1,.slice va 8 vc,.slice none 0 0] 96::A::R) w:=H
  refine Z2 3 [0,1,0] H rfl (Aw rfl (call92 _) (Fp _ 0 4 4 1 _ (A7 (by decide)) (by omega) (by omega)) H ?_);rintro _ w _ ⟨bs3,hbs3,rfl,rfl⟩ H;refine Z2 7 [2,1,0] H rfl (Aw rfl (call92 _) (Fp _ 4 1 5 0 _ hbs3 (by omega) (by omega)) H ?_);rintro _ w _ ⟨bs4,hbs4,rfl,rfl⟩ H;refine Z2 12 [2,1,0] H rfl (FU 1 (C5 (Z0 9 [4] rfl (gx (Z0 5 [256] rfl (Az rfl rfl (Ag 0 H rfl rfl rfl rfl (vs:=[Iv_ 21]) rfl (Ab rfl Ar) (by kernel_rfl) (by rw[EF _ hbs4];simp) (out:=(AX bs4 21)) (Ib _ _ hbs4)) ?_))))));rintro w H;replace H:=H.l3;refine Z2 12 [1,1,0] H rfl ?_;refine AJ (σ:=Nat×List UInt8) (fun ⟨i,bs⟩=>[(49,Iv_ (i:Int)),(4,Pt_ b2),(47,.slice va 8 vc),(48,Iv_ 8)])
    (fun ⟨i,bs⟩ w=>Sep z (blk b2 (AX bs ((21+19 * i:Nat):Int)) 165::blk b1 [Iv_ 1,.slice va 8 vc,.slice none 0 0] 96::A::R) w∧(i≤8∧bs.length=256)) (fun ⟨i,bs⟩=>8 - i) ⟨0,bs4⟩
    (fun _ hF=>(hF.co rfl (by go_num) (hF.all rfl))) ⟨H,⟨by omega,hbs4⟩⟩ ?_
  clear H;rintro ⟨i,bs⟩ w ⟨H',hI⟩;dsimp only at hI H' ⊢
  have H:=H'.l3;obtain ⟨hi8,hbs⟩:=hI;refine Z0 6 [0] rfl (Af rfl (fun h2=> ?_) (fun h2=> ?_))
  ·refine Zc 6 rfl ?_;have hva:=(H.rd 2 rfl hA).at (Q0 (i:=i) (by omega) 0 _ rfl)
   refine Ac rfl (AD rfl (z:=6) (j:=i) (r:=i * 6) (by kernel_rfl) rfl rfl rfl (by omega) hva (by omega)) (Ac rfl (DW rfl rfl (vs:=[Iv_ 0,Iv_ 0,Iv_ 0,Iv_ 0,Iv_ 0,Iv_ 0]) (by kernel_rfl) (by simp) (AB (fun k u hk=>(H.rd 2 rfl hA).at (Q0 (i:=i) (by omega) k u hk)))) (Za 0 [] H rfl ?_));intro b5 w H;refine Z4 7 [0,0,6] H rfl ?_;intro w H;refine z_E_ rfl (call93 _) (SX) H ?_;intro w H;refine Z2 10 [0,0,0] H rfl (Aw rfl (call92 _) (Fp _ (21+19 * i) 4 (21+19 * i+4) 0 _ hbs (by omega) (by omega)) H.f1 ?_);rintro _ w _ ⟨bs6,hbs6,rfl,rfl⟩ H;refine Z2 6 [1,1,0] H rfl (Aw rfl (call92 _) (Fp _ (21+19 * i+4) 1 (21+19 * i+5) 0 _ hbs6 (by omega) (by omega)) H ?_);rintro _ w _ ⟨bs7,hbs7,rfl,rfl⟩ H;refine Z2 6 [2,1,0] H rfl (Aw rfl (call92 _) (Fp _ (21+19 * i+5) 4 (21+19 * i+9) 0 _ hbs7 (by omega) (by omega)) H ?_);rintro _ w _ ⟨bs8,hbs8,rfl,rfl⟩ H;refine Z2 6 [3,1,0] H rfl (Aw rfl (call92 _) (Fp _ (21+19 * i+9) 4 (21+19 * i+13) 0 _ hbs8 (by omega) (by omega)) H ?_);rintro _ w _ ⟨bs9,hbs9,rfl,rfl⟩ H;refine Z2 6 [4,1,0] H rfl (Aw rfl (call92 _) (Fp _ (21+19 * i+13) 2 (21+19 * i+15) 0 _ hbs9 (by omega) (by omega)) H ?_);rintro _ w _ ⟨bs10,hbs10,rfl,rfl⟩ H;refine Z2 5 [5,1,0] H rfl (Aw rfl (call92 _) (Fp _ (21+19 * i+15) 4 (21+19 * (i+1)) 0 _ hbs10 (by omega) (by omega)) H ?_)
   rintro _ w _ ⟨bs11,hbs11,rfl,rfl⟩ H;refine Z1 7 [] [(i:Int)+1] rfl (by omega) ?_;replace H:=H.f1.d;refine gf ?_;intro _ hF;refine ⟨⟨i+1,bs11⟩,(hF.co rfl (by go_num) (hF.all rfl)),⟨H,?_⟩,?_⟩
   ·dsimp only;exact ⟨by omega,by assumption⟩
   ·omega
  ·obtain rfl:i=8:=by omega
   refine Zc 2 rfl (gx (Zc 4 rfl (z_E_ rfl (call94 _) (Kc _ _ _ hbs) H ?_)));intro w H;refine Zc 5 rfl (Zr rfl ?_);exact ⟨_,⟨b2,bs,hbs,rfl,rfl⟩,H.perm 3 [0,2] rfl rfl⟩
open Go.RowKit
def Cx (C:Nat→Nat) (n:Nat):List Value:=(List.range n).map fun k=> .int .i64 (C k:Int)
abbrev BT (bn:Nat) (C:Nat→Nat) (n:Nat):Ae:=blk bn (Cx C n) 3
abbrev coB (pc bn n m:Nat):Ae:=blk pc [.slice (some ⟨bn,0,none⟩) n n,.map (some m)] 126
def updN (C:Nat→Nat) (p x:Nat):Nat→Nat:=fun q=>if q=p then x else C q
theorem Ct (C:Nat→Nat) (n:Nat):(Cx C n).length=n:=by simp[Cx]
theorem cnL_at (C:Nat→Nat) {n k:Nat} (h:k<n):(Cx C n)[k]? =some (Iv_ (C k:Int)):=by simp[Cx,h]
theorem Ih (C:Nat→Nat) {n k x:Nat} {y:Int} (h:k<n) (hy:y=(x:Int)):(Cx C n).take k++[Iv_ y]++(Cx C n).drop (k+1)=Cx (updN C k x) n:=by
 subst hy
 have e:=List.set_eq_take_append_cons_drop (l:=Cx C n) (i:=k) (a:=Iv_ (x:Int))
 rw[if_pos (by rw[Ct];exact h)] at e
 rw[List.append_assoc,List.singleton_append,←e]
 refine List.ext_getElem? fun j=> ?_
 rw[List.getElem?_set]
 rcases Nat.lt_or_ge j n with hj|hj
 ·rw[cnL_at (updN C k x) hj]
  split
  ·rename_i e1;subst e1;rw[if_pos (by rw[Ct];exact h)];simp[updN]
  ·rename_i e1;rw[cnL_at C hj];simp[updN,Ne.symm e1]
 ·rw[List.getElem?_eq_none (by rw[Ct];exact hj),List.getElem?_eq_none (by rw[Ct];exact hj)]
  split
  ·rename_i e1;subst e1;rw[if_neg (by rw[Ct];omega)]
  ·rfl
structure WasOk (C C0:Nat→Nat) (n:Nat) (l:List IE) (clk:Nat):Prop where
 clk:∀ p∈l,p.2.2<clk
 born:(l.map fun p:IE=>p.2.2).Nodup
 keys:(l.map fun p:IE=>p.1).Nodup
 ent:∀ p∈l,∃ k:Nat,p.1=(k:Int)∧k<n∧p.2.1= .int .i64 (C0 k:Int)
 rest:∀ k,k<n→(∀ p∈l,p.1≠(k:Int))→C k=C0 k
theorem WasOk.nil (C:Nat→Nat) (n clk:Nat):WasOk C C n [] clk:=⟨by simp,by simp,by simp,by simp,fun _ _ _=>rfl⟩
theorem KN:∀ {l:List IE} {k:Int},Cl l k=none→∀ p∈l,p.1≠k
 | [],_,_,p,h=>by simp at h
 | q::l,k,h,p,hp=>by
  simp only[Cl] at h
  split at h
  ·cases h
  ·rename_i hne
   rcases List.mem_cons.1 hp with rfl|hp
   ·exact fun e=>hne e.symm
   ·exact KN h p hp
theorem KO:∀ {l:List IE} {k:Int} {v:Value},Cl l k=some v→∃ p∈l,p.1=k∧p.2.1=v
 | [],_,_,h=>by simp[Cl] at h
 | q::l,k,v,h=>by
  simp only[Cl] at h
  split at h
  ·rename_i e;simp at h;exact ⟨q,by simp,e.symm,h⟩
  ·obtain ⟨p,hp,h1,h2⟩:=KO h
   exact ⟨p,by simp[hp],h1,h2⟩
theorem MP:∀ {l:List IE} {p:IE},(l.map fun p:IE=>p.1).Nodup→p∈l→Cl l p.1=some p.2.1
 | [],p,_,h=>by simp at h
 | q::l,p,hn,h=>by
  simp only[List.map_cons,List.nodup_cons] at hn
  simp only[Cl]
  rcases List.mem_cons.1 h with rfl|h
  ·simp
  ·rw[if_neg (fun e=>hn.1 (by rw[←e];exact List.mem_map.2 ⟨p,h,rfl⟩))]
   exact MP hn.2 h
theorem WasOk.has {C C0:Nat→Nat} {n clk p:Nat} {l:List IE} (W:WasOk C C0 n l clk) (h:Cm l (p:Int)=true) (x:Nat):WasOk (updN C p x) C0 n l clk:=by
 refine ⟨W.clk,W.born,W.keys,W.ent,fun k hk hne=> ?_⟩
 unfold updN
 split
 ·rename_i e;subst e
  obtain ⟨v,hv⟩:=Option.isSome_iff_exists.1 h
  obtain ⟨q,hq,h1,_⟩:=KO hv
  exact absurd h1 (hne q hq)
 ·exact W.rest k hk hne
theorem WasOk.put {C C0:Nat→Nat} {n clk p:Nat} {l:List IE} (W:WasOk C C0 n l clk) (hp:p<n) (h:Cm l (p:Int)=false) (x:Nat):
  WasOk (updN C p x) C0 n (Eq l (p:Int) (Iv_ (C p:Int)) clk) (putC l (p:Int) clk):=by
 have hno:∀ q∈l,q.1≠(p:Int):=KN (by unfold Cm at h;simpa using h)
 have e1:Eq l (p:Int) (Iv_ (C p:Int)) clk=l++[((p:Int),Iv_ (C p:Int),clk)]:=by unfold Eq;rw[h];rfl
 have e2:putC l (p:Int) clk=clk+1:=by unfold putC;rw[h];rfl
 have e3:C p=C0 p:=W.rest p hp hno
 rw[e1,e2]
 refine ⟨fun q hq=> ?_,?_,?_,fun q hq=> ?_,fun k hk hne=> ?_⟩
 ·rcases List.mem_append.1 hq with hq|hq
  ·have:=W.clk q hq;omega
  ·simp at hq;subst hq;simp
 ·rw[List.map_append,List.nodup_append]
  refine ⟨W.born,by simp,fun a ha b hb=> ?_⟩
  simp at hb;subst hb
  obtain ⟨q,hq,rfl⟩:=List.mem_map.1 ha
  have:=W.clk q hq;omega
 ·rw[List.map_append,List.nodup_append]
  refine ⟨W.keys,by simp,fun a ha b hb=> ?_⟩
  simp at hb;subst hb
  obtain ⟨q,hq,rfl⟩:=List.mem_map.1 ha
  exact hno q hq
 ·rcases List.mem_append.1 hq with hq|hq
  ·exact W.ent q hq
  ·simp at hq;subst hq;exact ⟨p,rfl,hp,by rw[e3]⟩
 ·unfold updN
  split
  ·rename_i e;subst e
   exact absurd rfl (hne ((k:Int),Iv_ (C k:Int),clk) (by simp))
  ·exact W.rest k hk (fun q hq=>hne q (by simp[hq]))
theorem WasOk.len {C C0:Nat→Nat} {n clk:Nat} {l:List IE} (W:WasOk C C0 n l clk):l.length≤n:=by
 have h:=If (s:=l.map fun p:IE=>p.1) (l:=(List.range n).map fun k:Nat=>(k:Int)) W.keys (fun x hx=>by
  obtain ⟨p,hp,rfl⟩:=List.mem_map.1 hx
  obtain ⟨k,h1,h2,_⟩:=W.ent p hp
  rw[h1];exact List.mem_map.2 ⟨k,List.mem_range.2 h2,rfl⟩)
 simpa using h
def manyN (n:Nat):Nat:=(n+119) / 120
def DS (C:Nat→Nat) (n i:Nat):List Int:=(List.range 120).map fun k=>if 120 * i+k<n then (C (120 * i+k):Int) else 0
theorem Ii (C:Nat→Nat) (n i:Nat):(DS C n i).length=120:=by simp[DS]
theorem Q3 {C:Nat→Nat} (h:∀ k,C k≤1000) (n i:Nat):∀ x∈DS C n i,0≤x∧x≤1000:=fun x hx=>by
 simp only[DS,List.mem_map] at hx
 obtain ⟨k,_,rfl⟩:=hx
 split
 ·have:=h (120 * i+k);omega
 ·omega
theorem SZ (C:Nat→Nat) (n i:Nat) (hi:120 * i<n):(List.replicate 120 (Iv_ 0)).take 0++((Cx C n).drop (120 * i)).take (min (n - 120 * i) 120)++(List.replicate 120 (Iv_ 0)).drop (0+min (n - 120 * i) 120)=(DS C n i).map Iv_:=by
 rw[List.take_zero,List.nil_append,Nat.zero_add]
 refine List.ext_getElem? fun j=> ?_
 have hl:(((Cx C n).drop (120 * i)).take (min (n - 120 * i) 120)).length=min (n - 120 * i) 120:=by rw[List.length_take,List.length_drop,Ct];omega
 rcases Nat.lt_or_ge j 120 with hj|hj
 ·have hr:((DS C n i).map Iv_)[j]? =some (Iv_ (if 120 * i+j<n then (C (120 * i+j):Int) else 0)):=by simp[DS,hj]
  rw[hr]
  rcases Nat.lt_or_ge j (min (n - 120 * i) 120) with h|h
  ·rw[List.getElem?_append_left (by omega),List.getElem?_take,if_pos h,List.getElem?_drop,cnL_at C (by omega),if_pos (by omega)]
  ·rw[List.getElem?_append_right (by omega),hl,List.getElem?_drop,List.getElem?_replicate,if_pos (by omega),if_neg (by omega)]
 ·rw[List.getElem?_eq_none (by rw[List.length_append,hl,List.length_drop,List.length_replicate];omega),List.getElem?_eq_none (by simp[DS];omega)]
theorem VP (C:Nat→Nat) (n:Nat):∀ c∈Cx C n,c.oneCell'=true:=fun c hc=>by
 simp only[Cx,List.mem_map] at hc
 obtain ⟨k,_,rfl⟩:=hc;rfl
def GJ (C:Nat→Nat) (i:Nat) (ns:List Int) (j:Nat):Nat→Nat:=fun p=>if p / 120=i∧p % 120<j then (ns.getD (p % 120) 0).toNat else C p
theorem S0 (C:Nat→Nat) (i:Nat) (ns:List Int):GJ C i ns 0=C:=by funext p;simp[GJ]
theorem S1 (C:Nat→Nat) {i j:Nat} {ns:List Int} {x:Int} (hj:j<120) (hx:ns[j]? =some x) (h0:0≤x):updN (GJ C i ns j) (120 * i+j) x.toNat=GJ C i ns (j+1):=by
 funext p
 unfold updN GJ
 split
 ·rename_i e;subst e
  rw[if_pos ⟨by omega,by omega⟩,show (120 * i+j) % 120=j by omega]
  simp[List.getD,hx]
 ·rename_i e
  by_cases h:p / 120=i∧p % 120<j
  ·rw[if_pos h,if_pos ⟨h.1,by omega⟩]
  ·rw[if_neg h,if_neg (fun q=>h ⟨q.1,by omega⟩)]
theorem S2 (C:Nat→Nat) {n i j:Nat} {ns:List Int} (h:n≤120 * i+j) (hj:j<120):Cx (GJ C i ns j) n=Cx (GJ C i ns (j+1)) n:=by
 refine List.ext_getElem? fun p=> ?_
 rcases Nat.lt_or_ge p n with hp|hp
 ·rw[cnL_at _ hp,cnL_at _ hp]
  unfold GJ
  by_cases q:p / 120=i∧p % 120<j
  ·rw[if_pos q,if_pos ⟨q.1,by omega⟩]
  ·rw[if_neg q,if_neg (fun r=>q ⟨r.1,by omega⟩)]
 ·rw[List.getElem?_eq_none (by rw[Ct];exact hp),List.getElem?_eq_none (by rw[Ct];exact hp)]
def Gk (C C0:Nat→Nat) (s:List IE):Nat→Nat:=fun k=>if s.any (fun p=>decide (p.1=(k:Int))) then C0 k else C k
theorem VQ (C C0:Nat→Nat):Gk C C0 []=C:=by funext k;simp[Gk]
theorem S3 (C C0:Nat→Nat) {s:List IE} {p:IE} {k:Nat} (hk:p.1=(k:Int)):updN (Gk C C0 s) k (C0 k)=Gk C C0 (s++[p]):=by
 funext q
 unfold updN Gk
 rw[List.any_append]
 have h1:([p]:List IE).any (fun p=>decide (p.1=(q:Int)))=decide (k=q):=by
  simp[hk];omega
 rw[h1]
 split
 ·rename_i e;subst e;simp
 ·rename_i e
  have:decide (k=q)=false:=decide_eq_false (fun h=>e h.symm)
  rw[this,Bool.or_false]
theorem VR {C C0:Nat→Nat} {n clk:Nat} {l s:List IE} (W:WasOk C C0 n l clk) (hs:s.Perm l):Cx (Gk C C0 s) n=Cx C0 n:=by
 refine List.ext_getElem? fun k=> ?_
 rcases Nat.lt_or_ge k n with hk|hk
 ·rw[cnL_at _ hk,cnL_at _ hk]
  unfold Gk
  split
  ·rfl
  ·rename_i h
   rw[W.rest k hk (fun p hp e=>h (by
    rw[List.any_eq_true];exact ⟨p,hs.mem_iff.2 hp,by simpa using e⟩))]
 ·rw[List.getElem?_eq_none (by rw[Ct];exact hk),List.getElem?_eq_none (by rw[Ct];exact hk)]
def unA (b1 pc bn m n:Nat) (C C0:Nat→Nat) (l s:List IE):Ae:=fun h=>((∀ p∈s,p∈l)∧(s.map fun p:IE=>p.2.2).Nodup)∧seps [blk b1 [.pointer (some ⟨pc,0,none⟩)] 68,blk pc [.slice (some ⟨bn,0,none⟩) n n,.map (some m)] 126,blk bn (Cx (Gk C C0 s) n) 3] h
theorem Sep.un {z w:World} {Γ:List Ae} {b1 pc bn m n:Nat} {C C0:Nat→Nat} {l s:List IE} (H:Sep z (unA b1 pc bn m n C C0 l s::Γ) w):((∀ p∈s,p∈l)∧(s.map fun p:IE=>p.2.2).Nodup)∧Sep z (YtjegbnfpodadcaaGreatDoor.blk b1 [Pt_ pc] 68::YtjegbnfpodadcaaGreatDoor.blk pc [.slice (some ⟨bn,0,none⟩) n n,.map (some m)] 126::YtjegbnfpodadcaaGreatDoor.blk bn (Cx (Gk C C0 s) n) 3::Γ) w:=by
 obtain ⟨_,hp,H'⟩:=H.into (σ:=Unit) (p:=fun _=>(∀ p∈s,p∈l)∧(s.map fun p:IE=>p.2.2).Nodup) (As:=fun _=>[YtjegbnfpodadcaaGreatDoor.blk b1 [Pt_ pc] 68,YtjegbnfpodadcaaGreatDoor.blk pc [.slice (some ⟨bn,0,none⟩) n n,.map (some m)] 126,YtjegbnfpodadcaaGreatDoor.blk bn (Cx (Gk C C0 s) n) 3]) (fun h q=>⟨(),q.1,q.2⟩)
 exact ⟨hp,H'⟩
theorem Sep.toUn {z w:World} {Γ:List Ae} {b1 pc bn m n:Nat} {C C0:Nat→Nat} {l s:List IE} (H:Sep z (YtjegbnfpodadcaaGreatDoor.blk b1 [Pt_ pc] 68::YtjegbnfpodadcaaGreatDoor.blk pc [.slice (some ⟨bn,0,none⟩) n n,.map (some m)] 126::YtjegbnfpodadcaaGreatDoor.blk bn (Cx (Gk C C0 s) n) 3::Γ) w) (h1:(∀ p∈s,p∈l)∧(s.map fun p:IE=>p.2.2).Nodup):Sep z (unA b1 pc bn m n C C0 l s::Γ) w:=
 H.made 3 (A:=unA b1 pc bn m n C C0 l s) (fun h q=>⟨h1,q⟩)
theorem Sep.permut {z w:World} {Γ Γ':List Ae} (p:Γ.Perm Γ'):∀ Δ:List Ae,Sep z (Δ++Γ) w→Sep z (Δ++Γ') w:=by
 induction p with
 | nil=>exact fun _ H=>H
 | cons a _ ih=>
  intro Δ H
  have:=ih (Δ++[a]) (by rw[List.append_assoc];exact H)
  rw[List.append_assoc] at this;exact this
 | swap a b l=>
  intro Δ H
  have h1:Sep z (b::a::(l++Δ)) w:=H.swap
  have h2:Sep z ((a::b::l)++Δ) w:=h1.pick 2 [1,0] rfl
  exact h2.swap
 | trans _ _ ih1 ih2=>exact fun Δ H=>ih2 Δ (ih1 Δ H)
theorem S4 {z w:World} {A B C:Ae} {R:List Ae} (H:Sep z (A::B::C::R) w):Sep z ((A::R)++[B,C]) w:=
 Sep.permut (List.Perm.cons A (List.perm_append_comm (l₁:=[B,C]) (l₂:=R))) [] H
theorem VS {z w:World} {A1 A2 A3 B C:Ae} {R F:List Ae} (H:Sep z (A1::A2::A3::(R++([B,C]++F))) w):Sep z (A1::A2::A3::B::C::(R++F)) w:=
 Sep.permut (List.perm_append_comm_assoc R [B,C] F) [A1,A2,A3] H
theorem VT {z w:World} {A B C:Ae} {R F:List Ae} (H:Sep z (A::B::C::(R++F)) w):Sep z ((A::R)++([B,C]++F)) w:=
 Sep.permut (List.perm_append_comm_assoc [B,C] R F) [A] H
theorem X7 {z w:World} {D A B C:Ae} {R:List Ae} (H:Sep z (D::((A::R)++[B,C])) w):Sep z (A::D::B::C::R) w:=
 Sep.permut ((List.Perm.swap A D _).trans (List.Perm.cons A (List.Perm.cons D (List.perm_append_comm (l₁:=R) (l₂:=[B,C]))))) [] H
theorem S5 {L:List Int} {rest:List Value} {k:Nat} {x:Int} (hk:k<L.length):(L.map Iv_++rest).take k++[Iv_ x]++(L.map Iv_++rest).drop (k+1)=(L.set k x).map Iv_++rest:=by
 rw[List.take_append_of_le_length (by simp;omega),List.drop_append_of_le_length (by simp;omega)]
 have e:=List.set_eq_take_append_cons_drop (l:=L) (i:=k) (a:=x)
 rw[if_pos hk] at e
 rw[e];simp[List.map_take,List.map_drop]
theorem F3 {L:List Int} {rest:List Value} {k:Nat} {x:Int} (hx:L[k]? =some x):(L.map Iv_++rest)[k]? =some (Iv_ x):=by
 rw[List.getElem?_append_left (by simpa using (List.getElem?_eq_some_iff.1 hx).1),List.getElem?_map,hx];rfl
structure CpI (ys:List Int) (n k0 k j:Nat) (L:List Int):Prop where
 k0k:k0≤k
 kj:k+1≤k0+j
 j1:1≤j
 jn:k0+j≤n
 len:L.length=n
 same:∀ i,k0+j≤i+1→L[i]? =ys[i]?
 mem:∀ x,x∈L.take k↔x∈ys.take (k0+j)
theorem En {l:List Int} {k:Nat} {x:Int} (h:l[k]? =some x) (z:Int):z∈l.take (k+1)↔z∈l.take k∨z=x:=by
 rw[List.take_add_one,h];simp
theorem CpI.start {ys:List Int} {n k:Nat} {x:Int} (hl:ys.length=n) (hk:1≤k) (hkn:k<n) (h1:ys[k]? =some x) (h2:ys[k - 1]? =some x):CpI ys n k k 1 ys:=by
 refine ⟨Nat.le_refl _,Nat.le_refl _,Nat.le_refl _,by omega,hl,fun _ _=>rfl,fun z=> ?_⟩
 rw[En h1]
 refine ⟨.inl,fun h=>h.elim id fun e=> ?_⟩
 subst e
 exact List.mem_take_iff_getElem.2 ⟨k - 1,by have:=(List.getElem?_eq_some_iff.1 h2).1;omega,(List.getElem?_eq_some_iff.1 h2).2⟩
theorem CpI.skip {ys L:List Int} {n k0 k j:Nat} {x:Int} (I:CpI ys n k0 k j L) (h1:ys[k0+j]? =some x) (h2:ys[k0+(j - 1)]? =some x):CpI ys n k0 k (j+1) L:=by
 have hj:=I.j1
 have hlt:=(List.getElem?_eq_some_iff.1 h1).1
 have hn:ys.length=n∨ys.length≠n:=Decidable.em _
 refine ⟨I.k0k,by have:=I.kj;omega,by omega,?_,I.len,fun i hi=>I.same i (by omega),fun z=> ?_⟩
 ·have hs:=I.same (k0+j) (by omega)
  rw[h1] at hs
  have:=(List.getElem?_eq_some_iff.1 hs).1
  have:=I.len;omega
 ·rw[←Nat.add_assoc,En h1,I.mem z]
  refine ⟨.inl,fun h=>h.elim id fun e=> ?_⟩
  subst e
  exact List.mem_take_iff_getElem.2 ⟨k0+(j - 1),by have:=(List.getElem?_eq_some_iff.1 h2).1;omega,(List.getElem?_eq_some_iff.1 h2).2⟩
theorem CpI.put {ys L:List Int} {n k0 k j:Nat} {x:Int} (I:CpI ys n k0 k j L) (h1:ys[k0+j]? =some x):CpI ys n k0 (k+1) (j+1) (L.set k x):=by
 have hj:=I.j1;have hkj:=I.kj;have hlen:=I.len
 have hs:=I.same (k0+j) (by omega)
 rw[h1] at hs
 have hlt:=(List.getElem?_eq_some_iff.1 hs).1
 have e:(L.set k x)[k]? =some x:=by rw[List.getElem?_set];simp;omega
 refine ⟨by have:=I.k0k;omega,by omega,by omega,by omega,by simpa using I.len,fun i hi=> ?_,fun z=> ?_⟩
 ·rw[List.getElem?_set,if_neg (by omega)];exact I.same i (by omega)
 ·rw[En e,←Nat.add_assoc,En h1,←I.mem z,List.take_set_of_le (Nat.le_refl _)]
def EH (C C0:Nat→Nat) (s:List IE):List Int:=(s.filter fun p=>decide (C0 p.1.toNat≠C p.1.toNat)).map fun p=>p.1 / 120
theorem Oo {C C0:Nat→Nat} {s:List IE} {p:IE} {k:Nat} (hk:p.1=(k:Int)) (h:(C0 k:Int)≠(C k:Int)):EH C C0 (s++[p])=EH C C0 s++[(k:Int) / 120]:=by
 unfold EH
 have:decide (C0 k≠C k)=true:=decide_eq_true (fun e=>h (by rw[e]))
 rw[List.filter_append,List.map_append];congr 1
 simp only[List.filter,hk,Int.toNat_natCast,this];simp[hk]
theorem S6 {C C0:Nat→Nat} {s:List IE} {p:IE} {k:Nat} (hk:p.1=(k:Int)) (h:(C0 k:Int)=(C k:Int)):EH C C0 (s++[p])=EH C C0 s:=by
 unfold EH
 have:decide (C0 k≠C k)=false:=decide_eq_false (fun e=>e (by omega))
 rw[List.filter_append,List.map_append]
 simp only[List.filter,hk,Int.toNat_natCast,this];simp
theorem X8 (C C0:Nat→Nat) (s:List IE):(EH C C0 s).length≤s.length:=by unfold EH;rw[List.length_map];exact List.length_filter_le _ _
theorem VU {C C0:Nat→Nat} {n clk:Nat} {l s:List IE} (W:WasOk C C0 n l clk) (hs:s.Perm l) (x:Int):x∈EH C C0 s↔∃ k:Nat,k<n∧C k≠C0 k∧x=((k / 120:Nat):Int):=by
 unfold EH
 simp only[List.mem_map,List.mem_filter,decide_eq_true_eq]
 constructor
 ·rintro ⟨p,⟨hp,hne⟩,rfl⟩
  obtain ⟨k,h1,h2,_⟩:=W.ent p (hs.mem_iff.1 hp)
  rw[h1,Int.toNat_natCast] at hne
  exact ⟨k,h2,fun e=>hne e.symm,by rw[h1];omega⟩
 ·rintro ⟨k,hk,hne,rfl⟩
  have:∃ p∈l,p.1=(k:Int):=by
   refine Classical.byContradiction fun hno=>hne (W.rest k hk fun p hp e=>hno ⟨p,hp,e⟩)
  obtain ⟨p,hp,h1⟩:=this
  exact ⟨p,⟨hs.mem_iff.2 hp,by rw[h1,Int.toNat_natCast];exact fun e=>hne e.symm⟩,by rw[h1];omega⟩
theorem UD (n:Int):Cn prog 62 [Iv_ n] [] (fun v Γ=>v= .bool (decide (16≤n∧n≤1024))∧Γ=[]):=by
 intro z R w H;replace H:=H.l0;refine Ad func62 rfl ntmps62 rfl (Z0 10 [0] rfl (Ak 5 rfl (fun h1=> ?_) (fun h1=> ?_)))
 ·refine Z0 7 [0] rfl (Zr rfl ?_);exact ⟨_,⟨congrArg Value.bool (by first|(rw[Bool.eq_iff_iff];simp<;>omega)|(simp<;>omega)),rfl⟩,H⟩
 ·refine Zc 7 rfl (Zr rfl ?_);exact ⟨_,⟨congrArg Value.bool (by first|(rw[Bool.eq_iff_iff];simp<;>omega)|(simp<;>omega)),rfl⟩,H⟩
theorem Fq (n:Nat) (hn:16≤n∧n≤1024):Cn prog 31 [Iv_ (n:Int)] [] (fun v Γ=>v=Iv_ (manyN n:Int)∧Γ=[]):=by
 intro z R w H;replace H:=H.l0;refine Ad func31 rfl ntmps31 rfl (Zc 9 rfl (z_E_ rfl (call62 _) (UD _) H ?_));intro w H;replace H:=H.l0;refine Ac rfl (Ax rfl rfl) (Zc 2 rfl (Af rfl (fun h1=> ?_) (fun h1=> ?_)))
 ·(exfalso;omega)
 ·refine Z1 12 [] [(n:Int)+120,((n:Int)+120) - 1,(((n:Int)+120) - 1) / 120] rfl (by omega) (Zr rfl ?_);exact ⟨_,⟨congrArg Iv_ (by unfold manyN;omega),rfl⟩,H⟩
theorem Q4 (n:Nat) (hn:16≤n∧n≤1024):Cn prog 50 [Iv_ (n:Int)] [] (fun v Γ=>∃ pc bn m:Nat,v= .tuple #[Pt_ pc,Iv_ 0]∧Γ=[coB pc bn n m,BT bn (fun _=>0) n,Ay m [] 0]):=by
 intro z R w H;replace H:=H.l0;refine Ad func50 rfl ntmps50 rfl (Zc 10 rfl (z_E_ rfl (call62 _) (UD _) H ?_));intro w H;replace H:=H.l0;refine Ac rfl (Ax rfl rfl) (Zc 2 rfl (Af rfl (fun h1=> ?_) (fun h1=> ?_)))
 ·(exfalso;omega)
 ·refine Zc 5 rfl (AL rfl (DA (k:=n) H rfl (by kernel_rfl) Bq rfl rfl rfl (by omega)) ?_);rintro _ w ⟨b1,rfl,H⟩;replace H:=H.l1;refine AL rfl (Fj H rfl) ?_;rintro _ w ⟨m2,rfl,H⟩;replace H:=H.l2;refine Za 1 [] H rfl ?_;intro b3 w H;refine Zc 5 rfl (Zr rfl ?_);have e0:List.replicate n (Iv_ 0)=Cx (fun _=>0) n:=by
    unfold Cx;rw[List.map_const',List.length_range];rfl
  rw[e0] at H;exact ⟨_,⟨b3,b1,m2,rfl,rfl⟩,H.perm 3 [0,2,1] rfl rfl⟩
theorem EV (pc bn m n:Nat) (C:Nat→Nat) (p:Nat) (hp:p<n) (hn:16≤n∧n≤1024):Cn prog 30 [Pt_ pc,Iv_ (p:Int)] [coB pc bn n m,BT bn C n] (fun v Γ=>v=Iv_ (C p:Int)∧Γ=[coB pc bn n m,BT bn C n]):=by
 intro z R w H;replace H:=H.l2;refine Ad func30 rfl ntmps30 rfl (Z0 11 [0] rfl (Ak 7 rfl (fun h1=> ?_) (fun h1=> ?_)))
 ·(exfalso;omega)
 ·refine Z2 10 [0,0,0,0] H rfl (Af rfl (fun h2=> ?_) (fun h2=> ?_))
  ·(exfalso;omega)
  ·refine Z3 10 [0,0,0,1,p,p] [] H rfl (by omega) (Ac rfl (AZ rfl rfl (by kernel_rfl) (AB (H.cel 1 rfl p (cnL_at _ (by omega))))) (Zc 4 rfl (Zr rfl ?_)));exact ⟨_,⟨rfl,rfl⟩,H⟩
theorem HK (pc bn m n:Nat) (C:Nat→Nat) (C0:Nat→Nat) (l:List IE) (clk p x:Nat) (y:Int) (hp:p<n) (hn:16≤n∧n≤1024) (hx:(C p:Int)+y=x) (hx1:x≤1000) (hC:C p≤1000) (W:WasOk C C0 n l clk):Cn prog 32 [Pt_ pc,Iv_ (p:Int),Iv_ y] [coB pc bn n m,BT bn C n,Ay m l clk] (fun v Γ=>∃ (l2:List IE) (clk2:Nat),WasOk (updN C p x) C0 n l2 clk2∧v=Iv_ 0∧Γ=[coB pc bn n m,BT bn (updN C p x) n,Ay m l2 clk2]):=by
 intro z R w H;replace H:=H.l3;refine Ad func32 rfl ntmps32 rfl (Z0 11 [0] rfl (Ak 11 rfl (fun h1=> ?_) (fun h1=> ?_)))
 ·(exfalso;omega)
 ·refine Z2 10 [0,0,0,0] H rfl (Af rfl (fun h2=> ?_) (fun h2=> ?_))
  ·(exfalso;omega)
  ·refine Z3 12 [0,0,0,1,p,p] [] H rfl (by omega) (Ac rfl (AZ rfl rfl (by kernel_rfl) (AB (H.cel 1 rfl p (cnL_at _ (by omega))))) (Z1 3 [0] [1000 - (C p:Int)] rfl (by omega) (Ak 30 rfl (fun h3=> ?_) (fun h3=> ?_))))
   ·(exfalso;omega)
   ·refine Z3 7 [0,0,0,1,p,p] [] H rfl (by omega) (Ac rfl (AZ rfl rfl (by kernel_rfl) (AB (H.cel 1 rfl p (cnL_at _ (by omega))))) (Ac rfl (NP rfl rfl (r:= -(C p:Int)) (by omega) (by omega)) (Z0 4 [0] rfl (Af rfl (fun h4=> ?_) (fun h4=> ?_)))))
    ·(exfalso;omega)
    ·refine Z2 10 [1,0,0] H rfl (Ac rfl (C7 (e:=3) (zv:=Iv_ 0) rfl (by kernel_rfl) (by kernel_rfl) rfl rfl (AB (H.bk 2 rfl))) (Zc 13 rfl (EQ rfl (fun h5=> ?_) (fun h5=> ?_))))
     ·have hf:Cm l (p:Int)=false:=by simpa using h5
      refine BI 12 (by kernel_rfl) (by kernel_rfl) (Bc H fun w H'=> ?_)
      have H:=H'.l3;refine Eg 11 [1,0,0,0,0,0,1,p,p] [] H rfl (by kernel_rfl) (by omega) (Cd rfl rfl rfl (AZ rfl rfl (by kernel_rfl) (AB (H.cel 1 rfl p (cnL_at _ (by omega))))) (Cy (gw (Az rfl rfl (Dg 2 (e:=3) H rfl rfl (by kernel_rfl) rfl rfl rfl) ?_))));rintro w H;replace H:=H.l3;refine Z3 10 [0,0,0,1,p,p] [] H rfl (by omega) (Ac rfl (AZ rfl rfl (by kernel_rfl) (AB (H.cel 1 rfl p (cnL_at _ (by omega))))) (Z1 3 [1,p,p] [(x:Int)] rfl (by omega) (Az rfl rfl (Ag 1 H rfl rfl rfl rfl (vs:=[Iv_ (x:Int)]) rfl (Ab rfl Ar) (by kernel_rfl) (by simp only[Ct,List.length_cons,List.length_nil];omega) (out:=Cx (updN C p x) n) (Ih _ (by omega) rfl)) ?_)));rintro w H;replace H:=H.l3;refine Zc 8 rfl (Zr rfl ?_);exact ⟨_,⟨_,_,W.put hp hf x,rfl,rfl⟩,H⟩
     ·have ht:Cm l (p:Int)=true:=by simpa using h5
      refine Z3 10 [0,0,0,1,p,p] [] H rfl (by omega) (Ac rfl (AZ rfl rfl (by kernel_rfl) (AB (H.cel 1 rfl p (cnL_at _ (by omega))))) (Z1 3 [1,p,p] [(x:Int)] rfl (by omega) (Az rfl rfl (Ag 1 H rfl rfl rfl rfl (vs:=[Iv_ (x:Int)]) rfl (Ab rfl Ar) (by kernel_rfl) (by simp only[Ct,List.length_cons,List.length_nil];omega) (out:=Cx (updN C p x) n) (Ih _ (by omega) rfl)) ?_)));rintro w H;replace H:=H.l3;refine Zc 8 rfl (Zr rfl ?_);exact ⟨_,⟨_,_,W.has ht x,rfl,rfl⟩,H⟩
theorem Q5 (pc bn m n:Nat) (l:List IE) (clk:Nat):Cn prog 38 [Pt_ pc] [coB pc bn n m,Ay m l clk] (fun v Γ=>v= .tuple #[]∧Γ=[coB pc bn n m,Ay m [] clk]):=by
 intro z R w H;replace H:=H.l2;refine Ad func38 rfl ntmps38 rfl (Z2 5 [1,0,0] H rfl (Jg rfl rfl (HX 1 (e:=3) H rfl rfl (by kernel_rfl) rfl) ?_));rintro _ w ⟨rfl,H⟩;replace H:=H.l2;refine Zc 1 rfl (Zf rfl ?_);exact ⟨_,⟨rfl,rfl⟩,H⟩
theorem Oq (pc bn m n:Nat) (C:Nat→Nat) (i:Nat) (hi:i<manyN n) (hn:16≤n∧n≤1024) (hC:∀ k,C k≤1000):Cn prog 35 [Pt_ pc,Iv_ (i:Int)] [coB pc bn n m,BT bn C n] (fun v Γ=>∃ pw:Nat,v= .slice (some ⟨pw,0,none⟩) 240 240∧Γ=[blk pw (AX (AN (JA (DS C n i))) ((2 * 120:Nat):Int)) 165,coB pc bn n m,BT bn C n]):=by
 intro z R w H;replace H:=H.l2;have hi2:120 * i<n:=by unfold manyN at hi;omega
 refine Ad func35 rfl ntmps35 rfl (Z0 11 [0] rfl (Ak 10 rfl (fun h1=> ?_) (fun h1=> ?_)))
 ·(exfalso;omega)
 ·refine Z2 6 [0,0,0] H rfl (z_E_ rfl (call31 _) (Fq _ (by omega)) H ?_);intro w H;refine Z0 4 [0] rfl (Af rfl (fun h2=> ?_) (fun h2=> ?_))
  ·(exfalso;omega)
  ·refine Zc 4 rfl (AL rfl (DA (k:=120) H rfl (by kernel_rfl) Bq rfl rfl rfl (by omega)) ?_);rintro _ w ⟨b1,rfl,H⟩;replace H:=H.l3;refine Z3 12 [0,1,0] [(i:Int) * 120] H rfl (by omega) (Ac rfl (BD rfl (z:=1) (p:=(120 * i)) (q:=n) (o':=120 * i) (l':=(n - 120 * i)) (c':=(n - 120 * i)) (by kernel_rfl) rfl (.inr ⟨_,_,_,rfl,rfl,(by omega)⟩) (.inl ⟨rfl,rfl⟩) (by omega) (by omega) (by omega) (by omega) (by omega) (by omega)) (AL rfl (UW 0 H rfl rfl (by kernel_rfl) rfl rfl (m:=(n - 120 * i)) (news:=((Cx C n).drop (120 * i))) (.inl (H.rd 2 rfl (fun h q=>q.rd (by omega) (by omega) (by rw[Ct];omega) (by rw[Nat.mul_one];exact List.take_of_length_le (by rw[List.length_drop,Ct];omega))))) (fun c hc=>VP C n c (List.mem_of_mem_drop hc)) (by rw[List.length_replicate];omega) (k:=(min (n - 120 * i) 120)) rfl (out:=((DS C n i).map Iv_)) (SZ C n i hi2)) ?_));rintro _ w ⟨rfl,H⟩;replace H:=H.l3;refine Zc 5 rfl (Aw rfl (call66 _) (NG _ (DS C n i) (Ii _ _ _) (Q3 hC _ _) _ (fun h q=>q.rd (by omega) (by omega) (by simp[DS]) (by rw[List.drop_zero];exact List.take_of_length_le (by simp[DS])))) H ?_);rintro _ w _ ⟨pw,rfl,rfl⟩ H;refine Zc 14 rfl (Zr rfl ?_);exact ⟨_,⟨pw,rfl,rfl⟩,H.perm 4 [0,2,3] rfl rfl⟩
theorem VV (pc bn m n:Nat) (C:Nat→Nat) (clk i:Nat) (hi:i<manyN n) (hn:16≤n∧n≤1024) (b o c:Nat) (bd:List UInt8) (A:Ae) (hA:∀ h,A h→rdH 1 (.slice (some ⟨b,o,none⟩) 240 c) 240 (bd.map u8) h) (ns:List Int) (hns:ns.length=120) (hall:∀ x∈ns,0≤x∧x≤1000) (hbd:bd=JA ns) (hz:∀ (k:Nat) (x:Int),ns[k]? =some x→n≤120 * i+k→x=0):Cn prog 59 [Pt_ pc,Iv_ (i:Int),.slice (some ⟨b,o,none⟩) 240 c] [coB pc bn n m,BT bn C n,Ay m ([]) clk,A] (fun v Γ=>v=Iv_ 0∧Γ=[coB pc bn n m,BT bn (GJ C i ns 120) n,Ay m [] clk,A]):=by
 intro z R w H;replace H:=H.l4;have hi2:120 * i<n:=by unfold manyN at hi;omega
 refine Ad func59 rfl ntmps59 rfl (Z0 11 [0] rfl (Ak 16 rfl (fun h1=> ?_) (fun h1=> ?_)))
 ·(exfalso;omega)
 ·refine Z2 6 [0,0,0] H rfl (z_E_ rfl (call31 _) (Fq _ (by omega)) H ?_);intro w H;refine Z0 4 [0] rfl (Af rfl (fun h2=> ?_) (fun h2=> ?_))
  ·(exfalso;omega)
  ·refine Zc 5 rfl (Aw rfl (call100 _) (NH _ _ _ bd _ hA ns hns hall hbd) H.f3 ?_);rintro _ w _ ⟨v1,rfl,rfl⟩ H;refine Zc 19 rfl ?_;have sv1:=H.says 0 rfl (fun h q=>q.slc)
   obtain ⟨va1,vc1,rfl⟩:=sv1;refine Zc 7 rfl ?_;refine AJ (σ:=Nat) (fun j=>[(35,Iv_ (j:Int)),(0,Pt_ pc),(1,Iv_ (i:Int)),(7,.slice va1 120 vc1),(33,.slice va1 120 vc1),(34,Iv_ 120)])
     (fun j w=>Sep z (grow 3 1 (.slice va1 120 vc1) 120 (ns.map Iv_)::A::coB pc bn n m::BT bn C n::Ay m ([]) clk::R) w∧(j≤120)) (fun j=>120 - j) 0
     (fun _ hF=>(hF.co rfl (by go_num) (hF.all rfl))) ⟨H,by omega⟩ ?_
   clear H;rintro j w ⟨H',hI⟩;have H:=H'.l5;have hj:=hI;clear hI
   refine Z0 6 [0] rfl (Af rfl (fun h3=> ?_) (fun h3=> ?_))
   ·obtain ⟨x,hx⟩:∃ x,ns[j]? =some x:=⟨_,List.getElem?_eq_getElem (by omega)⟩;have hx0:=hall x (List.mem_of_getElem? hx)
    refine Zc 7 rfl ?_;have hat:=(H.rd 0 rfl (fun h q=>q.rd)).at (j:=j) (u:=Iv_ x) (by simp[hx])
    refine Ac rfl (AD rfl (z:=1) (j:=j) (r:=j) (by kernel_rfl) rfl rfl rfl (by omega) hat (by omega)) (Ac rfl (AR rfl rfl (by kernel_rfl) (AB hat)) (Z0 9 [0] rfl (Ak 42 rfl (fun h4=> ?_) (fun h4=> ?_))))
    ·(exfalso;omega)
    ·refine Z0 3 [0] rfl (Ak 45 rfl (fun h5=> ?_) (fun h5=> ?_))
     ·refine Z3 14 [0,2,0,0] [(i:Int) * 120,((i:Int) * 120)+(j:Int)] H rfl (by omega) (Af rfl (fun h6=> ?_) (fun h6=> ?_))
      ·(exfalso;have:=hz j x hx;omega)
      ·refine Z1 7 [] [(j:Int)+1] rfl (by omega) (gf ?_);intro _ hF;refine ⟨(j+1),(hF.co rfl (by go_num) (hF.all rfl)),⟨H,?_⟩,?_⟩
       ·omega
       ·omega
     ·refine Z1 22 [] [(j:Int)+1] rfl (by omega) (gf ?_);intro _ hF;refine ⟨(j+1),(hF.co rfl (by go_num) (hF.all rfl)),⟨H,?_⟩,?_⟩
      ·omega
      ·omega
   ·obtain rfl:j=120:=by omega
    refine Zc 2 rfl (gx (Zc 11 rfl ?_));refine AJ (σ:=Nat) (fun j=>[(61,Iv_ (j:Int)),(0,Pt_ pc),(1,Iv_ (i:Int)),(59,.slice va1 120 vc1),(60,Iv_ 120)])
      (fun j w=>Sep z (grow 3 1 (.slice va1 120 vc1) 120 (ns.map Iv_)::A::coB pc bn n m::BT bn (GJ C i ns j) n::Ay m ([]) clk::R) w∧(j≤120)) (fun j=>120 - j) 0
      (fun _ hF=>(hF.co rfl (by go_num) (hF.all rfl))) ⟨(by rw[S0];exact H),by omega⟩ ?_
    clear H;rintro j w ⟨H',hI⟩;have H:=H'.l5;have hj:=hI;clear hI
    refine Z0 6 [0] rfl (Af rfl (fun h7=> ?_) (fun h7=> ?_))
    ·obtain ⟨x,hx⟩:∃ x,ns[j]? =some x:=⟨_,List.getElem?_eq_getElem (by omega)⟩;have hx0:=hall x (List.mem_of_getElem? hx)
     refine Zc 7 rfl ?_;have hat:=(H.rd 0 rfl (fun h q=>q.rd)).at (j:=j) (u:=Iv_ x) (by simp[hx])
     refine Ac rfl (AD rfl (z:=1) (j:=j) (r:=j) (by kernel_rfl) rfl rfl rfl (by omega) hat (by omega)) (Ac rfl (AR rfl rfl (by kernel_rfl) (AB hat)) (Z3 24 [0,2,0,0] [(i:Int) * 120,((i:Int) * 120)+(j:Int)] H rfl (by omega) (Af rfl (fun h8=> ?_) (fun h8=> ?_))))
     ·refine Z3 9 [0,2,0,1,(120 * i+j),120 * i+j] [] H rfl (by omega) (Az rfl rfl (Ag 3 H rfl rfl rfl rfl (vs:=[Iv_ x]) rfl (Ab rfl Ar) (by kernel_rfl) (by simp only[Ct,List.length_cons,List.length_nil];omega) (out:=Cx (GJ C i ns (j+1)) n) ((Ih (x:=x.toNat) _ (by omega) (by omega)).trans (by rw[S1 C (by omega) hx hx0.1]))) ?_);rintro w H;replace H:=H.l5;refine Z2 8 [1,2,0] H rfl (Jg rfl rfl (LP 4 (e:=3) H rfl rfl (by kernel_rfl) rfl rfl) ?_);rintro _ w ⟨rfl,H⟩;replace H:=H.l5;refine Z1 7 [] [(j:Int)+1] rfl (by omega) (gf ?_);intro _ hF;refine ⟨(j+1),(hF.co rfl (by go_num) (hF.all rfl)),⟨H,?_⟩,?_⟩
      ·omega
      ·omega
     ·refine Z1 7 [] [(j:Int)+1] rfl (by omega) (gf ?_);intro _ hF;refine ⟨(j+1),(hF.co rfl (by go_num) (hF.all rfl)),⟨(by dsimp only[BT];rw[←S2 C (by omega) (by omega)];exact H),?_⟩,?_⟩
      ·omega
      ·omega
    ·obtain rfl:j=120:=by omega
     refine Zc 2 rfl (gx (Zc 8 rfl (Zr rfl ?_)));have e120:(120:Nat)=120:=rfl
     exact ⟨_,⟨rfl,rfl⟩,H.perm 5 [2,3,4,1] rfl rfl⟩
theorem S7 (bb m clk:Nat) (l:List IE) (hold:∀ p∈l,p.2.2<clk) (hn:(l.map fun p:IE=>p.2.2).Nodup):Uw prog 155 [Pt_ bb] [blk bb [.map (some m)] 124,Ay m l clk] (XY l) [] (Pl l):=by
 intro z l_ J hY w H'
 have H:=H'.l2
 refine IM (args:=[.func (.yield l_) #[] #[],Pt_ bb]) func155 rfl rfl 14 ntmps155 rfl ?_
 refine Cq ?_
 refine BQ ?_
 refine s_do rfl rfl rfl (AZ rfl rfl (by kernel_rfl) (AB (H.cel 0 rfl 0 rfl))) ?_
 refine Eo rfl rfl rfl (GC 1 (e:=3) H rfl rfl (by kernel_rfl) rfl) ?_
 rintro _ w ⟨rr,rfl,H'⟩
 have H:=H'.l3
 refine AH ?_
 refine Dw ?_
 refine J3 (σ:=List IE) (fun s=>[(0,.func (.yield l_) #[] #[]),(5,Pt_ rr)])
  (fun s w=>Sep z (FS rr m clk (s.map fun p:IE=>p.2.2)::blk bb [.map (some m)] 124::Ay m l clk::J s) w∧(True)) (fun s=>(BU l (s.map fun p:IE=>p.2.2)).length) ([])
  (fun _ hF=>(hF.all rfl)) ⟨H,trivial⟩ ?_
 clear H;rintro s w ⟨H',hI⟩
 have H:=H'.l3
 refine Cq ?_
 refine BQ ?_
 refine Eo rfl rfl rfl (HB 0 2 H rfl rfl rfl rfl hold) ?_
 rintro _ w ⟨qx,rfl,hqx,H'⟩
 have H:=H'.l3
 refine s_do rfl rfl rfl (Jk rfl rfl) ?_
 refine AH ?_
 refine Cq ?_
 refine HW rfl (fun h1=> ?_) (fun h1=> ?_)
 ·-- yes:qx.isSome
  obtain ⟨p1,rfl⟩:=Option.isSome_iff_exists.1 h1
  refine FF ?_
  refine Dw ?_
  refine Cq ?_
  refine BQ ?_
  refine s_do rfl rfl rfl (GD (p:=p1) rfl rfl (AB ⟨H.bk 0 rfl,H.bk 2 rfl⟩) (CB hqx).1 hn) ?_
  refine s_do rfl rfl rfl (EC rfl rfl rfl) ?_
  refine s_do rfl rfl rfl (Ep rfl rfl) ?_
  refine AH ?_
  refine Cq ?_
  refine IL ?_
  refine DO rfl rfl rfl (CA rfl rfl) ?_
  refine DO rfl rfl rfl (CA rfl rfl) ?_
  replace H:=H.f2.f2
  refine J5 rfl rfl rfl rfl rfl rfl (hY s _ (s++[p1]) [FS rr m clk ((s.map fun p:IE=>p.2.2)++[p1.2.2])] ⟨p1,hqx,rfl,rfl⟩ _ H) ?_
  rintro _ w ⟨rfl,H'⟩
  refine ⟨_,rfl,?_⟩
  have H:=H'.l3
  refine DO rfl rfl rfl (I6 rfl rfl) ?_
  refine O8 ?_
  refine G5 rfl ?_
  refine FF ?_
  replace H:=H.f1.f1.f2
  intro _ hF
  refine ⟨(s++[p1]),(hF.all rfl),⟨(by rw[List.map_append];exact H),?_⟩,?_⟩
  ·trivial
  ·(have:=DY hqx;rwa[show (s++[p1]).map (fun p:IE=>p.2.2)=(s.map fun p:IE=>p.2.2)++[p1.2.2] from by simp])
 ·-- no:qx.isSome
  obtain rfl:qx=none:=by simpa using h1
  refine J2 ?_
  refine Ht ?_
  exact fun _ hF=>⟨hF.defers,s,hqx,H.perm 3 [1,2] rfl rfl⟩
theorem VW (m:Nat):Cn prog 109 [.map (some m)] [] (fun v Γ=>∃ bb:Nat,v= .func (.func 155) #[] #[Pt_ bb]∧Γ=[blk bb [.map (some m)] 124]):=by
 intro z R w H;replace H:=H.l0;refine Ad func109 rfl ntmps109 rfl (Za 2 [] H rfl ?_);intro b1 w H;refine Zc 5 rfl (Ac rfl (FD rfl rfl rfl) (Zc 4 rfl (Zr rfl ?_)));exact ⟨_,⟨b1,rfl,rfl⟩,H⟩
theorem VX (pc bn m n:Nat) (C:Nat→Nat) (C0:Nat→Nat) (l:List IE) (clk:Nat) (W:WasOk C C0 n l clk):Cn prog 69 [Pt_ pc] [coB pc bn n m,BT bn C n,Ay m l clk] (fun v Γ=>v= .tuple #[]∧Γ=[coB pc bn n m,BT bn C0 n,Ay m [] clk]):=by
 intro z R w H';have H:=H'.l3;refine L9 func69 rfl 25 ntmps69 rfl (AO (AC (Eo rfl rfl rfl (Ge H rfl rfl (cs:=[Pt_ pc]) rfl) ?_)));rintro _ w ⟨b1,rfl,H'⟩;have H:=H'.l4;refine AH (AO (AO (AC (FQ 4 [0,1,1] (AK (H.blk 0 rfl) (AK (H.blk 1 rfl) AW)) rfl (by kernel_rfl) rfl (EZ rfl rfl rfl rfl rfl (fun w=>call109 _ w) (VW _) H rfl ?_)))));rintro _ w _ ⟨bb,rfl,rfl⟩ H';have H:=H'.l5;refine AH (E2 ?_);replace H:=H.f4.f1.f4.f4.f4;dsimp only[BT] at H
 rw[show Cx C n=Cx (Gk C C0 []) n by rw[VQ]] at H;have H':=H.toUn (l:=l) (s:=[]) (by simp);clear H
 have H:=S4 H';clear H';refine Me (fun s=>(unA b1 pc bn m n C C0 l s::R)) rfl (fun u w=>call155 u w) rfl (S7 bb m clk l W.clk W.born) H ?_ ?_
 ·rintro ro s v s2 ⟨p,hp,rfl,rfl⟩ w;obtain ⟨k,hk1,hk2,hk3⟩:=W.ent p (CB hp).1;refine BQ (BP 1 rfl rfl (AH ?_));refine fun a hF=>⟨rfl,fun F w H'=> ?_⟩
  revert a hF;have H:Sep z (unA b1 pc bn m n C C0 l s::(R++([blk bb [.map (some m)] 124,Ay m l clk]++F))) w:=H';clear H'
  obtain ⟨hps,H'⟩:=H.un;clear H;have H:=VS H';clear H';have H:Sep z (blk b1 [Pt_ pc] 68::coB pc bn n m::BT bn (Gk C C0 s) n::blk bb [.map (some m)] 124::Ay m l clk::(R++F)) w:=H
  refine Dw ?_;replace H:=H.f4.f2.f2;refine HA (Sep z (blk b1 [Pt_ pc] 68::coB pc bn n m::Ay m l clk::(R++F))) 13 rfl (by kernel_rfl) (Bc H fun w H'=> ?_)
  have H:=H'.l5;refine DE [0,1,2,3,4,5,6,7,8,9] [0,0,1,0,1,1] (by kernel_rfl) (fun _ hx=>(AK (hx.blk 0 rfl) (AK (hx.blk 1 rfl) AW))) (by exact (H.pick 5 [0,1,2] rfl)) rfl (by kernel_rfl) rfl rfl (Dv 10 (by kernel_rfl) rfl rfl (by kernel_rfl) (by kernel_rfl) (by kernel_rfl) rfl rfl rfl (E5 (e:=3) (zv:=Iv_ 0) rfl (by kernel_rfl) (by kernel_rfl) rfl rfl (fun _ hx=>hx.bk 2 rfl)) (H.pick 5 [0,1,2] rfl) (Al 19 (v:=Iv_ (C0 k:Int)) rfl (by rw[MP W.keys (CB hp).1,hk3];rfl) (Dv 11 (by kernel_rfl) rfl rfl (by kernel_rfl) (by kernel_rfl) (by kernel_rfl) rfl rfl rfl (Cc rfl (z:=1) (j:=k) (r:=k) (by kernel_rfl) rfl rfl hk1 hk2 (by omega)) (H.pick 5 [0,1,2] rfl) (Cz [12] (by kernel_rfl) (by simp) (Au (A8 rfl rfl rfl (Ag 3 H rfl rfl rfl rfl (vs:=[Iv_ (C0 k:Int)]) rfl (Ab rfl Ar) (by kernel_rfl) (by simp only[Ct,List.length_cons,List.length_nil];omega) (out:=Cx (Gk C C0 (s++[p])) n) ((Ih (x:=C0 k) _ hk2 rfl).trans (by rw[S3 C C0 hk1]))) ?_))))));rintro w H';have H:=H'.l5;refine Bn (fun h=>absurd rfl h) (DK (by kernel_rfl) ?_);replace H:=H.f2.f4.f4.f4.f4;exact fun _ _=>VT (H.toUn (Fg hps hp))
 ·rintro D0 w s hfin H';have H:=X7 H';clear H';obtain ⟨hps,H'⟩:=H.un;clear H;rw[VR W (Gr W.born hps hfin)] at H';have H:Sep z (blk b1 [Pt_ pc] 68::coB pc bn n m::BT bn C0 n::bk D0 (.deferred (some []))::blk bb [.map (some m)] 124::Ay m l clk::R) w:=H';clear H'
  refine AC (FQ 4 [0,1,1] (AK (H.blk 0 rfl) (AK (H.blk 1 rfl) AW)) rfl (by kernel_rfl) rfl (Un rfl rfl (HX 5 (e:=3) H rfl rfl (by kernel_rfl) rfl) ?_));rintro _ w ⟨rfl,H'⟩;have H:=H'.l6;refine AH ?_;replace H:=H.f3;refine Md H (rs:=[]) rfl [] (fun _=>trivial) (v:= .tuple #[]) rfl (fun w H'=> ?_);clear H;have H:=H'.l5;exact ⟨[coB pc bn n m,BT bn C0 n,Ay m ([]) clk],⟨rfl,rfl⟩,H.perm 5 [1,2,4] rfl rfl⟩
theorem compS_c (v0:Value) (ys:List Int) (hy:ys.length<2):Cn prog 64 [v0] [grow 3 1 v0 ys.length (ys.map Iv_)] (fun v Γ=>∃ (v1:Value) (zs:List Int) (B:Ae),(zs.length≤ys.length∧(∀ x,x∈zs↔x∈ys)∧∀ h,B h→rdH 1 v1 zs.length (zs.map Iv_) h)∧v=v1∧Γ=[B]):=by
 intro z R w H;replace H:=H.l1;have sv0:=H.says 0 rfl (fun h q=>q.slc)
 refine Ad func64 rfl ntmps64 rfl (Zc 9 rfl (Ac rfl (CL rfl (sz:=1) (by kernel_rfl) rfl sv0) (Z0 3 [0] rfl (Af rfl (fun h1=> ?_) (fun h1=> ?_)))))
 ·refine Zc 7 rfl (Zr rfl ?_);exact ⟨_,⟨v0,ys,_,⟨Nat.le_refl _,fun _=>Iff.rfl,fun h q=>q.rd⟩,rfl,rfl⟩,H⟩
 ·(exfalso;omega)
theorem compact_c (v0:Value) (ys:List Int) (n:Nat) (hl:ys.length=n) (hn:2≤n∧n≤1073741824):Cn prog 64 [v0] [grow 3 1 v0 n (ys.map Iv_)] (fun v Γ=>∃ (v1:Value) (zs:List Int) (B:Ae),(zs.length≤ys.length∧(∀ x,x∈zs↔x∈ys)∧∀ h,B h→rdH 1 v1 zs.length (zs.map Iv_) h)∧v=v1∧Γ=[B]):=by
 intro z R w H;replace H:=H.l1;obtain ⟨g,cap,rest,rfl,c1,c2,c3,H⟩:=H.ungrow 0 rfl (by omega);replace H:=H.l1;refine Ad func64 rfl ntmps64 rfl (Z0 13 [0] rfl (Af rfl (fun h1=> ?_) (fun h1=> ?_)))
 ·(exfalso;omega)
 ·refine Zc 9 rfl ?_;refine AJ (σ:=Nat) (fun k0=>[(3,Iv_ (k0:Int)),(0,.slice (some ⟨g,0,none⟩) n cap)])
    (fun k0 w=>Sep z (blk g (ys.map Iv_++rest) 3::R) w∧(1≤k0∧k0≤n)) (fun k0=>n - k0) 1
    (fun _ hF=>(hF.co rfl (by go_num) (hF.all rfl))) ⟨H,by omega⟩ ?_
  clear H;rintro k0 w ⟨H',hI⟩;have H:=H'.l1;have hk:=hI;clear hI
  refine Z0 9 [0] rfl (Af rfl (fun h2=> ?_) (fun h2=> ?_))
  ·obtain ⟨x,hvx⟩:∃ x,ys[k0]? =some x:=⟨_,List.getElem?_eq_getElem (by omega)⟩;obtain ⟨y,hvy⟩:∃ y,ys[k0 - 1]? =some y:=⟨_,List.getElem?_eq_getElem (by omega)⟩;refine Zc 5 rfl (AG (Sep z _) (by kernel_rfl) (by kernel_rfl) H.drew (Hl 3 [1,k0,k0] [] rfl (by kernel_rfl) (by omega) (A6 rfl rfl rfl (AZ rfl rfl (by kernel_rfl) (fun _ hx=>hx.cel 0 rfl k0 (F3 hvx))) (Hl 4 [1,(k0 - 1),(k0 - 1)] [(k0:Int) - 1] rfl (by kernel_rfl) (by omega) (A6 rfl rfl rfl (AZ rfl rfl (by kernel_rfl) (fun _ hx=>hx.cel 0 rfl (k0 - 1) (F3 hvy))) (Br 1 [] rfl (by kernel_rfl) (AU (fun w H'=> ?_))))))));have H:=H'.l1;refine gn (Zc 1 rfl (Af rfl (fun h3=> ?_) (fun h3=> ?_)))
   ·have hxy:x=y:=h3
    refine Zc 4 rfl (Ac rfl (BD rfl (z:=1) (p:=k0) (q:=n) (o':=k0) (l':=n - k0) (c':=cap - k0) (by kernel_rfl) rfl (.inr ⟨_,_,_,rfl,rfl,rfl⟩) (.inl ⟨rfl,rfl⟩) (by omega) (by omega) (by omega) (by omega) (by omega) (by omega)) (Zc 10 rfl ?_));refine AJ (σ:=Nat×Nat×List Int) (fun ⟨k,j,L⟩=>[(3,Iv_ (k:Int)),(5,Iv_ (j:Int)),(0,.slice (some ⟨g,0,none⟩) n cap),(4,.slice (some ⟨g,k0,none⟩) (n - k0) (cap - k0)),(10,Iv_ (k0:Int)),(11,.slice (some ⟨g,0,none⟩) n cap),(12,Iv_ (n:Int)),(13,.bool (decide ((k0:Int)<(n:Int)))),(16,.slice (some ⟨g,0,none⟩) n cap),(17,Iv_ (k0:Int)),(18,.pointer (some ⟨g,k0,none⟩)),(19,Iv_ x),(20,.slice (some ⟨g,0,none⟩) n cap),(21,Iv_ (k0:Int)),(22,Iv_ ((k0:Int) - 1)),(23,.pointer (some ⟨g,(k0 - 1),none⟩)),(24,Iv_ y),(25,.bool (decide ((x:Int)=y))),(26,.slice (some ⟨g,0,none⟩) n cap),(27,Iv_ (k0:Int)),(28,.slice (some ⟨g,k0,none⟩) (n - k0) (cap - k0))])
      (fun ⟨k,j,L⟩ w=>Sep z (blk g (L.map Iv_++rest) 3::R) w∧(CpI ys n k0 k j L)) (fun ⟨k,j,L⟩=>n - j) ⟨k0,1,ys⟩
      (fun _ hF=>(hF.co rfl rfl (hF.co rfl (by go_num) (hF.all rfl)))) ⟨H,CpI.start hl (by omega) (by omega) hvx (by rw[hxy];exact hvy)⟩ ?_
    clear H;rintro ⟨k,j,L⟩ w ⟨H',hI⟩;dsimp only at hI H' ⊢
    have H:=H'.l1;have hC:=hI;clear hI
    have hkj:=hC.kj;have hj1:=hC.j1;have hjn:=hC.jn;have hCl:=hC.len;have hk0k:=hC.k0k
    refine Z0 9 [0] rfl (Af rfl (fun h4=> ?_) (fun h4=> ?_))
    ·obtain ⟨x,hvx⟩:∃ x,ys[k0+j]? =some x:=⟨_,List.getElem?_eq_getElem (by omega)⟩;obtain ⟨y,hvy⟩:∃ y,ys[k0+(j - 1)]? =some y:=⟨_,List.getElem?_eq_getElem (by have:=hC.j1;omega)⟩;have hLvx:L[k0+j]? =some x:=(hC.same _ (by omega)).trans hvx
     have hLvy:L[k0+(j - 1)]? =some y:=(hC.same _ (by have:=hC.j1;omega)).trans hvy
     refine Zc 5 rfl (AG (Sep z _) (by kernel_rfl) (by kernel_rfl) H.drew (Hl 3 [1,j,k0+j] [] rfl (by kernel_rfl) (by omega) (A6 rfl rfl rfl (AZ rfl rfl (by kernel_rfl) (fun _ hx=>hx.cel 0 rfl (k0+j) (F3 hLvx))) (Hl 4 [1,(j - 1),k0+(j - 1)] [(j:Int) - 1] rfl (by kernel_rfl) (by omega) (A6 rfl rfl rfl (AZ rfl rfl (by kernel_rfl) (fun _ hx=>hx.cel 0 rfl (k0+(j - 1)) (F3 hLvy))) (Br 1 [] rfl (by kernel_rfl) (AU (fun w H'=> ?_))))))));have H:=H'.l1;refine gn (Zc 1 rfl (Af rfl (fun h5=> ?_) (fun h5=> ?_)))
     ·refine Z1 7 [1,j,k0+j] [] rfl (by omega) (Ac rfl (AZ rfl rfl (by kernel_rfl) (AB (H.cel 0 rfl (k0+j) (F3 hLvx)))) (Z1 1 [1,k,k] [] rfl (by omega) (Az rfl rfl (Ag 0 H rfl rfl rfl rfl (vs:=[Iv_ x]) rfl (by simp[u8,u32,Value.oneCell']) (by kernel_rfl) (by simp only[List.length_append,List.length_map,List.length_cons,List.length_nil];have:=hC.len;omega) (out:=((L.set k x).map Iv_++rest)) (S5 (by have:=hC.len;have:=hC.kj;have:=hC.jn;omega))) ?_)));rintro w H;replace H:=H.l1;refine Z1 14 [] [(k:Int)+1,(j:Int)+1] rfl (by omega) (gf ?_);intro _ hF;refine ⟨⟨k+1,j+1,L.set k x⟩,(hF.co rfl (by go_num) (hF.co rfl (by go_num) (hF.all rfl))),⟨H,?_⟩,?_⟩
      ·exact hC.put hvx
      ·(dsimp only;omega)
     ·have hxy:x=y:=Decidable.not_not.1 h5
      refine Z1 8 [] [(j:Int)+1] rfl (by omega) (gf ?_);intro _ hF;refine ⟨⟨k,j+1,L⟩,(hF.co rfl rfl (hF.co rfl (by go_num) (hF.all rfl))),⟨H,?_⟩,?_⟩
      ·exact hC.skip hvx (by rw[hxy];exact hvy)
      ·(dsimp only;omega)
    ·have hjn2:k0+j=n:=by omega
     refine Zc 2 rfl (gx (Zc 6 rfl (Ac rfl (BD rfl (z:=1) (p:=k) (q:=n) (o':=k) (l':=n - k) (c':=cap - k) (by kernel_rfl) rfl (.inr ⟨_,_,_,rfl,rfl,rfl⟩) (.inl ⟨rfl,rfl⟩) (by omega) (by omega) (by omega) (by omega) (by omega) (by omega)) (Jg rfl rfl (SU 0 H rfl rfl (by kernel_rfl) rfl (by have:=hC.kj;have:=hC.jn;omega) (by simp;have:=hC.len;have:=hC.kj;have:=hC.jn;omega)) ?_))));rintro _ w ⟨rfl,H⟩;replace H:=H.l1;refine Zc 6 rfl (Ac rfl (BD rfl (z:=1) (p:=0) (q:=k) (o':=0) (l':=k) (c':=cap) (by kernel_rfl) rfl (.inl ⟨rfl,rfl⟩) (.inr ⟨_,_,_,rfl,rfl,rfl⟩) (by omega) (by omega) (by omega) (by omega) (by omega) (by omega)) (Zc 4 rfl (Zr rfl ?_)));have hlk:(L.take k).length=k:=by rw[List.length_take];have:=hC.len;have:=hC.kj;have:=hC.jn;omega
     exact ⟨_,⟨_,L.take k,_,⟨by have:=hC.kj;have:=hC.jn;omega,fun z=>(hC.mem z).trans (by rw[List.take_of_length_le (by omega)]),fun h q=>by rw[hlk];exact q.rd (by have:=hC.kj;have:=hC.jn;omega) (by omega) (by simp;have:=hC.len;have:=hC.kj;have:=hC.jn;omega) (by rw[List.drop_zero,Nat.mul_one,List.append_assoc,List.take_left' (by rw[List.length_take];simp;have:=hC.len;have:=hC.kj;have:=hC.jn;omega),List.take_append_of_le_length (by simp;have:=hC.len;have:=hC.kj;have:=hC.jn;omega),List.map_take])⟩,rfl,rfl⟩,H.perm 1 [0] rfl rfl⟩
   ·refine Z1 8 [] [(k0:Int)+1] rfl (by omega) (gf ?_);intro _ hF;refine ⟨(k0+1),(hF.co rfl (by go_num) (hF.all rfl)),⟨H,?_⟩,?_⟩
    ·omega
    ·omega
  ·have hkn:k0=n:=by omega
   refine Zc 2 rfl (gx (Zc 9 rfl (Zr rfl ?_)));exact ⟨_,⟨_,ys,_,⟨by omega,fun _=>Iff.rfl,fun h q=>by rw[hl];exact q.rd (by omega) (by omega) (by simp;omega) (by rw[List.drop_zero,List.take_left' (by simp;omega)])⟩,rfl,rfl⟩,H.perm 1 [0] rfl rfl⟩
theorem X9 (v0:Value) (ys:List Int) (hy:ys.length≤1073741824):Cn prog 64 [v0] [grow 3 1 v0 ys.length (ys.map Iv_)] (fun v Γ=>∃ (v1:Value) (zs:List Int) (B:Ae),(zs.length≤ys.length∧(∀ x,x∈zs↔x∈ys)∧∀ h,B h→rdH 1 v1 zs.length (zs.map Iv_) h)∧v=v1∧Γ=[B]):=by
 rcases Nat.lt_or_ge ys.length 2 with h|h
 ·exact compS_c v0 ys h
 ·exact compact_c v0 ys _ rfl ⟨h,hy⟩
theorem Q6 (pc bn m n:Nat) (C:Nat→Nat) (C0:Nat→Nat) (l:List IE) (clk:Nat) (hn:16≤n∧n≤1024) (W:WasOk C C0 n l clk):Cn prog 33 [Pt_ pc] [coB pc bn n m,BT bn C n,Ay m l clk] (fun v Γ=>∃ (v1:Value) (zs:List Int) (B:Ae),(zs.length≤n∧(∀ x:Int,x∈zs↔∃ k:Nat,k<n∧C k≠C0 k∧x=((k / 120:Nat):Int))∧∀ h,B h→rdH 1 v1 zs.length (zs.map Iv_) h)∧v=v1∧Γ=[B,coB pc bn n m,BT bn C n,Ay m l clk]):=by
 intro z R w H;replace H:=H.l3;have hll:=W.len
 refine Ad func33 rfl ntmps33 rfl (Z2 17 [1,0,0] H rfl (AL rfl (GC 2 (e:=3) H rfl rfl (by kernel_rfl) rfl) ?_));rintro _ w ⟨rr,rfl,H⟩;replace H:=H.l4;refine Zc 1 rfl ?_;replace H:=(H.nilg 3 1).l5
 refine Zc 2 rfl ?_;refine AJ (σ:=List IE×Value) (fun ⟨s,v1⟩=>[(3,v1),(0,Pt_ pc),(2,.slice none 0 0),(10,Pt_ rr)])
   (fun ⟨s,v1⟩ w=>Sep z (grow 3 1 v1 ((EH C C0 s).length) ((EH C C0 s).map Iv_)::FS rr m clk (s.map fun p:IE=>p.2.2)::coB pc bn n m::BT bn C n::Ay m l clk::R) w∧((∀ p∈s,p∈l)∧(s.map fun p:IE=>p.2.2).Nodup)) (fun ⟨s,v1⟩=>(BU l (s.map fun p:IE=>p.2.2)).length) ⟨[],.slice none 0 0⟩
   (fun _ hF=>(hF.co rfl (by go_num) (hF.all rfl))) ⟨H,⟨by simp,by simp⟩⟩ ?_
 clear H;rintro ⟨s,v1⟩ w ⟨H',hI⟩;dsimp only at hI H' ⊢
 have H:=H'.l5;have sv1:=H.says 0 rfl (fun h q=>q.slc)
 have hps:=hI;clear hI
 have hsl0:=Jx hps
 have htl:=X8 C C0 s
 refine Zc 2 rfl (AL rfl (HB 1 4 H rfl rfl rfl rfl W.clk) ?_);rintro _ w ⟨qx,rfl,hqx,H⟩;replace H:=H.l5;refine Ac rfl (Jk rfl rfl) (Zc 3 rfl (EQ rfl (fun h1=> ?_) (fun h1=> ?_)))
 ·obtain ⟨p1,rfl⟩:=Option.isSome_iff_exists.1 h1;obtain ⟨k,hk1,hk2,hk3⟩:=W.ent p1 (CB hqx).1;refine Zc 5 rfl (Ac rfl (GD (p:=p1) rfl rfl (AB ⟨H.bk 1 rfl,H.bk 4 rfl⟩) (CB hqx).1 W.born) (Zc 2 rfl (Al 14 (v:=Iv_ (k:Int)) rfl (congrArg Iv_ hk1) (Al 15 (v:=Iv_ (C0 k:Int)) rfl hk3 (Z3 13 [0,2,0,1,k,k] [] H rfl (by omega) (Ac rfl (AZ rfl rfl (by kernel_rfl) (AB (H.cel 3 rfl k (cnL_at _ (by omega))))) (Z0 3 [0] rfl (Af rfl (fun h2=> ?_) (fun h2=> ?_)))))))))
  ·have hne:(C0 k:Int)≠(C k:Int):=h2
   refine Z1 4 [] [(k:Int) / 120] rfl (by omega) (AL rfl (AV H rfl (by kernel_rfl) Bq rfl (by decide) (by decide) (out:=[Iv_ ((k:Int) / 120)]) (by kernel_rfl)) ?_);rintro _ w ⟨b1,rfl,H⟩;replace H:=H.l6;refine AL rfl (Bb 1 H rfl rfl (by kernel_rfl) Bq rfl rfl (H.rd 0 rfl (fun h q=>q.rd (by omega) (by omega) (by simp) rfl)) (by simp[Value.oneCell']) (by omega)) ?_;rintro v2 w H';have H':Sep z (blk b1 [Iv_ ((k:Int) / 120)] 3::grow 3 1 v2 ((EH C C0 s).length+1) ((EH C C0 s).map Iv_++[Iv_ ((k:Int) / 120)])::FS rr m clk (IA (s.map fun p:IE=>p.2.2) (some p1))::coB pc bn n m::BT bn C n::Ay m l clk::R) w:=H'
   have ev2:((EH C C0 s).map Iv_++[Iv_ ((k:Int) / 120)]:List Value)=(EH C C0 (s++[p1])).map Iv_:=(by rw[Oo hk1 hne];simp)
   rw[ev2] at H';rw[show ((EH C C0 s).length+1:Nat)=(EH C C0 (s++[p1])).length from (by rw[Oo hk1 hne];simp)] at H';have H:=H'.l6;have sv2:=H.says 1 rfl (fun h q=>q.slc)
   refine Zc 3 rfl ?_;replace H:=H.d;refine gf ?_;intro _ hF;refine ⟨⟨s++[p1],v2⟩,(hF.all rfl),⟨(by dsimp only;rw[List.map_append];exact H),?_⟩,?_⟩
   ·exact Fg hps hqx
   ·(have:=DY hqx;rwa[show (s++[p1]).map (fun p:IE=>p.2.2)=(s.map fun p:IE=>p.2.2)++[p1.2.2] from by simp])
  ·have heq:(C0 k:Int)=(C k:Int):=Decidable.not_not.1 h2
   refine Zc 2 rfl (gf ?_);intro _ hF;refine ⟨⟨s++[p1],v1⟩,(hF.all rfl),⟨(by dsimp only;rw[List.map_append,S6 hk1 heq];exact H),?_⟩,?_⟩
   ·exact Fg hps hqx
   ·(have:=DY hqx;rwa[show (s++[p1]).map (fun p:IE=>p.2.2)=(s.map fun p:IE=>p.2.2)++[p1.2.2] from by simp])
 ·obtain rfl:qx=none:=by simpa using h1
  have hfin:Pl l s:=hqx
  refine Zc 2 rfl (gx (Zc 5 rfl (Aw rfl (call63 _) (QV _ _ (by omega)) H ?_)));rintro _ w _ ⟨rfl,ys,rfl,rfl⟩ H;refine Zc 5 rfl ?_;have hsl:((EH C C0 s).mergeSort (fun x y=>decide (x≤y))).length=(EH C C0 s).length:=List.length_mergeSort _
  refine Aw rfl (call64 _) (X9 _ _ (by omega)) H ?_;rintro v2 w _ ⟨v3,zs,B,⟨hz1,hz2,hz3⟩,rfl,rfl⟩ H;replace H:=H.l5;refine Zc 4 rfl (Zr rfl ?_);have hall:=fun x=>(hz2 x).trans (List.mem_mergeSort.trans (VU W (Gr W.born hps hfin) x))
  exact ⟨_,⟨_,zs,B,⟨by omega,hall,hz3⟩,rfl,rfl⟩,H.perm 5 [0,2,3,4] rfl rfl⟩
open Go.RowKit
theorem JB (pt b o c:Nat) (sec:List UInt8) (A:Ae) (hA:∀ h,A h→rdH 1 (.slice (some ⟨b,o,none⟩) 256 c) 256 (sec.map u8) h) (n:Nat) (hsec:sec=List.replicate 256 0):Cn prog 76 [Pt_ pt,.slice (some ⟨b,o,none⟩) 256 c,Iv_ (n:Int)] [tblA pt,A] (fun v Γ=>v= .tuple #[.agg #[Iv_ 0,.slice none 0 0],.bool true]∧Γ=[tblA pt,A]):=by
 intro z R w H;replace H:=H.l2;have hsl:=H.says 1 rfl (fun h q=>(hA h q).len)
 refine Ad func76 rfl ntmps76 rfl (Za 2 [] H rfl ?_);intro b1 w H;refine Zc 10 rfl (AL rfl (DA (k:=256) H rfl (by kernel_rfl) Cf rfl rfl rfl (by omega)) ?_);rintro _ w ⟨b2,rfl,H⟩;replace H:=H.l4;refine z_E_ rfl (call115 _) (UB _ _ sec (List.replicate 256 0) _ _ (fun h q=>by rw[hsl];exact hA h q) (fun h q=>by rw[List.length_replicate,List.map_replicate];exact q.rd (by omega) (by omega) (by simp) rfl)) H.f3 ?_;intro w H;refine Zc 3 rfl (Af rfl (fun h1=> ?_) (fun h1=> ?_))
 ·refine Z4 8 [2] H rfl ?_;intro w H;refine Zl [2,2] H rfl ?_;exact ⟨_,⟨rfl,rfl⟩,H.perm 4 [3,0] rfl rfl⟩
 ·exact absurd hsec h1
theorem KP (pt b o c:Nat) (sec:List UInt8) (A:Ae) (hA:∀ h,A h→rdH 1 (.slice (some ⟨b,o,none⟩) 256 c) 256 (sec.map u8) h) (n:Nat) (p:Pg) (hp:p.Ok) (hn:n≤1023) (hsec:sec=DG n p):Cn prog 76 [Pt_ pt,.slice (some ⟨b,o,none⟩) 256 c,Iv_ (n:Int)] [tblA pt,A] (fun v Γ=>∃ v1,v= .tuple #[.agg #[Iv_ p.kind,v1],.bool true]∧Γ=[grow 5 1 v1 240 (p.body.map u8),tblA pt,A]):=by
 intro z R w H;replace H:=H.l2;have hsl:=H.says 1 rfl (fun h q=>(hA h q).len)
 have hcb:=H.says 1 rfl (fun h q=>(hA h q).cap)
 obtain ⟨c0,c1,c2,c3,hd⟩:=Mv hsl;have hpk:=hp.1
 refine Ad func76 rfl ntmps76 rfl (Za 2 [] H rfl ?_);intro b1 w H;refine Zc 10 rfl (AL rfl (DA (k:=256) H rfl (by kernel_rfl) Cf rfl rfl rfl (by omega)) ?_);rintro _ w ⟨b2,rfl,H⟩;replace H:=H.l4;refine z_E_ rfl (call115 _) (UB _ _ sec (List.replicate 256 0) _ _ (fun h q=>by rw[hsl];exact hA h q) (fun h q=>by rw[List.length_replicate,List.map_replicate];exact q.rd (by omega) (by omega) (by simp) rfl)) H.f3 ?_;intro w H;refine Zc 3 rfl (Af rfl (fun h1=> ?_) (fun h1=> ?_))
 ·exact absurd (hsec.symm.trans h1) (ND hp)
 ·refine Zc 6 rfl (Aw rfl (call116 _) (Ka _ _ _ _ _ sec _ hA) H.f3 ?_);rintro _ w _ (⟨hs0,rfl,rfl⟩|⟨hs0,rfl,rfl⟩) H'
  ·have H:=H'.l4;refine Za 3 [] H rfl ?_;intro b3 w H;refine Z4 16 [0] H rfl ?_;intro w H;refine z_E_ rfl (call117 _) (C9 1 _ b (o+4) 248 (c - 4) ((sec.drop 4).take 248) _ (fun h q=>(hA h q).cut (lo:=4) (m:=248) (c':=(c - 4)) (by omega) (by omega) (by omega)) (by omega) (by omega) ((sec.drop 4).take 1) (by rw[List.take_take,Nat.min_eq_left (by omega)]) (o+5) 247 (c - 5) (by omega) (by omega) (by omega)) H.f2.f1 ?_;intro w H;replace H:=H.l5;refine Al 28 (v:=Iv_ p.kind) rfl (congrArg Iv_ (by rw[hsec];exact VG hp)) (Za 1 [] H rfl ?_);intro b4 w H;refine Z4 10 [0,0,0,0,0] H rfl ?_;intro w H;refine Ak 33 rfl (fun h2=> ?_) (fun h2=> ?_)
   ·(exfalso;omega)
   ·refine Z2 5 [0,0,0,0] H rfl (Ak 38 rfl (fun h3=> ?_) (fun h3=> ?_))
    ·(exfalso;omega)
    ·refine Zc 1 rfl (z_E_ rfl (call91 _) (Cv _ _) H ?_);intro w H;replace H:=H.l6;refine Ac rfl (Ax rfl rfl) (Zc 2 rfl (Ak 43 rfl (fun h4=> ?_) (fun h4=> ?_)))
     ·(exfalso;omega)
     ·refine z_E_ rfl (call117 _) (C9 4 _ b (o+5) 247 (c - 5) ((sec.drop 5).take 247) _ (fun h q=>(hA h q).cut (lo:=5) (m:=247) (c':=(c - 5)) (by omega) (by omega) (by omega)) (by omega) (by omega) ((sec.drop 5).take 4) (by rw[List.take_take,Nat.min_eq_left (by omega)]) (o+9) 243 (c - 9) (by omega) (by omega) (by omega)) H.f2.f2 ?_;intro w H;replace H:=H.l6;refine Al 44 (v:=Iv_ (n:Int)) rfl (congrArg Iv_ (by rw[hsec];exact X0 hp hn)) (Z0 4 [0] rfl (Ak 48 rfl (fun h5=> ?_) (fun h5=> ?_)))
      ·exact absurd rfl h5
      ·refine z_E_ rfl (call117 _) (C9 3 _ b (o+9) 243 (c - 9) ((sec.drop 9).take 243) _ (fun h q=>(hA h q).cut (lo:=9) (m:=243) (c':=(c - 9)) (by omega) (by omega) (by omega)) (by omega) (by omega) ((sec.drop 9).take 3) (by rw[List.take_take,Nat.min_eq_left (by omega)]) (o+12) 240 (c - 12) (by omega) (by omega) (by omega)) H ?_;intro w H;replace H:=H.l6;refine Al 49 (v:=Iv_ 0) rfl (congrArg Iv_ (by rw[hsec];exact Pn hp)) (Z2 11 [4,0,0,0] H rfl (Aw rfl (call114 _) (Ie _ _ 240 _ p.body _ ((fun h q=>by have:=(hA h q).cut (lo:=12) (m:=240) (c':=c - 12) (by omega) (by omega) (by omega);rw[hsec,VH hp] at this;exact this)) (by omega)) H.f1 ?_));rintro _ w _ ⟨g,cap,rest,rfl,⟨cg,cc,cl⟩,rfl⟩ H;refine Z4 12 [1,3,3,2,6] H rfl ?_;intro w H;refine Zl [6,2] H rfl ?_;replace H:=(H.mono 0 (B:=grow 5 1 (.slice (some ⟨g,0,none⟩) 240 cap) 240 (p.body.map u8)) rfl (fun h q=>q.grow (by omega) (by omega) (by simp[hp.2];omega) (by rw[Nat.mul_one,List.take_append_of_le_length (by simp[hp.2])];exact List.take_of_length_le (by simp[hp.2])))).l7
       exact ⟨_,⟨_,rfl,rfl⟩,H.perm 7 [0,4,1] rfl rfl⟩
  ·exact absurd (hsec▸XZ hp) hs0
open Go.RowKit
def KQ (D:Dsk) (S:List IE):Dsk:= { D with dur:=fun i=>if (i:Int)∈S.map (fun p:IE=>p.1) then D.cont i else D.dur i }
theorem Ij {es:List Ent} {e:Ent} (he:e∈es) {h:Hp} (hs:seps (es.map Ent.row) h):rdH 1 e.v e.pvs.length e.pvs h:=by
 obtain ⟨i,hi⟩:=List.getElem?_of_mem he
 obtain ⟨h',hA,hsub⟩:=E6 hs (i:=i) (A:=e.row) (by rw[List.getElem?_map,hi];rfl)
 exact (grow.rd hA).le hsub
theorem VY {D:Dsk} :KQ D []=D:=by simp[KQ]
theorem VZ {n k:Nat} {bs q:List UInt8} {dur:Nat→List UInt8} (hl:bs.length=n * 256) (hq:q.length=256) (hk:k<n) (ho:∀ i,i<n→(bs.drop (i * 256)).take 256=dur i):
  (bs.take (k * 256)++q++bs.drop (k * 256+256)).length=n * 256∧∀ i,i<n→((bs.take (k * 256)++q++bs.drop (k * 256+256)).drop (i * 256)).take 256=if i=k then q else dur i:=by
 have hl1:(bs.take (k * 256)).length=k * 256:=by rw[List.length_take];omega
 refine ⟨by simp only[List.length_append,List.length_drop,hl1];omega,fun i hi=> ?_⟩
 rcases Nat.lt_trichotomy i k with h|h|h
 ·rw[if_neg (by omega),←ho i hi,List.append_assoc,List.drop_append_of_le_length (by rw[hl1];omega),List.take_append_of_le_length (by rw[List.length_drop,hl1];omega),List.drop_take,List.take_take,Nat.min_eq_left (by omega)]
 ·subst h
  rw[if_pos rfl,List.append_assoc,List.drop_append,List.drop_of_length_le (by omega),List.nil_append,hl1,Nat.sub_self,List.drop_zero,List.take_append,List.take_of_length_le (by omega),hq];simp
 ·rw[if_neg (by omega),←ho i hi,List.drop_append,List.drop_of_length_le (by rw[List.length_append,hl1];omega),List.nil_append,List.length_append,hl1,hq,List.drop_drop]
  congr 2;omega
theorem S8 {D:Dsk} {S:List IE} {bs:List UInt8} {es:List Ent} {clk:Nat} {hq:Hp} (hD:D.Ok) (hI:(KQ D S).In bs es clk hq) {p:IE} {k:Nat} (hp:p.1=(k:Int)) (hk:k<D.n):(KQ D (S++[p])).In (bs.take (k * 256)++D.cont k++bs.drop (k * 256+256)) es clk hq:=by
 have ho:=VZ (q:=D.cont k) hI.len (Dsk.cont_len hD hk) hk hI.own
 refine ⟨ho.1,fun i hi=> ?_,hI.ent,hI.all,hI.nodup,hI.born,hI.clk⟩
 rw[ho.2 i hi]
 show _=(if (i:Int)∈(S++[p]).map (fun p:IE=>p.1) then D.cont i else D.dur i)
 show (if i=k then D.cont k else (if (i:Int)∈S.map (fun p:IE=>p.1) then D.cont i else D.dur i))=_
 simp only[List.map_append,List.map_cons,List.map_nil,List.mem_append,List.mem_singleton,hp]
 by_cases h:i=k
 ·subst h;rw[if_pos rfl,if_pos (.inr rfl)]
 ·rw[if_neg h]
  have:¬ ((i:Int)=(k:Int)):=by omega
  simp only[this,or_false]
theorem V0 {D:Dsk} {S:List IE} {bs:List UInt8} {es:List Ent} {clk:Nat} {hq:Hp} (hI:(KQ D S).In bs es clk hq) (hf:BU (es.map Ent.ie) (S.map fun p:IE=>p.2.2)=[]) (hS:∀ p∈S,p∈es.map Ent.ie):Dsk.In { D with dur:=D.cont,ver:=fun _=>[] } bs [] clk hq:=by
 have key:∀ i,i<D.n→(KQ D S).dur i=D.cont i:=fun i hi=>by
  simp only[KQ]
  split
  ·rfl
  ·rename_i hn
   by_cases hv:D.ver i=[]
   ·exact (IK hv).symm
   ·obtain ⟨e,he,hk⟩:=hI.all i hi hv
    exfalso
    have hm:e.ie∈es.map Ent.ie:=List.mem_map_of_mem he
    by_cases q:e.born∈S.map fun p:IE=>p.2.2
    ·obtain ⟨p,hp,hb⟩:=List.mem_map.1 q
     obtain ⟨e',he',rfl⟩:=List.mem_map.1 (hS p hp)
     obtain ⟨i1,h1⟩:=List.getElem?_of_mem he
     obtain ⟨i2,h2⟩:=List.getElem?_of_mem he'
     have:=Fk hI.born h1 h2 hb.symm
     subst this
     rw[h1] at h2;cases h2
     exact hn (List.mem_map.2 ⟨_,hp,by show (e.key:Int)=i;omega⟩)
    ·have:e.ie∈BU (es.map Ent.ie) (S.map fun p:IE=>p.2.2):=by
      simp only[BU,List.mem_filter]
      exact ⟨hm,by simpa [Ent.ie] using q⟩
     rw[hf] at this;cases this
 exact ⟨hI.len,fun i hi=>(hI.own i hi).trans (key i hi),fun e he=>(by cases he),fun i hi h=>absurd rfl h,by simp,by simp,fun e he=>(by cases he)⟩
theorem Zg {D:Dsk} (hD:D.Ok) {f:Nat→List UInt8} (hf:∀ i,i<D.n→(f i).length=256) {a b c e:Int} {d:Bool} (ha:0≤a∧a≤1099511627776) (hb:0≤b∧b≤1099511627776) (hc:0≤c∧c≤1099511627776) (he:0≤e∧e≤1099511627776):Dsk.Ok ⟨D.n,f,fun _=>[],a,b,c,d,e⟩:=
 ⟨hD.n1,hD.n2,hf,fun i hi p hp=>(by cases hp),ha,hb,hc,he⟩
set_option maxHeartbeats 1000000 in
theorem GK (pd:Nat) (D:Dsk):Cn prog 89 [Pt_ pd] [diskA pd D] (fun v Γ=>((D.f3=1∨(D.cut=true∧D.left=0))∧v=Iv_ 12∧Γ=[diskA pd { D with f3:=AY D.f3 }])∨(¬ (D.f3=1∨(D.cut=true∧D.left=0))∧v=Iv_ 0∧Γ=[diskA pd D.fl])):=by
 intro z R w H;replace H:=H.l1;obtain ⟨bd,m,f0,bs,es,clk,hq,hD,hIn,H'⟩:=H.disk;clear H;have hn1:=hD.n1;have hn2:=hD.n2;have hf1:=hD.f1;have hf2:=hD.f2;have hf3:=hD.f3;have hlf:=hD.left;have hbl:=hIn.len
 have H:=H'.l5;have hold:∀ p∈es.map Ent.ie,p.2.2<clk:=fun p hp=>by obtain ⟨e,he,rfl⟩:=List.mem_map.1 hp;exact hIn.clk e he
 have hmm:(es.map Ent.ie).map (fun p:IE=>p.2.2)=es.map Ent.born:=by rw[List.map_map];rfl
 have hn:((es.map Ent.ie).map fun p:IE=>p.2.2).Nodup:=by rw[hmm];exact hIn.born
 refine Ad func89 rfl ntmps89 rfl (Zc 9 rfl (z_E_ rfl (call113 _) (Sc _ _ _ _ _ _ _ _ _ _ (by omega)) H ?_));intro w H;refine Zc 1 rfl (Ak 7 rfl (fun h1=> ?_) (fun h1=> ?_))
 ·refine Zc 12 rfl (Zr rfl ?_);replace H:=(Sep.toDisk (D:= { D with f3:=AY D.f3 }) (pd:=pd) (bd:=bd) (m:=m) (f0:=f0) (bs:=bs) (es:=es) (clk:=clk) (hq:=hq) (Γ:=R) H (hD.f hD.f1 hD.f2 (EE hD.f3) hD.left) (hIn.f _ _ _ _ _)).l1
  exact ⟨_,.inl ⟨by simp_all,rfl,rfl⟩,H⟩
 ·refine Zc 1 rfl (z_E_ rfl (call126 _) (Ql _ _ _ _ _ _ _ _ _ _) H ?_);intro w H;refine Zc 3 rfl (EQ rfl (fun h2=> ?_) (fun h2=> ?_))
  ·refine Zc 6 rfl (Zr rfl ?_);replace H:=(Sep.toDisk (D:= { D with f3:=AY D.f3 }) (pd:=pd) (bd:=bd) (m:=m) (f0:=f0) (bs:=bs) (es:=es) (clk:=clk) (hq:=hq) (Γ:=R) H (hD.f hD.f1 hD.f2 (EE hD.f3) hD.left) (hIn.f _ _ _ _ _)).l1
   exact ⟨_,.inl ⟨by simp_all,rfl,rfl⟩,H⟩
  ·refine Z2 9 [1,0,0] H rfl (AL rfl (GC 2 (e:=207) H rfl rfl (by kernel_rfl) rfl) ?_);rintro _ w ⟨rr,rfl,H⟩;replace H:=H.l6;refine Zc 3 rfl ?_;refine AJ (σ:=List IE×List UInt8) (fun ⟨S,bs2⟩=>[(0,Pt_ pd),(2,Iv_ 0),(15,Pt_ rr)])
     (fun ⟨S,bs2⟩ w=>Sep z (FS rr m clk (S.map fun p:IE=>p.2.2)::blk pd [.slice (some ⟨bd,0,none⟩) (D.n * 256) (D.n * 256),.map (some m),Iv_ f0,Iv_ D.f1,Iv_ D.f2,Iv_ (if D.f3=0 then 0 else D.f3 - 1),.bool D.cut,Iv_ D.left] 92::blk bd (bs2.map u8) 5::Ay m (es.map Ent.ie) clk::poolA hq::seps (es.map Ent.row)::R) w∧((∀ p∈S,p∈es.map Ent.ie)∧(KQ D S).In bs2 es clk hq)) (fun ⟨S,bs2⟩=>(BU (es.map Ent.ie) (S.map fun p:IE=>p.2.2)).length) ⟨[],bs⟩
     (fun _ hF=>(hF.all rfl)) ⟨H,fun p hp=>absurd hp (by simp),by rw[VY];exact hIn⟩ ?_
   clear H;rintro ⟨S,bs2⟩ w ⟨H',hI⟩;dsimp only at hI H' ⊢
   have H:=H'.l6;obtain ⟨hS,hIn2⟩:=hI;refine Zc 2 rfl (AL rfl (HB 0 3 H rfl rfl rfl rfl hold) ?_);rintro _ w ⟨qx,rfl,hqx,H⟩;replace H:=H.l6;refine Ac rfl (Jk rfl rfl) (Zc 3 rfl (EQ rfl (fun h3=> ?_) (fun h3=> ?_)))
   ·obtain ⟨p1,rfl⟩:=Option.isSome_iff_exists.1 h3;refine Zc 5 rfl ?_;obtain ⟨⟨ke,ve,pvs,ps,bo⟩,hee,rfl⟩:=List.mem_map.1 (CB hqx).1;obtain ⟨he1,he2,he3,he4,he5⟩:=hIn2.ent _ hee;obtain ⟨ao,cc,hve⟩:=H.says 5 rfl (fun h q=>(Ij hee q).slc);dsimp only at hve he1 he2 he3 he4 he5
    subst hve;have hrow:=H.rd 5 rfl (fun h q=>Ij hee q)
    have hpm:=H.says 5 rfl (fun h q=>(Ij hee q).small)
    dsimp only at hpm
    have hpl0:0<pvs.length:=by rw[he3];exact List.length_pos_iff.2 he4
    have hken:ke<D.n:=he1
    obtain ⟨pv,hpv⟩:∃ pv,pvs[pvs.length - 1]? =some pv:=⟨_,List.getElem?_eq_getElem (by omega)⟩;obtain ⟨p,hp⟩:∃ p,ps[pvs.length - 1]? =some p:=⟨_,List.getElem?_eq_getElem (by omega)⟩;have hcp:D.cont ke=p:=KF (n:=pvs.length) (by rw[he3,he2];rfl) (by rw[show D.ver ke=ps from he2.symm];exact hp)
    obtain ⟨hp256,hprd⟩:=he5 _ _ _ hpv hp;have hat:=hrow.at hpv
    refine Ac rfl (GD (p:=(Ent.ie ⟨ke,.slice ao pvs.length cc,pvs,ps,bo⟩)) rfl rfl (AB ⟨H.bk 0 rfl,H.bk 3 rfl⟩) (List.mem_map_of_mem hee) hn) (Zc 6 rfl (DJ (Sep z (FS rr m clk (IA (S.map fun p:IE=>p.2.2) (some (Ent.ie ⟨ke,.slice ao pvs.length cc,pvs,ps,bo⟩)))::blk pd [.slice (some ⟨bd,0,none⟩) (D.n * 256) (D.n * 256),.map (some m),Iv_ f0,Iv_ D.f1,Iv_ D.f2,Iv_ (if D.f3=0 then 0 else D.f3 - 1),.bool D.cut,Iv_ D.left] 92::blk bd (bs2.map u8) 5::Ay m (es.map Ent.ie) clk::poolA hq::seps (es.map Ent.row)::R)) 10 rfl (by kernel_rfl) (Bc H fun w H'=> ?_)))
    have H:=H'.l6;refine DE [0,1,3,4] [] (by kernel_rfl) (fun _ _=>AW) (by exact (H.pick 6 [0,1,2,3,4,5] rfl)) rfl (by kernel_rfl) rfl rfl (Dv 5 (by kernel_rfl) rfl rfl (by kernel_rfl) (by kernel_rfl) (by kernel_rfl) rfl rfl rfl (Gc rfl (z:=1) (by kernel_rfl) rfl) (H.pick 6 [0,1,2,3,4,5] rfl) (Dv 6 (by kernel_rfl) rfl rfl (by kernel_rfl) (by kernel_rfl) (by kernel_rfl) rfl rfl rfl (JO rfl rfl rfl (r:=((pvs.length - 1:Nat):Int)) (by omega) (by omega)) (H.pick 6 [0,1,2,3,4,5] rfl) (Dv 7 (by kernel_rfl) rfl rfl (by kernel_rfl) (by kernel_rfl) (by kernel_rfl) rfl rfl rfl (AD rfl (z:=1) (j:=(pvs.length - 1)) (r:=(pvs.length - 1)) (by kernel_rfl) rfl rfl rfl (by omega) hat (by omega)) (H.pick 6 [0,1,2,3,4,5] rfl) (Dv 8 (by kernel_rfl) rfl rfl (by kernel_rfl) (by kernel_rfl) (by kernel_rfl) rfl rfl rfl (AR rfl rfl (by kernel_rfl) (fun _ hx=>(hx.rd 5 rfl (fun h q=>Ij hee q)).at hpv)) (H.pick 6 [0,1,2,3,4,5] rfl) (Cz [2] (by kernel_rfl) (by simp) (Au (BL rfl rfl rfl rfl rfl rfl (fun w=>call128 _ w) (Uv _ _ _ _ _ _ _ _ _ _ ke (by omega) (by omega)) H.f1 rfl ?_)))))));rintro _ w _ ⟨rfl,rfl⟩ H;replace H:=H.l6;refine Bn (fun _=>(H.pick 6 [1,0,2,3,4,5] rfl)) (Cz [9] (by kernel_rfl) (by simp) (Au (Ce rfl rfl rfl rfl (Fi 2 H rfl rfl (by kernel_rfl) rfl rfl (m:=256) (news:=(p.map u8)) (.inl (H.rd 4 rfl (fun h q=>hprd.le q))) (by simp[u8,Value.oneCell']) (by have:=hIn2.len;simp;omega) (k:=256) (by omega) (out:=((bs2.take (ke * 256)++p++bs2.drop (ke * 256+256)).map u8)) (by simp[hp256,List.take_of_length_le])) ?_)))
    rintro _ w ⟨rfl,H⟩;replace H:=H.l6;refine Bn (fun h=>absurd rfl h) (DK (by kernel_rfl) (gn (Zc 1 rfl ?_)));replace H:=H.f5.f5.f5.f5.f4.f5;refine gf ?_;intro _ hF;refine ⟨⟨S++[(Ent.ie ⟨ke,.slice ao pvs.length cc,pvs,ps,bo⟩)],(bs2.take (ke * 256)++p++bs2.drop (ke * 256+256))⟩,(hF.all rfl),⟨(by dsimp only;rw[List.map_append];exact H),?_⟩,?_⟩
    ·refine ⟨fun p hp=> ?_,?_⟩
     ·rcases List.mem_append.1 hp with hp|hp
      ·exact hS p hp
      ·simp at hp;subst hp;exact List.mem_map_of_mem hee
     ·have:=S8 hD hIn2 (p:=(Ent.ie ⟨ke,.slice ao pvs.length cc,pvs,ps,bo⟩)) (k:=ke) rfl hken
      rwa[hcp] at this
    ·(dsimp only;have:=DY hqx;rwa[show (S++[(Ent.ie ⟨ke,.slice ao pvs.length cc,pvs,ps,bo⟩)]).map (fun p:IE=>p.2.2)=(S.map fun p:IE=>p.2.2)++[bo] from by simp[Ent.ie]])
   ·obtain rfl:qx=none:=by simpa using h3
    refine Zc 2 rfl (gx (Zc 3 rfl ?_));have hfin:=V0 hIn2 hqx hS
    refine Z2 5 [1,1,0] H rfl (Jg rfl rfl (HX 3 (e:=207) H rfl rfl (by kernel_rfl) rfl) ?_);rintro _ w ⟨rfl,H⟩;replace H:=H.l6;refine Z3 10 [7,1,0] [D.left - 1] H rfl (by omega) (Ac rfl (Lq rfl rfl rfl) (Z4 11 [7,1] H rfl ?_));intro w H;refine Zr rfl ?_;replace H:=(H.mono 5 (B:=seps (([]:List Ent).map Ent.row)) rfl (fun h q=>⟨fun _=>0,fun i A hi=>by simp at hi⟩)).l6
    replace H:=H.f5.f5.f5.f5.f5;replace H:=(Sep.toDisk (D:=D.fl) (pd:=pd) (bd:=bd) (m:=m) (f0:=f0) (bs:=bs2) (es:=([]:List Ent)) (clk:=clk) (hq:=hq) (Γ:=FS rr m clk (IA (S.map fun p:IE=>p.2.2) none)::R) H (Zg hD (fun i hi=>Dsk.cont_len hD hi) hD.f1 hD.f2 (EE hD.f3) (by omega)) (hfin.f _ _ _ _ _)).l2
    exact ⟨_,.inr ⟨by simp_all,rfl,rfl⟩,H.perm 2 [0] rfl rfl⟩
open Go.RowKit
def wr1 (D:Dsk) (fua:Bool) (i:Nat) (p:List UInt8):Dsk:= { Dsk.ws { D with f2:=AY D.f2 } fua i [p] with left:=max 0 (D.left - 1) }
theorem IV (pd b off c:Nat) (D:Dsk) (x:Int) (fua:Bool) (p:List UInt8) (A:Ae) (hp:p.length=256) (hA:∀ h,A h→rdH 1 (.slice (some ⟨b,off,none⟩) 256 c) 256 (p.map u8) h) (hver:∀ i,(D.ver i).length≤1099511627776) (hx:0≤x∧x+1≤(D.n:Int)):
  Cn prog 88 [Pt_ pd,Iv_ x,.slice (some ⟨b,off,none⟩) 256 c,.bool fua] [diskA pd D,A] (fun v Γ=>(D.bad∧v=Iv_ 11∧Γ=[diskA pd D.wf,A])∨(¬ D.bad∧v=Iv_ 0∧Γ=[diskA pd (wr1 D fua x.toNat p),A])):=by
 have h:=Ol pd b off c D x fua [p] A (by simpa using hp) (by simp) hver (fun h q=>by simpa using hA h q)
 refine Cn.mono h ?_
 have hx':0≤x∧x+(([p]:List (List UInt8)).length:Int)≤(D.n:Int):=by simpa using hx
 rintro v Γ (⟨g,_⟩|⟨_,g,rfl,rfl⟩|⟨_,g,rfl,rfl⟩)
 ·exact absurd hx' g
 ·exact .inl ⟨g,rfl,rfl⟩
 ·exact .inr ⟨fun h=>by rcases h with h|h;exact g.1 h;exact g.2 h,rfl,rfl⟩
theorem GL (pd:Nat) (D:Dsk):Cn prog 87 [Pt_ pd] [diskA pd D] (fun v Γ=>v=Iv_ (D.n:Int)∧Γ=[diskA pd D]):=by
 refine Cn.mono (Cn.onDisk (post:=fun v Γ=>v=Iv_ (D.n:Int)∧Γ=[]) (pre:=[]) (fun hD bd m f0=> ?_)) ?_
 ·have hn2:=hD.n2
  refine Cn.mono (Ji pd bd m (D.n * 256) f0 D.f1 D.f2 D.f3 D.left D.cut (by omega)) ?_
  rintro v Γ ⟨rfl,rfl⟩
  exact ⟨[],⟨congrArg Iv_ (by omega),rfl⟩,rfl⟩
 ·rintro v Γ ⟨Γ',⟨rfl,rfl⟩,rfl⟩
  exact ⟨rfl,rfl⟩
theorem MQ (pd pt:Nat) (D:Dsk) (s:Sup) (hok:s.Ok (D.n:Int)) (hver:∀ i,(D.ver i).length≤1099511627776):Cn prog 90 [Pt_ pd,Pt_ pt,.agg #[Iv_ s.gen,Iv_ s.epoch,Iv_ s.pages,Iv_ s.start,Iv_ s.len,Iv_ s.head,Iv_ s.seq]] [diskA pd D,tblA pt] (fun v Γ=>(D.bad∧v=Iv_ 11∧Γ=[diskA pd D.wf,tblA pt])∨(¬ D.bad∧v=Iv_ 0∧Γ=[diskA pd (EG D s),tblA pt])):=by
 intro z R w H;replace H:=H.l2;have hn1:=H.says 0 rfl (fun h q=>(diskA.ok q).n1)
 have hn2:=H.says 0 rfl (fun h q=>(diskA.ok q).n2)
 have hsg:=Sup.get hok
 have hok2:=hok.2
 refine Ad func90 rfl ntmps90 rfl (Za 2 [] H rfl ?_);intro b1 w H;refine Zc 5 rfl (AG (Sep z _) (by kernel_rfl) (by kernel_rfl) H.drew (Iy 9 [0,7] [] rfl (by kernel_rfl) (CJ rfl rfl rfl rfl rfl (fun w=>call87 _ w) (v:=Iv_ (D.n:Int)) (cq (GL _ _) (by rintro _ _ ⟨rfl,rfl⟩;exact ⟨rfl,rfl⟩) 2 [1,0] [1,0] rfl rfl rfl rfl) (CJ rfl rfl rfl rfl rfl (fun w=>call86 _ w) (v:=Iv_ (if s.Ok (D.n:Int) then 0 else 1)) (cq (GH _ _ (by omega)) (by rintro _ _ ⟨rfl,rfl⟩;exact ⟨rfl,rfl⟩) 0 [] [] rfl rfl rfl rfl) (Br 2 [] rfl (by kernel_rfl) (AU (fun w H'=> ?_)))))));have H:=H'.l3;refine gn (Zc 1 rfl (Af rfl (fun h1=> ?_) (fun h1=> ?_)))
 ·exact absurd (if_pos hok) h1
 ·refine Z2 6 [0,7] H rfl (Aw rfl (call129 _) (Po _ _ (fun x hx=>hok.1 x hx)) H.f2 ?_);rintro _ w _ ⟨pw,rfl,rfl⟩ H;refine Z3 24 [4,0,2,0] [s.gen % 2] H rfl (by omega) (Aw rfl (call88 _) (IV _ _ _ _ _ _ _ (C2 s) _ (FZ s) (fun h q=>HD (lo:=0) (n:=256) (c:=256) (ys:=C2 s) q (FZ s) (by omega) (by omega) (by omega) (by rw[List.drop_zero];exact List.take_of_length_le (Nat.le_of_eq (FZ s)))) hver (by omega)) H.f3 ?_);rintro _ w _ (⟨hbad,rfl,rfl⟩|⟨hbad,rfl,rfl⟩) H'
  ·have H:=H'.l4;refine Zc 4 rfl (Zr rfl ?_);exact ⟨_,.inl ⟨hbad,rfl,rfl⟩,H.perm 4 [0,2] rfl rfl⟩
  ·have H:=H'.l4;refine Zc 4 rfl (Zr rfl ?_);exact ⟨_,.inr ⟨hbad,rfl,rfl⟩,H.perm 4 [0,2] rfl rfl⟩
open Go.RowKit
set_option maxHeartbeats 1000000 in
theorem Ya (pd pt:Nat) (D:Dsk) (hf1:D.f1=0) (x y0 y1:Sup) (ho0:y0.Ok (D.n:Int)) (ho1:y1.Ok (D.n:Int)) (g0:y0.gen % 2=0) (g1:y1.gen % 2=1) (c0:D.cont 0=C2 y0) (c1:D.cont 1=C2 y1) (hx:x=if y0.gen<y1.gen then y1 else y0):Cn prog 53 [Pt_ pd,Pt_ pt] [diskA pd D,tblA pt] (fun v Γ=>v= .tuple #[.agg #[Iv_ x.gen,Iv_ x.epoch,Iv_ x.pages,Iv_ x.start,Iv_ x.len,Iv_ x.head,Iv_ x.seq],Iv_ 0]∧Γ=[diskA pd D,tblA pt]):=by
 intro z R w H;replace H:=H.l2;have hn1:=H.says 0 rfl (fun h q=>(diskA.ok q).n1)
 have hn2:=H.says 0 rfl (fun h q=>(diskA.ok q).n2)
 have hs0:=Sup.get ho0
 have hs1:=Sup.get ho1
 have hp0:=ho0.2
 have hp1:=ho1.2
 refine Ad func53 rfl ntmps53 rfl (Za 2 [] H rfl ?_);intro b1 w H;refine Zc 14 rfl (z_E_ rfl (call87 _) (GL _ _) H.f1 ?_);intro w H;refine Z0 4 [0] rfl (Af rfl (fun h1=> ?_) (fun h1=> ?_))
 ·(exfalso;omega)
 ·refine Za 4 [] H rfl ?_;intro b2 w H;refine Zc 14 rfl (FU 3 (C5 (Z0 21 [3] rfl (Aw rfl (call75 _) (HJ _ _ _) H.f1 ?_))));rintro _ w _ (⟨hx,_,_⟩|⟨_,hx,_,_⟩|⟨_,_,g0,cap0,rest0,rfl,⟨cg0,cc0,cl0⟩,rfl⟩) H'
  ·exact absurd ⟨by omega,by omega⟩ hx
  ·(rw[hf1] at hx;cases hx)
  ·rw[diskA.f1 hf1] at H';have H:=H'.l5;refine Z5 25 [4,2,1,0,0,2] [1] H rfl (by omega) ?_;intro w H;refine gf (C5 (Z0 21 [3] rfl (Aw rfl (call75 _) (HJ _ _ _) H.f1 ?_)));rintro _ w _ (⟨hx,_,_⟩|⟨_,hx,_,_⟩|⟨_,_,g1,cap1,rest1,rfl,⟨cg1,cc1,cl1⟩,rfl⟩) H'
   ·exact absurd ⟨by omega,by omega⟩ hx
   ·(rw[hf1] at hx;cases hx)
   ·rw[diskA.f1 hf1] at H';have H:=H'.l6;refine Z5 25 [4,2,1,1,1,3] [2] H rfl (by omega) ?_;intro w H;refine gf (C5 (Z0 9 [4] rfl (gx (Zc 13 rfl (Ac rfl (AF rfl rfl (out:=[Iv_ (-1),Iv_ 0,Iv_ 0,Iv_ 0,Iv_ 0,Iv_ 0,Iv_ 0]) (by kernel_rfl)) (Za 0 [] H rfl ?_))))));intro b3 w H;refine Z4 11 [0,4,2] H rfl ?_;intro w H;refine FU 3 (C5 (Z0 14 [3] rfl (Ac rfl (Es (m:=2) rfl (by kernel_rfl) rfl rfl rfl (j:=0) rfl (u:= .slice (some ⟨g0,0,none⟩) 256 cap0) rfl) (Zc 8 rfl (z_E_ rfl (call95 _) (Jy _ _ _ _ (D.cont (0:Int).toNat) _ (fun h q=>D6 q (by rw[show D.cont (0:Int).toNat=C2 y0 from c0];exact FZ _) ⟨cg0,cc0,cl0⟩) y0 ho0.1 c0) H.f3.f6 ?_)))));intro w H;refine Za 3 [] H rfl ?_;intro b4 w H;refine Z4 5 [0] H rfl ?_;intro w H;refine AG (Sep z _) (by kernel_rfl) (by kernel_rfl) H.drew (Iy 4 [0,7] [] rfl (by kernel_rfl) (CJ rfl rfl rfl rfl rfl (fun w=>call87 _ w) (v:=Iv_ (D.n:Int)) (cq (GL _ _) (by rintro _ _ ⟨rfl,rfl⟩;exact ⟨rfl,rfl⟩) 6 [5,0,1,2,3,4] [1,2,3,4,5,0] rfl rfl rfl rfl) (CJ rfl rfl rfl rfl rfl (fun w=>call86 _ w) (v:=Iv_ (if y0.Ok (D.n:Int) then 0 else 1)) (cq (GH _ _ (by omega)) (by rintro _ _ ⟨rfl,rfl⟩;exact ⟨rfl,rfl⟩) 0 [] [] rfl rfl rfl rfl) (Br 3 [] rfl (by kernel_rfl) (Bj 68 rfl (fun h2=> ?_) (fun h2=> ?_))))))
    ·refine Hl 7 [0,0,0,0] [y0.gen % 2] rfl (by kernel_rfl) (by omega) (Bj 75 rfl (fun h3=> ?_) (fun h3=> ?_))
     ·refine BF 6 [0,0,0,1] (fun _ hx=>(AK (hx.blk 0 rfl) (AK (hx.blk 3 rfl) AW))) rfl (by kernel_rfl) rfl (AU (fun w H'=> ?_));have H:=H'.l8;refine gn (Zc 1 rfl (Af rfl (fun h4=> ?_) (fun h4=> ?_)))
      ·refine Z5 10 [0,7,3] [1] H rfl (by omega) ?_;intro w H;refine gf (C5 (Z0 14 [3] rfl (Ac rfl (Es (m:=2) rfl (by kernel_rfl) rfl rfl rfl (j:=1) rfl (u:= .slice (some ⟨g1,0,none⟩) 256 cap1) rfl) (Zc 8 rfl (z_E_ rfl (call95 _) (Jy _ _ _ _ (D.cont (1:Int).toNat) _ (fun h q=>D6 q (by rw[show D.cont (1:Int).toNat=C2 y1 from c1];exact FZ _) ⟨cg1,cc1,cl1⟩) y1 ho1.1 c1) H.f4.f2 ?_)))));intro w H;refine Za 3 [] H rfl ?_;intro b5 w H;refine Z4 5 [0] H rfl ?_;intro w H;refine AG (Sep z _) (by kernel_rfl) (by kernel_rfl) H.drew (Iy 4 [0,7] [] rfl (by kernel_rfl) (CJ rfl rfl rfl rfl rfl (fun w=>call87 _ w) (v:=Iv_ (D.n:Int)) (cq (GL _ _) (by rintro _ _ ⟨rfl,rfl⟩;exact ⟨rfl,rfl⟩) 7 [6,0,1,2,3,4,5] [1,2,3,4,5,6,0] rfl rfl rfl rfl) (CJ rfl rfl rfl rfl rfl (fun w=>call86 _ w) (v:=Iv_ (if y1.Ok (D.n:Int) then 0 else 1)) (cq (GH _ _ (by omega)) (by rintro _ _ ⟨rfl,rfl⟩;exact ⟨rfl,rfl⟩) 0 [] [] rfl rfl rfl rfl) (Br 3 [] rfl (by kernel_rfl) (Bj 68 rfl (fun h5=> ?_) (fun h5=> ?_))))))
       ·refine Hl 7 [0,0,0,0] [y1.gen % 2] rfl (by kernel_rfl) (by omega) (Bj 75 rfl (fun h6=> ?_) (fun h6=> ?_))
        ·refine BF 6 [0,0,0,1] (fun _ hx=>(AK (hx.blk 0 rfl) (AK (hx.blk 5 rfl) AW))) rfl (by kernel_rfl) rfl (AU (fun w H'=> ?_));have H:=H'.l9;refine gn (Zc 1 rfl (Af rfl (fun h7=> ?_) (fun h7=> ?_)))
         ·refine Z5 10 [0,7,5] [2] H rfl (by omega) ?_;intro w H;refine gf (C5 (Z0 9 [4] rfl (gx (Z2 10 [0,5,0,0] H rfl (Af rfl (fun h8=> ?_) (fun h8=> ?_))))))
          ·(exfalso;omega)
          ·refine Z4 10 [5,7,8] H rfl ?_;intro w H;refine Zl [8,7] H rfl ?_;obtain rfl:x=y1:=by rw[hx];first|exact if_pos (by omega)|exact if_neg (by omega)
           exact ⟨_,⟨rfl,rfl⟩,H.perm 9 [6,1] rfl rfl⟩
         ·refine Z1 7 [] [2] rfl (by omega) (gf (C5 (Z0 9 [4] rfl (gx (Z2 10 [0,5,0,0] H rfl (Af rfl (fun h9=> ?_) (fun h9=> ?_)))))))
          ·(exfalso;omega)
          ·refine Z4 10 [5,7,8] H rfl ?_;intro w H;refine Zl [8,7] H rfl ?_;obtain rfl:x=y0:=by rw[hx];first|exact if_pos (by omega)|exact if_neg (by omega)
           exact ⟨_,⟨rfl,rfl⟩,H.perm 9 [6,1] rfl rfl⟩
        ·(exfalso;omega)
       ·exact absurd (if_pos ho1) h5
      ·(exfalso;omega)
     ·(exfalso;omega)
    ·exact absurd (if_pos ho0) h2
open Go.RowKit
theorem S9 (bb m clk:Nat) (l:List IE) (hold:∀ p∈l,p.2.2<clk) (hn:(l.map fun p:IE=>p.2.2).Nodup):Uw prog 150 [Pt_ bb] [blk bb [.map (some m)] 101,Ay m l clk] (XY l) [] (Pl l):=by
 intro z l_ J hY w H'
 have H:=H'.l2
 refine IM (args:=[.func (.yield l_) #[] #[],Pt_ bb]) func150 rfl rfl 14 ntmps150 rfl ?_
 refine Cq ?_
 refine BQ ?_
 refine s_do rfl rfl rfl (AZ rfl rfl (by kernel_rfl) (AB (H.cel 0 rfl 0 rfl))) ?_
 refine Eo rfl rfl rfl (GC 1 (e:=79) H rfl rfl (by kernel_rfl) rfl) ?_
 rintro _ w ⟨rr,rfl,H'⟩
 have H:=H'.l3
 refine AH ?_
 refine Dw ?_
 refine J3 (σ:=List IE) (fun s=>[(0,.func (.yield l_) #[] #[]),(5,Pt_ rr)])
  (fun s w=>Sep z (FS rr m clk (s.map fun p:IE=>p.2.2)::blk bb [.map (some m)] 101::Ay m l clk::J s) w∧(True)) (fun s=>(BU l (s.map fun p:IE=>p.2.2)).length) ([])
  (fun _ hF=>(hF.all rfl)) ⟨H,trivial⟩ ?_
 clear H;rintro s w ⟨H',hI⟩
 have H:=H'.l3
 refine Cq ?_
 refine BQ ?_
 refine Eo rfl rfl rfl (HB 0 2 H rfl rfl rfl rfl hold) ?_
 rintro _ w ⟨qx,rfl,hqx,H'⟩
 have H:=H'.l3
 refine s_do rfl rfl rfl (Jk rfl rfl) ?_
 refine AH ?_
 refine Cq ?_
 refine HW rfl (fun h1=> ?_) (fun h1=> ?_)
 ·-- yes:qx.isSome
  obtain ⟨p1,rfl⟩:=Option.isSome_iff_exists.1 h1
  refine FF ?_
  refine Dw ?_
  refine Cq ?_
  refine BQ ?_
  refine s_do rfl rfl rfl (GD (p:=p1) rfl rfl (AB ⟨H.bk 0 rfl,H.bk 2 rfl⟩) (CB hqx).1 hn) ?_
  refine s_do rfl rfl rfl (EC rfl rfl rfl) ?_
  refine s_do rfl rfl rfl (Ep rfl rfl) ?_
  refine AH ?_
  refine Cq ?_
  refine IL ?_
  refine DO rfl rfl rfl (CA rfl rfl) ?_
  refine DO rfl rfl rfl (CA rfl rfl) ?_
  replace H:=H.f2.f2
  refine J5 rfl rfl rfl rfl rfl rfl (hY s _ (s++[p1]) [FS rr m clk ((s.map fun p:IE=>p.2.2)++[p1.2.2])] ⟨p1,hqx,rfl,rfl⟩ _ H) ?_
  rintro _ w ⟨rfl,H'⟩
  refine ⟨_,rfl,?_⟩
  have H:=H'.l3
  refine DO rfl rfl rfl (I6 rfl rfl) ?_
  refine O8 ?_
  refine G5 rfl ?_
  refine FF ?_
  replace H:=H.f1.f1.f2
  intro _ hF
  refine ⟨(s++[p1]),(hF.all rfl),⟨(by rw[List.map_append];exact H),?_⟩,?_⟩
  ·trivial
  ·(have:=DY hqx;rwa[show (s++[p1]).map (fun p:IE=>p.2.2)=(s.map fun p:IE=>p.2.2)++[p1.2.2] from by simp])
 ·-- no:qx.isSome
  obtain rfl:qx=none:=by simpa using h1
  refine J2 ?_
  refine Ht ?_
  exact fun _ hF=>⟨hF.defers,s,hqx,H.perm 3 [1,2] rfl rfl⟩
theorem MR (bb m clk:Nat) (l:List IE) (hold:∀ p∈l,p.2.2<clk) (hn:(l.map fun p:IE=>p.2.2).Nodup) (hll:l.length≤1099511627776):Cn prog 176 [.slice none 0 0,.func (.func 150) #[] #[Pt_ bb]] [blk bb [.map (some m)] 101,Ay m l clk] (fun v Γ=>∃ s:List IE,s.Perm l∧Γ=[blk bb [.map (some m)] 101,Ay m l clk,grow 3 1 v s.length (kC s)]):=by
 intro z R w H';have H:=H'.l2;refine L9 func176 rfl 13 ntmps176 rfl (AO (AC (Eo rfl rfl rfl (Ge H rfl rfl (cs:=[.slice none 0 0]) rfl) ?_)));rintro _ w ⟨b1,rfl,H'⟩;have H:=H'.l3;refine BP 1 rfl rfl (AH (AO (AO (AC (BP 1 rfl rfl (AH (E2 ?_)))))));have H':=H.nilg 3 1
 have H:=H'.l4;replace H:=H.f1;have H':=H.toVec (l:=l) (s:=[]) (by simp) (by simp)
 have H:=H'.l3;replace H:=H.f2.f2;have H':=Sep.swap (As:=[blk bb [.map (some m)] 101,Ay m l clk]) (Bs:=(vecA b1 l []::R)) H;clear H
 refine Se (fun s=>(vecA b1 l s::R)) rfl (fun u w=>call150 u w) rfl (S9 bb m clk l hold hn) H' ?_ ?_
 ·rintro ro s v s2 ⟨p,hp,rfl,rfl⟩ w;refine BQ (BP 1 rfl rfl (AH ?_));refine fun a hF=>⟨rfl,fun F w H'=> ?_⟩
  revert a hF;have H:=H'.l1;obtain ⟨hps,v1,H'⟩:=H.vec;clear H;have H:=H'.l2;have sv1:=H.says 1 rfl (fun h q=>q.slc)
  have hsl:=Jx hps
  refine Dw (BQ (FQ 2 [0] (AK (H.blk 0 rfl) AW) rfl (by kernel_rfl) rfl (Eo rfl rfl rfl (AV H rfl (by kernel_rfl) (Elt.mk (P:=prog) (e:=3) (z:=Iv_ 0) (sz:=1) (by_:=8) (by kernel_rfl) rfl (by omega) (by omega)) rfl (by decide) (by decide) (out:=[Iv_ p.1]) (by kernel_rfl)) ?_)));rintro _ w ⟨b2,rfl,H'⟩;have H:=H'.l3;refine Eo rfl rfl rfl (Bb 2 H rfl rfl (by kernel_rfl) (Elt.mk (P:=prog) (e:=3) (z:=Iv_ 0) (sz:=1) (by_:=8) (by kernel_rfl) rfl (by omega) (by omega)) rfl rfl (H.rd 0 rfl (fun h q=>q.rd (by omega) (by omega) (by simp) rfl)) (by simp[Value.oneCell']) (by omega)) ?_;rintro v3 w H';have H':Sep z (blk b2 [Iv_ p.1] 3::blk b1 [v1] 74::grow 3 1 v3 (s.length+1) (kC s++[Iv_ p.1])::(R++F)) w:=H'
  have ev3:(kC s++[Iv_ p.1]:List Value)=kC (s++[p]):=VD s p
  rw[ev3] at H';rw[show (s.length+1:Nat)=(s++[p]).length from by simp] at H';have H:=H'.l3;have sv3:=H.says 2 rfl (fun h q=>q.slc)
  refine Fd rfl rfl (RP 1 H rfl rfl rfl rfl sv3.cells sv3.one (by kernel_rfl)) ?_;rintro w H';have H:=H'.l3;refine AH ?_;replace H:=H.d;have hp2:=Fg hps hp
  exact fun _ _=>H.toVec hp2.1 hp2.2
 ·rintro D0 w s hfin H';have H:=H'.l2;replace H:=H.f1;obtain ⟨hps,v1,H'⟩:=H.vec;clear H;have H:=H'.l3;have sv1:=H.says 1 rfl (fun h q=>q.slc)
  refine AO (AC (FQ 2 [0] (AK (H.blk 0 rfl) AW) rfl (by kernel_rfl) rfl (AH (Ek ?_))));replace H:=H.f2;refine Md H (rs:=[.tmp 4]) rfl [v1] (fun _=>⟨rfl,trivial⟩) (v:=v1) rfl (fun w H'=> ?_);clear H;have H:=H'.l2;have H':=Sep.swap (As:=grow 3 1 v1 s.length (kC s)::R) (Bs:=[blk bb [.map (some m)] 101,Ay m l clk]) (H.pick 2 [1] rfl)
  exact ⟨[blk bb [.map (some m)] 101,Ay m l clk,grow 3 1 v1 s.length (kC s)],⟨s,Gr hn hps hfin,rfl⟩,H'⟩
theorem Or (m:Nat):Cn prog 106 [.map (some m)] [] (fun v Γ=>∃ bb,v= .func (.func 150) #[] #[Pt_ bb]∧Γ=[blk bb [.map (some m)] 101]):=by
 intro z R w H;replace H:=H.l0;refine Ad func106 rfl ntmps106 rfl (Za 2 [] H rfl ?_);intro b1 w H;refine Zc 5 rfl (Ac rfl (FD rfl rfl rfl) (Zc 4 rfl (Zr rfl ?_)));exact ⟨_,⟨b1,rfl,rfl⟩,H⟩
theorem Pr (bb m clk:Nat) (l:List IE) (hold:∀ p∈l,p.2.2<clk) (hn:(l.map fun p:IE=>p.2.2).Nodup) (hll:l.length≤1099511627776):Cn prog 149 [.func (.func 150) #[] #[Pt_ bb]] [blk bb [.map (some m)] 101,Ay m l clk] (fun v Γ=>∃ s:List IE,s.Perm l∧Γ=[blk bb [.map (some m)] 101,Ay m l clk,grow 3 1 v s.length (kC s)]):=by
 intro z R w H;replace H:=H.l2;refine Ad func149 rfl ntmps149 rfl (Zc 8 rfl (Aw rfl (call176 _) (MR _ _ _ _ hold hn hll) H ?_));rintro v2 w _ ⟨s,hs,rfl⟩ H;replace H:=H.l3;have sv2:=H.says 2 rfl (fun h q=>q.slc)
 refine Zc 4 rfl (Zr rfl ?_);exact ⟨_,⟨s,hs,rfl⟩,H⟩
theorem KR (bb m clk:Nat) (l:List IE) (hold:∀ p∈l,p.2.2<clk) (hn:(l.map fun p:IE=>p.2.2).Nodup) (hll:l.length≤1099511627776):Cn prog 105 [.func (.func 150) #[] #[Pt_ bb]] [blk bb [.map (some m)] 101,Ay m l clk] (fun v Γ=>∃ s:List IE,s.Perm l∧Γ=[grow 3 1 v ((s.map fun p:IE=>p.1).mergeSort (fun x y=>decide (x≤y))).length (((s.map fun p:IE=>p.1).mergeSort (fun x y=>decide (x≤y))).map Iv_),blk bb [.map (some m)] 101,Ay m l clk]):=by
 intro z R w H;replace H:=H.l2;refine Ad func105 rfl ntmps105 rfl (Zc 8 rfl (Aw rfl (call149 _) (Pr _ _ _ _ hold hn hll) H ?_));rintro v2 w _ ⟨s,hs,rfl⟩ H;replace H:=H.l3;have sv2:=H.says 2 rfl (fun h q=>q.slc)
 refine Zc 6 rfl ?_;have hsl:(s.map fun p:IE=>p.1).length=s.length:=by simp
 have hsp:=hs.length_eq
 replace H:=(H.mono 2 (B:=grow 3 1 v2 (s.map fun p:IE=>p.1).length ((s.map fun p:IE=>p.1).map Iv_)) rfl (fun h q=>by rw[hsl,List.map_map];exact q)).l3
 refine Aw rfl (call63 _) (QV _ _ (by omega)) H.f2 ?_;rintro _ w _ ⟨rfl,ys,rfl,rfl⟩ H;refine Zc 9 rfl (Zr rfl ?_);exact ⟨_,⟨s,hs,rfl⟩,H⟩
open Go.RowKit
def Ew (f:Bh) (ks:List Int):Prop:=ks.Pairwise (· < ·)∧∀ k:Int,k∈ks↔0≤k∧(f k.toNat).isSome=true
def pgLst (f:Bh) (ks:List Int):List (Nat×Pg):=ks.map fun k=>(k.toNat,(f k.toNat).getD noPg)
theorem DT {f:Bh} {ks:List Int} (h:Ew f ks) (n:Nat) (p:Pg):(n,p)∈pgLst f ks↔f n=some p:=by
 unfold pgLst
 rw[List.mem_map]
 constructor
 ·rintro ⟨k,hk,e⟩
  obtain ⟨h1,h2⟩:=(h.2 k).1 hk
  obtain ⟨q,hq⟩:=Option.isSome_iff_exists.1 h2
  rw[hq] at e
  simp only[Option.getD_some,Prod.mk.injEq] at e
  obtain ⟨e1,e2⟩:=e
  rw[←e1,hq,e2]
 ·intro e
  refine ⟨(n:Int),(h.2 _).2 ⟨by omega,by rw[Int.toNat_natCast,e];rfl⟩,?_⟩
  rw[Int.toNat_natCast,e];rfl
theorem Ei {f:Bh} {ks:List Int} (h:Ew f ks):((pgLst f ks).map Prod.fst).Nodup:=by
 unfold pgLst
 rw[List.map_map]
 refine List.pairwise_map.2 (List.Pairwise.imp_of_mem ?_ h.1)
 intro a b ha hb hab
 have h1:=((h.2 a).1 ha).1
 have h2:=((h.2 b).1 hb).1
 simp only[Function.comp_apply]
 omega
theorem Ta {f:Bh} {ks:List Int} {j n:Nat} {p:Pg} (hj:ks[j]? =some (n:Int)) (hf:f n=some p):(pgLst f ks)[j]? =some (n,p):=by
 unfold pgLst
 rw[List.getElem?_map,hj]
 simp[hf]
theorem V1 {D:Dsk} {l:List (Nat×Pg)} {j n:Nat} {p:Pg} (h:l[j]? =some (n,p)):wr1 (hwD D (l.take j)) false ((2:Int)+(n:Int)).toNat (DG n p)=hwD D (l.take (j+1)):=by
 rw[List.take_add_one,h]
 show _=hwD D (l.take j++[(n,p)])
 rw[SH,show ((2:Int)+(n:Int)).toNat=2+n from by omega]
 rfl
def Dsk.flb (D:Dsk):Prop:=D.f3=1∨(D.cut=true∧D.left=0)
def Ke (D:Dsk) (l:List (Nat×Pg)) (c:Int) (D2:Dsk):Prop:=
 (∃ j,(hwD D (l.take j)).bad∧c=11∧D2=(hwD D (l.take j)).wf)∨((hwD D l).flb∧c=12∧D2= { hwD D l with f3:=AY (hwD D l).f3 })∨((hwD D l).fl.bad∧c=11∧D2=(hwD D l).fl.wf)
theorem PgsIn.small {f:Bh} {es:List PgE} {clk:Nat} {hq:Hp} (h:PgsIn f es clk hq) (hfb:∀ n,(f n).isSome=true→n<1024):es.length≤1024:=by
 have:=If (s:=es.map PgE.n) (l:=List.range 1024) h.nodup (fun k hk=>by
  obtain ⟨e,he,rfl⟩:=List.mem_map.1 hk
  exact List.mem_range.2 (hfb _ (by rw[(h.ent e he).1];rfl)))
 simpa using this
theorem Tc (ps pd pt md:Nat) (x:Sup) (lp mo:Value) (un:Bool) (f:Bh) (hq:Hp) (hfb:∀ n,(f n).isSome=true→n<1024):Cn prog 98 [Pt_ ps] [stB ps pd pt x lp md un mo,pgsA md f hq] (fun v Γ=>(∃ ks:List Int,Ew f ks∧Γ=[grow 3 1 v ks.length (ks.map Iv_),stB ps pd pt x lp md un mo,pgsA md f hq])):=by
 intro z R w H;replace H:=H.l2;obtain ⟨es,clk,hpg,H⟩:=H.pgs 1 rfl;replace H:=H.l2;have hsz:es.length≤1099511627776:=by have:=hpg.small hfb;omega
 refine Ad func98 rfl ntmps98 rfl (Z2 11 [10,0,0] H rfl (Aw rfl (call106 _) (Or _) H ?_));rintro _ w _ ⟨bb,rfl,rfl⟩ H;replace H:=H.l3;have hmm:∀ h:IE→Nat,(es.map PgE.ie).map h=es.map fun e=>h e.ie:=fun h=>by simp
 refine Aw rfl (call105 _) (KR _ _ _ _ (fun p hp=>by obtain ⟨e,he,rfl⟩:=List.mem_map.1 hp;exact hpg.clk e he) (by rw[hmm];exact hpg.born) (by simp;exact hsz)) H.f2.f1 ?_;rintro v2 w _ ⟨s,hs,rfl⟩ H;replace H:=H.l4;have hks:Ew f ((s.map fun p:IE=>p.1).mergeSort (fun x y=>decide (x≤y))):=hpg.keys hs
 refine Zc 4 rfl (Zr rfl ?_);replace H:=(H.toPgs 2 rfl hpg).l4
 exact ⟨_,⟨_,hks,rfl⟩,H.perm 4 [0,3,2] rfl rfl⟩
open Go.RowKit
set_option maxHeartbeats 2000000 in
theorem Td (ps pd pt md:Nat) (x:Sup) (lp mo:Value) (un:Bool) (f:Bh) (hq:Hp) (y:Sup) (D:Dsk) (hfb:∀ n,(f n).isSome=true→n<1024) (hfn:∀ n,(f n).isSome=true→2+n<D.n) (hoky:y.Ok (D.n:Int)) (hver:∀ i,(D.ver i).length≤1000000000000):Cn prog 55 [Pt_ ps,.agg #[Iv_ y.gen,Iv_ y.epoch,Iv_ y.pages,Iv_ y.start,Iv_ y.len,Iv_ y.head,Iv_ y.seq]] [stB ps pd pt x lp md un mo,tblA pt,diskA pd D,pgsA md f hq,poolA hq] (fun v Γ=>∃ ks:List Int,Ew f ks∧((v=Iv_ 0∧Γ=[stB ps pd pt y lp md un mo,tblA pt,diskA pd (EG (hwD D (pgLst f ks)).fl y),pgsA md CV hq,poolA hq])∨(∃ (c:Int) (D2:Dsk),c≠0∧Ke D (pgLst f ks) c D2∧v=Iv_ c∧Γ=[stB ps pd pt x lp md un mo,tblA pt,diskA pd D2,pgsA md f hq,poolA hq]))):=by
 intro z R w H;replace H:=H.l5;have hn2d:=H.says 2 rfl (fun h q=>(diskA.ok q).n2)
 refine Ad func55 rfl ntmps55 rfl (Za 2 [] H rfl ?_);intro b1 w H;refine Zc 7 rfl (Aw rfl (call98 _) (Tc _ _ _ _ _ _ _ _ _ _ hfb) H.f4.f2 ?_);rintro v3 w _ ⟨ks,hks,rfl⟩ H;replace H:=H.l7;have sv3:=H.says 0 rfl (fun h q=>q.slc)
 have hksm:=H.says 0 rfl (fun h q=>q.rd.small)
 obtain ⟨ao3,c3,rfl⟩:=sv3;have H:Sep z (grow 3 1 (.slice ao3 ks.length c3) ks.length (ks.map Iv_)::stB ps pd pt x lp md un mo::pgsA md f hq::blk b1 [Iv_ y.gen,Iv_ y.epoch,Iv_ y.pages,Iv_ y.start,Iv_ y.len,Iv_ y.head,Iv_ y.seq] 103::tblA pt::diskA pd D::poolA hq::R) w:=H
 obtain ⟨es,clk,hpg,H⟩:=H.pgs 2 rfl;replace H:=H.l7;refine Zc 5 rfl ?_;refine AJ (σ:=Nat) (fun j=>[(15,Iv_ (j:Int)),(0,Pt_ ps),(3,Pt_ b1),(13,.slice ao3 ks.length c3),(14,Iv_ (ks.length:Int))])
   (fun j w=>Sep z (grow 3 1 (.slice ao3 ks.length c3) ks.length (ks.map Iv_)::stB ps pd pt x lp md un mo::Ay md (es.map PgE.ie) clk::blk b1 [Iv_ y.gen,Iv_ y.epoch,Iv_ y.pages,Iv_ y.start,Iv_ y.len,Iv_ y.head,Iv_ y.seq] 103::tblA pt::diskA pd (hwD D ((pgLst f ks).take j))::poolA hq::R) w∧(j≤ks.length)) (fun j=>ks.length - j) 0
   (fun _ hF=>(hF.co rfl (by go_num) (hF.all rfl))) ⟨H,by omega⟩ ?_
 clear H;rintro j w ⟨H',hI⟩;have H:=H'.l7;have hjn:=hI;clear hI
 refine Z0 6 [0] rfl (Af rfl (fun h1=> ?_) (fun h1=> ?_))
 ·have hjlt:j<ks.length:=by omega
  refine Zc 6 rfl ?_;obtain ⟨x,hx⟩:∃ x,ks[j]? =some x:=⟨_,List.getElem?_eq_getElem (by omega)⟩;obtain ⟨hx0,hxs⟩:=(hks.2 x).1 (List.mem_of_getElem? hx);obtain ⟨n,rfl⟩:∃ n:Nat,x=(n:Int):=⟨x.toNat,by omega⟩;rw[Int.toNat_natCast] at hxs;obtain ⟨p,pv,hfp,hpok,hpr,hgm⟩:∃ (p:Pg) (v:Value),f n=some p∧p.Ok∧rdH 1 v 240 (p.body.map u8) hq∧Cl (es.map PgE.ie) (n:Int)=some (.agg #[Iv_ p.kind,v]):=by
    rcases hpg.get n with ⟨q,_⟩|q
    · rw[q] at hxs;cases hxs
    · exact q
  have spv:Slc pv 240:=hpr.slc
  have hn:=hfb n hxs
  have hn2:=hfn n hxs
  have hat3:=(H.rd 0 rfl (fun h q=>q.rd)).at (j:=j) (u:=Iv_ (n:Int)) (by simp[hx])
  have hpk:=hpok.1
  have hverj:∀ i,((hwD D ((pgLst f ks).take j)).ver i).length≤1099511627776:=fun i=>by have h1:=MF ((pgLst f ks).take j) D i ((Ei hks).sublist ((List.take_sublist _ _).map _));have h2:=hver i;omega
  refine Ac rfl (AD rfl (z:=1) (j:=j) (r:=j) (by kernel_rfl) rfl rfl rfl (by omega) hat3 (by omega)) (Ac rfl (AR rfl rfl (by kernel_rfl) (AB hat3)) (Zc 4 rfl ?_));replace H:=H.f2.f2;refine AI (Sep z (stB ps pd pt x lp md un mo::Ay md (es.map PgE.ie) clk::R)) 18 rfl (by kernel_rfl) (Bc H fun w H'=> ?_)
  have H:=H'.l7;refine AM [0,1,2,3,4,5,6,7,8,9] [1,0,0,10,0,0] [] (by exact (H.pick 7 [0,1] rfl)) rfl (by kernel_rfl) rfl (B4 10 rfl (by kernel_rfl) (by kernel_rfl) (by kernel_rfl) rfl rfl rfl (E5 (e:=79) (zv:= .agg #[Iv_ 0,.slice none 0 0]) rfl (by kernel_rfl) (by kernel_rfl) rfl rfl (fun _ hx=>hx.bk 1 rfl)) (H.pick 7 [0,1] rfl) (Al 30 (v:= .agg #[Iv_ p.kind,pv]) rfl (by rw[hgm];rfl) (B4 11 rfl (by kernel_rfl) (by kernel_rfl) (by kernel_rfl) rfl rfl rfl (AF rfl rfl (out:=[Iv_ (n:Int),Iv_ p.kind,pv]) (by kernel_rfl)) (H.pick 7 [0,1] rfl) (Av [12] (by kernel_rfl) (by simp) (Au (BL rfl rfl rfl rfl rfl rfl (fun w=>call99 _ w) (KK _ _ _ _ p.body _ (fun h q=>by rw[hpok.2];exact hpr.le q)) H.f6.f5 rfl ?_))))));rintro _ w _ (⟨hbad,rfl,rfl⟩|⟨_,pw,rfl,rfl⟩) H'
  ·exact absurd ⟨⟨by omega,by omega⟩,hpok.1,hpok.2⟩ hbad
  ·have H:=H'.l8;refine Ap (H.pick 8 [3,4] rfl) (AM [13,14,15,16,17] [] [] (by exact (H.pick 8 [3,4] rfl)) rfl (by kernel_rfl) rfl (a_done (by kernel_rfl) (gn (Z3 20 [4,0,3,0] [(2:Int)+(n:Int)] H rfl (by omega) (Aw rfl (call88 _) (IV _ _ _ _ _ _ _ (DG n p) _ (E9 hpok) (fun h q=>HD (lo:=0) (n:=256) (c:=256) (ys:=DG n p) q (E9 hpok) (by omega) (by omega) (by omega) (by rw[List.drop_zero];exact List.take_of_length_le (Nat.le_of_eq (E9 hpok)))) hverj (by rw[Ev];omega)) H.f7 ?_)))));rintro _ w _ (⟨hbad,rfl,rfl⟩|⟨hbad,rfl,rfl⟩) H'
   ·have H:=H'.l8;refine Z0 17 [3] rfl (Zr rfl ?_);replace H:=(H.toPgs 5 rfl hpg).l8
    exact ⟨_,⟨ks,hks,.inr ⟨_,_,by decide,.inl ⟨j,hbad,rfl,rfl⟩,rfl,rfl⟩⟩,H.perm 8 [4,2,0,5,3] rfl rfl⟩
   ·have H:=H'.l8;refine Z1 17 [4] [(j:Int)+1] rfl (by omega) ?_;replace H:=H.f1.d.f2.f1.f2.f6.f5.f5.f6;refine gf ?_;intro _ hF;refine ⟨(j+1),(hF.co rfl (by go_num) (hF.all rfl)),⟨(by rw[←V1 (Ta hx hfp)];exact H),?_⟩,?_⟩
    ·omega
    ·omega
 ·obtain rfl:j=ks.length:=by omega
  refine Zc 2 rfl (gx (Zc 4 rfl ?_));have htk:(pgLst f ks).take ks.length=pgLst f ks:=List.take_of_length_le (by simp only[pgLst,List.length_map];omega)
  rw[htk] at H;have H:Sep z (grow 3 1 (.slice ao3 ks.length c3) ks.length (ks.map Iv_)::stB ps pd pt x lp md un mo::Ay md (es.map PgE.ie) clk::blk b1 [Iv_ y.gen,Iv_ y.epoch,Iv_ y.pages,Iv_ y.start,Iv_ y.len,Iv_ y.head,Iv_ y.seq] 103::tblA pt::diskA pd (hwD D (pgLst f ks))::poolA hq::R) w:=H
  refine Z2 5 [0,1,0] H rfl (Aw rfl (call89 _) (GK _ _) H.f5 ?_);rintro _ w _ (⟨hfb_,rfl,rfl⟩|⟨hfb_,rfl,rfl⟩) H'
  ·have H:=H'.l7;refine Z0 17 [3] rfl (Zr rfl ?_);replace H:=(H.toPgs 3 rfl hpg).l7
   exact ⟨_,⟨ks,hks,.inr ⟨_,_,by decide,.inr (.inl ⟨hfb_,rfl,rfl⟩),rfl,rfl⟩⟩,H.perm 7 [2,5,0,3,6] rfl rfl⟩
  ·have H:=H'.l7;refine Z0 14 [4] rfl ?_;replace H:=H.f4.f3;refine AI (Sep z (stB ps pd pt x lp md un mo::blk b1 [Iv_ y.gen,Iv_ y.epoch,Iv_ y.pages,Iv_ y.start,Iv_ y.len,Iv_ y.head,Iv_ y.seq] 103::R)) 11 rfl (by kernel_rfl) (Bc H fun w H'=> ?_)
   have H:=H'.l7;refine AM [0,1,2,3,4,5,6,7,8] [0,0,0,1,0,0,1,7] [] (by exact (H.pick 7 [0,1] rfl)) rfl (by kernel_rfl) rfl (Av [9] (by kernel_rfl) (by simp) (Au (BL rfl rfl rfl rfl rfl rfl (fun w=>call90 _ w) (MQ _ _ _ y (by show y.Ok ((hwD D (pgLst f ks)).n:Int);rw[Ev];exact hoky) (fun i=>by show ([]:List (List UInt8)).length≤_;simp)) H.f5.f3 rfl ?_)));rintro _ w _ (⟨hsb,rfl,rfl⟩|⟨hsb,rfl,rfl⟩) H'
   ·have H:=H'.l7;refine Ap (H.pick 7 [2,3] rfl) (AM [10] [] [] (by exact (H.pick 7 [2,3] rfl)) rfl (by kernel_rfl) rfl (a_done (by kernel_rfl) (gn (Z0 15 [3] rfl (Zr rfl ?_)))));replace H:=(H.toPgs 5 rfl hpg).l7
    exact ⟨_,⟨ks,hks,.inr ⟨_,_,by decide,.inr (.inr ⟨hsb,rfl,rfl⟩),rfl,rfl⟩⟩,H.perm 7 [2,1,0,5,6] rfl rfl⟩
   ·have H:=H'.l7;refine Ap (H.pick 7 [2,3] rfl) (AM [10] [] [] (by exact (H.pick 7 [2,3] rfl)) rfl (by kernel_rfl) rfl (a_done (by kernel_rfl) (gn (Z4 25 [4,3,7,2,2,10,2,0] H rfl ?_))));intro w H;refine Jg rfl rfl (HX 5 (e:=79) H rfl rfl (by kernel_rfl) rfl) ?_;rintro _ w ⟨rfl,H⟩;replace H:=H.l7;refine Zc 8 rfl (Zr rfl ?_);replace H:=(H.toPgs 5 rfl (PgsIn.none hq clk)).l7
    exact ⟨_,⟨ks,hks,.inl ⟨rfl,rfl⟩⟩,H.perm 7 [2,1,0,5,6] rfl rfl⟩
open Go.RowKit
theorem V3 (ps pd pt md:Nat) (x:Sup) (lp mv:Value) (un:Bool):Cn prog 61 [Pt_ ps] [stB ps pd pt x lp md un mv] (fun v Γ=>v= .tuple #[]∧Γ=[stB ps pd pt x lp md false (.map none)]):=by
 intro z R w H;replace H:=H.l1;refine Ad func61 rfl ntmps61 rfl (Z4 10 [11,0,12,0] H rfl ?_);intro w H;refine Zf rfl ?_;exact ⟨_,⟨rfl,rfl⟩,H⟩
theorem V4 (ps pd pt md:Nat) (x:Sup) (lp mv:Value):Cn prog 29 [Pt_ ps] [stB ps pd pt x lp md false mv] (fun v Γ=>v=Iv_ 0∧∃ m,Γ=[stB ps pd pt x lp md true (.map (some m)),Ay m [] 0]):=by
 intro z R w H;replace H:=H.l1;refine Ad func29 rfl ntmps29 rfl (Z4 28 [11,0,0,11,0] H rfl ?_);intro w H;refine AL rfl (Fj H rfl) ?_;rintro _ w ⟨m1,rfl,H⟩;replace H:=H.l2;refine Z4 11 [12,1] H rfl ?_;intro w H;refine Zr rfl ?_;exact ⟨_,⟨rfl,m1,rfl⟩,H.perm 2 [1,0] rfl rfl⟩
theorem Ot (ps pd pt md:Nat) (x:Sup) (lp mv:Value) (un:Bool):Cn prog 57 [Pt_ ps] [stB ps pd pt x lp md un mv] (fun v Γ=>v= .agg #[Iv_ x.gen,Iv_ x.epoch,Iv_ x.pages,Iv_ x.start,Iv_ x.len,Iv_ x.head,Iv_ x.seq]∧Γ=[stB ps pd pt x lp md un mv]):=by
 intro z R w H;replace H:=H.l1;refine Ad func57 rfl ntmps57 rfl (Za 2 [] H rfl ?_);intro b1 w H;refine Z4 12 [2,1,7,0] H rfl ?_;intro w H;refine Zl [0,7] H rfl ?_;exact ⟨_,⟨rfl,rfl⟩,H.perm 2 [1] rfl rfl⟩
theorem F4 (p:Pg) (bv:Value) (A:Ae) (hA0:∀ h,A h→rdH 1 bv 240 (p.body.map u8) h) (hp:p.Ok):Cn prog 65 [.agg #[Iv_ p.kind,bv]] [A] (fun v Γ=>∃ v1,v= .agg #[Iv_ p.kind,v1]∧Γ=[grow 5 1 v1 240 (p.body.map u8),A]):=by
 intro z R w H;replace H:=H.l1;obtain ⟨b,o,c,rfl⟩:=H.says 0 rfl (fun h q=>(hA0 h q).sl (by simp[hp.2]));have hA:=hA0
 refine Ad func65 rfl ntmps65 rfl (Za 2 [] H rfl ?_);intro b1 w H;refine Za 0 [] H rfl ?_;intro b2 w H;refine Zc 3 rfl ?_;replace H:=H.f1.f2;refine AI (Sep z (A::blk b1 [Iv_ p.kind,.slice (some ⟨b,o,none⟩) 240 c] 79::R)) 7 rfl (by kernel_rfl) (Bc H fun w H'=> ?_)
 have H:=H'.l3;refine AM [0,1,2,3] [0,1,0,1,1,0] [] (by exact (H.pick 3 [0,1] rfl)) rfl (by kernel_rfl) rfl (Av [4] (by kernel_rfl) (by simp) (Au (BL rfl rfl rfl rfl rfl rfl (fun w=>call104 _ w) (SP _ _ 240 _ p.body _ hA (by omega)) H rfl ?_)));rintro v1 w _ ⟨_,rfl,rfl⟩ H;replace H:=H.l4;obtain ⟨ao1,c1,rfl⟩:=H.says 0 rfl (fun h q=>q.slc);have H:Sep z (grow 5 1 (.slice ao1 240 c1) 240 (p.body.map u8)::A::blk b1 [Iv_ p.kind,.slice (some ⟨b,o,none⟩) 240 c] 79::blk b2 [Iv_ 0,.slice none 0 0] 79::R) w:=H
 refine Ap (H.pick 4 [1,2] rfl) (AM [5] [] [] (by exact (H.pick 4 [1,2] rfl)) rfl (by kernel_rfl) rfl (Av [6] (by kernel_rfl) (by simp) (Au (A8 rfl rfl rfl (Ag 3 H rfl rfl rfl rfl (vs:=[Iv_ p.kind,.slice ao1 240 c1]) rfl (by simp[u8,u32,Value.oneCell']) (by kernel_rfl) (by simp) (out:=[Iv_ p.kind,.slice ao1 240 c1]) rfl) ?_))));rintro w H;replace H:=H.l4;refine Ap (H.pick 4 [1,2] rfl) (a_done (by kernel_rfl) (gn (Zc 2 rfl (Zl [3,2] H rfl ?_))));exact ⟨_,⟨_,rfl,rfl⟩,H.perm 4 [0,1] rfl rfl⟩
open Go.RowKit
set_option maxHeartbeats 2000000 in
theorem Te (ps pd pt md:Nat) (x:Sup) (lp:Value) (un:Bool) (f:Bh) (hq:Hp) (D:Dsk) (n:Nat) (hn:(n:Int)<x.pages) (hf1:D.f1=0) (hok:x.Ok (D.n:Int)) (q b0:Pg) (hqe:q=(f n).getD b0) (hB:f n=none→HomeP (D.cont (2+n)) n b0):Cn prog 42 [Pt_ ps,Iv_ (n:Int)] [stB ps pd pt x lp md un (.map none),tblA pt,diskA pd D,pgsA md f hq,poolA hq] (fun v Γ=>(q=noPg∧v= .tuple #[.agg #[Iv_ 0,.slice none 0 0],Iv_ 0]∧Γ=[stB ps pd pt x lp md un (.map none),tblA pt,diskA pd D,pgsA md f hq,poolA hq])∨(q.Ok∧∃ v1,v= .tuple #[.agg #[Iv_ q.kind,v1],Iv_ 0]∧Γ=[grow 5 1 v1 240 (q.body.map u8),stB ps pd pt x lp md un (.map none),tblA pt,diskA pd D,pgsA md f hq,poolA hq])):=by
 intro z R w H;replace H:=H.l5;have hn2d:=H.says 2 rfl (fun h q=>(diskA.ok q).n2)
 have hk2:=hok.2
 obtain ⟨es,clk,hpg,H⟩:=H.pgs 3 rfl;replace H:=H.l5;refine Ad func42 rfl ntmps42 rfl (Za 2 [] H rfl ?_);intro b1 w H;refine Z0 9 [0] rfl (Ak 16 rfl (fun h1=> ?_) (fun h1=> ?_))
 ·(exfalso;omega)
 ·refine Z2 10 [2,4,1,0,0] H rfl (Af rfl (fun h2=> ?_) (fun h2=> ?_))
  ·(exfalso;omega)
  ·refine Z2 10 [12,1,0] H rfl (Ac rfl (Pa (e:=79) (zv:= .agg #[Iv_ 0,.slice none 0 0]) rfl (by kernel_rfl) (by kernel_rfl) rfl rfl) (Za 3 [] H rfl ?_));intro b2 w H;refine Z4 20 [0,10,2,0] H rfl ?_;intro w H;rcases hpg.get n with ⟨hf,hg⟩|⟨p,pv,hf,hpok,hpr,hg⟩
   ·refine Ac rfl (C7 (e:=79) (zv:= .agg #[Iv_ 0,.slice none 0 0]) rfl (by kernel_rfl) (by kernel_rfl) rfl rfl (AB (H.bk 5 rfl))) (Al 44 (v:= .tuple #[.agg #[Iv_ 0,.slice none 0 0],.bool false]) rfl (by simp[Cm,hg]) (Za 3 [] H rfl ?_));intro b3 w H;refine Z5 20 [0,0,3,0] [(2:Int)+(n:Int)] H rfl (by omega) ?_;intro w H;refine Aw rfl (call75 _) (HJ _ _ _) H.f5 ?_;rintro _ w _ (⟨hx,_,_⟩|⟨_,hx,_,_⟩|⟨_,_,gb,cap,rest,rfl,⟨cg,cc,cl⟩,rfl⟩) H'
    ·exact absurd ⟨by omega,by omega⟩ hx
    ·(rw[hf1] at hx;cases hx)
    ·rw[diskA.f1 hf1,show ((2:Int)+(n:Int)).toNat=2+n from by omega] at H';have H:=H'.l9;refine Z2 25 [4,1,5,0] H rfl ?_;rcases hB (by simp_all) with ⟨hz,rfl⟩|⟨hbok,hbs⟩
     ·refine z_E_ rfl (call76 _) (JB _ _ _ _ (D.cont (2+n)) _ (fun h q=>D6 q (by rw[hz];first|rfl|exact E9 hbok) ⟨cg,cc,cl⟩) n hz) H.f6 ?_;intro w H;refine Za 3 [] H rfl ?_;intro b4 w H;refine Z4 22 [0,0,2,6] H rfl ?_;intro w H;refine Zl [6,2] H rfl ?_;replace H:=(H.toPgs 8 rfl hpg).l10
      exact ⟨_,.inl ⟨by first|(rw[hqe];simp_all;done)|(simp_all;done),rfl,rfl⟩,H.perm 10 [7,1,3,8,9] rfl rfl⟩
     ·refine Aw rfl (call76 _) (KP _ _ _ _ (D.cont (2+n)) _ (fun h q=>D6 q (by rw[hbs];first|rfl|exact E9 hbok) ⟨cg,cc,cl⟩) n b0 hbok (by omega) hbs) H.f6 ?_;rintro _ w _ ⟨v1,rfl,rfl⟩ H;replace H:=H.l10;have sv1:=H.says 0 rfl (fun h q=>q.slc)
      refine Za 3 [] H rfl ?_;intro b5 w H;refine Az rfl rfl (Ag 0 H rfl rfl rfl rfl (vs:=[Iv_ b0.kind,v1]) rfl (Ab rfl (Ab sv1.one Ar)) (by kernel_rfl) (by simp) (out:=[Iv_ b0.kind,v1]) rfl) ?_;rintro w H;replace H:=H.l11;refine Z2 16 [0,2] H rfl (Az rfl rfl (Ag 7 H rfl rfl rfl rfl (vs:=[Iv_ b0.kind,v1]) rfl (Ab rfl (Ab sv1.one Ar)) (by kernel_rfl) (by simp) (out:=[Iv_ b0.kind,v1]) rfl) ?_);rintro w H;replace H:=H.l11;refine Zc 4 rfl (Zl [7,2] H rfl ?_);replace H:=(H.toPgs 9 rfl hpg).l11
      obtain rfl:q=b0:=by rw[hqe];simp_all
      exact ⟨_,.inr ⟨by first|exact hpok|exact hpoko|exact hbok,_,rfl,rfl⟩,H.perm 11 [1,8,2,4,9,10] rfl rfl⟩
   ·have hpk:=hpok.1
    have spv:Slc pv 240:=hpr.slc
    refine Ac rfl (C7 (e:=79) (zv:= .agg #[Iv_ 0,.slice none 0 0]) rfl (by kernel_rfl) (by kernel_rfl) rfl rfl (AB (H.bk 5 rfl))) (Al 44 (v:= .tuple #[.agg #[Iv_ p.kind,pv],.bool true]) rfl (by simp[Cm,hg]) (Za 3 [] H rfl ?_));intro b6 w H;refine Az rfl rfl (Ag 0 H rfl rfl rfl rfl (vs:=[Iv_ p.kind,pv]) rfl (Ab rfl (Ab spv.one Ar)) (by kernel_rfl) (by simp) (out:=[Iv_ p.kind,pv]) rfl) ?_;rintro w H;replace H:=H.l8;refine Z2 12 [0,2] H rfl (Aw rfl (call65 _) (F4 p pv _ (fun h q=>hpr.le q) hpok) H.f7 ?_);rintro _ w _ ⟨v1,rfl,rfl⟩ H;replace H:=H.l9;have sv1:=H.says 0 rfl (fun h q=>q.slc)
    refine Az rfl rfl (Ag 4 H rfl rfl rfl rfl (vs:=[Iv_ p.kind,v1]) rfl (Ab rfl (Ab sv1.one Ar)) (by kernel_rfl) (by simp) (out:=[Iv_ p.kind,v1]) rfl) ?_;rintro w H;replace H:=H.l9;refine Zc 4 rfl (Zl [4,2] H rfl ?_);replace H:=(H.toPgs 8 rfl hpg).l9
    obtain rfl:q=p:=by rw[hqe];simp_all
    exact ⟨_,.inr ⟨by first|exact hpok|exact hpoko|exact hbok,_,rfl,rfl⟩,H.perm 9 [0,5,6,7,8,1] rfl rfl⟩
set_option maxHeartbeats 2000000 in
theorem Tf (ps pd pt md mo:Nat) (x:Sup) (lp:Value) (un:Bool) (f g:Bh) (k:Nat) (hq:Hp) (D:Dsk) (n:Nat) (hn:(n:Int)<x.pages) (hf1:D.f1=0) (hok:x.Ok (D.n:Int)) (q b0:Pg) (hqe:q=((g n).or (f n)).getD b0) (hB:(g n).or (f n)=none→HomeP (D.cont (2+n)) n b0):Cn prog 42 [Pt_ ps,Iv_ (n:Int)] [stB ps pd pt x lp md un (.map (some mo)),tblA pt,diskA pd D,pgsA md f hq,DQ mo g k hq,poolA hq] (fun v Γ=>(q=noPg∧v= .tuple #[.agg #[Iv_ 0,.slice none 0 0],Iv_ 0]∧Γ=[stB ps pd pt x lp md un (.map (some mo)),tblA pt,diskA pd D,pgsA md f hq,DQ mo g k hq,poolA hq])∨(q.Ok∧∃ v1,v= .tuple #[.agg #[Iv_ q.kind,v1],Iv_ 0]∧Γ=[grow 5 1 v1 240 (q.body.map u8),stB ps pd pt x lp md un (.map (some mo)),tblA pt,diskA pd D,pgsA md f hq,DQ mo g k hq,poolA hq])):=by
 intro z R w H;replace H:=H.l6;have hn2d:=H.says 2 rfl (fun h q=>(diskA.ok q).n2)
 have hk2:=hok.2
 obtain ⟨es,clk,hpg,H⟩:=H.pgs 3 rfl;replace H:=H.l6;obtain ⟨eso,clko,hpgo,hcno,H⟩:=H.pgsc 4 rfl;replace H:=H.l6;refine Ad func42 rfl ntmps42 rfl (Za 2 [] H rfl ?_);intro b1 w H;refine Z0 9 [0] rfl (Ak 16 rfl (fun h1=> ?_) (fun h1=> ?_))
 ·(exfalso;omega)
 ·refine Z2 10 [2,4,1,0,0] H rfl (Af rfl (fun h2=> ?_) (fun h2=> ?_))
  ·(exfalso;omega)
  ·refine Z2 10 [12,1,0] H rfl ?_;rcases hpgo.get n with ⟨hfo,hgo⟩|⟨po,pvo,hfo,hpoko,hpro,hgo⟩
   ·refine Ac rfl (C7 (e:=79) (zv:= .agg #[Iv_ 0,.slice none 0 0]) rfl (by kernel_rfl) (by kernel_rfl) rfl rfl (AB (H.bk 5 rfl))) (Al 32 (v:= .tuple #[.agg #[Iv_ 0,.slice none 0 0],.bool false]) rfl (by simp[Cm,hgo]) (Za 3 [] H rfl ?_));intro b2 w H;refine Z4 20 [0,10,2,0] H rfl ?_;intro w H;rcases hpg.get n with ⟨hf,hg⟩|⟨p,pv,hf,hpok,hpr,hg⟩
    ·refine Ac rfl (C7 (e:=79) (zv:= .agg #[Iv_ 0,.slice none 0 0]) rfl (by kernel_rfl) (by kernel_rfl) rfl rfl (AB (H.bk 5 rfl))) (Al 44 (v:= .tuple #[.agg #[Iv_ 0,.slice none 0 0],.bool false]) rfl (by simp[Cm,hg]) (Za 3 [] H rfl ?_));intro b3 w H;refine Z5 20 [0,0,3,0] [(2:Int)+(n:Int)] H rfl (by omega) ?_;intro w H;refine Aw rfl (call75 _) (HJ _ _ _) H.f5 ?_;rintro _ w _ (⟨hx,_,_⟩|⟨_,hx,_,_⟩|⟨_,_,gb,cap,rest,rfl,⟨cg,cc,cl⟩,rfl⟩) H'
     ·exact absurd ⟨by omega,by omega⟩ hx
     ·(rw[hf1] at hx;cases hx)
     ·rw[diskA.f1 hf1,show ((2:Int)+(n:Int)).toNat=2+n from by omega] at H';have H:=H'.l10;refine Z2 25 [4,1,5,0] H rfl ?_;rcases hB (by simp_all) with ⟨hz,rfl⟩|⟨hbok,hbs⟩
      ·refine z_E_ rfl (call76 _) (JB _ _ _ _ (D.cont (2+n)) _ (fun h q=>D6 q (by rw[hz];first|rfl|exact E9 hbok) ⟨cg,cc,cl⟩) n hz) H.f6 ?_;intro w H;refine Za 3 [] H rfl ?_;intro b4 w H;refine Z4 22 [0,0,2,6] H rfl ?_;intro w H;refine Zl [6,2] H rfl ?_;replace H:=(H.toPgs 8 rfl hpg).l11
       replace H:=(H.toPgsc 9 rfl hpgo hcno).l11
       exact ⟨_,.inl ⟨by first|(rw[hqe];simp_all;done)|(simp_all;done),rfl,rfl⟩,H.perm 11 [7,1,3,8,9,10] rfl rfl⟩
      ·refine Aw rfl (call76 _) (KP _ _ _ _ (D.cont (2+n)) _ (fun h q=>D6 q (by rw[hbs];first|rfl|exact E9 hbok) ⟨cg,cc,cl⟩) n b0 hbok (by omega) hbs) H.f6 ?_;rintro _ w _ ⟨v1,rfl,rfl⟩ H;replace H:=H.l11;have sv1:=H.says 0 rfl (fun h q=>q.slc)
       refine Za 3 [] H rfl ?_;intro b5 w H;refine Az rfl rfl (Ag 0 H rfl rfl rfl rfl (vs:=[Iv_ b0.kind,v1]) rfl (Ab rfl (Ab sv1.one Ar)) (by kernel_rfl) (by simp) (out:=[Iv_ b0.kind,v1]) rfl) ?_;rintro w H;replace H:=H.l12;refine Z2 16 [0,2] H rfl (Az rfl rfl (Ag 7 H rfl rfl rfl rfl (vs:=[Iv_ b0.kind,v1]) rfl (Ab rfl (Ab sv1.one Ar)) (by kernel_rfl) (by simp) (out:=[Iv_ b0.kind,v1]) rfl) ?_);rintro w H;replace H:=H.l12;refine Zc 4 rfl (Zl [7,2] H rfl ?_);replace H:=(H.toPgs 9 rfl hpg).l12
       replace H:=(H.toPgsc 10 rfl hpgo hcno).l12
       obtain rfl:q=b0:=by rw[hqe];simp_all
       exact ⟨_,.inr ⟨by first|exact hpok|exact hpoko|exact hbok,_,rfl,rfl⟩,H.perm 12 [1,8,2,4,9,10,11] rfl rfl⟩
    ·have hpk:=hpok.1
     have spv:Slc pv 240:=hpr.slc
     refine Ac rfl (C7 (e:=79) (zv:= .agg #[Iv_ 0,.slice none 0 0]) rfl (by kernel_rfl) (by kernel_rfl) rfl rfl (AB (H.bk 5 rfl))) (Al 44 (v:= .tuple #[.agg #[Iv_ p.kind,pv],.bool true]) rfl (by simp[Cm,hg]) (Za 3 [] H rfl ?_));intro b6 w H;refine Az rfl rfl (Ag 0 H rfl rfl rfl rfl (vs:=[Iv_ p.kind,pv]) rfl (Ab rfl (Ab spv.one Ar)) (by kernel_rfl) (by simp) (out:=[Iv_ p.kind,pv]) rfl) ?_;rintro w H;replace H:=H.l9;refine Z2 12 [0,2] H rfl (Aw rfl (call65 _) (F4 p pv _ (fun h q=>hpr.le q) hpok) H.f8 ?_);rintro _ w _ ⟨v1,rfl,rfl⟩ H;replace H:=H.l10;have sv1:=H.says 0 rfl (fun h q=>q.slc)
     refine Az rfl rfl (Ag 4 H rfl rfl rfl rfl (vs:=[Iv_ p.kind,v1]) rfl (Ab rfl (Ab sv1.one Ar)) (by kernel_rfl) (by simp) (out:=[Iv_ p.kind,v1]) rfl) ?_;rintro w H;replace H:=H.l10;refine Zc 4 rfl (Zl [4,2] H rfl ?_);replace H:=(H.toPgs 8 rfl hpg).l10
     replace H:=(H.toPgsc 9 rfl hpgo hcno).l10
     obtain rfl:q=p:=by rw[hqe];simp_all
     exact ⟨_,.inr ⟨by first|exact hpok|exact hpoko|exact hbok,_,rfl,rfl⟩,H.perm 10 [0,5,6,7,8,9,1] rfl rfl⟩
   ·have hpko:=hpoko.1
    have spvo:Slc pvo 240:=hpro.slc
    refine Ac rfl (C7 (e:=79) (zv:= .agg #[Iv_ 0,.slice none 0 0]) rfl (by kernel_rfl) (by kernel_rfl) rfl rfl (AB (H.bk 5 rfl))) (Al 32 (v:= .tuple #[.agg #[Iv_ po.kind,pvo],.bool true]) rfl (by simp[Cm,hgo]) (Za 3 [] H rfl ?_));intro b7 w H;refine Az rfl rfl (Ag 0 H rfl rfl rfl rfl (vs:=[Iv_ po.kind,pvo]) rfl (Ab rfl (Ab spvo.one Ar)) (by kernel_rfl) (by simp) (out:=[Iv_ po.kind,pvo]) rfl) ?_;rintro w H;replace H:=H.l8;refine Z2 12 [0,2] H rfl (Aw rfl (call65 _) (F4 po pvo _ (fun h q=>hpro.le q) hpoko) H.f7 ?_);rintro _ w _ ⟨v1,rfl,rfl⟩ H;replace H:=H.l9;have sv1:=H.says 0 rfl (fun h q=>q.slc)
    refine Az rfl rfl (Ag 3 H rfl rfl rfl rfl (vs:=[Iv_ po.kind,v1]) rfl (Ab rfl (Ab sv1.one Ar)) (by kernel_rfl) (by simp) (out:=[Iv_ po.kind,v1]) rfl) ?_;rintro w H;replace H:=H.l9;refine Zc 4 rfl (Zl [3,2] H rfl ?_);replace H:=(H.toPgs 7 rfl hpg).l9
    replace H:=(H.toPgsc 8 rfl hpgo hcno).l9
    obtain rfl:q=po:=by rw[hqe];simp_all
    exact ⟨_,.inr ⟨by first|exact hpok|exact hpoko|exact hbok,_,rfl,rfl⟩,H.perm 9 [0,4,5,6,7,8,1] rfl rfl⟩
open Go.RowKit
set_option maxHeartbeats 2000000 in
theorem Th (ps pd pt md mo:Nat) (x:Sup) (lp:Value) (g:Bh) (k:Nat) (hq:Hp) (n:Nat) (hn:(n:Int)<x.pages) (p:Pg) (hp:p.Ok) (bv:Value) (A:Ae) (hA:∀ h,A h→rdH 1 bv 240 (p.body.map u8) h):Cn prog 34 [Pt_ ps,Iv_ (n:Int),.agg #[Iv_ p.kind,bv]] [stB ps pd pt x lp md true (.map (some mo)),DQ mo g k hq,poolA hq,A] (fun v Γ=>((g n=none∧40≤k)∧v=Iv_ 16∧Γ=[stB ps pd pt x lp md true (.map (some mo)),DQ mo g k hq,poolA hq,A])∨(¬ (g n=none∧40≤k)∧∃ hq2,Ck hq hq2∧v=Iv_ 0∧Γ=[stB ps pd pt x lp md true (.map (some mo)),DQ mo (pgSet g n p) (k+(if (g n).isSome then 0 else 1)) hq2,poolA hq2,A])):=by
 intro z R w H;replace H:=H.l4;obtain ⟨eso,clko,hpgo,hcno,H⟩:=H.pgsc 1 rfl;replace H:=H.l4;obtain ⟨bb,oo,cc,rfl⟩:=H.says 3 rfl (fun h q=>(hA h q).sl (by simp[hp.2]));have hpk:=hp.1
 have hlm:(eso.map PgE.ie).length=k:=by simp[hcno]
 refine Ad func34 rfl ntmps34 rfl (Za 2 [] H rfl ?_);intro b1 w H;refine Z2 10 [12,1,0] H rfl ?_;rcases hpgo.get n with ⟨hfo,hgo⟩|⟨po,pvo,hfo,hpoko,hpro,hgo⟩
 ·refine Ac rfl (C7 (e:=79) (zv:= .agg #[Iv_ 0,.slice none 0 0]) rfl (by kernel_rfl) (by kernel_rfl) rfl rfl (AB (H.bk 2 rfl))) (Al 15 (v:= .tuple #[.agg #[Iv_ 0,.slice none 0 0],.bool false]) rfl (by simp[Cm,hgo]) (Za 3 [] H rfl ?_));intro b2 w H;refine Z4 22 [0,11,2,0,0] H rfl ?_;intro w H;refine Ak 27 rfl (fun h1=> ?_) (fun h1=> ?_)
  ·(exfalso;omega)
  ·refine Z2 11 [2,4,2,0,0] H rfl (Af rfl (fun h2=> ?_) (fun h2=> ?_))
   ·(exfalso;omega)
   ·refine Z2 6 [0,1,0,0] H rfl (Ak 40 rfl (fun h3=> ?_) (fun h3=> ?_))
    ·(exfalso;omega)
    ·refine Z2 5 [0,1,0,0] H rfl (Ak 45 rfl (fun h4=> ?_) (fun h4=> ?_))
     ·(exfalso;omega)
     ·refine Z2 18 [1,1,0,4,12,2,0] H rfl (Ac rfl (Mi (e:=79) rfl (by kernel_rfl) rfl (AB (H.bk 3 rfl))) (Z0 5 [0] rfl (Af rfl (fun h5=> ?_) (fun h5=> ?_))))
      ·refine Zc 6 rfl (Zr rfl ?_);replace H:=(H.toPgsc 3 rfl hpgo hcno).l6
       exact ⟨_,.inl ⟨⟨hfo,by omega⟩,rfl,rfl⟩,H.perm 6 [2,3,4,5] rfl rfl⟩
      ·refine Zc 4 rfl ?_;replace H:=H.f1.f2;refine AI (Sep z (stB ps pd pt x lp md true (.map (some mo))::blk b1 [Iv_ p.kind,.slice (some ⟨bb,oo,none⟩) 240 cc] 79::R)) 8 rfl (by kernel_rfl) (Bc H fun w H'=> ?_)
       have H:=H'.l6;refine AM [0,1,2,3,4,5] [12,0,0,1,2] [] (by exact (H.pick 6 [0,1] rfl)) rfl (by kernel_rfl) rfl (Av [6] (by kernel_rfl) (by simp) (Au (BL rfl rfl rfl rfl rfl rfl (fun w=>call65 _ w) (F4 p _ _ hA hp) H.f5 rfl ?_)));rintro _ w _ ⟨v1,rfl,rfl⟩ H;replace H:=H.l7;have sv1:=H.says 0 rfl (fun h q=>q.slc)
       refine Ap (H.pick 7 [2,3] rfl) (Av [7] (by kernel_rfl) (by simp) (Au (A8 rfl rfl rfl (Dg 5 (e:=79) H rfl rfl (by kernel_rfl) rfl rfl rfl) ?_)));rintro w H;replace H:=H.l7;refine Ap (H.pick 7 [2,3] rfl) (a_done (by kernel_rfl) (gn (Zc 7 rfl (Zr rfl ?_))));replace H:=H.f6;obtain ⟨hq2,⟨shq2,hrd2⟩,H⟩:=Dn H (fun h q=>q.rd);replace H:=H.l6;obtain ⟨es2,hpm,hpg2,hln⟩:=(hpgo.le shq2).put (k:=n) (p:=p) hp hrd2;rw[hpm] at H;have H:Sep z (poolA hq2::A::stB ps pd pt x lp md true (.map (some mo))::blk b1 [Iv_ p.kind,.slice (some ⟨bb,oo,none⟩) 240 cc] 79::blk b2 [Iv_ 0,.slice none 0 0] 79::Ay mo (es2.map PgE.ie) (putC (eso.map PgE.ie) (n:Int) clko)::R) w:=H
       replace H:=(H.toPgsc 5 rfl hpg2 (by rw[hln,hcno])).l6
       exact ⟨_,.inr ⟨fun q=>by first|(rw[hfo] at q;cases q.1;done)|omega,hq2,shq2,rfl,rfl⟩,H.perm 6 [2,5,0,1] rfl rfl⟩
 ·have hpko:=hpoko.1
  have spvo:Slc pvo 240:=hpro.slc
  refine Ac rfl (C7 (e:=79) (zv:= .agg #[Iv_ 0,.slice none 0 0]) rfl (by kernel_rfl) (by kernel_rfl) rfl rfl (AB (H.bk 2 rfl))) (Al 15 (v:= .tuple #[.agg #[Iv_ po.kind,pvo],.bool true]) rfl (by simp[Cm,hgo]) (Za 3 [] H rfl ?_));intro b3 w H;refine Az rfl rfl (Ag 0 H rfl rfl rfl rfl (vs:=[Iv_ po.kind,pvo]) rfl (Ab rfl (Ab spvo.one Ar)) (by kernel_rfl) (by simp) (out:=[Iv_ po.kind,pvo]) rfl) ?_;rintro w H;replace H:=H.l6;refine Z2 21 [11,2,0,0] H rfl (Ak 27 rfl (fun h6=> ?_) (fun h6=> ?_))
  ·(exfalso;omega)
  ·refine Z2 11 [2,4,2,0,0] H rfl (Af rfl (fun h7=> ?_) (fun h7=> ?_))
   ·(exfalso;omega)
   ·refine Z2 6 [0,1,0,0] H rfl (Ak 40 rfl (fun h8=> ?_) (fun h8=> ?_))
    ·(exfalso;omega)
    ·refine Z2 5 [0,1,0,0] H rfl (Ak 45 rfl (fun h9=> ?_) (fun h9=> ?_))
     ·(exfalso;omega)
     ·refine Z2 29 [1,1,0,4] H rfl ?_;replace H:=H.f1.f2;refine AI (Sep z (stB ps pd pt x lp md true (.map (some mo))::blk b1 [Iv_ p.kind,.slice (some ⟨bb,oo,none⟩) 240 cc] 79::R)) 8 rfl (by kernel_rfl) (Bc H fun w H'=> ?_)
      have H:=H'.l6;refine AM [0,1,2,3,4,5] [12,0,0,1,2] [] (by exact (H.pick 6 [0,1] rfl)) rfl (by kernel_rfl) rfl (Av [6] (by kernel_rfl) (by simp) (Au (BL rfl rfl rfl rfl rfl rfl (fun w=>call65 _ w) (F4 p _ _ hA hp) H.f5 rfl ?_)));rintro _ w _ ⟨v1,rfl,rfl⟩ H;replace H:=H.l7;have sv1:=H.says 0 rfl (fun h q=>q.slc)
      refine Ap (H.pick 7 [2,3] rfl) (Av [7] (by kernel_rfl) (by simp) (Au (A8 rfl rfl rfl (Dg 5 (e:=79) H rfl rfl (by kernel_rfl) rfl rfl rfl) ?_)));rintro w H;replace H:=H.l7;refine Ap (H.pick 7 [2,3] rfl) (a_done (by kernel_rfl) (gn (Zc 7 rfl (Zr rfl ?_))));replace H:=H.f6;obtain ⟨hq2,⟨shq2,hrd2⟩,H⟩:=Dn H (fun h q=>q.rd);replace H:=H.l6;obtain ⟨es2,hpm,hpg2,hln⟩:=(hpgo.le shq2).put (k:=n) (p:=p) hp hrd2;rw[hpm] at H;have H:Sep z (poolA hq2::A::stB ps pd pt x lp md true (.map (some mo))::blk b1 [Iv_ p.kind,.slice (some ⟨bb,oo,none⟩) 240 cc] 79::blk b3 [Iv_ po.kind,pvo] 79::Ay mo (es2.map PgE.ie) (putC (eso.map PgE.ie) (n:Int) clko)::R) w:=H
      replace H:=(H.toPgsc 5 rfl hpg2 (by rw[hln,hcno])).l6
      exact ⟨_,.inr ⟨fun q=>by first|(rw[hfo] at q;cases q.1;done)|omega,hq2,shq2,rfl,rfl⟩,H.perm 6 [2,5,0,1] rfl rfl⟩
section
theorem Ik {s:Sup} (hs:SOk s) (x:Int):s.start≤(ringAt s x:Int)∧(ringAt s x:Int)<s.start+s.len:=by
 have h0:=hs.start
 have hh:=hs.head
 have h1:=Int.emod_nonneg x (by omega:s.len≠0)
 have h2:=Int.emod_lt_of_pos x (by omega:0<s.len)
 unfold ringAt
 omega
def MS (s:Sup) (D D':Dsk):Prop:=∀ i:Nat,s.start≤(i:Int)→(i:Int)<s.start+s.len→D'.dur i=D.dur i∧D'.ver i=D.ver i
def SameOut (s:Sup) (D D':Dsk):Prop:=∀ i:Nat,¬ (s.start≤(i:Int)∧(i:Int)<s.start+s.len)→D'.dur i=D.dur i∧D'.ver i=D.ver i
theorem PInv.out {D D':Dsk} {s:Sup} {rs:List Rc} {pt:List (List UInt8)} {a q u:Int} {b:Bool} {sure:Nat} (h:PInv D s rs pt a q u b sure) (hs:SOk s) (ho:MS s D D'):PInv D' s rs pt a q u b sure:=by
 have hr:∀ x:Int,D'.dur (ringAt s x)=D.dur (ringAt s x)∧D'.ver (ringAt s x)=D.ver (ringAt s x):=fun x=>ho _ (Ik hs x).1 (Ik hs x).2
 refine ⟨h.fa,h.fq,h.fu,h.ul,h.pb,h.part,h.recs,fun i hi c hc=>h.old i hi c ?_,fun i c hc=> ?_,fun i c hc=> ?_,h.sure⟩
 ·unfold CM at hc ⊢;rwa[(hr _).1,(hr _).2] at hc
 ·have:=h.last i c hc
  unfold Dsk.cont at this ⊢;rw[(hr _).1,(hr _).2];exact this
 ·rw[(hr _).1,(hr _).2];exact h.dura i c hc
theorem Ps {f:Bh} {ims:List Img} {n:Nat} (h:(f n).isSome=true):(Eb f ims n).isSome=true:=by rw[Oh,h];rfl
theorem Fw (ss:List Rc):∀ (rs:List Rc) {n:Nat},(ov rs n).isSome=true→(ov (rs++ss) n).isSome=true:=by
 induction ss with
 | nil=>intro rs n h;rwa[List.append_nil]
 | cons r ss ih=>
  intro rs n h
  rw[show rs++r::ss=(rs++[r])++ss from by simp]
  exact ih _ (by rw[Id];exact Ps h)
theorem GM {rs:List Rc} {k n:Nat} (h:(ov (rs.take k) n).isSome=true):(ov rs n).isSome=true:=by
 have:=Fw (rs.drop k) _ h
 rwa[List.take_append_drop] at this
structure Clean (D:Dsk):Prop where
 f1:D.f1=0
 f2:D.f2=0
 f3:D.f3=0
 cut:D.cut=false
theorem Clean.bad {D:Dsk} (h:Clean D):¬ D.bad:=by
 rintro (g|⟨g,_⟩)
 ·rw[h.f2] at g;cases g
 ·rw[h.cut] at g;cases g
theorem Clean.flb {D:Dsk} (h:Clean D):¬ D.flb:=by
 rintro (g|⟨g,_⟩)
 ·rw[h.f3] at g;cases g
 ·rw[h.cut] at g;cases g
theorem Clean.wr1 {D:Dsk} (h:Clean D) (b:Bool) (x:Nat) (p:List UInt8):Clean (wr1 D b x p):=by
 have hf:=Dsk.ws_f b [p] { D with f2:=AY D.f2 } x
 refine ⟨hf.1.trans h.f1,hf.2.1.trans ?_,hf.2.2.1.trans h.f3,hf.2.2.2.1.trans h.cut⟩
 show AY D.f2=0
 rw[h.f2];rfl
theorem Clean.wr {D:Dsk} (h:Clean D) (x:Nat) (ps:List (List UInt8)):Clean (D.wr x ps):=by
 have hf:=Dsk.ws_f false ps { D with f2:=AY D.f2 } x
 refine ⟨hf.1.trans h.f1,hf.2.1.trans ?_,hf.2.2.1.trans h.f3,hf.2.2.2.1.trans h.cut⟩
 show AY D.f2=0
 rw[h.f2];rfl
theorem Clean.hw (l:List (Nat×Pg)):∀ {D:Dsk},Clean D→Clean (hwD D l):=by
 induction l with
 | nil=>intro D h;exact h
 | cons x l ih=>intro D h;rw[hwD_cons];exact ih (h.wr _ _)
theorem Clean.fl {D:Dsk} (h:Clean D):Clean D.fl:=⟨h.f1,h.f2,by show AY D.f3=0;rw[h.f3];rfl,h.cut⟩
theorem Clean.sv {D:Dsk} (h:Clean D) (x:Sup):Clean (EG D x):=h.wr1 true _ _
theorem Clean.setF {D:Dsk} (h:Clean D) {l:List (Nat×Pg)} {c:Int} {D2:Dsk} :¬ Ke D l c D2:=by
 rintro (⟨j,g,_⟩|⟨g,_⟩|⟨g,_⟩)
 ·exact (h.hw _).bad g
 ·exact (h.hw _).flb g
 ·exact (h.hw _).fl.bad g
/-! ### a store -/
structure SInv (D:Dsk) (x:Sup) (B:Nat→Pg) (rs:List Rc) (ptl:List (List UInt8)) (a q u:Int) (b:Bool) (sure:Nat):Prop where
 ok:x.Ok (D.n:Int)
 p:PInv D x rs ptl a q u b sure
 s:SOk x
 gen:1≤x.gen
 num:∀ r∈rs,∀ m∈r.ims,m.num<x.pages
 home:∀ i:Nat,(i:Int)<x.pages→∀ c,CM D (2+i) c→HomeP c i (B i)∨((ov (rs.take sure) i).isSome=true∧∃ p,HomeP c i p)
 sup:D.dur (x.gen % 2).toNat=C2 x∧D.ver (x.gen % 2).toNat=[]
 oth:∃ y:Sup,y.Ok (D.n:Int)∧y.gen=x.gen - 1∧D.dur ((x.gen+1) % 2).toNat=C2 y∧D.ver ((x.gen+1) % 2).toNat=[]
 rest:∀ i:Nat,2+x.pages≤(i:Int)→¬ (x.start≤(i:Int)∧(i:Int)<x.start+x.len)→∀ c,CM D i c→∀ e q,Tg c e q→e≤x.epoch
variable {D D':Dsk} {x:Sup} {B:Nat→Pg} {rs:List Rc} {ptl:List (List UInt8)} {a q u:Int} {b:Bool} {sure:Nat}
theorem SInv.cur (h:SInv D x B rs ptl a q u b sure) {i:Nat} (hi:(i:Int)<x.pages) (ho:ov rs i=none):HomeP (D.cont (2+i)) i (B i):=by
 rcases h.home i hi _ (cont_has D _) with g|⟨g,_⟩
 ·exact g
 ·have:=GM g
  rw[ho] at this;cases this
theorem SInv.ovb (h:SInv D x B rs ptl a q u b sure) {n:Nat} (ho:(ov rs n).isSome=true):(n:Int)<x.pages:=by
 obtain ⟨p,hp⟩:=Option.isSome_iff_exists.1 ho
 obtain ⟨r,hr,m,hm,hn,_⟩:=Jt _ rs rfl hp
 have h1:=h.num r hr m hm
 have h2:=h.ok.2
 omega
theorem SInv.ovok (h:SInv D x B rs ptl a q u b sure) {n:Nat} {p:Pg} (ho:ov rs n=some p):p.Ok:=by
 obtain ⟨r,hr,m,hm,_,rfl⟩:=Jt _ rs rfl ho
 obtain ⟨j,hj⟩:=List.getElem?_of_mem hr
 exact Og ((h.p.recs j r hj).2.2 m hm)
theorem SInv.f (h:SInv D x B rs ptl a q u b sure) (h0:D'.n=D.n) (h1:D'.dur=D.dur) (h2:D'.ver=D.ver):SInv D' x B rs ptl a q u b sure:=
 ⟨by rw[h0];exact h.ok,h.p.f h1 h2,h.s,h.gen,h.num,fun i hi c hc=>h.home i hi c (by unfold CM at hc ⊢;rwa[h1,h2] at hc),by rw[h1,h2];exact h.sup,by
  obtain ⟨y,a,b,c,d⟩:=h.oth;exact ⟨y,by rw[h0];exact a,b,by rw[h1];exact c,by rw[h2];exact d⟩,fun i hi hr c hc=>h.rest i hi hr c (by unfold CM at hc ⊢;rwa[h1,h2] at hc)⟩
theorem SInv.log (h:SInv D x B rs ptl a q u b sure) (h0:D'.n=D.n) (ho:SameOut x D D') {rs':List Rc} {ptl':List (List UInt8)} {a' q' u':Int} {b':Bool} (hp:PInv D' x rs' ptl' a' q' u' b' sure) (hr:rs'.take sure=rs.take sure) (hnum:∀ r∈rs',∀ m∈r.ims,m.num<x.pages):SInv D' x B rs' ptl' a' q' u' b' sure:=by
 have hk:=h.ok.2
 have hg:=h.gen
 have hm0:∀ i:Nat,(i:Int)<x.start→D'.dur i=D.dur i∧D'.ver i=D.ver i:=fun i hi=>ho i (by omega)
 refine ⟨by rw[h0];exact h.ok,hp,h.s,hg,hnum,fun i hi c hc=> ?_,?_,?_,fun i hi hr c hc=>h.rest i hi hr c (by have:=ho i hr;unfold CM at hc ⊢;rwa[this.1,this.2] at hc)⟩
 ·have:=hm0 (2+i) (by omega)
  unfold CM at hc
  rw[this.1,this.2] at hc
  rw[hr]
  exact h.home i hi c hc
 ·have:=hm0 (x.gen % 2).toNat (by omega)
  rw[this.1,this.2];exact h.sup
 ·obtain ⟨y,a,b,c,d⟩:=h.oth
  have:=hm0 ((x.gen+1) % 2).toNat (by omega)
  exact ⟨y,by rw[h0];exact a,b,by rw[this.1];exact c,by rw[this.2];exact d⟩
theorem D8 {D:Dsk} {i:Nat} (h:D.ver i=[]):D.cont i=D.dur i:=IK h
theorem SInv.flush (h:SInv D x B rs ptl a q u b sure):SInv D.fl x B rs ptl a q u b rs.length:=by
 refine ⟨h.ok,h.p.flush,h.s,h.gen,h.num,fun i hi c hc=> ?_,?_,?_,fun i hi hr c hc=>h.rest i hi hr c (fl_has hc)⟩
 ·rw[List.take_length]
  rcases h.home i hi c (fl_has hc) with g|⟨g1,g2⟩
  ·exact .inl g
  ·exact .inr ⟨GM g1,g2⟩
 ·exact ⟨(D8 h.sup.2).trans h.sup.1,rfl⟩
 ·obtain ⟨y,a,b,c,d⟩:=h.oth
  exact ⟨y,a,b,(D8 d).trans c,rfl⟩
theorem V5 (hx:x.Ok (D.n:Int)) {l:List (Nat×Pg)} (hl:∀ y∈l,(y.1:Int)<x.pages):MS x D (hwD D l):=fun i hi _=>by
 have hk:=hx.2
 refine ⟨by rw[Ju],Jv l D i fun y hy e=> ?_⟩
 have:=hl y hy
 omega
theorem SInv.hw (h:SInv D x B rs ptl a q u b rs.length) {l:List (Nat×Pg)} (hl:∀ y∈l,ov rs y.1=some y.2):SInv (hwD D l) x B rs ptl a q u b rs.length:=by
 have hk:=h.ok.2
 have hg:=h.gen
 have hlb:∀ y∈l,(y.1:Int)<x.pages:=fun y hy=>h.ovb (by rw[hl y hy];rfl)
 have hlow:∀ i:Nat,i<2→(hwD D l).ver i=D.ver i:=fun i hi=>Jv l D i fun y _ e=>by omega
 refine ⟨by rw[Ev];exact h.ok,h.p.out h.s (V5 h.ok hlb),h.s,hg,h.num,fun i hi c hc=> ?_,?_,?_,fun i hi hr c hc=> ?_⟩
 ·rcases hw_has l D _ c hc with g|⟨y,hy,he,hc⟩
  ·exact h.home i hi c g
  ·refine .inr ⟨?_,y.2,.inr ⟨h.ovok (hl y hy),?_⟩⟩
   ·rw[List.take_length,show i=y.1 from by omega,hl y hy];rfl
   ·rw[hc,show i=y.1 from by omega]
 ·rw[Ju,hlow _ (by omega)];exact h.sup
 ·obtain ⟨y,a,b,c,d⟩:=h.oth
  exact ⟨y,by rw[Ev];exact a,b,by rw[Ju];exact c,by rw[hlow _ (by omega)];exact d⟩
 ·rcases hw_has l D _ c hc with g|⟨y,hy,he,_⟩
  ·exact h.rest i hi hr c g
  ·have:=hlb y hy
   omega
theorem SInv.setF (h:SInv D x B rs ptl a q u b rs.length) {ks:List Int} (hks:Ew (ov rs) ks) {c:Int} {D2:Dsk} (hD:Ke D (pgLst (ov rs) ks) c D2):SInv D2 x B rs ptl a q u b rs.length:=by
 have hl:∀ l:List (Nat×Pg),(∀ y∈l,y∈pgLst (ov rs) ks)→SInv (hwD D l) x B rs ptl a q u b rs.length:=fun l h1=>h.hw fun y hy=>(DT hks y.1 y.2).1 (h1 y hy)
 rcases hD with ⟨j,_,_,rfl⟩|⟨_,_,rfl⟩|⟨_,_,rfl⟩
 ·exact (hl _ fun y hy=>List.mem_of_mem_take hy).f rfl rfl rfl
 ·exact (hl _ fun y hy=>hy).f rfl rfl rfl
 ·exact (hl _ fun y hy=>hy).flush.f rfl rfl rfl
theorem SInv.settled (h:SInv D x B rs ptl a q u b rs.length) {ks:List Int} (hks:Ew (ov rs) ks) (hq:q≤1099511627776) {y:Sup} (hy:y.Ok (D.n:Int)) (h1:y.start=x.start) (h2:y.len=x.len) (h3:y.epoch=x.epoch) (h4:y.head=a) (h5:y.seq=q) (h6:y.pages=x.pages) (h7:y.gen=x.gen+1):
  SInv (EG (hwD D (pgLst (ov rs) ks)).fl y) y (pgMap (ov rs) B) [] [] a q 0 false 0:=by
 have hk:=h.ok.2
 have hg:=h.gen
 have hall:SInv (hwD D (pgLst (ov rs) ks)) x B rs ptl a q u b rs.length:=h.hw fun z hz=>(DT hks z.1 z.2).1 hz
 have hfl:=hall.flush
 have hat:=h.p.at_ok h.s
 have hy0:=Sup.get hy
 have hqq:=h.p.fq
 have hsq:=h.s.seq
 have hq0:0≤q:=by split at hqq<;>omega
 have hso:SOk y:=⟨by rw[h1];exact h.s.start,by rw[h4,h2];exact hat,by rw[h3];exact h.s.epoch,by rw[h5];exact hq0⟩
 have hsv:MS x (hwD D (pgLst (ov rs) ks)).fl (EG (hwD D (pgLst (ov rs) ks)).fl y):=fun i hi _=>by
  have:=Eh (hwD D (pgLst (ov rs) ks)).fl y i (by omega)
  exact this
 have hp1:=hfl.p.out h.s hsv
 have hp2:=hp1.drop h.s hq h1 h2 h3 h4 h5 (by omega) (by rw[h4,h2];exact hat)
 refine ⟨by show y.Ok ((hwD D _).n:Int);rw[Ev];exact hy,hp2,hso,by omega,fun r hr=>(by cases hr),fun i hi c hc=> .inl ?_,GG _ y,?_,fun i hi hr c hc e q' ht=> ?_⟩
 ·have hout:=Eh (hwD D (pgLst (ov rs) ks)).fl y (2+i) (by omega)
  unfold CM at hc
  rw[hout.1,hout.2] at hc
  rcases hc with rfl|hc
  ·show HomeP ((hwD D (pgLst (ov rs) ks)).cont (2+i)) i _
   unfold pgMap
   cases ho:ov rs i with
   | some p=>
    have hm:(i,p)∈pgLst (ov rs) ks:=(DT hks i p).2 ho
    rw[Uz _ D (Ei hks) (i,p) hm]
    exact .inr ⟨h.ovok ho,rfl⟩
   | none=>
    rw[hw_cont_out _ D _ (fun z hz e=>by
     have:=(DT hks z.1 z.2).1 hz
     rw[show z.1=i from by omega,ho] at this;cases this)]
    exact h.cur (by omega) ho
  ·cases hc
 ·refine ⟨x,by show x.Ok ((hwD D _).n:Int);rw[Ev];exact h.ok,by omega,?_⟩
  have hout:=Eh (hwD D (pgLst (ov rs) ks)).fl y ((y.gen+1) % 2).toNat (by omega)
  rw[hout.1,hout.2,show (y.gen+1) % 2=x.gen % 2 from by omega]
  exact hfl.sup
 ·have hout:=Eh (hwD D (pgLst (ov rs) ks)).fl y i (by omega)
  unfold CM at hc
  rw[hout.1,hout.2] at hc
  rw[h3]
  exact hfl.rest i (by omega) (by rwa[h1,h2] at hr) c hc e q' ht
theorem SInv.tags (h:SInv D x B rs ptl a q u b sure) (hq:q≤1099511627776) {i:Nat} (hi:2+x.pages≤(i:Int)) {c:List UInt8} (hc:CM D i c) {e q':Int} (ht:Tg c e q'):e≤x.epoch:=by
 by_cases hr:x.start≤(i:Int)∧(i:Int)<x.start+x.len
 ·have hl:0<x.len:=by have:=h.s.head;omega
  obtain ⟨j,hj,he⟩:=MD hl x.head ((i:Int) - x.start)
  have hi:ringAt x ((i:Int) - x.start)=i:=by
   unfold ringAt
   rw[Int.emod_eq_of_lt (by omega) (by omega)];omega
  have:=h.p.tags h.s hq hj (c:=c) (by rw[←he,hi];exact hc) ht
  omega
 ·exact h.rest i hi hr c hc e q' ht
theorem PInv.fresh {D:Dsk} {s:Sup} (hs:SOk s) (h:∀ i:Nat,s.start≤(i:Int)→(i:Int)<s.start+s.len→∀ c,CM D i c→∀ e q,Tg c e q→e<s.epoch):PInv D s [] [] s.head s.seq 0 false 0:=by
 refine ⟨?_,by simp,by simp[secs],by have:=hs.head;omega,fun _=>rfl,.inl rfl,fun j r h=>by simp at h,fun i hi c hc=> .inl fun e q ht=> .inl ?_,fun i c h=>by simp[secs] at h,fun i c h=>by simp[secs] at h,Nat.le_refl _⟩
 ·rw[Int.add_zero,Int.emod_eq_of_lt hs.head.1 hs.head.2]
 ·have:=Ik hs (s.head+i)
  exact h _ this.1 this.2 c hc e q ht
end
open Go.RowKit
def UE (c:Int) (ims:List Img) (room:Prop):Prop:=(c=16∧ims.length > 40)∨(c=1∧ims.length≤40∧(ims=[]∨¬ D7 ims))∨(c=15∧(1≤ims.length∧ims.length≤40)∧D7 ims∧¬ room)
structure OpM where
 k0:Int
 kd:Int
 fl:Int
 k4:Int
 k5:Int
 ns:List Int
abbrev OpE:=OpM×Value×Value
def OpE.cells (e:OpE):List Value:=[.int .i64 e.1.k0,e.2.1,.int .i64 e.1.kd,.int .i64 e.1.fl,.int .i64 e.1.k4,.int .i64 e.1.k5,e.2.2]
def s5:Sup:=⟨1,1,16,18,64,0,5⟩
end Go.Proofs.YtjegbnfpodadcaaGreatDoor
