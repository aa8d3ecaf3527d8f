/-
  What trees share stays, whatever is done with one of them. No condition.
-/
import Derived.Test.YtglgbkpniipjbaaGreatDoorPart5
import Derived.Test.YtglgbkpniipjbaaGreatDoorCards
import Derived.Test.YtglgbkpniipjbaaGreatDoorTie
import Derived.WalkKit
import Derived.WalkSpells
import Derived.Deep.Quiet
import Derived.KernelRfl
import Derived.IntWalk
import Derived.Maps.AppendAt
import Derived.Laws.AppendOwnNone
import Derived.Laws.CopyRow
import Derived.StillTail
import Derived.Deep.RegionHeld
import Derived.Laws.IdiomStrings
import Derived.Laws.BytesArg
import Derived.Laws.OwnMore
import Derived.Lib.Strings
import Derived.ArgAppend
import Derived.Test.YtglgbkpniipjbaaGreatDoorRows
import Derived.RangeFuncLeaves
import Derived.RangeFuncRecord
import Derived.RangeFuncCalls
import Derived.RangeFuncSeq
import Derived.OrdersIn
import Derived.TacticsIn
import Derived.Laws.IdiomRangeMap
import Derived.Defers
import Derived.Laws.LoneSync
import Derived.LoopN
import Derived.Lib.TrailingZeros
import Derived.Test.YtglgbkpniipjbaaGreatDoorProg
import Derived.Shelf.Sort.Plain
import Derived.Shelf.Slices.In.SortNone
import Derived.DataReads
import Derived.ProofKit
import Derived.OpenShut
import Derived.Lib.SmallJoins
import Derived.Deep.DeepHandedRow
import Derived.Lib.LaidTab
set_option maxRecDepth 100000
set_option linter.unusedSimpArgs false
set_option linter.unusedVariables false
open Go.Proofs.Tryz
namespace Go.Proofs.YtglgbkpniipjbaaGreatDoor
section
open Go.RowKit
variable {Tb:Ae}
def Ho (Q:List Nat):List Value:=Q.map fun (r:Nat)=>Value.int .i64 (r:Int)
theorem Nk (Q:List Nat) (r:Nat):Ho Q++[Iv_ (r:Int)]=Ho (Q++[r]):=by simp[Ho]
theorem Nl {Q:List Nat} {i r:Nat} (h:Q[i]? =some r):(Ho Q)[i]? =some (Iv_ (r:Int)):=by simp[Ho,h]
def Zn (v:Value) (rs:List Nat) (A:Ae):Prop:=∀ h,A h→rdH 1 v rs.length (Ho rs) h
theorem HQ:∀ rs:List Nat,(rs.flatMap AW).length≤rs.length
 | []=>Nat.le_refl _
 | r::rs=>by
  have:=HQ rs
  have h1:(AW r).length≤1:=by unfold AW;split<;>simp
  simp only[List.flatMap_cons,List.length_append,List.length_cons];omega
theorem JO {rs:List Nat} {i r:Nat} (h:rs[i]? =some r):(rs.take (i+1)).flatMap AW=(rs.take i).flatMap AW++AW r:=by
 rw[List.take_add_one,h,List.flatMap_append];simp
theorem Rk {rs:List Nat} {r:Nat} (h:r∈rs) (h0:r≠0):r∈rs.flatMap AW:=List.mem_flatMap.2 ⟨r,h,by simp[AW,h0]⟩
structure RtK (o:TB) (rs:List Nat):Prop where
 r:o.R=rs.flatMap AW
 n:∀ r∈rs,r≠0→isN o.N r
 l:rs.length≤100
set_option maxHeartbeats 4000000 in
theorem Yy (pp mb n:Nat) (o:TB) (rs:List Nat) (A:Ae) (v:Value) (hk:RtK o rs) (hA:Zn v rs A):Cn prog 58 [Pt_ pp,v] [trA Tb pp mb n o none,A] (fun v Γ=>∃ (b:Nat) (F:Nat→Nat),(∀ x,manyN n+1≤x→x<n→F x=o.C x)∧v= .slice (some ⟨b,0,none⟩) n n∧Γ=[trA Tb pp mb n o none,A,cnA b F n]):=by
 intro z R w H;replace H:=H.l2;obtain ⟨ao,oc,rfl⟩:=H.says 1 rfl (fun h q=>(hA h q).slc);have K:=H.says 0 rfl (fun h a=>trA.k a)
 have hn:=K.hn
 have hkl:=hk.l
 refine Ad func58 rfl ntmps58 rfl (Zc 8 rfl (z_E_ rfl (call59 _) (Ou _ _ _ _ _) H ?_));intro w H;replace H:=H.l2;refine AM rfl (E4 (k:=n) H rfl (by kernel_rfl) A6 rfl rfl rfl (by omega)) ?_;rintro _ w ⟨b1,rfl,H⟩;replace H:=H.l3;refine Zc 10 rfl ?_;have e0:List.replicate n (Iv_ 0)=B8 (fun _=>0) n:=by unfold B8;rw[List.map_const',List.length_range];rfl
 rw[e0] at H;replace H:=(H.void (B:=qrow 3 (.slice none 0 0) 0 []) (fun h=>qrow.nil _ h)).l4
 refine Zc 5 rfl ?_;refine AG (σ:=Nat×Value×List Nat×(Nat→Nat)) (fun ⟨i,u,Q,F⟩=>[(7,Iv_ (i:Int)),(6,u),(0,Pt_ pp),(1,.slice ao rs.length oc),(4,.slice none 0 0),(5,.slice (some ⟨b1,0,none⟩) n n)])
   (fun ⟨i,u,Q,F⟩ w=>Sep z (qrow 3 u Q.length (Ho Q)::cnA b1 F n::trA Tb pp mb n o none::A::R) w∧(i≤rs.length∧Bf o.N ((rs.take i).flatMap AW) [] [] Q F)) (fun ⟨i,u,Q,F⟩=>rs.length - i) ⟨0,.slice none 0 0,[],fun _=>0⟩
   (fun _ hF=>(hF.co rfl (by go_num) (hF.co rfl (by go_num) (hF.all rfl)))) ⟨H,⟨Nat.zero_le _,Bf.nil o.N⟩⟩ ?_
 clear H;rintro ⟨i,u,Q,F⟩ w ⟨H',hI⟩;dsimp only at hI H' ⊢
 have H:=H'.l4;have su:=H.says 0 rfl (fun h q=>q.slc)
 obtain ⟨hil,hb⟩:=hI;refine Z0 9 [0] rfl (Af rfl (fun h1=> ?_) (fun h1=> ?_))
 ·refine Zc 5 rfl ?_;obtain ⟨r,hr⟩:∃ r,rs[i]? =some r:=⟨_,List.getElem?_eq_getElem (by omega)⟩;have hat:=(H.rd 3 rfl (fun h q=>hA h q)).at (Nl hr)
  have hrm:=List.mem_of_getElem? hr
  have hrk:r≠0→manyN n+1≤r∧r<n:=fun h0=>K.i.rin r (by show r∈o.R;rw[hk.r];exact Rk hrm h0)
  have hrn:=hk.n r hrm
  have hfl:=HQ (rs.take i)
  have hsm:=hb.small K.i (by simp) r
  have hbl:=hb.lt K.i
  rw[List.length_take] at hfl;rw[List.nil_append] at hbl;have hb2:r≠0→Bf o.N ((rs.take (i+1)).flatMap AW) [] [] (if F r=0 then Q++[r] else Q) (fup F r (F r+1)):=fun h0=>by have:=hb.root (hrn h0);rw[JO hr,Cz h0];exact this
  have hb3:r=0→Bf o.N ((rs.take (i+1)).flatMap AW) [] [] Q F:=fun h0=>by subst h0;rw[JO hr,show AW 0=[] from rfl,List.append_nil];exact hb
  refine Zc 3 rfl (Ab rfl (Aj rfl (z:=1) (j:=i) (r:=i) (by kernel_rfl) rfl rfl rfl (by omega) hat (by omega)) (Ab rfl (Av rfl rfl (by kernel_rfl) (Aq hat)) (Z0 2 [0] rfl (Al 26 rfl (fun h2=> ?_) (fun h2=> ?_)))))
  ·refine Zc 2 rfl (Ab rfl (Aj rfl (z:=1) (j:=i) (r:=i) (by kernel_rfl) rfl rfl rfl (by omega) hat (by omega)) (Ab rfl (Av rfl rfl (by kernel_rfl) (Aq hat)) (Z0 6 [0] rfl (Af rfl (fun h3=> ?_) (fun h3=> ?_)))))
   ·refine Zc 6 rfl (Ab rfl (Aj rfl (z:=1) (j:=i) (r:=i) (by kernel_rfl) rfl rfl rfl (by omega) hat (by omega)) (Ab rfl (Av rfl rfl (by kernel_rfl) (Aq hat)) ?_));skip
    refine Z1 1 [1,r,r] [] rfl (by omega) ?_;skip
    refine Ab rfl (AK rfl rfl (by kernel_rfl) (Aq (H.cel 1 rfl r (cnL_at _ (by omega))))) (Z0 3 [0] rfl (Af rfl (fun h4=> ?_) (fun h4=> ?_)))
    ·refine Zc 4 rfl (Ab rfl (Aj rfl (z:=1) (j:=i) (r:=i) (by kernel_rfl) rfl rfl rfl (by omega) hat (by omega)) (Ab rfl (Av rfl rfl (by kernel_rfl) (Aq hat)) (AM rfl (AJ H rfl (by kernel_rfl) A6 rfl (by decide) (by decide) (out:=[Iv_ (r:Int)]) (by kernel_rfl)) ?_)));rintro _ w ⟨b2,rfl,H⟩;replace H:=H.l5;replace H:=H.f1;refine AM rfl (K8 H rfl (by kernel_rfl) A6 rfl rfl (H.rd 1 rfl (fun h q=>q.rd (by omega) (by omega) (by simp) rfl)) rfl (by omega)) ?_;rintro v3 w H';have H':Sep z (qrow 3 v3 ((Q++[r]).length) (Ho (Q++[r]))::blk b2 [Iv_ (r:Int)] 3::cnA b1 F n::trA Tb pp mb n o none::A::R) w:=by have h:=H';rw[Nk,show Q.length+1=(Q++[r]).length from by simp] at h;exact h
     have H:=H'.l5;have sv3:=H.says 0 rfl (fun h q=>q.slc)
     refine Zc 3 rfl ?_;have hat:=(H.rd 4 rfl (fun h q=>hA h q)).at (Nl hr)
     refine Zc 4 rfl (Ab rfl (Aj rfl (z:=1) (j:=i) (r:=i) (by kernel_rfl) rfl rfl rfl (by omega) hat (by omega)) (Ab rfl (Av rfl rfl (by kernel_rfl) (Aq hat)) ?_));skip
     refine Z1 1 [1,r,r] [] rfl (by omega) ?_;skip
     refine Ab rfl (AK rfl rfl (by kernel_rfl) (Aq (H.cel 2 rfl r (cnL_at _ (by omega))))) ?_;skip
     refine Z1 1 [] [(F r:Int)+1] rfl (by omega) ?_;skip
     refine Z1 1 [1,r,r] [] rfl (by omega) ?_;skip
     refine AB rfl rfl (Ai 2 H rfl rfl rfl rfl (vs:=[Iv_ ((F r:Int)+1)]) rfl (Ac rfl Au) (by kernel_rfl) (by simp only[BO,List.length_cons,List.length_nil];omega) (out:=B8 (updN F r (F r+1)) n) (DM _ (by omega) (by omega))) ?_;rintro w H;replace H:=H.l5;refine Z1 8 [] [(i:Int)+1] rfl (by omega) ?_;replace H:=H.f1.d;refine gf ?_;intro _ hF;refine ⟨⟨i+1,v3,Q++[r],updN F r (F r+1)⟩,(hF.co rfl (by go_num) (hF.all rfl)),⟨H,?_⟩,?_⟩
     ·exact ⟨by show i+1≤rs.length;omega,by have h:=hb2 (by omega);rw[if_pos (by omega)] at h;exact h⟩
     ·(dsimp only;omega)
    ·refine Zc 2 rfl ?_;have hat:=(H.rd 3 rfl (fun h q=>hA h q)).at (Nl hr)
     refine Zc 4 rfl (Ab rfl (Aj rfl (z:=1) (j:=i) (r:=i) (by kernel_rfl) rfl rfl rfl (by omega) hat (by omega)) (Ab rfl (Av rfl rfl (by kernel_rfl) (Aq hat)) ?_));skip
     refine Z1 1 [1,r,r] [] rfl (by omega) ?_;skip
     refine Ab rfl (AK rfl rfl (by kernel_rfl) (Aq (H.cel 1 rfl r (cnL_at _ (by omega))))) ?_;skip
     refine Z1 1 [] [(F r:Int)+1] rfl (by omega) ?_;skip
     refine Z1 1 [1,r,r] [] rfl (by omega) ?_;skip
     refine AB rfl rfl (Ai 1 H rfl rfl rfl rfl (vs:=[Iv_ ((F r:Int)+1)]) rfl (Ac rfl Au) (by kernel_rfl) (by simp only[BO,List.length_cons,List.length_nil];omega) (out:=B8 (updN F r (F r+1)) n) (DM _ (by omega) (by omega))) ?_;rintro w H;replace H:=H.l4;refine Z1 8 [] [(i:Int)+1] rfl (by omega) (gf ?_);intro _ hF;refine ⟨⟨i+1,u,Q,updN F r (F r+1)⟩,(hF.co rfl (by go_num) (hF.all rfl)),⟨H,?_⟩,?_⟩
     ·exact ⟨by show i+1≤rs.length;omega,by have h:=hb2 (by omega);rw[if_neg (by omega)] at h;exact h⟩
     ·(dsimp only;omega)
   ·(exfalso;have:=hrk (by omega);omega)
  ·refine Z1 19 [] [(i:Int)+1] rfl (by omega) (gf ?_);intro _ hF;refine ⟨⟨i+1,u,Q,F⟩,(hF.co rfl (by go_num) (hF.all rfl)),⟨H,?_⟩,?_⟩
   ·exact ⟨by show i+1≤rs.length;omega,hb3 (by omega)⟩
   ·(dsimp only;omega)
 ·refine Zc 2 rfl (gx (Zc 4 rfl ?_));refine AG (σ:=Value×List Nat×List Nat×(Nat→Nat)) (fun ⟨y,S,D,F⟩=>[(6,y),(0,Pt_ pp),(4,.slice none 0 0),(5,.slice (some ⟨b1,0,none⟩) n n)])
    (fun ⟨y,S,D,F⟩ w=>Sep z (qrow 3 y S.length (Ho S)::cnA b1 F n::trA Tb pp mb n o none::A::R) w∧(Bf o.N o.R D [] S F)) (fun ⟨y,S,D,F⟩=>n - D.length) ⟨u,Q,[],F⟩
    (fun _ hF=>(hF.all rfl)) ⟨H,(by have h:=hb;rw[List.take_of_length_le (by omega),←hk.r] at h;exact h)⟩ ?_
  clear H;rintro ⟨y,S,D,F⟩ w ⟨H',hI⟩;dsimp only at hI H' ⊢
  have H:=H'.l4;have sy:=H.says 0 rfl (fun h q=>q.slc)
  have hb:=hI
  refine Zc 4 rfl (Ab rfl (DU rfl (sz:=1) (by kernel_rfl) rfl sy) (Z0 3 [0] rfl (Af rfl (fun h5=> ?_) (fun h5=> ?_))))
  ·refine Zc 4 rfl ?_;obtain ⟨q,S,rfl⟩:=List.exists_cons_of_length_pos (l:=S) (by omega);obtain ⟨⟨lf,es⟩,hN⟩:=hb.pop;have hbl:=hb.lt K.i
   simp only[List.length_append,List.length_cons] at hbl
   have hck:CkN lf (kL es) (vL es):=K.i.vok (by omega) hn.2 hN
   have hes8:es.length≤8:=(K.i.nds q _ hN).1.len
   obtain ⟨ya,yc,rfl⟩:=sy;have hya:=(H.rd 0 rfl (fun h q=>q.rd)).at (j:=0) (u:=Iv_ (q:Int)) rfl
   have hyc:=H.says 0 rfl (fun h q=>q.rd.slcapZ)
   refine Zc 3 rfl (Ab rfl (Aj rfl (z:=1) (j:=0) (r:=0) (by kernel_rfl) rfl rfl rfl (by simp) hya (by omega)) (Ab rfl (Av rfl rfl (by kernel_rfl) (Aq hya)) (Ax rfl (call24 _) (FV pp mb n o none q lf es hN) H.f2 ?_)));rintro _ w _ ⟨nk,nv,rfl,rfl⟩ H;replace H:=H.l6;have snk:=H.says 0 rfl (fun h q=>q.slc)
   obtain ⟨ka,kc,rfl⟩:=snk;have snv:=H.says 1 rfl (fun h q=>q.slc)
   obtain ⟨va,vc,rfl⟩:=snv;refine Za 3 [] H rfl ?_;intro b4 w H;refine Z4 7 [0] H rfl ?_;intro w H;refine Ab rfl (I0 (p:=1) (q:=(q::S).length) (l':=((q::S).length) - 1) (c':=yc - 1) rfl (by kernel_rfl) rfl (.inr ⟨_,_,_,rfl,rfl,rfl⟩) (.inl ⟨rfl,rfl⟩) (by omega) (by omega) rfl rfl) (Zc 4 rfl ?_);have H':Sep z (blk b4 [.bool lf,.slice ka ((kL es).length) kc,.slice va ((vL es).length) vc] 54::grow 3 1 (.slice ka ((kL es).length) kc) ((kL es).length) ((kL es).map Iv_)::grow 3 1 (.slice va ((vL es).length) vc) ((vL es).length) ((vL es).map Iv_)::trA Tb pp mb n o none::qrow 3 (.slice (cutA ya yc 1) S.length (yc - 1)) S.length (Ho S)::cnA b1 F n::A::R) w:=H.mono 4 rfl (fun h q=>q.cut (by simp))
   have H:=H'.l7;refine Zc 5 rfl ?_;refine AG (σ:=Nat×Value×List Nat×(Nat→Nat)) (fun ⟨k,z_,T,G⟩=>[(10,Iv_ (k:Int)),(6,z_),(0,Pt_ pp),(4,.slice none 0 0),(5,.slice (some ⟨b1,0,none⟩) n n),(8,Pt_ b4),(9,Iv_ 0),(59,.slice ya ((q::S).length) yc),(60,Iv_ ((q::S).length:Int)),(61,.bool (decide ((0:Int)<((q::S).length:Int)))),(62,.tuple #[.agg #[.bool lf,.slice ka ((kL es).length) kc,.slice va ((vL es).length) vc],Iv_ 0]),(63,Pt_ pp),(64,.slice ya ((q::S).length) yc),(65,Fz ya 0),(66,Iv_ (q:Int)),(67,.tuple #[.agg #[.bool lf,.slice ka ((kL es).length) kc,.slice va ((vL es).length) vc],Iv_ 0]),(68,.agg #[.bool lf,.slice ka ((kL es).length) kc,.slice va ((vL es).length) vc]),(69,Iv_ 0),(70,.slice ya ((q::S).length) yc),(71,.slice (cutA ya yc 1) (((q::S).length) - 1) (yc - 1))])
     (fun ⟨k,z_,T,G⟩ w=>Sep z (blk b4 [.bool lf,.slice ka ((kL es).length) kc,.slice va ((vL es).length) vc] 54::grow 3 1 (.slice ka ((kL es).length) kc) ((kL es).length) ((kL es).map Iv_)::grow 3 1 (.slice va ((vL es).length) vc) ((vL es).length) ((vL es).map Iv_)::trA Tb pp mb n o none::qrow 3 z_ T.length (Ho T)::cnA b1 G n::A::R) w∧(k≤es.length∧Bf o.N o.R D ((vals es).take k) (q::T) G)) (fun ⟨k,z_,T,G⟩=>es.length - k) ⟨0,.slice (cutA ya yc 1) S.length (yc - 1),S,F⟩
     (fun _ hF=>(hF.co rfl (by go_num) (hF.co rfl (by go_num) (hF.all rfl)))) ⟨H,⟨Nat.zero_le _,hb⟩⟩ ?_
   clear H;rintro ⟨k,z_,T,G⟩ w ⟨H',hI⟩;dsimp only at hI H' ⊢
   have H:=H'.l7;have sz_:=H.says 4 rfl (fun h q=>q.slc)
   obtain ⟨hkl2,hc⟩:=hI;refine Z2 14 [3,2,0,0,0] H rfl (Af rfl (fun h6=> ?_) (fun h6=> ?_))
   ·refine Zc 5 rfl ?_;obtain ⟨e,he⟩:∃ e,es[k]? =some e:=⟨_,List.getElem?_eq_getElem (by simp only[List.length_map] at *;omega)⟩;have hem:=List.mem_of_getElem? he
    have hva:=(H.rd 2 rfl (fun h q=>q.rd)).at (j:=k) (u:=Iv_ (e.2:Int)) (by simp[vL,he])
    have hev:=(K.i.nds q _ hN).2.2 e.2 (List.mem_map_of_mem hem)
    have hik:=K.i.kids hN hem
    have hsm:=hc.small K.i (by rw[List.length_take];simp[vals];omega) e.2
    have hbl2:=hc.lt K.i
    simp only[List.length_append,List.length_cons] at hbl2
    have hRl:o.R.length≤100:=by rw[hk.r];have:=HQ rs;have:=hk.l;omega
    have hc2:=hc.val hik
    rw[show (vals es).take k++[e.2]=(vals es).take (k+1) from by rw[List.take_add_one];simp[vals,he]] at hc2;refine Z2 4 [2,0,0] H rfl (Ab rfl (Aj rfl (z:=1) (j:=k) (r:=k) (by kernel_rfl) rfl rfl rfl (by simp only[List.length_map] at *;omega) hva (by omega)) (Ab rfl (Av rfl rfl (by kernel_rfl) (Aq hva)) (Z0 9 [0] rfl (Al 90 rfl (fun h7=> ?_) (fun h7=> ?_)))))
    ·(exfalso;omega)
    ·refine Z0 7 [0] rfl (Af rfl (fun h8=> ?_) (fun h8=> ?_))
     ·(exfalso;omega)
     ·refine Zc 7 rfl ?_;skip
      refine Z1 1 [1,e.2,e.2] [] rfl (by omega) ?_;skip
      refine Ab rfl (AK rfl rfl (by kernel_rfl) (Aq (H.cel 5 rfl e.2 (cnL_at _ (by omega))))) (Z0 2 [0] rfl (Al 101 rfl (fun h9=> ?_) (fun h9=> ?_)))
      ·refine Z2 6 [0,0,0] H rfl (DW rfl (fun h10=> ?_) (fun h10=> ?_))
       ·refine Zc 3 rfl (AM rfl (AJ H rfl (by kernel_rfl) A6 rfl (by decide) (by decide) (out:=[Iv_ (e.2:Int)]) (by kernel_rfl)) ?_);rintro _ w ⟨b5,rfl,H⟩;replace H:=H.l8;replace H:=H.f5;refine AM rfl (K8 H rfl (by kernel_rfl) A6 rfl rfl (H.rd 1 rfl (fun h q=>q.rd (by omega) (by omega) (by simp) rfl)) rfl (by omega)) ?_;rintro v6 w H';have H':Sep z (qrow 3 v6 ((T++[e.2]).length) (Ho (T++[e.2]))::blk b5 [Iv_ (e.2:Int)] 3::blk b4 [.bool lf,.slice ka ((kL es).length) kc,.slice va ((vL es).length) vc] 54::grow 3 1 (.slice ka ((kL es).length) kc) ((kL es).length) ((kL es).map Iv_)::grow 3 1 (.slice va ((vL es).length) vc) ((vL es).length) ((vL es).map Iv_)::trA Tb pp mb n o none::cnA b1 G n::A::R) w:=by have h:=H';rw[Nk,show T.length+1=(T++[e.2]).length from by simp] at h;exact h
        have H:=H'.l8;have sv6:=H.says 0 rfl (fun h q=>q.slc)
        refine Zc 6 rfl ?_;skip
        refine Z1 1 [1,e.2,e.2] [] rfl (by omega) ?_;skip
        refine Ab rfl (AK rfl rfl (by kernel_rfl) (Aq (H.cel 6 rfl e.2 (cnL_at _ (by omega))))) ?_;skip
        refine Z1 1 [] [(G e.2:Int)+1] rfl (by omega) ?_;skip
        refine Z1 1 [1,e.2,e.2] [] rfl (by omega) ?_;skip
        refine AB rfl rfl (Ai 6 H rfl rfl rfl rfl (vs:=[Iv_ ((G e.2:Int)+1)]) rfl (Ac rfl Au) (by kernel_rfl) (by simp only[BO,List.length_cons,List.length_nil];omega) (out:=B8 (updN G e.2 (G e.2+1)) n) (DM _ (by omega) (by omega))) ?_;rintro w H;replace H:=H.l8;refine Z1 8 [] [(k:Int)+1] rfl (by omega) ?_;replace H:=H.f1.d.f6.f6.f2.f6.f6.f6.f6;refine gf ?_;intro _ hF;refine ⟨⟨k+1,v6,T++[e.2],updN G e.2 (G e.2+1)⟩,(hF.co rfl (by go_num) (hF.all rfl)),⟨H,?_⟩,?_⟩
        ·exact ⟨by show k+1≤es.length;simp only[List.length_map] at *;omega,by have h:=hc2;rw[if_pos (by simp_all)] at h;exact h⟩
        ·(dsimp only;simp only[List.length_map] at *;omega)
       ·refine Zc 5 rfl ?_;skip
        refine Z1 1 [1,e.2,e.2] [] rfl (by omega) ?_;skip
        refine Ab rfl (AK rfl rfl (by kernel_rfl) (Aq (H.cel 5 rfl e.2 (cnL_at _ (by omega))))) ?_;skip
        refine Z1 1 [] [(G e.2:Int)+1] rfl (by omega) ?_;skip
        refine Z1 1 [1,e.2,e.2] [] rfl (by omega) ?_;skip
        refine AB rfl rfl (Ai 5 H rfl rfl rfl rfl (vs:=[Iv_ ((G e.2:Int)+1)]) rfl (Ac rfl Au) (by kernel_rfl) (by simp only[BO,List.length_cons,List.length_nil];omega) (out:=B8 (updN G e.2 (G e.2+1)) n) (DM _ (by omega) (by omega))) ?_;rintro w H;replace H:=H.l7;refine Z1 8 [] [(k:Int)+1] rfl (by omega) (gf ?_);intro _ hF;refine ⟨⟨k+1,z_,T,updN G e.2 (G e.2+1)⟩,(hF.co rfl (by go_num) (hF.all rfl)),⟨H,?_⟩,?_⟩
        ·exact ⟨by show k+1≤es.length;simp only[List.length_map] at *;omega,by have h:=hc2;rw[if_neg (by simp_all)] at h;exact h⟩
        ·(dsimp only;simp only[List.length_map] at *;omega)
      ·refine Zc 12 rfl ?_;skip
       refine Z1 1 [1,e.2,e.2] [] rfl (by omega) ?_;skip
       refine Ab rfl (AK rfl rfl (by kernel_rfl) (Aq (H.cel 5 rfl e.2 (cnL_at _ (by omega))))) ?_;skip
       refine Z1 1 [] [(G e.2:Int)+1] rfl (by omega) ?_;skip
       refine Z1 1 [1,e.2,e.2] [] rfl (by omega) ?_;skip
       refine AB rfl rfl (Ai 5 H rfl rfl rfl rfl (vs:=[Iv_ ((G e.2:Int)+1)]) rfl (Ac rfl Au) (by kernel_rfl) (by simp only[BO,List.length_cons,List.length_nil];omega) (out:=B8 (updN G e.2 (G e.2+1)) n) (DM _ (by omega) (by omega))) ?_;rintro w H;replace H:=H.l7;refine Z1 8 [] [(k:Int)+1] rfl (by omega) (gf ?_);intro _ hF;refine ⟨⟨k+1,z_,T,updN G e.2 (G e.2+1)⟩,(hF.co rfl (by go_num) (hF.all rfl)),⟨H,?_⟩,?_⟩
       ·exact ⟨by show k+1≤es.length;simp only[List.length_map] at *;omega,by have h:=hc2;rw[if_neg (by simp_all)] at h;exact h⟩
       ·(dsimp only;simp only[List.length_map] at *;omega)
   ·refine Zc 2 rfl (gx (Zc 2 rfl ?_));replace H:=H.f2.d.f1.d.d.f3.f1.f3.f3;refine gf ?_;intro _ hF;refine ⟨⟨z_,T,D++[q],G⟩,(hF.all rfl),⟨H,?_⟩,?_⟩
    ·(have h:=hc;rw[List.take_of_length_le (by simp only[List.length_map,vals] at *;omega)] at h;exact Bf.done hN h)
    ·(dsimp only;rw[List.length_append,List.length_singleton];omega)
  ·refine Zc 2 rfl (gx (Zc 9 rfl (Zr rfl ?_)));obtain rfl:S=[]:=List.length_eq_zero_iff.1 (by omega);exact ⟨_,⟨b1,F,fun x h1 h2=>hb.all K.i hn.2 h1 h2,rfl,rfl⟩,H.pick 4 [2,3,1] rfl⟩
end
section
open Go.RowKit
variable {Tb:Ae}
set_option maxHeartbeats 2000000 in
theorem WE (pp mb n:Nat) (o:TB) (rs:List Nat) (A:Ae) (v:Value) (hk:RtK o rs) (hA:Zn v rs A):Cn prog 25 [Pt_ pp,v] [trA Tb pp mb n o none,A] (fun v Γ=>v= .bool true∧Γ=[trA Tb pp mb n o none,A]):=by
 intro z R w H;replace H:=H.l2;have K:=H.says 0 rfl (fun h a=>trA.k a)
 have hn:=K.hn
 refine Ad func25 rfl ntmps25 rfl (Zc 9 rfl (Ax rfl (call58 _) (Yy pp mb n o rs A _ hk hA) H ?_));rintro _ w _ ⟨b,F,hF,rfl,rfl⟩ H;refine Zc 6 rfl (z_E_ rfl (call59 _) (Ou _ _ _ _ _) H ?_);intro w H;refine Z1 9 [] [(n:Int)+120,((n:Int)+120) - 1,(((n:Int)+120) - 1) / 120,1+((((n:Int)+120) - 1) / 120)] rfl (by omega) (AC 6 (v:=Iv_ ((manyN n+1:Nat):Int)) rfl (congrArg Iv_ (by unfold manyN;omega)) (Zc 6 rfl ?_));refine AG (σ:=Nat) (fun j=>[(7,Iv_ (j:Int)),(0,Pt_ pp),(5,.slice (some ⟨b,0,none⟩) n n)])
   (fun j w=>Sep z (trA Tb pp mb n o none::A::cnA b F n::R) w∧(manyN n+1≤j)) (fun j=>n - j) (manyN n+1)
   (fun _ hF=>(hF.co rfl (by go_num) (hF.all rfl))) ⟨H,(Nat.le_refl _)⟩ ?_
 clear H;rintro j w ⟨H',hI⟩;have H:=H'.l3;have hj:=hI;clear hI
 refine Z0 9 [0] rfl (Af rfl (fun h1=> ?_) (fun h1=> ?_))
 ·refine Zc 5 rfl ?_;replace H:=H.f2;refine AI (Sep z (cnA b F n::R)) 8 rfl (by kernel_rfl) (A9 H fun w H'=> ?_)
  have H:=H'.l3;refine Hl [0,1,3,4,5] [1,j,j] [] (by exact (H.pick 3 [0] rfl)) rfl (by kernel_rfl) (by omega) rfl (BC 6 rfl (by kernel_rfl) (by kernel_rfl) (by kernel_rfl) rfl rfl rfl (AK rfl rfl (by kernel_rfl) (fun _ hx=>hx.cel 0 rfl j (cnL_at _ (by omega)))) (H.pick 3 [0] rfl) (Az [2] (by kernel_rfl) (by simp) (Ay (BH rfl rfl rfl rfl rfl rfl (fun w=>call20 _ w) (Io pp mb n o _ j (by omega)) H.f1 rfl ?_))));rintro _ w _ ⟨rfl,rfl⟩ H;replace H:=H.l3;refine AC 26 (v:=Iv_ (o.C j:Int)) rfl rfl (Ap (H.pick 3 [1] rfl) (AN [7] [0] [] (by exact (H.pick 3 [1] rfl)) rfl (by kernel_rfl) rfl (a_done (by kernel_rfl) (gn (Zc 1 rfl (Af rfl (fun h2=> ?_) (fun h2=> ?_)))))))
  ·(exfalso;have:=hF j (by omega) (by omega);omega)
  ·refine Z1 8 [] [(j:Int)+1] rfl (by omega) ?_;replace H:=H.f1.f2.f2;refine gf ?_;intro _ hF;refine ⟨(j+1),(hF.co rfl (by go_num) (hF.all rfl)),⟨H,?_⟩,?_⟩
   ·omega
   ·omega
 ·refine Zc 2 rfl (gx (Zc 8 rfl (Zr rfl ?_)));exact ⟨_,⟨rfl,rfl⟩,H.pick 3 [0,1] rfl⟩
end
section
open Go.RowKit
variable {Tb:Ae}
theorem Root.isN {N:Hm} {a:Nat} {L:List E} (h:Root N a L) (h0:a≠0):isN N a:=by
 rcases h with ⟨e,_⟩|⟨_,h,t⟩
 ·exact absurd e h0
 ·exact t.node
end
section
open Go.RowKit
variable {Tb:Ae}
end
section
open Go.RowKit
variable {Tb:Ae}
end
section
open Go.RowKit
section
variable {P:Program} {o:Oper} {w z:World} {Γ:List Ae} {n:Nat} {ds:List Deferred} {L:List (Nat×Value)} {v:Value} {x y:Operand}
end
/-! ### the pages of a tree -/
theorem Kp.root {N N':Hm} {a:Nat} {L:List E} (h:Kp N N' (AW a)) (r:Root N a L):Root N' a L:=by
 by_cases e:a=0
 ·subst e
  rcases r with r|⟨r,_⟩
  ·exact .inl r
  ·exact absurd rfl r
 ·exact h a (by simp[AW,e]) L r
end
section
open Go.RowKit
variable {Tb:Ae}
def TB.as (o:TB) (R:List Nat):TB:=⟨o.N,o.C,R⟩
theorem Sep.trSwap {Tb:Ae} {z w:World} {Γ:List Ae} {pp mb n:Nat} {o:TB} {R:List Nat} (H:Sep z (trA Tb pp mb n o none::Γ) w) (h:o.R.Perm R):Sep z (trA Tb pp mb n (o.as R) none::Γ) w:=by
 obtain ⟨M0,hr,H⟩:=H.tr0
 exact Sep.toTr0 (o:=o.as R) H ⟨hr.m,hr.i.perm h⟩
structure Two (o:TB) (a:Nat) (L:List E) (b:Nat) (M:List E):Prop where
 ra:Root o.N a L
 na:(vals L).Nodup
 rb:Root o.N b M
 nb:(vals M).Nodup
 r:o.R.Perm (AW a++AW b)
theorem Rl (a:Nat):(AW a).length≤100:=by unfold AW;split<;>simp
section
variable {o o2:TB} {a a2 b:Nat} {L L2 M:List E} {k:Int} {dr:Bool} {mb m2:Nat}
theorem Two.lw (h:Two o a L b M):LwI 400 (o.as (AW a++AW b)) a L (AW b):=⟨by omega,Rl _,h.ra,h.na,rfl⟩
theorem Two.swap (h:Two o a L b M):Two o b M a L:=⟨h.rb,h.nb,h.ra,h.na,h.r.trans List.perm_append_comm⟩
theorem DoR.two {R:List Nat} (hD:DoR 400 (o.as R) o2 a a2 L L2 (AW b) k dr mb m2) (h:Two o a L b M):Two o2 a2 L2 b M:=
 ⟨hD.I.root,hD.I.nd,hD.kp.root h.rb,h.nb,by rw[hD.I.r]⟩
theorem LwI.two0 (h:LwI 400 o a L []) (h0:a=0):Two o a L a L:=⟨h.root,h.nd,h.root,h.nd,by rw[h.r,h0];simp[AW]⟩
theorem LwI.two1 (h:LwI 400 o a L []) (h0:a≠0) (C:Nat→Nat):Two ⟨o.N,C,a::o.R⟩ a L a L:=⟨h.root,h.nd,h.root,h.nd,by show (a::o.R).Perm _;rw[h.r,Cz h0];simp⟩
theorem Two.rt (h:Two o a L b M):RtK (o.as (AW a++AW b)) [a,b]:=
 ⟨by show AW a++AW b=_;simp,fun r hr h0=>by rcases List.mem_cons.1 hr with rfl|hr;exact h.ra.isN h0;(simp at hr;subst hr;exact h.rb.isN h0),by simp⟩
end
set_option maxHeartbeats 6000000 in
theorem Nm (A Tb:Ae) (hT:GY Tb) (v:Value) (es:List OtE) (hes:es.length≤1048576) (hA:Yv v es A) (vx:Value) (esx:List OtE) (hesx:esx.length≤1048576) (hAx:Yv vx esx A) (vy:Value) (esy:List OtE) (hesy:esy.length≤1048576) (hAy:Yv vy esy A):Cn prog 8 [v,vx,vy] [A,Tb] (fun v Γ=>v= .bool true∧Γ=[A,Tb]):=by
 intro z R w H;replace H:=H.l2;obtain ⟨ao,oc,rfl⟩:=H.says 0 rfl (fun h q=>(hA h q).1.slc);obtain ⟨aox,ocx,rfl⟩:=H.says 0 rfl (fun h q=>(hAx h q).1.slc);obtain ⟨aoy,ocy,rfl⟩:=H.says 0 rfl (fun h q=>(hAy h q).1.slc);refine Ad func8 rfl ntmps8 rfl (Zc 7 rfl (Ax rfl (call10 _) (Na 400 (by omega) Tb hT) H.f1 ?_));rintro _ w _ ⟨pp,rfl,rfl⟩ H;refine Za 17 [] H rfl ?_;intro b1 w H;refine Za 1 [] H rfl ?_;intro b2 w H;refine Zc 5 rfl ?_;replace H:=(H.nilg 87 2).l5
 have H':Sep z (mpA b1 ([])::blk b2 [Pt_ pp,Iv_ 0,Pt_ b1] 32::trA Tb pp 6 400 (Gc 400) none::A::R) w:=(H.pick 5 [2,0,1,3,4] rfl).toMp (L:=[])
 have H:=H'.l4;refine Zc 5 rfl ?_;refine AG (σ:=Nat×Nat×List E×TB×Nat) (fun ⟨i,ra,L,o,mb⟩=>[(9,Iv_ (i:Int)),(0,.slice ao es.length oc),(1,.slice aox esx.length ocx),(2,.slice aoy esy.length ocy),(7,Pt_ pp),(8,Pt_ b2)])
   (fun ⟨i,ra,L,o,mb⟩ w=>Sep z (mpA b1 L::blk b2 [Pt_ pp,Iv_ (ra:Int),Pt_ b1] 32::trA Tb pp mb 400 o none::A::R) w∧(i≤es.length∧mb≤6+2 * i∧LwI 400 o ra L [])) (fun ⟨i,ra,L,o,mb⟩=>es.length - i) ⟨0,0,[],Gc 400,6⟩
   (fun _ hF=>(hF.co rfl (by go_num) (hF.all rfl))) ⟨H,⟨Nat.zero_le _,by omega,Uk (by omega)⟩⟩ ?_
 clear H;rintro ⟨i,ra,L,o,mb⟩ w ⟨H',hI⟩;dsimp only at hI H' ⊢
 have H:=H'.l4;obtain ⟨hil,hmb,hW⟩:=hI;refine Z0 9 [0] rfl (Af rfl (fun h1=> ?_) (fun h1=> ?_))
 ·refine Zc 5 rfl ?_;obtain ⟨e,he⟩:∃ e,es[i]? =some e:=⟨_,List.getElem?_eq_getElem (by omega)⟩;have hek:=H.says 3 rfl (fun h q=>(hA h q).2 e (List.mem_of_getElem? he))
  have hat:=(H.rd 3 rfl (fun h q=>(hA h q).1)).at (EY he 0 _ rfl)
  refine Zc 4 rfl (Ab rfl (Aj rfl (z:=3) (j:=i) (r:=i * 3) (by kernel_rfl) rfl rfl rfl (by omega) hat (by omega)) (Ab rfl (Ch rfl rfl (vs:=[Iv_ e.k,.bool e.d,Iv_ e.f]) (by kernel_rfl) (by simp) (Aq (fun k u hk=>(H.rd 3 rfl (fun h q=>(hA h q).1)).at (EY he k u hk)))) (Ax rfl (call12 _) (HN _ _ _ mb 400 o ra L [] e.k e.d e.f hW (by omega) (by omega)) H.f2.f1.f2 ?_)));rintro _ w _ ⟨a1,L1,o1,m1,hD1,rfl,rfl⟩ H;refine Z1 18 [] [(i:Int)+1] rfl (by omega) ?_;replace H:=H.f3.f3.f2.f3;refine gf ?_;intro _ hF;refine ⟨⟨i+1,a1,L1,o1,m1⟩,(hF.co rfl (by go_num) (hF.all rfl)),⟨H,?_⟩,?_⟩
  ·exact ⟨by show i+1≤es.length;omega,by have:=hD1.m;show m1≤6+2 * (i+1);omega,hD1.I⟩
  ·(dsimp only;omega)
 ·refine Zc 2 rfl (gx (Zc 3 rfl ?_));have hll:L.length≤1048576:=by have K:=H.says 2 rfl (fun h a=>trA.k a);have:=GI K.i (by omega) (show ∀ e∈L,∃ b,DQ o none e.2=some (.dt b) from hW.root.data) hW.nd;have:=K.hn;omega
  replace H:=H.f1;refine AI (Sep z (blk b2 [Pt_ pp,Iv_ (ra:Int),Pt_ b1] 32::R)) 13 rfl (by kernel_rfl) (A9 H fun w H'=> ?_)
  have H:=H'.l4;refine AN [0,1,2,3,4,5,6,7,8] [1,0,0,2,0,0] [] (by exact (H.pick 4 [0] rfl)) rfl (by kernel_rfl) rfl (Az [9] (by kernel_rfl) (by simp) (Ay (BH rfl rfl rfl rfl rfl rfl (fun w=>call26 _ w) (TF _ L hll) H.f1 rfl ?_)));rintro _ w _ ⟨pq,rfl,rfl⟩ H;replace H:=H.l5;refine Ap (H.pick 5 [2] rfl) (AN [10] [] [] (by exact (H.pick 5 [2] rfl)) rfl (by kernel_rfl) rfl (Az [11] (by kernel_rfl) (by simp) (Ay (B7 rfl rfl rfl rfl (Fq H rfl rfl (cs:=[Pt_ pp,Iv_ (ra:Int),Pt_ pq]) rfl) ?_))));rintro _ w ⟨b3,rfl,H⟩;replace H:=H.l6;refine Ap (H.pick 6 [3] rfl) (AN [12] [] [] (by exact (H.pick 6 [3] rfl)) rfl (by kernel_rfl) rfl (a_done (by kernel_rfl) (gn (Zc 1 rfl ?_))));have K1:=H.says 4 rfl (fun h a=>trA.k a)
  have hrr:o.R=AW ra:=by rw[hW.r,List.append_nil]
  have hrp:ra≠0→(manyN 400<ra∧ra<400)∧1≤o.C ra:=fun h0=>by have hm:ra∈Cb o none:=(by show ra∈o.R;rw[hrr,Cz h0];simp);exact ⟨K1.i.rin ra hm,K1.i.pos hm⟩
  refine EC (fun a w=>∃ (o2:TB) (mb2:Nat),Fr 154 [] [(0,.slice ao es.length oc),(1,.slice aox esx.length ocx),(2,.slice aoy esy.length ocy),(7,Pt_ pp),(8,Pt_ b2),(11,Pt_ b3)] a∧Sep z (blk b3 [Pt_ pp,Iv_ (ra:Int),Pt_ pq] 32::mpA pq L::mpA b1 L::blk b2 [Pt_ pp,Iv_ (ra:Int),Pt_ b1] 32::trA Tb pp mb2 400 o2 none::A::R) w∧(Two o2 ra L ra L∧mb2≤mb+2)) ?_ ?_
  ·refine Zc 1 rfl ?_;have K1:=H.says 4 rfl (fun h a=>trA.k a)
   have hrr:o.R=AW ra:=by rw[hW.r,List.append_nil]
   have hrp:ra≠0→(manyN 400<ra∧ra<400)∧1≤o.C ra:=fun h0=>by have hm:ra∈Cb o none:=(by show ra∈o.R;rw[hrr,Cz h0];simp);exact ⟨K1.i.rin ra hm,K1.i.pos hm⟩
   refine Z2 7 [1,3,0,0] H rfl (Al 57 rfl (fun h2=> ?_) (fun h2=> ?_))
   ·refine Zc 1 rfl ?_;have hrp:=hrp (by omega)
    have hrl:o.R.length=1:=by rw[hrr,Cz (by omega)];rfl
    refine z_E_ rfl (call19 _) (Kl _ _ _ _) H.f4 ?_;intro w H;refine Z2 7 [4,1,4,0] H rfl (z_E_ rfl (call27 _) (Ui _ _ _ _ _ _ ra hrp.1 hrp.2 (by rw[hrl];omega)) H ?_);intro w H;refine Z0 4 [4] rfl (z_E_ rfl (call28 _) (Hc _ _ _ _ _ _ (by show 0+manyN 400≤40;decide) (by omega)) H ?_);intro w H;refine Z0 7 [4] rfl ?_;replace H:=H.f5.f1.f5.f5.f5.f5;exact gf fun _ hF=>⟨⟨o.N,fup o.C ra (o.C ra+1),ra::o.R⟩,(mb+2),(hF.all rfl),H,⟨hW.two1 (by omega) _,by omega⟩⟩
   ·refine Zc 22 rfl ?_;exact gf fun _ hF=>⟨o,mb,(hF.all rfl),H,⟨hW.two0 (by omega),by omega⟩⟩
  rintro a w ⟨o2,mb2,hF,H,hI⟩;revert a;obtain ⟨hX0,hm0⟩:=hI;refine Zc 7 rfl ?_;refine AG (σ:=Nat×Nat×List E×Nat×List E×TB×Nat) (fun ⟨j,ta,L,tb,M,o,mb⟩=>[(12,Iv_ (j:Int)),(1,.slice aox esx.length ocx),(2,.slice aoy esy.length ocy),(7,Pt_ pp),(8,Pt_ b2),(11,Pt_ b3)])
    (fun ⟨j,ta,L,tb,M,o,mb⟩ w=>Sep z (blk b3 [Pt_ pp,Iv_ (tb:Int),Pt_ pq] 32::mpA pq M::mpA b1 L::blk b2 [Pt_ pp,Iv_ (ta:Int),Pt_ b1] 32::trA Tb pp mb 400 o none::A::R) w∧(j≤1048576∧mb≤10+2 * es.length+4 * j∧Two o ta L tb M)) (fun ⟨j,ta,L,tb,M,o,mb⟩=>1048576 - j) ⟨0,ra,L,ra,L,o2,mb2⟩
    (fun _ hF=>(hF.co rfl (by go_num) (hF.all rfl))) ⟨H,⟨Nat.zero_le _,by omega,hX0⟩⟩ ?_
  clear H;rintro ⟨j,ta,L,tb,M,o,mb⟩ w ⟨H',hI⟩;dsimp only at hI H' ⊢
  have H:=H'.l6;obtain ⟨hj,hmb2,hX⟩:=hI;refine EC (fun a w=>Fr 154 [] [(1,.slice aox esx.length ocx),(2,.slice aoy esy.length ocy),(7,Pt_ pp),(8,Pt_ b2),(11,Pt_ b3),(12,Iv_ (j:Int))] a∧Sep z (blk b3 [Pt_ pp,Iv_ (tb:Int),Pt_ pq] 32::mpA pq M::mpA b1 L::blk b2 [Pt_ pp,Iv_ (ta:Int),Pt_ b1] 32::trA Tb pp mb 400 o none::A::R) w∧(j<esx.length∨j<esy.length)) ?_ ?_
  ·refine Z0 7 [0] rfl (Al 80 rfl (fun h3=> ?_) (fun h3=> ?_))
   ·refine Zc 9 rfl ?_;exact gf fun _ hF=>⟨(hF.all rfl),H,(by omega)⟩
   ·refine Z0 7 [0] rfl (Af rfl (fun h4=> ?_) (fun h4=> ?_))
    ·refine Zc 1 rfl ?_;exact gf fun _ hF=>⟨(hF.all rfl),H,(by omega)⟩
    ·refine Zc 1 rfl (gx (gx (Zc 3 rfl ?_)));replace H:=(((H.pick 6 [4,5] rfl).trTab).2).l2
     refine Zc 1 rfl (z_E_ rfl (call16 _) (TG Tb hT) H ?_);intro w H;refine Zc 4 rfl (Zr rfl ?_);exact ⟨_,⟨rfl,rfl⟩,H.pick 2 [1,0] rfl⟩
  rintro a w ⟨hF,H,hI⟩;revert a;refine Zc 2 rfl (EC (fun a w=>∃ (a1:Nat) (L1:List E) (o1:TB) (m1:Nat),Fr 154 [] [(1,.slice aox esx.length ocx),(2,.slice aoy esy.length ocy),(7,Pt_ pp),(8,Pt_ b2),(11,Pt_ b3),(12,Iv_ (j:Int))] a∧Sep z (blk b3 [Pt_ pp,Iv_ (tb:Int),Pt_ pq] 32::mpA pq M::mpA b1 L1::blk b2 [Pt_ pp,Iv_ (a1:Int),Pt_ b1] 32::trA Tb pp m1 400 o1 none::A::R) w∧(Two o1 a1 L1 tb M∧m1≤mb+2)) ?_ ?_)
  ·refine Z0 8 [0] rfl (Af rfl (fun h5=> ?_) (fun h5=> ?_))
   ·refine Zc 1 rfl ?_;obtain ⟨e,he⟩:∃ e,esx[j]? =some e:=⟨_,List.getElem?_eq_getElem (by omega)⟩;have hek:=H.says 5 rfl (fun h q=>(hAx h q).2 e (List.mem_of_getElem? he))
    have hatx:=(H.rd 5 rfl (fun h q=>(hAx h q).1)).at (EY he 0 _ rfl)
    replace H:=H.f4;have H':Sep z (trA Tb pp mb 400 (TB.as o (AW ta++AW tb)) none::blk b3 [Pt_ pp,Iv_ (tb:Int),Pt_ pq] 32::mpA pq M::mpA b1 L::blk b2 [Pt_ pp,Iv_ (ta:Int),Pt_ b1] 32::A::R) w:=Sep.trSwap H hX.r
    have H:=H'.l6;refine Zc 4 rfl (Ab rfl (Aj rfl (z:=3) (j:=j) (r:=j * 3) (by kernel_rfl) rfl rfl rfl (by omega) hatx (by omega)) (Ab rfl (Ch rfl rfl (vs:=[Iv_ e.k,.bool e.d,Iv_ e.f]) (by kernel_rfl) (by simp) (Aq (fun k u hk=>(H.rd 5 rfl (fun h q=>(hAx h q).1)).at (EY he k u hk)))) (Ax rfl (call12 _) (HN _ _ _ mb 400 (TB.as o (AW ta++AW tb)) ta L (AW tb) e.k e.d e.f hX.lw (by omega) (by omega)) H.f3.f4 ?_)));rintro _ w _ ⟨a1,L1,o1,m1,hD1,rfl,rfl⟩ H;replace H:=H.l6;have hX1:=hD1.two hX
    refine Zc 11 rfl ?_;replace H:=H.f5.f3.f2.f3.f5.f5;exact gf fun _ hF=>⟨a1,L1,o1,m1,(hF.all rfl),H,⟨hX1,by have:=hD1.m;omega⟩⟩
   ·refine Zc 1 rfl ?_;exact gf fun _ hF=>⟨ta,L,o,mb,(hF.all rfl),H,⟨hX,by omega⟩⟩
  rintro a w ⟨a1,L1,o1,m1,hF,H,hI⟩;revert a;clear hX;obtain ⟨hX,hm1⟩:=hI;refine EC (fun a w=>∃ (u1:Nat) (M1:List E) (o2:TB) (m2:Nat),Fr 154 [] [(1,.slice aox esx.length ocx),(2,.slice aoy esy.length ocy),(7,Pt_ pp),(8,Pt_ b2),(11,Pt_ b3),(12,Iv_ (j:Int))] a∧Sep z (blk b3 [Pt_ pp,Iv_ (u1:Int),Pt_ pq] 32::mpA pq M1::mpA b1 L1::blk b2 [Pt_ pp,Iv_ (a1:Int),Pt_ b1] 32::trA Tb pp m2 400 o2 none::A::R) w∧(Two o2 a1 L1 u1 M1∧m2≤m1+2)) ?_ ?_
  ·refine Z0 8 [0] rfl (Af rfl (fun h6=> ?_) (fun h6=> ?_))
   ·refine Zc 1 rfl ?_;obtain ⟨e,he⟩:∃ e,esy[j]? =some e:=⟨_,List.getElem?_eq_getElem (by omega)⟩;have hek:=H.says 5 rfl (fun h q=>(hAy h q).2 e (List.mem_of_getElem? he))
    have haty:=(H.rd 5 rfl (fun h q=>(hAy h q).1)).at (EY he 0 _ rfl)
    replace H:=H.f4;have H':Sep z (trA Tb pp m1 400 (TB.as o1 (AW tb++AW a1)) none::blk b3 [Pt_ pp,Iv_ (tb:Int),Pt_ pq] 32::mpA pq M::mpA b1 L1::blk b2 [Pt_ pp,Iv_ (a1:Int),Pt_ b1] 32::A::R) w:=Sep.trSwap H hX.swap.r
    have H:=H'.l6;refine Zc 4 rfl (Ab rfl (Aj rfl (z:=3) (j:=j) (r:=j * 3) (by kernel_rfl) rfl rfl rfl (by omega) haty (by omega)) (Ab rfl (Ch rfl rfl (vs:=[Iv_ e.k,.bool e.d,Iv_ e.f]) (by kernel_rfl) (by simp) (Aq (fun k u hk=>(H.rd 5 rfl (fun h q=>(hAy h q).1)).at (EY he k u hk)))) (Ax rfl (call12 _) (HN _ _ _ m1 400 (TB.as o1 (AW tb++AW a1)) tb M (AW a1) e.k e.d e.f hX.swap.lw (by omega) (by omega)) H.f2.f2 ?_)));rintro _ w _ ⟨a2,L2,o2,m2,hD2,rfl,rfl⟩ H;replace H:=H.l6;have hX2:=(hD2.two hX.swap).swap
    refine Zc 11 rfl ?_;replace H:=H.f5.f3.f5.f5.f5.f5;exact gf fun _ hF=>⟨a2,L2,o2,m2,(hF.all rfl),H,⟨hX2,by have:=hD2.m;omega⟩⟩
   ·refine Zc 1 rfl ?_;exact gf fun _ hF=>⟨tb,M,o1,m1,(hF.all rfl),H,⟨hX,by omega⟩⟩
  rintro a w ⟨u1,M1,o2,m2,hF,H,hI⟩;revert a;clear hX;obtain ⟨hX,hm2⟩:=hI;refine Zc 1 rfl ?_;have hll:L1.length≤1048576:=by have K:=H.says 4 rfl (fun h a=>trA.k a);have:=GI K.i (by omega) (show ∀ e∈L1,∃ b,DQ o2 none e.2=some (.dt b) from hX.ra.data) hX.na;have:=K.hn;omega
  replace H:=H.f3;refine AI (Sep z (blk b2 [Pt_ pp,Iv_ (a1:Int),Pt_ b1] 32::R)) 11 rfl (by kernel_rfl) (A9 H fun w H'=> ?_)
  have H:=H'.l6;refine AN [0,1,2,3,4,5,6,7,8] [1,0,0,2,0,0] [] (by exact (H.pick 6 [0] rfl)) rfl (by kernel_rfl) rfl (Az [9] (by kernel_rfl) (by simp) (Ay (BH rfl rfl rfl rfl rfl rfl (fun w=>call13 _ w) (Ys _ _ _ m2 400 o2 _ a1 L1 hX.ra (by omega) hll) H.f4.f4.f2 rfl ?_)));rintro _ w _ ⟨rfl,rfl⟩ H;replace H:=H.l6;refine Ap (H.pick 6 [0] rfl) (AN [10] [] [] (by exact (H.pick 6 [0] rfl)) rfl (by kernel_rfl) rfl (a_done (by kernel_rfl) (gn (Zc 2 rfl ?_))));have hll:M1.length≤1048576:=by have K:=H.says 2 rfl (fun h a=>trA.k a);have:=GI K.i (by omega) (show ∀ e∈M1,∃ b,DQ o2 none e.2=some (.dt b) from hX.rb.data) hX.nb;have:=K.hn;omega
  replace H:=H.f3;refine AI (Sep z (blk b3 [Pt_ pp,Iv_ (u1:Int),Pt_ pq] 32::R)) 11 rfl (by kernel_rfl) (A9 H fun w H'=> ?_)
  have H:=H'.l6;refine AN [0,1,2,3,4,5,6,7,8] [1,0,0,2,0,0] [] (by exact (H.pick 6 [0] rfl)) rfl (by kernel_rfl) rfl (Az [9] (by kernel_rfl) (by simp) (Ay (BH rfl rfl rfl rfl rfl rfl (fun w=>call13 _ w) (Ys _ _ _ m2 400 o2 _ u1 M1 hX.rb (by omega) hll) H.f3.f4.f2 rfl ?_)));rintro _ w _ ⟨rfl,rfl⟩ H;replace H:=H.l6;refine Ap (H.pick 6 [0] rfl) (AN [10] [] [] (by exact (H.pick 6 [0] rfl)) rfl (by kernel_rfl) rfl (a_done (by kernel_rfl) (gn (Zc 2 rfl ?_))));replace H:=H.f2;have H':Sep z (trA Tb pp m2 400 (TB.as o2 (AW a1++AW u1)) none::blk b3 [Pt_ pp,Iv_ (u1:Int),Pt_ pq] 32::mpA pq M1::blk b2 [Pt_ pp,Iv_ (a1:Int),Pt_ b1] 32::mpA b1 L1::A::R) w:=Sep.trSwap H hX.r
  have H:=H'.l6;replace H:=H.f1.f3;refine AI (Sep z (blk b2 [Pt_ pp,Iv_ (a1:Int),Pt_ b1] 32::blk b3 [Pt_ pp,Iv_ (u1:Int),Pt_ pq] 32::R)) 12 rfl (by kernel_rfl) (A9 H fun w H'=> ?_)
  have H:=H'.l6;refine AN [0,1,2,3,4,5,6,7,8] [1,0,0,1,1,0] [] (by exact (H.pick 6 [0,1] rfl)) rfl (by kernel_rfl) rfl (Az [9] (by kernel_rfl) (by simp) (Ay (B7 rfl rfl rfl rfl (AJ H rfl (by kernel_rfl) A6 rfl (by decide) (by decide) (out:=[Iv_ (a1:Int),Iv_ (u1:Int)]) (by kernel_rfl)) ?_)));rintro _ w ⟨b4,rfl,H⟩;replace H:=H.l7;refine Ap (H.pick 7 [1,2] rfl) (Az [10] (by kernel_rfl) (by simp) (Ay (BH rfl rfl rfl rfl rfl rfl (fun w=>call25 _ w) (WE _ _ _ _ [a1,u1] _ _ hX.rt (fun h q=>q.rd (by omega) (by omega) (by simp) rfl)) H.f3 rfl ?_)));rintro _ w _ ⟨rfl,rfl⟩ H;replace H:=H.l7;refine Ap (H.pick 7 [2,3] rfl) (AN [11] [] [] (by exact (H.pick 7 [2,3] rfl)) rfl (by kernel_rfl) rfl (a_done (by kernel_rfl) (gn (Z1 24 [] [(j:Int)+1] rfl (by omega) ?_))));replace H:=H.f1.d.f5.f1.f2.f5.f5.f5;refine gf ?_;intro _ hF;refine ⟨⟨j+1,a1,L1,u1,M1,o2.as (AW a1++AW u1),m2⟩,(hF.co rfl (by go_num) (hF.all rfl)),⟨H,?_⟩,?_⟩
  ·exact ⟨by show j+1≤1048576;omega,by show m2≤10+2 * es.length+4 * (j+1);omega,⟨hX.ra,hX.na,hX.rb,hX.nb,List.Perm.refl _⟩⟩
  ·(dsimp only;omega)
end
open Go.ChangeShapes Go.WideShapes Go.ChangeAt Go.RowKit Go.Joins
theorem WF (os:Os):laidMet prog Rows.treeSharedUptoRow.laid ((HP os).forCall (fun _ _=>0) ⟨#[],#[.slice none 0 0,.slice none 0 0,.slice none 0 0],[]⟩).memory:=
 laidMet_of_run' 8 (by kernel_rfl) (by kernel_rfl)
theorem Rm (os:Os) {H:Type} (enc:TypeId×Value→H):∃ places,DataW.whole enc prog ((HP os).forCall (fun _ _=>0) ⟨#[],#[.slice none 0 0,.slice none 0 0,.slice none 0 0],[]⟩).memory f8.params.toList Rows.treeSharedSpec.vars false #[Value.slice none 0 0,.slice none 0 0,.slice none 0 0].toList 8=some ([.nil,.nil,.nil],[],places):=
 ⟨[],by kernel_rfl⟩
theorem tls_contract (H:Type) (enc:TypeId×Value→H) (W:World) (base:Nat) (args:Array Value) (ds gs:List (DataW H)) (before:List MemPlace)
  (hval:∀ (j:Nat) t v,f8.params[j]? =some t→args[j]? =some v→Value.okWide prog W .any base t v)
  (hW:DataW.Whole enc prog f8.params.toList Rows.treeSharedSpec.vars false W args.toList ds gs before) (hk:Rows.uptoSmall H (ds++gs)=true) (hL:laidMetH prog Rows.treeSharedUptoRow.laid W):
  Calls prog 8 args W fun e W'=>∃ v,e= .returned v∧Rows.treeSharedSpec.post enc prog f8 false true false false W args v W':=by
 have hW0:=hW
 obtain ⟨p,q,hA0,hV,rfl,_,_⟩:=hW
 have hA:DataW.TrodAll enc prog W 0 (fun _=>true) true f8.params.toList args.toList ds p:=hA0
 rw[params8] at hA hval
 obtain ⟨v0,v1,v2,d0,d1,d2,p0,p1,p2,rfl,rfl,rfl,h0,h1,h2⟩:=Ze hA
 obtain ⟨rfl,rfl⟩:=trodVars_none hV
 simp only[List.append_nil] at hW0 hk
 have t0:∀ x∈p0,x.block<W.heap.size:=fun x hx=>by have:=hW0.lt x (by simp[hx]);simpa using this
 have t1:∀ x∈p1,x.block<W.heap.size:=fun x hx=>by have:=hW0.lt x (by simp[hx]);simpa using this
 have t2:∀ x∈p2,x.block<W.heap.size:=fun x hx=>by have:=hW0.lt x (by simp[hx]);simpa using this
 have hb:Rows.uptoBulkAll [d0,d1,d2]≤1048576:=of_decide_eq_true hk
 simp only[Rows.uptoBulkAll] at hb
 obtain ⟨ao0,l0,c0,rfl⟩:=okWide_slice underlying22 (hval 0 22 v0 rfl rfl)
 obtain ⟨fuel0,hf0⟩:=id h0
 obtain ⟨es0,hr0,hes0,hlen0⟩:=I6 (h:=hf0)
 obtain ⟨ao1,l1,c1,rfl⟩:=okWide_slice underlying22 (hval 1 22 v1 rfl rfl)
 obtain ⟨fuel1,hf1⟩:=id h1
 obtain ⟨es1,hr1,hes1,hlen1⟩:=I6 (h:=hf1)
 obtain ⟨ao2,l2,c2,rfl⟩:=okWide_slice underlying22 (hval 2 22 v2 rfl rfl)
 obtain ⟨fuel2,hf2⟩:=id h2
 obtain ⟨es2,hr2,hes2,hlen2⟩:=I6 (h:=hf2)
 refine (Cn.run2 (WC (Iv hL)) (Nm (Iw W) (Nj W) (Zd (Iv hL)) _ es0 (by omega) (fun h hh=>⟨I7 (Iv hL) hr0 (Px _) h hh,hes0⟩) _ es1 (by omega) (fun h hh=>⟨I7 (Iv hL) hr1 (Px _) h hh,hes1⟩) _ es2 (by omega) (fun h hh=>⟨I7 (Iv hL) hr2 (Px _) h hh,hes2⟩))).mono fun e W' hR=> ?_
 obtain ⟨u,rfl,rfl,x⟩:∃ u,e=Ending.returned u∧u= .bool true∧Ext No W W':=by cases e<;>first|exact ⟨_,rfl,hR⟩|exact hR.elim
 exact ⟨_,rfl,_,_,_,[],_,[],hW0,trodAll_mk1 (shut_bool underlying4 true),WD (Below.trod Kv (by kernel_rfl) (of_decide_eq_true (by kernel_rfl)) h0 x.below t0) (Below.trod Kv (by kernel_rfl) (of_decide_eq_true (by kernel_rfl)) h1 x.below t1) (Below.trod Kv (by kernel_rfl) (of_decide_eq_true (by kernel_rfl)) h2 x.below t2),rfl,x.below.frame _,fun h=>by cases h⟩
theorem Py (os:Os) (started:os.Started) (H:Type) (enc:TypeId×Value→H) (F:Stop.Interp):
  ReturnsInHanded {} checked os 8 .any ((Rows.OpenSpec.upto Rows.treeSharedSpec).preRow enc prog f8 Rows.treeSharedUptoRow.domain false Rows.treeSharedUptoRow.laid) (((Rows.OpenSpec.upto Rows.treeSharedSpec).at F).post enc prog f8 false true false false):=by
 obtain ⟨places,hx⟩:=Rm os enc
 refine returnsInHanded_of_row (C:=checked) (s:=Rows.OpenSpec.upto Rows.treeSharedSpec) own started (by kernel_rfl) func8
  (witness_row_at (enc:=enc) (C:=checked) false (HP os) #[.slice none 0 0,.slice none 0 0,.slice none 0 0] rfl (by kernel_rfl) (by kernel_rfl) (by kernel_rfl)
   (OpenSpec.preRow_of_cond 8 hx (by kernel_rfl) (fun k hk=>by cases hk;kernel_rfl) (by kernel_rfl) (WF os))) ?_
 intro W base args ds gs before hval hW _ hcond _ hL _ _
 exact tls_contract H enc W base args ds gs before hval hW (hcond _ rfl) hL
theorem tls_said:Rows.TreeSharedUptoSaid:=
 OpenClaim.holds_of_cond 8 f8 rfl rfl rfl rfl rfl rfl rfl ⟨rfl,rfl,rfl,rfl,rfl⟩ rfl rfl rfl rfl rfl (by kernel_rfl) func8 (by kernel_rfl)
  (of_decide_eq_true (by kernel_rfl)) (by unfold Func.isWrapper;first|(rw[if_pos (by decide+kernel)];kernel_rfl)|(rw[if_neg (by decide+kernel)];exact ⟨rfl,rfl⟩))
  (fun os started H enc _ F=>by rw[OpenClaim.pre_eq_preRow];exact Py os started H enc F)
theorem Rn (f:FuncId) (fn:Func) (hf:Tryz.pinned.checked.prog.funcNamed "polder/polderlaw12.TreeShared"=some f) (hfn:Tryz.pinned.checked.prog.funcs[f]? =some fn):
  false=Tryz.pinned.checked.prog.looks []∧∀ (j:Nat) t,fn.params[j]? =some t→Tryz.pinned.checked.prog.wantsStandIn t=false:=by
 obtain rfl:f=8:=Option.some.inj ((show prog.funcNamed "polder/polderlaw12.TreeShared"=some 8 by kernel_rfl).symm.trans hf) |>.symm
 obtain rfl:fn=f8:=(Option.some.inj (func8.symm.trans hfn)).symm
 refine ⟨by kernel_rfl,fun j t ht=> ?_⟩
 rw[params8] at ht
 have hm:=Array.mem_of_getElem? ht
 simp at hm
 rcases hm with rfl|rfl|rfl<;>first|exact (show prog.wantsStandIn 22=false by kernel_rfl)
theorem treeShared_holds:Rows.TreeSharedUptoCardSaid:=
 Claim7.holds_tied_plain_at .later [] _ _ _ _ tls_said (fun _ h=>by cases h) (by kernel_rfl) (fun _ h=>by cases h) treeSharedUpto_row_tie rfl ⟨rfl,rfl⟩ (by kernel_rfl) rfl Rn (by kernel_rfl)
end Go.Proofs.YtglgbkpniipjbaaGreatDoor
