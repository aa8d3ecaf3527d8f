/-
  Each page has just as many references as its count says. No condition.
-/
import Derived.Test.YtglgbkpniipjbaaGreatDoorPart5
import Derived.Test.YtglgbkpniipjbaaGreatDoorCards
import Derived.Test.YtglgbkpniipjbaaGreatDoorTie
import Derived.WalkKit
import Derived.WalkSpells
import Derived.Deep.Quiet
import Derived.KernelRfl
import Derived.IntWalk
import Derived.Maps.AppendAt
import Derived.Laws.AppendOwnNone
import Derived.Laws.CopyRow
import Derived.StillTail
import Derived.Deep.RegionHeld
import Derived.Laws.IdiomStrings
import Derived.Laws.BytesArg
import Derived.Laws.OwnMore
import Derived.Lib.Strings
import Derived.ArgAppend
import Derived.Test.YtglgbkpniipjbaaGreatDoorRows
import Derived.RangeFuncLeaves
import Derived.RangeFuncRecord
import Derived.RangeFuncCalls
import Derived.RangeFuncSeq
import Derived.OrdersIn
import Derived.TacticsIn
import Derived.Laws.IdiomRangeMap
import Derived.Defers
import Derived.Laws.LoneSync
import Derived.LoopN
import Derived.Lib.TrailingZeros
import Derived.Test.YtglgbkpniipjbaaGreatDoorProg
import Derived.Shelf.Sort.Plain
import Derived.Shelf.Slices.In.SortNone
import Derived.DataReads
import Derived.ProofKit
import Derived.OpenShut
import Derived.Lib.SmallJoins
import Derived.Deep.DeepHandedRow
import Derived.Lib.LaidTab
set_option maxRecDepth 100000
set_option linter.unusedSimpArgs false
set_option linter.unusedVariables false
open Go.Proofs.Tryz
namespace Go.Proofs.YtglgbkpniipjbaaGreatDoor
section
open Go.RowKit
variable {Tb:Ae}
def Hd (Q:List Nat):List Value:=Q.map fun (r:Nat)=>Value.int .i64 (r:Int)
theorem M6 (Q:List Nat) (r:Nat):Hd Q++[.int .i64 (r:Int)]=Hd (Q++[r]):=by simp[Hd]
theorem M7 {Q:List Nat} {i r:Nat} (h:Q[i]? =some r):(Hd Q)[i]? =some (.int .i64 (r:Int)):=by simp[Hd,h]
def Y1 (v:Value) (rs:List Nat) (A:Ae):Prop:=∀ h,A h→rdH 1 v rs.length (Hd rs) h
theorem HI:∀ rs:List Nat,(rs.flatMap BR).length≤rs.length
 | []=>Nat.le_refl _
 | r::rs=>by
  have:=HI rs
  have h1:(BR r).length≤1:=by unfold BR;split<;>simp
  simp only[List.flatMap_cons,List.length_append,List.length_cons];omega
theorem JE {rs:List Nat} {i r:Nat} (h:rs[i]? =some r):(rs.take (i+1)).flatMap BR=(rs.take i).flatMap BR++BR r:=by
 rw[List.take_add_one,h,List.flatMap_append];simp
theorem Q4 {rs:List Nat} {r:Nat} (h:r∈rs) (h0:r≠0):r∈rs.flatMap BR:=List.mem_flatMap.2 ⟨r,h,by simp[BR,h0]⟩
structure RtK (o:TB) (rs:List Nat):Prop where
 r:o.R=rs.flatMap BR
 n:∀ r∈rs,r≠0→isN o.N r
 l:rs.length≤100
set_option maxHeartbeats 4000000 in
theorem Yh (pp mb n:Nat) (o:TB) (rs:List Nat) (A:Ae) (v:Value) (hk:RtK o rs) (hA:Y1 v rs A):Cn prog 58 [.pointer (some ⟨pp,0,none⟩),v] [trA Tb pp mb n o none,A] (fun v Γ=>∃ (b:Nat) (F:Nat→Nat),(∀ x,manyN n+1≤x→x<n→F x=o.C x)∧v= .slice (some ⟨b,0,none⟩) n n∧Γ=[trA Tb pp mb n o none,A,cnA b F n]):=by
 intro z R w H;replace H:=H.l2;obtain ⟨ao,oc,rfl⟩:=H.says 1 rfl (fun h q=>(hA h q).slc);have K:=H.says 0 rfl (fun h a=>trA.k a)
 have hn:=K.hn
 have hkl:=hk.l
 refine Ad func58 rfl ntmps58 rfl (Zc 8 rfl (z_C rfl (call59 _) (Og _ _ _ _ _) H ?_));rintro _ w _ ⟨rfl,rfl⟩ H;replace H:=H.l2;refine AL rfl (EX (k:=n) H rfl (by kernel_rfl) AZ rfl rfl rfl (by omega)) ?_;rintro _ w ⟨b1,rfl,H⟩;replace H:=H.l3;refine Zc 10 rfl ?_;have e0:List.replicate n (.int .i64 0)=B3 (fun _=>0) n:=by unfold B3;rw[List.map_const',List.length_range];rfl
 rw[e0] at H;replace H:=(H.void (B:=qrow 3 (.slice none 0 0) 0 []) (fun h=>qrow.nil _ h)).l4
 refine Zc 5 rfl ?_;refine AG (σ:=Nat×Value×List Nat×(Nat→Nat)) (fun ⟨i,u,Q,F⟩=>[(7,.int .i64 (i:Int)),(6,u),(0,.pointer (some ⟨pp,0,none⟩)),(1,.slice ao rs.length oc),(4,.slice none 0 0),(5,.slice (some ⟨b1,0,none⟩) n n)])
   (fun ⟨i,u,Q,F⟩ w=>Sep z (qrow 3 u Q.length (Hd Q)::cnA b1 F n::trA Tb pp mb n o none::A::R) w∧(i≤rs.length∧Bf o.N ((rs.take i).flatMap BR) [] [] Q F)) (fun ⟨i,u,Q,F⟩=>rs.length - i) ⟨0,.slice none 0 0,[],fun _=>0⟩
   (fun _ hF=>(hF.co rfl (by go_num) (hF.co rfl (by go_num) (hF.all rfl)))) ⟨H,⟨Nat.zero_le _,Bf.nil o.N⟩⟩ ?_
 clear H;rintro ⟨i,u,Q,F⟩ w ⟨H',hI⟩;dsimp only at hI H' ⊢
 have H:=H'.l4;clear H';have su:=H.says 0 rfl (fun h q=>q.slc)
 obtain ⟨hil,hb⟩:=hI;refine Z0 9 [0] rfl (Af rfl (fun h1=> ?_) (fun h1=> ?_))
 ·refine Zc 5 rfl ?_;obtain ⟨r,hr⟩:∃ r,rs[i]? =some r:=⟨_,List.getElem?_eq_getElem (by omega)⟩;have hat:=(H.rd 3 rfl (fun h q=>hA h q)).at (M7 hr)
  have hrm:=List.mem_of_getElem? hr
  have hrk:r≠0→manyN n+1≤r∧r<n:=fun h0=>K.i.rin r (by show r∈o.R;rw[hk.r];exact Q4 hrm h0)
  have hrn:=hk.n r hrm
  have hfl:=HI (rs.take i)
  have hsm:=hb.small K.i (by simp) r
  have hbl:=hb.lt K.i
  rw[List.length_take] at hfl;rw[List.nil_append] at hbl;have hb2:r≠0→Bf o.N ((rs.take (i+1)).flatMap BR) [] [] (if F r=0 then Q++[r] else Q) (fup F r (F r+1)):=fun h0=>by have:=hb.root (hrn h0);rw[JE hr,Dx h0];exact this
  have hb3:r=0→Bf o.N ((rs.take (i+1)).flatMap BR) [] [] Q F:=fun h0=>by subst h0;rw[JE hr,show BR 0=[] from rfl,List.append_nil];exact hb
  refine Zc 3 rfl (Ab rfl (Au rfl (z:=1) (j:=i) (r:=i) (by kernel_rfl) rfl rfl rfl (by omega) hat (by omega)) (Ab rfl (AF rfl rfl (by kernel_rfl) (Ar hat)) (Z0 2 [0] rfl (Al 26 rfl (fun h2=> ?_) (fun h2=> ?_)))))
  ·refine Zc 2 rfl (Ab rfl (Au rfl (z:=1) (j:=i) (r:=i) (by kernel_rfl) rfl rfl rfl (by omega) hat (by omega)) (Ab rfl (AF rfl rfl (by kernel_rfl) (Ar hat)) (Z0 6 [0] rfl (Af rfl (fun h3=> ?_) (fun h3=> ?_)))))
   ·refine Zc 6 rfl (Ab rfl (Au rfl (z:=1) (j:=i) (r:=i) (by kernel_rfl) rfl rfl rfl (by omega) hat (by omega)) (Ab rfl (AF rfl rfl (by kernel_rfl) (Ar hat)) ?_));skip
    refine Z1 1 [1,r,r] [] rfl (by omega) ?_;skip
    refine Ab rfl (AI rfl rfl (by kernel_rfl) (Ar (H.cel 1 rfl r (cnL_at _ (by omega))))) (Z0 3 [0] rfl (Af rfl (fun h4=> ?_) (fun h4=> ?_)))
    ·refine Zc 4 rfl (Ab rfl (Au rfl (z:=1) (j:=i) (r:=i) (by kernel_rfl) rfl rfl rfl (by omega) hat (by omega)) (Ab rfl (AF rfl rfl (by kernel_rfl) (Ar hat)) (AL rfl (AH H rfl (by kernel_rfl) AZ rfl (by decide) (by decide) (out:=[.int .i64 (r:Int)]) (by kernel_rfl)) ?_)));rintro _ w ⟨b2,rfl,H⟩;replace H:=H.l5;replace H:=H.f1;refine AL rfl (KS H rfl (by kernel_rfl) AZ rfl rfl (H.rd 1 rfl (fun h q=>q.rd (by omega) (by omega) (by simp) rfl)) rfl (by omega)) ?_;rintro v3 w H';have H':Sep z (qrow 3 v3 ((Q++[r]).length) (Hd (Q++[r]))::blk b2 [.int .i64 (r:Int)] 3::cnA b1 F n::trA Tb pp mb n o none::A::R) w:=by have h:=H';rw[M6,show Q.length+1=(Q++[r]).length from by simp] at h;exact h
     have H:=H'.l5;clear H';have sv3:=H.says 0 rfl (fun h q=>q.slc)
     refine Zc 3 rfl ?_;have hat:=(H.rd 4 rfl (fun h q=>hA h q)).at (M7 hr)
     refine Zc 4 rfl (Ab rfl (Au rfl (z:=1) (j:=i) (r:=i) (by kernel_rfl) rfl rfl rfl (by omega) hat (by omega)) (Ab rfl (AF rfl rfl (by kernel_rfl) (Ar hat)) ?_));skip
     refine Z1 1 [1,r,r] [] rfl (by omega) ?_;skip
     refine Ab rfl (AI rfl rfl (by kernel_rfl) (Ar (H.cel 2 rfl r (cnL_at _ (by omega))))) ?_;skip
     refine Z1 1 [] [(F r:Int)+1] rfl (by omega) ?_;skip
     refine Z1 1 [1,r,r] [] rfl (by omega) ?_;skip
     refine Ax rfl rfl (Ai 2 H rfl rfl rfl rfl (vs:=[.int .i64 ((F r:Int)+1)]) rfl (Ac rfl Ap) (by kernel_rfl) (by simp only[BH,List.length_cons,List.length_nil];omega) (out:=B3 (updN F r (F r+1)) n) (DH _ (by omega) (by omega))) ?_;rintro w H;replace H:=H.l5;refine Z1 8 [] [(i:Int)+1] rfl (by omega) ?_;replace H:=H.f1.d;refine gf ?_;intro _ hF;refine ⟨⟨i+1,v3,Q++[r],updN F r (F r+1)⟩,(hF.co rfl (by go_num) (hF.all rfl)),⟨H,?_⟩,?_⟩
     ·exact ⟨by show i+1≤rs.length;omega,by have h:=hb2 (by omega);rw[if_pos (by omega)] at h;exact h⟩
     ·(dsimp only;omega)
    ·refine Zc 2 rfl ?_;have hat:=(H.rd 3 rfl (fun h q=>hA h q)).at (M7 hr)
     refine Zc 4 rfl (Ab rfl (Au rfl (z:=1) (j:=i) (r:=i) (by kernel_rfl) rfl rfl rfl (by omega) hat (by omega)) (Ab rfl (AF rfl rfl (by kernel_rfl) (Ar hat)) ?_));skip
     refine Z1 1 [1,r,r] [] rfl (by omega) ?_;skip
     refine Ab rfl (AI rfl rfl (by kernel_rfl) (Ar (H.cel 1 rfl r (cnL_at _ (by omega))))) ?_;skip
     refine Z1 1 [] [(F r:Int)+1] rfl (by omega) ?_;skip
     refine Z1 1 [1,r,r] [] rfl (by omega) ?_;skip
     refine Ax rfl rfl (Ai 1 H rfl rfl rfl rfl (vs:=[.int .i64 ((F r:Int)+1)]) rfl (Ac rfl Ap) (by kernel_rfl) (by simp only[BH,List.length_cons,List.length_nil];omega) (out:=B3 (updN F r (F r+1)) n) (DH _ (by omega) (by omega))) ?_;rintro w H;replace H:=H.l4;refine Z1 8 [] [(i:Int)+1] rfl (by omega) (gf ?_);intro _ hF;refine ⟨⟨i+1,u,Q,updN F r (F r+1)⟩,(hF.co rfl (by go_num) (hF.all rfl)),⟨H,?_⟩,?_⟩
     ·exact ⟨by show i+1≤rs.length;omega,by have h:=hb2 (by omega);rw[if_neg (by omega)] at h;exact h⟩
     ·(dsimp only;omega)
   ·(exfalso;have:=hrk (by omega);omega)
  ·refine Z1 19 [] [(i:Int)+1] rfl (by omega) (gf ?_);intro _ hF;refine ⟨⟨i+1,u,Q,F⟩,(hF.co rfl (by go_num) (hF.all rfl)),⟨H,?_⟩,?_⟩
   ·exact ⟨by show i+1≤rs.length;omega,hb3 (by omega)⟩
   ·(dsimp only;omega)
 ·refine Zc 2 rfl (gx (Zc 4 rfl ?_));refine AG (σ:=Value×List Nat×List Nat×(Nat→Nat)) (fun ⟨y,S,D,F⟩=>[(6,y),(0,.pointer (some ⟨pp,0,none⟩)),(4,.slice none 0 0),(5,.slice (some ⟨b1,0,none⟩) n n)])
    (fun ⟨y,S,D,F⟩ w=>Sep z (qrow 3 y S.length (Hd S)::cnA b1 F n::trA Tb pp mb n o none::A::R) w∧(Bf o.N o.R D [] S F)) (fun ⟨y,S,D,F⟩=>n - D.length) ⟨u,Q,[],F⟩
    (fun _ hF=>(hF.all rfl)) ⟨H,(by have h:=hb;rw[List.take_of_length_le (by omega),←hk.r] at h;exact h)⟩ ?_
  clear H;rintro ⟨y,S,D,F⟩ w ⟨H',hI⟩;dsimp only at hI H' ⊢
  have H:=H'.l4;clear H';have sy:=H.says 0 rfl (fun h q=>q.slc)
  have hb:=hI
  refine Zc 4 rfl (Ab rfl (DO rfl (sz:=1) (by kernel_rfl) rfl sy) (Z0 3 [0] rfl (Af rfl (fun h5=> ?_) (fun h5=> ?_))))
  ·refine Zc 4 rfl ?_;obtain ⟨q,S,rfl⟩:=List.exists_cons_of_length_pos (l:=S) (by omega);obtain ⟨⟨lf,es⟩,hN⟩:=hb.pop;have hbl:=hb.lt K.i
   simp only[List.length_append,List.length_cons] at hbl
   have hck:CkN lf (kL es) (vL es):=K.i.vok (by omega) hn.2 hN
   have hes8:es.length≤8:=(K.i.nds q _ hN).1.len
   obtain ⟨ya,yc,rfl⟩:=sy;have hya:=(H.rd 0 rfl (fun h q=>q.rd)).at (j:=0) (u:= .int .i64 (q:Int)) rfl
   have hyc:=H.says 0 rfl (fun h q=>q.rd.slcapZ)
   refine Zc 3 rfl (Ab rfl (Au rfl (z:=1) (j:=0) (r:=0) (by kernel_rfl) rfl rfl rfl (by simp) hya (by omega)) (Ab rfl (AF rfl rfl (by kernel_rfl) (Ar hya)) (z_C rfl (call24 _) (HF pp mb n o none q lf es hN) H.f2 ?_)));rintro _ w _ ⟨nk,nv,rfl,rfl⟩ H;replace H:=H.l6;have snk:=H.says 0 rfl (fun h q=>q.slc)
   obtain ⟨ka,kc,rfl⟩:=snk;have snv:=H.says 1 rfl (fun h q=>q.slc)
   obtain ⟨va,vc,rfl⟩:=snv;refine Za 3 [] H rfl ?_;intro b4 w H;refine Z4 7 [0] H rfl ?_;intro w H;refine Ab rfl (IR (p:=1) (q:=(q::S).length) (l':=((q::S).length) - 1) (c':=yc - 1) rfl (by kernel_rfl) rfl (.inr ⟨_,_,_,rfl,rfl,rfl⟩) (.inl ⟨rfl,rfl⟩) (by omega) (by omega) rfl rfl) (Zc 4 rfl ?_);have H':Sep z (blk b4 [.bool lf,.slice ka ((kL es).length) kc,.slice va ((vL es).length) vc] 54::grow 3 1 (.slice ka ((kL es).length) kc) ((kL es).length) ((kL es).map (Value.int .i64))::grow 3 1 (.slice va ((vL es).length) vc) ((vL es).length) ((vL es).map (Value.int .i64))::trA Tb pp mb n o none::qrow 3 (.slice (cutA ya yc 1) S.length (yc - 1)) S.length (Hd S)::cnA b1 F n::A::R) w:=H.mono 4 rfl (fun h q=>q.cut (by simp))
   have H:=H'.l7;clear H';refine Zc 5 rfl ?_;refine AG (σ:=Nat×Value×List Nat×(Nat→Nat)) (fun ⟨k,z_,T,G⟩=>[(10,.int .i64 (k:Int)),(6,z_),(0,.pointer (some ⟨pp,0,none⟩)),(4,.slice none 0 0),(5,.slice (some ⟨b1,0,none⟩) n n),(8,.pointer (some ⟨b4,0,none⟩)),(9,.int .i64 0),(59,.slice ya ((q::S).length) yc),(60,.int .i64 ((q::S).length:Int)),(61,.bool (decide ((0:Int)<((q::S).length:Int)))),(62,.tuple #[.agg #[.bool lf,.slice ka ((kL es).length) kc,.slice va ((vL es).length) vc],.int .i64 0]),(63,.pointer (some ⟨pp,0,none⟩)),(64,.slice ya ((q::S).length) yc),(65,GC ya 0),(66,.int .i64 (q:Int)),(67,.tuple #[.agg #[.bool lf,.slice ka ((kL es).length) kc,.slice va ((vL es).length) vc],.int .i64 0]),(68,.agg #[.bool lf,.slice ka ((kL es).length) kc,.slice va ((vL es).length) vc]),(69,.int .i64 0),(70,.slice ya ((q::S).length) yc),(71,.slice (cutA ya yc 1) (((q::S).length) - 1) (yc - 1))])
     (fun ⟨k,z_,T,G⟩ w=>Sep z (blk b4 [.bool lf,.slice ka ((kL es).length) kc,.slice va ((vL es).length) vc] 54::grow 3 1 (.slice ka ((kL es).length) kc) ((kL es).length) ((kL es).map (Value.int .i64))::grow 3 1 (.slice va ((vL es).length) vc) ((vL es).length) ((vL es).map (Value.int .i64))::trA Tb pp mb n o none::qrow 3 z_ T.length (Hd T)::cnA b1 G n::A::R) w∧(k≤es.length∧Bf o.N o.R D ((vals es).take k) (q::T) G)) (fun ⟨k,z_,T,G⟩=>es.length - k) ⟨0,.slice (cutA ya yc 1) S.length (yc - 1),S,F⟩
     (fun _ hF=>(hF.co rfl (by go_num) (hF.co rfl (by go_num) (hF.all rfl)))) ⟨H,⟨Nat.zero_le _,hb⟩⟩ ?_
   clear H;rintro ⟨k,z_,T,G⟩ w ⟨H',hI⟩;dsimp only at hI H' ⊢
   have H:=H'.l7;clear H';have sz_:=H.says 4 rfl (fun h q=>q.slc)
   obtain ⟨hkl2,hc⟩:=hI;refine Z2 14 [3,2,0,0,0] H rfl (Af rfl (fun h6=> ?_) (fun h6=> ?_))
   ·refine Zc 5 rfl ?_;obtain ⟨e,he⟩:∃ e,es[k]? =some e:=⟨_,List.getElem?_eq_getElem (by simp only[List.length_map] at *;omega)⟩;have hem:=List.mem_of_getElem? he
    have hva:=(H.rd 2 rfl (fun h q=>q.rd)).at (j:=k) (u:= .int .i64 (e.2:Int)) (by simp[vL,he])
    have hev:=(K.i.nds q _ hN).2.2 e.2 (List.mem_map_of_mem hem)
    have hik:=K.i.kids hN hem
    have hsm:=hc.small K.i (by rw[List.length_take];simp[vals];omega) e.2
    have hbl2:=hc.lt K.i
    simp only[List.length_append,List.length_cons] at hbl2
    have hRl:o.R.length≤100:=by rw[hk.r];have:=HI rs;have:=hk.l;omega
    have hc2:=hc.val hik
    rw[show (vals es).take k++[e.2]=(vals es).take (k+1) from by rw[List.take_add_one];simp[vals,he]] at hc2;refine Z2 4 [2,0,0] H rfl (Ab rfl (Au rfl (z:=1) (j:=k) (r:=k) (by kernel_rfl) rfl rfl rfl (by simp only[List.length_map] at *;omega) hva (by omega)) (Ab rfl (AF rfl rfl (by kernel_rfl) (Ar hva)) (Z0 9 [0] rfl (Al 90 rfl (fun h7=> ?_) (fun h7=> ?_)))))
    ·(exfalso;omega)
    ·refine Z0 7 [0] rfl (Af rfl (fun h8=> ?_) (fun h8=> ?_))
     ·(exfalso;omega)
     ·refine Zc 7 rfl ?_;skip
      refine Z1 1 [1,e.2,e.2] [] rfl (by omega) ?_;skip
      refine Ab rfl (AI rfl rfl (by kernel_rfl) (Ar (H.cel 5 rfl e.2 (cnL_at _ (by omega))))) (Z0 2 [0] rfl (Al 101 rfl (fun h9=> ?_) (fun h9=> ?_)))
      ·refine Z2 6 [0,0,0] H rfl (EZ rfl (fun h10=> ?_) (fun h10=> ?_))
       ·refine Zc 3 rfl (AL rfl (AH H rfl (by kernel_rfl) AZ rfl (by decide) (by decide) (out:=[.int .i64 (e.2:Int)]) (by kernel_rfl)) ?_);rintro _ w ⟨b5,rfl,H⟩;replace H:=H.l8;replace H:=H.f5;refine AL rfl (KS H rfl (by kernel_rfl) AZ rfl rfl (H.rd 1 rfl (fun h q=>q.rd (by omega) (by omega) (by simp) rfl)) rfl (by omega)) ?_;rintro v6 w H';have H':Sep z (qrow 3 v6 ((T++[e.2]).length) (Hd (T++[e.2]))::blk b5 [.int .i64 (e.2:Int)] 3::blk b4 [.bool lf,.slice ka ((kL es).length) kc,.slice va ((vL es).length) vc] 54::grow 3 1 (.slice ka ((kL es).length) kc) ((kL es).length) ((kL es).map (Value.int .i64))::grow 3 1 (.slice va ((vL es).length) vc) ((vL es).length) ((vL es).map (Value.int .i64))::trA Tb pp mb n o none::cnA b1 G n::A::R) w:=by have h:=H';rw[M6,show T.length+1=(T++[e.2]).length from by simp] at h;exact h
        have H:=H'.l8;clear H';have sv6:=H.says 0 rfl (fun h q=>q.slc)
        refine Zc 6 rfl ?_;skip
        refine Z1 1 [1,e.2,e.2] [] rfl (by omega) ?_;skip
        refine Ab rfl (AI rfl rfl (by kernel_rfl) (Ar (H.cel 6 rfl e.2 (cnL_at _ (by omega))))) ?_;skip
        refine Z1 1 [] [(G e.2:Int)+1] rfl (by omega) ?_;skip
        refine Z1 1 [1,e.2,e.2] [] rfl (by omega) ?_;skip
        refine Ax rfl rfl (Ai 6 H rfl rfl rfl rfl (vs:=[.int .i64 ((G e.2:Int)+1)]) rfl (Ac rfl Ap) (by kernel_rfl) (by simp only[BH,List.length_cons,List.length_nil];omega) (out:=B3 (updN G e.2 (G e.2+1)) n) (DH _ (by omega) (by omega))) ?_;rintro w H;replace H:=H.l8;refine Z1 8 [] [(k:Int)+1] rfl (by omega) ?_;replace H:=H.f1.d.f6.f6.f2.f6.f6.f6.f6;refine gf ?_;intro _ hF;refine ⟨⟨k+1,v6,T++[e.2],updN G e.2 (G e.2+1)⟩,(hF.co rfl (by go_num) (hF.all rfl)),⟨H,?_⟩,?_⟩
        ·exact ⟨by show k+1≤es.length;simp only[List.length_map] at *;omega,by have h:=hc2;rw[if_pos (by simp_all)] at h;exact h⟩
        ·(dsimp only;simp only[List.length_map] at *;omega)
       ·refine Zc 5 rfl ?_;skip
        refine Z1 1 [1,e.2,e.2] [] rfl (by omega) ?_;skip
        refine Ab rfl (AI rfl rfl (by kernel_rfl) (Ar (H.cel 5 rfl e.2 (cnL_at _ (by omega))))) ?_;skip
        refine Z1 1 [] [(G e.2:Int)+1] rfl (by omega) ?_;skip
        refine Z1 1 [1,e.2,e.2] [] rfl (by omega) ?_;skip
        refine Ax rfl rfl (Ai 5 H rfl rfl rfl rfl (vs:=[.int .i64 ((G e.2:Int)+1)]) rfl (Ac rfl Ap) (by kernel_rfl) (by simp only[BH,List.length_cons,List.length_nil];omega) (out:=B3 (updN G e.2 (G e.2+1)) n) (DH _ (by omega) (by omega))) ?_;rintro w H;replace H:=H.l7;refine Z1 8 [] [(k:Int)+1] rfl (by omega) (gf ?_);intro _ hF;refine ⟨⟨k+1,z_,T,updN G e.2 (G e.2+1)⟩,(hF.co rfl (by go_num) (hF.all rfl)),⟨H,?_⟩,?_⟩
        ·exact ⟨by show k+1≤es.length;simp only[List.length_map] at *;omega,by have h:=hc2;rw[if_neg (by simp_all)] at h;exact h⟩
        ·(dsimp only;simp only[List.length_map] at *;omega)
      ·refine Zc 12 rfl ?_;skip
       refine Z1 1 [1,e.2,e.2] [] rfl (by omega) ?_;skip
       refine Ab rfl (AI rfl rfl (by kernel_rfl) (Ar (H.cel 5 rfl e.2 (cnL_at _ (by omega))))) ?_;skip
       refine Z1 1 [] [(G e.2:Int)+1] rfl (by omega) ?_;skip
       refine Z1 1 [1,e.2,e.2] [] rfl (by omega) ?_;skip
       refine Ax rfl rfl (Ai 5 H rfl rfl rfl rfl (vs:=[.int .i64 ((G e.2:Int)+1)]) rfl (Ac rfl Ap) (by kernel_rfl) (by simp only[BH,List.length_cons,List.length_nil];omega) (out:=B3 (updN G e.2 (G e.2+1)) n) (DH _ (by omega) (by omega))) ?_;rintro w H;replace H:=H.l7;refine Z1 8 [] [(k:Int)+1] rfl (by omega) (gf ?_);intro _ hF;refine ⟨⟨k+1,z_,T,updN G e.2 (G e.2+1)⟩,(hF.co rfl (by go_num) (hF.all rfl)),⟨H,?_⟩,?_⟩
       ·exact ⟨by show k+1≤es.length;simp only[List.length_map] at *;omega,by have h:=hc2;rw[if_neg (by simp_all)] at h;exact h⟩
       ·(dsimp only;simp only[List.length_map] at *;omega)
   ·refine Zc 2 rfl (gx (Zc 2 rfl ?_));replace H:=H.f2.d.f1.d.d.f3.f1.f3.f3;refine gf ?_;intro _ hF;refine ⟨⟨z_,T,D++[q],G⟩,(hF.all rfl),⟨H,?_⟩,?_⟩
    ·(have h:=hc;rw[List.take_of_length_le (by simp only[List.length_map,vals] at *;omega)] at h;exact Bf.done hN h)
    ·(dsimp only;rw[List.length_append,List.length_singleton];omega)
  ·refine Zc 2 rfl (gx (Zc 9 rfl (Zr rfl ?_)));obtain rfl:S=[]:=List.length_eq_zero_iff.1 (by omega);exact ⟨_,⟨b1,F,fun x h1 h2=>hb.all K.i hn.2 h1 h2,rfl,rfl⟩,H.pick 4 [2,3,1] rfl⟩
end
section
open Go.RowKit
variable {Tb:Ae}
set_option maxHeartbeats 2000000 in
theorem Wr (pp mb n:Nat) (o:TB) (rs:List Nat) (A:Ae) (v:Value) (hk:RtK o rs) (hA:Y1 v rs A):Cn prog 25 [.pointer (some ⟨pp,0,none⟩),v] [trA Tb pp mb n o none,A] (fun v Γ=>v= .bool true∧Γ=[trA Tb pp mb n o none,A]):=by
 intro z R w H;replace H:=H.l2;have K:=H.says 0 rfl (fun h a=>trA.k a)
 have hn:=K.hn
 refine Ad func25 rfl ntmps25 rfl (Zc 9 rfl (z_C rfl (call58 _) (Yh pp mb n o rs A _ hk hA) H ?_));rintro _ w _ ⟨b,F,hF,rfl,rfl⟩ H;refine Zc 6 rfl (z_C rfl (call59 _) (Og _ _ _ _ _) H ?_);rintro _ w _ ⟨rfl,rfl⟩ H;refine Z1 9 [] [(n:Int)+120,((n:Int)+120) - 1,(((n:Int)+120) - 1) / 120,1+((((n:Int)+120) - 1) / 120)] rfl (by omega) (AA 6 (v:= .int .i64 ((manyN n+1:Nat):Int)) rfl (congrArg (Value.int .i64) (by unfold manyN;omega)) (Zc 6 rfl ?_));refine AG (σ:=Nat) (fun j=>[(7,.int .i64 (j:Int)),(0,.pointer (some ⟨pp,0,none⟩)),(5,.slice (some ⟨b,0,none⟩) n n)])
   (fun j w=>Sep z (trA Tb pp mb n o none::A::cnA b F n::R) w∧(manyN n+1≤j)) (fun j=>n - j) (manyN n+1)
   (fun _ hF=>(hF.co rfl (by go_num) (hF.all rfl))) ⟨H,(Nat.le_refl _)⟩ ?_
 clear H;rintro j w ⟨H',hI⟩;have H:=H'.l3;clear H';have hj:=hI;clear hI
 refine Z0 9 [0] rfl (Af rfl (fun h1=> ?_) (fun h1=> ?_))
 ·refine Zc 5 rfl ?_;replace H:=H.f2;refine AJ (Sep z (cnA b F n::R)) 8 rfl (by kernel_rfl) (fun w' x' _=> ?_);have H':=H.ext0 x';clear x' H;revert H';generalize w'=w;intro H'
  have H:=H'.l3;clear H';refine Hn [0,1,3,4,5] [1,j,j] [] (by exact (H.pick 3 [0] rfl)) rfl (by kernel_rfl) (by omega) rfl (BX 6 rfl (by kernel_rfl) (by kernel_rfl) (by kernel_rfl) rfl rfl rfl (AI rfl rfl (by kernel_rfl) (fun _ hx=>hx.cel 0 rfl j (cnL_at _ (by omega)))) (H.pick 3 [0] rfl) (AC [2] (by kernel_rfl) (by simp) (Ay (BJ rfl rfl rfl rfl rfl rfl (fun w=>call20 _ w) (If pp mb n o _ j (by omega)) H.f1 rfl ?_))));rintro _ w _ ⟨rfl,rfl⟩ H;replace H:=H.l3;refine AA 26 (v:= .int .i64 (o.C j:Int)) rfl rfl (Aq (H.pick 3 [1] rfl) (AV [7] [0] [] (by exact (H.pick 3 [1] rfl)) rfl (by kernel_rfl) rfl (a_done (by kernel_rfl) (gn (Zc 1 rfl (Af rfl (fun h2=> ?_) (fun h2=> ?_)))))))
  ·(exfalso;have:=hF j (by omega) (by omega);omega)
  ·refine Z1 8 [] [(j:Int)+1] rfl (by omega) ?_;replace H:=H.f1.f2.f2;refine gf ?_;intro _ hF;refine ⟨(j+1),(hF.co rfl (by go_num) (hF.all rfl)),⟨H,?_⟩,?_⟩
   ·omega
   ·omega
 ·refine Zc 2 rfl (gx (Zc 8 rfl (Zr rfl ?_)));exact ⟨_,⟨rfl,rfl⟩,H.pick 3 [0,1] rfl⟩
end
section
open Go.RowKit
variable {Tb:Ae}
theorem Root.isN {N:Hm} {a:Nat} {L:List E} (h:Root N a L) (h0:a≠0):isN N a:=by
 rcases h with ⟨e,_⟩|⟨_,h,t⟩
 ·exact absurd e h0
 ·exact t.node
theorem LwI.rt {n:Nat} {o:TB} {a:Nat} {L:List E} (h:LwI n o a L []):RtK o [a]:=
 ⟨by rw[h.r];simp,fun r hr h0=>by simp at hr;subst hr;exact h.root.isN h0,by simp⟩
set_option maxHeartbeats 4000000 in
theorem M8 (A Tb:Ae) (hT:GP Tb) (v:Value) (es:List OtE) (hes:es.length≤1048576) (hA:ZD v es A):Cn prog 7 [v] [A,Tb] (fun v Γ=>v= .bool true∧Γ=[A,Tb]):=by
 intro z R w H;replace H:=H.l2;obtain ⟨ao,oc,rfl⟩:=H.says 0 rfl (fun h q=>(hA h q).1.slc);refine Ad func7 rfl ntmps7 rfl (Zc 7 rfl (z_C rfl (call10 _) (MU 200 (by omega) Tb hT) H.f1 ?_));rintro _ w _ ⟨pp,rfl,rfl⟩ H;refine Za 17 [] H rfl ?_;intro b1 w H;refine Za 1 [] H rfl ?_;intro b2 w H;refine Zc 5 rfl ?_;replace H:=(H.nilg 87 2).l5
 have H':Sep z (mpA b1 ([])::blk b2 [.pointer (some ⟨pp,0,none⟩),.int .i64 0,.pointer (some ⟨b1,0,none⟩)] 32::trA Tb pp 6 200 (F4 200) none::A::R) w:=(H.pick 5 [2,0,1,3,4] rfl).toMp (L:=[])
 have H:=H'.l4;clear H';refine Zc 5 rfl ?_;refine AG (σ:=Nat×Nat×List E×TB×Nat) (fun ⟨i,ra,L,o,mb⟩=>[(5,.int .i64 (i:Int)),(0,.slice ao es.length oc),(3,.pointer (some ⟨pp,0,none⟩)),(4,.pointer (some ⟨b2,0,none⟩))])
   (fun ⟨i,ra,L,o,mb⟩ w=>Sep z (mpA b1 L::blk b2 [.pointer (some ⟨pp,0,none⟩),.int .i64 (ra:Int),.pointer (some ⟨b1,0,none⟩)] 32::trA Tb pp mb 200 o none::A::R) w∧(i≤es.length∧mb≤6+2 * i∧LwI 200 o ra L [])) (fun ⟨i,ra,L,o,mb⟩=>es.length - i) ⟨0,0,[],F4 200,6⟩
   (fun _ hF=>(hF.co rfl (by go_num) (hF.all rfl))) ⟨H,⟨Nat.zero_le _,by omega,T6 (by omega)⟩⟩ ?_
 clear H;rintro ⟨i,ra,L,o,mb⟩ w ⟨H',hI⟩;dsimp only at hI H' ⊢
 have H:=H'.l4;clear H';obtain ⟨hil,hmb,hW⟩:=hI;refine Z0 9 [0] rfl (Af rfl (fun h1=> ?_) (fun h1=> ?_))
 ·refine Zc 5 rfl ?_;obtain ⟨e,he⟩:∃ e,es[i]? =some e:=⟨_,List.getElem?_eq_getElem (by omega)⟩;have hek:=H.says 3 rfl (fun h q=>(hA h q).2 e (List.mem_of_getElem? he))
  have hat:=(H.rd 3 rfl (fun h q=>(hA h q).1)).at (Kj he 0 _ rfl)
  refine Zc 4 rfl (Ab rfl (Au rfl (z:=3) (j:=i) (r:=i * 3) (by kernel_rfl) rfl rfl rfl (by omega) hat (by omega)) (Ab rfl (C8 rfl rfl (vs:=[.int .i64 e.k,.bool e.d,.int .i64 e.f]) (by kernel_rfl) (by simp) (Ar (fun k u hk=>(H.rd 3 rfl (fun h q=>(hA h q).1)).at (Kj he k u hk)))) (z_C rfl (call12 _) (M3 _ _ _ mb 200 o ra L [] e.k e.d e.f hW (by omega) (by omega)) H.f2.f1.f2 ?_)));rintro _ w _ ⟨a1,L1,o1,m1,hD1,rfl,rfl⟩ H;refine Z2 10 [1,0,0] H rfl (AL rfl (AH H rfl (by kernel_rfl) AZ rfl (by decide) (by decide) (out:=[.int .i64 (a1:Int)]) (by kernel_rfl)) ?_);rintro _ w ⟨b3,rfl,H⟩;replace H:=H.l5;refine z_C rfl (call25 _) (Wr _ _ _ _ [a1] _ _ hD1.I.rt (fun h q=>q.rd (by omega) (by omega) (by simp) rfl)) H.f3 ?_;rintro _ w _ ⟨rfl,rfl⟩ H;refine Z1 22 [] [(i:Int)+1] rfl (by omega) ?_;replace H:=H.f1.d.f3.f1.f2.f3;refine gf ?_;intro _ hF;refine ⟨⟨i+1,a1,L1,o1,m1⟩,(hF.co rfl (by go_num) (hF.all rfl)),⟨H,?_⟩,?_⟩
  ·exact ⟨by show i+1≤es.length;omega,by have:=hD1.m;show m1≤6+2 * (i+1);omega,hD1.I⟩
  ·(dsimp only;omega)
 ·refine Zc 2 rfl (gx (Zc 3 rfl ?_));replace H:=(((H.pick 4 [2,3] rfl).trTab).2).l2
  refine Zc 1 rfl (z_C rfl (call16 _) (Tp Tb hT) H ?_);rintro _ w _ ⟨rfl,rfl⟩ H;refine Zc 4 rfl (Zr rfl ?_);exact ⟨_,⟨rfl,rfl⟩,H.pick 2 [1,0] rfl⟩
end
open Go.ChangeShapes Go.WideShapes Go.ChangeAt Go.RowKit Go.Joins
theorem Ws (os:Os):laidMet prog Rows.treeCountsUptoRow.laid ((HH os).forCall (fun _ _=>0) ⟨#[],#[.slice none 0 0],[]⟩).memory:=
 laidMet_of_run' 8 (by kernel_rfl) (by kernel_rfl)
theorem Q5 (os:Os) {H:Type} (enc:TypeId×Value→H):∃ places,DataW.whole enc prog ((HH os).forCall (fun _ _=>0) ⟨#[],#[.slice none 0 0],[]⟩).memory f7.params.toList Rows.treeCountsSpec.vars false #[Value.slice none 0 0].toList 8=some ([.nil],[],places):=
 ⟨[],by kernel_rfl⟩
theorem tlc_contract (H:Type) (enc:TypeId×Value→H) (W:World) (base:Nat) (args:Array Value) (ds gs:List (DataW H)) (before:List MemPlace)
  (hval:∀ (j:Nat) t v,f7.params[j]? =some t→args[j]? =some v→Value.okWide prog W .any base t v)
  (hW:DataW.Whole enc prog f7.params.toList Rows.treeCountsSpec.vars false W args.toList ds gs before) (hk:Rows.uptoSmall H (ds++gs)=true) (hL:laidMetH prog Rows.treeCountsUptoRow.laid W):
  Calls prog 7 args W fun e W'=>∃ v,e= .returned v∧Rows.treeCountsSpec.post enc prog f7 false true false false W args v W':=by
 have hW0:=hW
 obtain ⟨p,q,hA0,hV,rfl,_,_⟩:=hW
 have hA:DataW.TrodAll enc prog W 0 (fun _=>true) true f7.params.toList args.toList ds p:=hA0
 rw[params7] at hA hval
 obtain ⟨v0,d0,p0,rfl,rfl,rfl,h0⟩:=YU hA
 obtain ⟨rfl,rfl⟩:=trodVars_none hV
 simp only[List.append_nil] at hW0 hk
 have t0:∀ x∈p,x.block<W.heap.size:=fun x hx=>by have:=hW0.lt x (by simp[hx]);simpa using this
 have hb:Rows.uptoBulkAll [d0]≤1048576:=of_decide_eq_true hk
 simp only[Rows.uptoBulkAll] at hb
 obtain ⟨ao0,l0,c0,rfl⟩:=okWide_slice underlying22 (hval 0 22 v0 rfl rfl)
 obtain ⟨fuel0,hf0⟩:=id h0
 obtain ⟨es0,hr0,hes0,hlen0⟩:=Tu (h:=hf0)
 refine (Cn.run2 (Wp (K7 hL)) (M8 (Il W) (M5 W) (YS (K7 hL)) _ es0 (by omega) (fun h hh=>⟨Tw (K7 hL) hr0 (YT _) h hh,hes0⟩))).mono fun e W' hR=> ?_
 obtain ⟨u,rfl,rfl,x⟩:∃ u,e=Ending.returned u∧u= .bool true∧Ext No W W':=by cases e<;>first|exact ⟨_,rfl,hR⟩|exact hR.elim
 exact ⟨_,rfl,_,_,_,[],_,[],hW0,trodAll_mk1 (shut_bool underlying4 true),Wq (Below.trod Wl (by kernel_rfl) (of_decide_eq_true (by kernel_rfl)) h0 x.below t0),rfl,x.below.frame _,fun h=>by cases h⟩
theorem Pm (os:Os) (started:os.Started) (H:Type) (enc:TypeId×Value→H) (F:Stop.Interp):
  ReturnsInHanded {} checked os 7 .any ((Rows.OpenSpec.upto Rows.treeCountsSpec).preRow enc prog f7 Rows.treeCountsUptoRow.domain false Rows.treeCountsUptoRow.laid) (((Rows.OpenSpec.upto Rows.treeCountsSpec).at F).post enc prog f7 false true false false):=by
 obtain ⟨places,hx⟩:=Q5 os enc
 refine returnsInHanded_of_row (C:=checked) (s:=Rows.OpenSpec.upto Rows.treeCountsSpec) own started (by kernel_rfl) func7
  (witness_row_at (enc:=enc) (C:=checked) false (HH os) #[.slice none 0 0] rfl (by kernel_rfl) (by kernel_rfl) (by kernel_rfl)
   (OpenSpec.preRow_of_cond 8 hx (by kernel_rfl) (fun k hk=>by cases hk;kernel_rfl) (by kernel_rfl) (Ws os))) ?_
 intro W base args ds gs before hval hW _ hcond _ hL _ _
 exact tlc_contract H enc W base args ds gs before hval hW (hcond _ rfl) hL
theorem tlc_said:Rows.TreeCountsUptoSaid:=
 OpenClaim.holds_of_cond 7 f7 rfl rfl rfl rfl rfl rfl rfl ⟨rfl,rfl,rfl,rfl,rfl⟩ rfl rfl rfl rfl rfl (by kernel_rfl) func7 (by kernel_rfl)
  (of_decide_eq_true (by kernel_rfl)) (by unfold Func.isWrapper;first|(rw[if_pos (by decide+kernel)];kernel_rfl)|(rw[if_neg (by decide+kernel)];exact ⟨rfl,rfl⟩))
  (fun os started H enc _ F=>by rw[OpenClaim.pre_eq_preRow];exact Pm os started H enc F)
theorem Q6 (f:FuncId) (fn:Func) (hf:Tryz.pinned.checked.prog.funcNamed "polder/polderlaw12.TreeCounts"=some f) (hfn:Tryz.pinned.checked.prog.funcs[f]? =some fn):
  false=Tryz.pinned.checked.prog.looks []∧∀ (j:Nat) t,fn.params[j]? =some t→Tryz.pinned.checked.prog.wantsStandIn t=false:=by
 obtain rfl:f=7:=Option.some.inj ((show prog.funcNamed "polder/polderlaw12.TreeCounts"=some 7 by kernel_rfl).symm.trans hf) |>.symm
 obtain rfl:fn=f7:=(Option.some.inj (func7.symm.trans hfn)).symm
 refine ⟨by kernel_rfl,fun j t ht=> ?_⟩
 rw[params7] at ht
 have hm:=Array.mem_of_getElem? ht
 simp at hm
 subst hm
 exact (show prog.wantsStandIn 22=false by kernel_rfl)
theorem treeCounts_holds:Rows.TreeCountsUptoCardSaid:=
 Claim7.holds_tied_plain_at .later [] _ _ _ _ tlc_said (fun _ h=>by cases h) (by kernel_rfl) (fun _ h=>by cases h) treeCountsUpto_row_tie rfl ⟨rfl,rfl⟩ (by kernel_rfl) rfl Q6 (by kernel_rfl)
end Go.Proofs.YtglgbkpniipjbaaGreatDoor
