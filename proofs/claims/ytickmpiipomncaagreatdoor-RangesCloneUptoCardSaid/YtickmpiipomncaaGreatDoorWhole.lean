/-
  A clone keeps its entries, whatever becomes of the other one. No condition.
-/
import Derived.Test.YtickmpiipomncaaGreatDoorPart5
import Derived.Test.YtickmpiipomncaaGreatDoorCards
import Derived.Test.YtickmpiipomncaaGreatDoorTie
import Derived.WalkKit
import Derived.WalkSpells
import Derived.Deep.Quiet
import Derived.KernelRfl
import Derived.IntWalk
import Derived.Maps.AppendAt
import Derived.Laws.AppendOwnNone
import Derived.Laws.CopyRow
import Derived.StillTail
import Derived.Deep.RegionHeld
import Derived.Laws.IdiomStrings
import Derived.Laws.BytesArg
import Derived.Laws.OwnMore
import Derived.Lib.Strings
import Derived.ArgAppend
import Derived.Test.YtickmpiipomncaaGreatDoorRows
import Derived.RangeFuncLeaves
import Derived.RangeFuncRecord
import Derived.RangeFuncCalls
import Derived.RangeFuncSeq
import Derived.OrdersIn
import Derived.TacticsIn
import Derived.Laws.IdiomRangeMap
import Derived.Defers
import Derived.Laws.LoneSync
import Derived.LoopN
import Derived.Lib.TrailingZeros
import Derived.Test.YtickmpiipomncaaGreatDoorProg
import Derived.Shelf.Sort.Plain
import Derived.Shelf.Slices.In.SortNone
import Derived.DataReads
import Derived.ProofKit
import Derived.OpenShut
import Derived.Lib.SmallJoins
import Derived.Deep.DeepHandedRow
import Derived.Lib.LaidTab
set_option maxRecDepth 100000
set_option linter.unusedSimpArgs false
set_option linter.unusedVariables false
open Go.Proofs.Tryz
namespace Go.Proofs.YtickmpiipomncaaGreatDoor
section
open Go.RowKit
variable {Tb:Ae}
theorem Tr.nods_le {N:Hm} :∀ {h r:Nat} {lo hi:Int} {m:Nat} {L:List E},Tr N h r lo hi m L→nods N h r≤9 ^ h
 | 0,_,_,_,_,_,_=>by simp[nods]
 | h+1,r,lo,hi,m,L,t=>by
  obtain ⟨es,h1,_,_,h4,_⟩:=Tr.iff.1 t
  have hk:∀ xs:List E,(∀ e∈xs,e∈es)→(xs.map fun e=>nods N h e.2).sum≤xs.length * 9 ^ h:=fun xs hx=>by
   induction xs with
   | nil=>simp
   | cons e xs ih=>
    have i1:=ih (fun x hx'=>hx x (by simp[hx']))
    have i2:nods N h e.2≤9 ^ h:=by
     rcases t.kid h1 (p:=e.2) (List.mem_map_of_mem (hx e (by simp))) with ⟨e0,_⟩|⟨h',_,_,_,e0,tc⟩
     ·omega
     ·cases e0;exact tc.nods_le
    simp only[List.map_cons,List.sum_cons,List.length_cons,Nat.add_mul,Nat.one_mul]
    omega
  have:=hk es (fun _ q=>q)
  have h8:=h4.len
  dsimp only at h8
  have h9:es.length * 9 ^ h≤8 * 9 ^ h:=Nat.mul_le_mul_right _ h8
  have hp:0<9 ^ h:=Nat.pow_pos (by omega)
  unfold nods;rw[h1]
  dsimp only
  rw[Nat.pow_succ]
  omega
theorem Rs {N:Hm} {h r:Nat} {lo hi:Int} {m:Nat} {L:List E} {lf:Bool} {es:List E} (t:Tr N (h+1) r lo hi m L) (hN:N r=some (.nd ⟨lf,es⟩)) (i:Nat):1+((es.take i).map fun e=>nods N h e.2).sum≤nods N (h+1) r:=by
 have e:(es.map fun e=>nods N h e.2).sum=((es.take i).map fun e=>nods N h e.2).sum+((es.drop i).map fun e=>nods N h e.2).sum:=by rw[←List.sum_append,←List.map_append,List.take_append_drop]
 simp only[nods,hN]
 omega
theorem Rt {N:Hm} {h i:Nat} {es:List E} {e:E} (he:es[i]? =some e):1+((es.take (i+1)).map fun e=>nods N h e.2).sum=1+((es.take i).map fun e=>nods N h e.2).sum+nods N h e.2:=by
 rw[List.take_add_one,he,List.map_append,List.sum_append];simp;omega
set_option maxHeartbeats 2000000 in
theorem YH (pp mb n:Nat) (o:TB) (ra:Nat) (lo hi:Int) (m_:Nat) (L:List E) (hT:Tr o.N 0 ra lo hi m_ L):Cn prog 21 [Pt_ pp,Iv_ (ra:Int)] [trA Tb pp mb n o none] (fun v Γ=>v=Iv_ (nods o.N 0 ra:Int)∧Γ=[trA Tb pp mb n o none]):=by
 intro z R w H;replace H:=H.l1;have K:=H.says 0 rfl (fun h a=>trA.k a)
 have hn:=K.hn
 obtain ⟨es,hN,hme,hrg,hok,hLe,hdt⟩:=hT;have hra0:=(K.i.nin _ _ hN).1
 have hck:CkN true (kL es) (vL es):=K.i.vok (by omega) hn.2 hN
 refine Ad func21 rfl ntmps21 rfl (Z0 12 [0] rfl (Af rfl (fun h1=> ?_) (fun h1=> ?_)))
 ·(exfalso;omega)
 ·refine Zc 6 rfl (Ao rfl (call50 _) (EI pp mb n o none ra true es hN) H ?_);rintro _ w _ ⟨nk,nv,rfl,rfl⟩ H;replace H:=H.l3;have snk:=H.says 0 rfl (fun h q=>q.slc)
  obtain ⟨ka,kc,rfl⟩:=snk;have snv:=H.says 1 rfl (fun h q=>q.slc)
  obtain ⟨va,vc,rfl⟩:=snv;refine Za 3 [] H rfl ?_;intro b1 w H;refine Z4 22 [0,4,0,0,0] H rfl ?_;intro w H;refine Zr rfl ?_;exact ⟨_,⟨rfl,rfl⟩,H.pick 4 [3] rfl⟩
set_option maxHeartbeats 2000000 in
theorem YI (pp mb n:Nat) (o:TB) (h:Nat) (h9:9 ^ (h+1)≤100000000) (ih:∀ (ra:Nat) (lo hi:Int) (m_:Nat) (L:List E),Tr o.N h ra lo hi m_ L→Cn prog 21 [Pt_ pp,Iv_ (ra:Int)] [trA Tb pp mb n o none] (fun v Γ=>v=Iv_ (nods o.N h ra:Int)∧Γ=[trA Tb pp mb n o none])) (ra:Nat) (lo hi:Int) (m_:Nat) (L:List E) (hT:Tr o.N (h+1) ra lo hi m_ L):Cn prog 21 [Pt_ pp,Iv_ (ra:Int)] [trA Tb pp mb n o none] (fun v Γ=>v=Iv_ (nods o.N (h+1) ra:Int)∧Γ=[trA Tb pp mb n o none]):=by
 intro z R w H;replace H:=H.l1;have hT0:=hT
 have K:=H.says 0 rfl (fun h a=>trA.k a)
 have hn:=K.hn
 obtain ⟨es,hN,hme,hrg,hok,hsq⟩:=hT;have hes8:es.length≤8:=hok.len
 have hra0:=(K.i.nin _ _ hN).1
 have hck:CkN false (kL es) (vL es):=K.i.vok (by omega) hn.2 hN
 refine Ad func21 rfl ntmps21 rfl (Z0 12 [0] rfl (Af rfl (fun h1=> ?_) (fun h1=> ?_)))
 ·(exfalso;omega)
 ·refine Zc 6 rfl (Ao rfl (call50 _) (EI pp mb n o none ra false es hN) H ?_);rintro _ w _ ⟨nk,nv,rfl,rfl⟩ H;replace H:=H.l3;have snk:=H.says 0 rfl (fun h q=>q.slc)
  obtain ⟨ka,kc,rfl⟩:=snk;have snv:=H.says 1 rfl (fun h q=>q.slc)
  obtain ⟨va,vc,rfl⟩:=snv;refine Za 3 [] H rfl ?_;intro b1 w H;refine Z4 30 [0,4,0,0,0] H rfl ?_;intro w H;refine AD (σ:=Nat) (fun i=>[(8,Iv_ (i:Int)),(7,Iv_ ((1+((es.take i).map fun e=>nods o.N h e.2).sum:Nat):Int)),(0,Pt_ pp),(4,Iv_ 0),(5,Pt_ b1)])
    (fun i w=>Sep z (blk b1 [.bool false,.slice ka ((kL es).length) kc,.slice va ((vL es).length) vc] 92::grow 3 1 (.slice ka ((kL es).length) kc) ((kL es).length) ((kL es).map Iv_)::grow 3 1 (.slice va ((vL es).length) vc) ((vL es).length) ((vL es).map Iv_)::trA Tb pp mb n o none::R) w∧(i≤es.length)) (fun i=>es.length - i) 0
    (fun _ hF=>(hF.co rfl (by go_num) (hF.co rfl (congrArg Iv_ (by simp)) (hF.all rfl)))) ⟨H,(Nat.zero_le _)⟩ ?_
  clear H;rintro i w ⟨H',hI⟩;have H:=H'.l4;have hil:=hI;clear hI
  refine Z2 10 [2,0,0,0] H rfl (Af rfl (fun h2=> ?_) (fun h2=> ?_))
  ·refine Zc 4 rfl ?_;obtain ⟨e,he⟩:∃ e,es[i]? =some e:=⟨_,List.getElem?_eq_getElem (by simp only[List.length_map] at *;omega)⟩;have hva:=(H.rd 2 rfl (fun h q=>q.rd)).at (j:=i) (u:=Iv_ (e.2:Int)) (by simp[vL,he])
   have hst:=Rt (N:=o.N) (h:=h) he
   have hpt:=Rs hT0 hN (i+1)
   have hle:=hT0.nods_le
   obtain ⟨lo2,hi2,L2,tc⟩:∃ lo2 hi2 L2,Tr o.N h e.2 lo2 hi2 4 L2:=by rcases hT0.kid hN (p:=e.2) (List.mem_map_of_mem (List.mem_of_getElem? he)) with ⟨e0,_⟩|⟨h2,lo2,hi2,L2,e0,tc⟩;omega;(cases e0;exact ⟨_,_,_,tc⟩)
   refine Z2 6 [2,0,0] H rfl (Ab rfl (Am rfl (z:=1) (j:=i) (r:=i) (by kernel_rfl) rfl rfl rfl (by simp only[List.length_map] at *;omega) hva (by omega)) (Ab rfl (Ay rfl rfl (by kernel_rfl) (Au hva)) (z_E_ rfl (call21 _) (ih e.2 lo2 hi2 4 L2 tc) H.f3 ?_)));intro w H;refine Z1 1 [] [((1+((es.take i).map fun e=>nods o.N h e.2).sum:Nat):Int)+(nods o.N h e.2:Int)] rfl (by omega) (AE 38 (v:=Iv_ ((1+((es.take (i+1)).map fun e=>nods o.N h e.2).sum:Nat):Int)) rfl (congrArg Iv_ (by omega)) (Z1 9 [] [(i:Int)+1] rfl (by omega) ?_));replace H:=H.f3.f3.f3;refine gf ?_;intro _ hF;refine ⟨(i+1),(hF.co rfl (by go_num) (hF.all rfl)),⟨H,?_⟩,?_⟩
   ·(simp only[List.length_map] at *;omega)
   ·(simp only[List.length_map] at *;omega)
  ·refine Zc 2 rfl (gx (Zc 9 rfl (Zr rfl ?_)));have hfin:1+((es.take i).map fun e=>nods o.N h e.2).sum=nods o.N (h+1) ra:=by rw[List.take_of_length_le (by simp only[List.length_map] at *;omega)];simp only[nods,hN]
   exact ⟨_,⟨by rw[hfin],rfl⟩,H.pick 4 [3] rfl⟩
theorem YJ (pp mb n:Nat) (o:TB):Cn prog 21 [Pt_ pp,Iv_ 0] [trA Tb pp mb n o none] (fun v Γ=>v=Iv_ 0∧Γ=[trA Tb pp mb n o none]):=by
 intro z R w H;replace H:=H.l1;refine Ad func21 rfl ntmps21 rfl (Z0 19 [3] rfl (Zr rfl ?_));exact ⟨_,⟨rfl,rfl⟩,H.pick 1 [0] rfl⟩
end
section
open Go.RowKit
variable {Tb:Ae}
def nodR (N:Hm) (a:Nat):Nat→Nat:=fun h=>if a=0 then 0 else nods N h a
theorem Uz (pp mb n:Nat) (o:TB):∀ (h ra:Nat) (lo hi:Int) (m_:Nat) (L:List E),h≤7→Tr o.N h ra lo hi m_ L→Cn prog 21 [Pt_ pp,Iv_ (ra:Int)] [trA Tb pp mb n o none] (fun v Γ=>v=Iv_ (nods o.N h ra:Int)∧Γ=[trA Tb pp mb n o none])
 | 0,ra,lo,hi,m_,L,_,t=>YH pp mb n o ra lo hi m_ L t
 | h+1,ra,lo,hi,m_,L,hh,t=>YI pp mb n o h (Nat.le_trans (Nat.pow_le_pow_right (by omega) hh) (by decide)) (fun ra lo hi m_ L t=>Uz pp mb n o h ra lo hi m_ L (by omega) t) ra lo hi m_ L t
theorem YK (pp mb n:Nat) (o:TB) (ra h:Nat) (hh:h≤7) (hT:ra=0∨∃ lo hi m_ L,Tr o.N h ra lo hi m_ L):Cn prog 21 [Pt_ pp,Iv_ (ra:Int)] [trA Tb pp mb n o none] (fun v Γ=>v=Iv_ (nodR o.N ra h:Int)∧Γ=[trA Tb pp mb n o none]):=by
 by_cases e:ra=0
 ·subst e
  have:=YJ (Tb:=Tb) pp mb n o
  simpa [nodR] using this
 ·obtain ⟨lo,hi,m_,L,t⟩:=hT.resolve_left e
  have:=Uz (Tb:=Tb) pp mb n o h ra lo hi m_ L hh t
  simpa [nodR,e] using this
def stkA (u:Value) (P:PL):Ae:=fun h=>rdH 1 u P.length (Bt (pgs P)) h
theorem stkA.slc {u:Value} {P:PL} {h:Hp} (q:stkA u P h):∃ ao c,u= .slice ao P.length c:=rdH.slc q
theorem stkA.of {u:Value} {P:PL} {h:Hp} (q:Ix u (Bt (pgs P)) h):stkA u P h:=by
 have e:(Bt (pgs P)).length=P.length:=by simp[Bt]
 unfold stkA;rw[←e];exact q
theorem stkA.nil {h:Hp} :stkA (.slice none 0 0) [] h:=rdH.nil 1 h
def Ha (C:Nat→Nat) (i:Nat):Nat→Nat:=fun p=>if p<i then C p else 0
theorem YL (C:Nat→Nat) (n:Nat):List.replicate n (Iv_ 0)=Cs (Ha C 0) n:=by
 unfold Cs Ha;simp[List.map_const']
theorem Ru (C:Nat→Nat) (i:Nat):updN (Ha C i) i (C i)=Ha C (i+1):=by
 funext p;unfold updN Ha
 by_cases e:p=i
 ·subst e;simp
 ·rw[if_neg e];by_cases h:p<i
  ·rw[if_pos h,if_pos (by omega)]
  ·rw[if_neg h,if_neg (by omega)]
theorem TU (C:Nat→Nat) (n:Nat):Cs (Ha C n) n=Cs C n:=by
 unfold Cs Ha
 exact List.map_congr_left fun p hp=>by rw[if_pos (List.mem_range.1 hp)]
def Ni (C D:Nat→Nat):Nat→Bool:=fun p=>decide (C p≠D p)
theorem OK (C D:Nat→Nat) (j:Nat):cnt (Ni C D) 0 (j+1)=cnt (Ni C D) 0 j+if C j≠D j then 1 else 0:=by
 simp only[cnt,Nat.zero_add,Ni]
 split<;>simp_all
structure FlI (o0 o:TB) (P:PL) (Q:List Nat) (S0 k mb0 mb:Nat):Prop where
 s:Stk o.N 7 P
 n:k+Cz o.N P≤S0
 r:o.R.Perm (pgs P++Q)
 q:∀ c∈Q,∀ h lo hi m L,Tr o0.N h c lo hi m L→Tr o.N h c lo hi m L
 m:mb≤mb0+2 * k
theorem FlI.next {o0 o:TB} {P P2:PL} {Q:List Nat} {S0 k mb0 mb:Nat} {t2:TS} {F:Nat→Bool} (x:FlI o0 o P Q S0 k mb0 mb) (f:FeR ⟨o.N,o.C,F,0⟩ t2 P P2 Q 7):FlI o0 ⟨t2.N,t2.C,pgs P2++Q⟩ P2 Q S0 (k+1) mb0 (mb+2):=
 ⟨f.s,by have:=x.n;have h:=f.n;show k+1+Cz t2.N P2≤S0;have:Cz t2.N P2+1≤Cz o.N P:=h;omega,List.Perm.refl _,fun c hc h lo hi m L y=>f.q c hc _ _ _ _ _ (x.q c hc _ _ _ _ _ y),by have:=x.m;omega⟩
theorem Ko {N:Hm} {ra h:Nat} (hh:h≤4) (hT:ra=0∨∃ lo hi m_ L,Tr N h ra lo hi m_ L):nodR N ra h≤6561:=by
 unfold nodR
 split
 ·omega
 ·rename_i e
  obtain ⟨_,_,_,_,t⟩:=hT.resolve_left e
  exact Nat.le_trans t.nods_le (Nat.le_trans (Nat.pow_le_pow_right (by omega) hh) (by decide))
theorem FlI.start0 {o:TB} {Q:List Nat} {S0 mb:Nat} (hp:o.R.Perm Q):FlI o o [] Q S0 0 mb mb:=⟨fun j x hx=>by simp at hx,by simp[Cz],hp,fun _ _ _ _ _ _ _ y=>y,by omega⟩
theorem FlI.start1 {o:TB} {Q:List Nat} {ra h mb:Nat} (h0:ra≠0) (hh:h≤4) (hT:ra=0∨∃ lo hi m_ L,Tr o.N h ra lo hi m_ L) (hp:o.R.Perm (A5 ra++Q)):FlI o o [(ra,h)] Q (2 * nodR o.N ra h - 1) 0 mb mb:=by
 refine ⟨fun j x hx=> ?_,?_,by rw[CI h0] at hp;exact hp,fun _ _ _ _ _ _ _ y=>y,by omega⟩
 ·cases j with
  | zero=>simp at hx;subst hx;exact ⟨by dsimp only;omega,hT.resolve_left h0⟩
  | succ j=>simp at hx
 ·have:=Rn o.N h ra
  unfold nodR;rw[if_neg h0]
  show 0+(stp o.N h ra+0)≤_
  omega
theorem TV {N:Hm} {B:Nat} {P:PL} (h:Stk N B P) (h0:P≠[]):1≤Cz N P:=by
 rcases List.eq_nil_or_concat P with q|⟨Y,x,rfl⟩
 ·exact absurd q h0
 ·rw[List.concat_eq_append] at h ⊢
  obtain ⟨_,_,_,_,_,t⟩:=h.last
  have:=t.stp_pos
  rw[DF]
  show 1≤Cz N Y+(stp N x.2 x.1+0)
  omega
set_option maxHeartbeats 4000000 in
theorem Nj (pp mb0 n:Nat) (o0:TB) (ra:Nat) (Q:List Nat) (h:Nat) (hh:h≤4) (hT:ra=0∨∃ lo hi m_ L,Tr o0.N h ra lo hi m_ L) (hp:o0.R.Perm (A5 ra++Q)) (hmb:mb0≤900000000):Cn prog 16 [Pt_ pp,Iv_ (ra:Int)] [trA Tb pp mb0 n o0 none] (fun v Γ=>∃ (o2:TB) (m2:Nat),(o2.R.Perm Q∧(∀ c∈Q,∀ h lo hi m L,Tr o0.N h c lo hi m L→Tr o2.N h c lo hi m L)∧m2≤mb0+30000)∧v= .bool true∧Γ=[trA Tb pp m2 n o2 none]):=by
 intro z R w H;replace H:=H.l1;refine Ad func16 rfl ntmps16 rfl (Zc 10 rfl (OV (fun a w=>∃ (u:Value) (P:PL),Fr 87 [] [(5,u),(0,Pt_ pp),(1,Iv_ (ra:Int)),(4,.bool false)] a∧Sep z (stkA u P::trA Tb pp mb0 n o0 none::R) w∧(FlI o0 o0 P Q (2 * nodR o0.N ra h - 1) 0 mb0 mb0)) ?_ ?_))
 ·refine Z0 6 [0] rfl (Af rfl (fun h1=> ?_) (fun h1=> ?_))
  ·refine Zc 2 rfl (AJ rfl (AC H rfl (by kernel_rfl) A4 rfl (by decide) (by decide) (out:=[Iv_ (ra:Int)]) (by kernel_rfl)) ?_);rintro _ w ⟨b1,rfl,H⟩;replace H:=H.l2;refine Zc 2 rfl ?_;replace H:=(H.mono 0 (B:=stkA (.slice (some ⟨b1,0,none⟩) 1 1) [(ra,h)]) rfl (fun h q=>q.rd (by omega) (by omega) (by simp) rfl)).l2
   exact gf fun _ hF=>⟨(.slice (some ⟨b1,0,none⟩) 1 1),([(ra,h)]),(hF.all rfl),H,FlI.start1 (by omega) hh hT hp⟩
  ·refine Zc 1 rfl ?_;replace H:=(H.void (B:=stkA (.slice none 0 0) []) (fun h=>stkA.nil)).l2
   exact gf fun _ hF=>⟨(.slice none 0 0),([]),(hF.all rfl),H,FlI.start0 (by have h0:ra=0:=(by omega);subst h0;exact hp)⟩
 rintro a w ⟨u,P,hF,H,hI⟩;revert a;have su:=H.says 0 rfl (fun h q=>q.slc)
 refine Zc 1 rfl ?_;have hnb0:=Ko hh hT
 refine Zc 3 rfl (z_E_ rfl (call21 _) (YK _ _ _ _ ra h (by omega) hT) H.f1 ?_);intro w H;refine Z1 11 [] [2 * (nodR o0.N ra h:Int)] rfl (by omega) ?_;refine AD (σ:=Nat×Value×PL×TB×Nat) (fun ⟨k,u,P,o,mb⟩=>[(7,Iv_ (k:Int)),(5,u),(0,Pt_ pp),(6,Iv_ (2 * (nodR o0.N ra h:Int)))])
   (fun ⟨k,u,P,o,mb⟩ w=>Sep z (trA Tb pp mb n o none::stkA u P::R) w∧(FlI o0 o P Q (2 * nodR o0.N ra h - 1) k mb0 mb)) (fun ⟨k,u,P,o,mb⟩=>2 * nodR o0.N ra h - k) ⟨0,u,P,o0,mb0⟩
   (fun _ hF=>(hF.co rfl (by go_num) (hF.all rfl))) ⟨H,hI⟩ ?_
 clear H;rintro ⟨k,u,P,o,mb⟩ w ⟨H',hI⟩;dsimp only at hI H' ⊢
 have H:=H'.l2;have hL:=hI;clear hI
 have su:=H.says 1 rfl (fun h q=>q.slc)
 refine Zc 4 rfl (Ab rfl (CR rfl (sz:=1) (by kernel_rfl) rfl su) (Z0 3 [0] rfl (Af rfl (fun h2=> ?_) (fun h2=> ?_))))
 ·refine Zc 6 rfl ?_;obtain ⟨P1,⟨r,hr⟩,rfl⟩:∃ P1 x,P=P1++[x]:=by rcases List.eq_nil_or_concat P with q|⟨Y,x,q⟩;exact absurd (show P.length=0 by rw[q];rfl) (by omega);exact ⟨Y,x,by rw[q,List.concat_eq_append]⟩
  have hpos:=TV hL.s (by simp)
  have hln:=hL.s.len
  have hfn:=hL.n
  have hfm:=hL.m
  have hnb:=Ko hh hT
  have K:=H.says 0 rfl (fun h a=>trA.k a)
  have hn:=K.hn
  have hmn:manyN n≤9:=by unfold manyN;omega
  refine Z0 5 [0] rfl (Al 30 rfl (fun h3=> ?_) (fun h3=> ?_))
  ·(exfalso;omega)
  ·refine Zc 1 rfl (Ab rfl (CR rfl (sz:=1) (by kernel_rfl) rfl su) (Z0 3 [0] rfl (Al 35 rfl (fun h4=> ?_) (fun h4=> ?_))))
   ·(exfalso;omega)
   ·refine Zc 1 rfl (z_E_ rfl (call18 _) (Id _ _ _ _) H ?_);intro w H;refine Z0 10 [4] rfl (z_E_ rfl (call38 _) (Wg _ _ _ _ _) H ?_);intro w H;replace H:=H.l2;refine AJ rfl (E5 (k:=n) H rfl (by kernel_rfl) A4 rfl rfl rfl (by omega)) ?_;rintro _ w ⟨b2,rfl,H⟩;replace H:=H.l3;refine Zc 5 rfl ?_;rw[YL o.C] at H;refine Zc 5 rfl ?_;refine AD (σ:=Nat) (fun i=>[(9,Iv_ (i:Int)),(0,Pt_ pp),(5,u),(6,Iv_ (2 * (nodR o0.N ra h:Int))),(7,Iv_ (k:Int)),(8,.slice (some ⟨b2,0,none⟩) n n),(22,u),(23,Iv_ ((P1++[(r,hr)]).length:Int)),(24,.bool (decide ((0:Int)<((P1++[(r,hr)]).length:Int)))),(27,Iv_ (k:Int)),(28,Iv_ (2 * (nodR o0.N ra h:Int))),(29,.bool (decide ((2 * (nodR o0.N ra h:Int))≤(k:Int)))),(30,.bool false),(31,u),(32,Iv_ (((P1++[(r,hr)]).length:Nat):Int)),(33,.bool (decide ((8:Int)<(((P1++[(r,hr)]).length:Nat):Int)))),(34,.bool (decide ((8:Int)<(((P1++[(r,hr)]).length:Nat):Int)))),(35,.bool false),(36,Pt_ pp),(37,Iv_ 0),(38,.bool false),(39,.bool false),(40,Pt_ pp),(41,Iv_ (n:Int)),(42,.slice (some ⟨b2,0,none⟩) n n)])
      (fun i w=>Sep z (cnA b2 (Ha o.C i) n::trA Tb pp mb n o (some (⟨o.N,o.C,frC n o.C,0⟩,o.R))::stkA u (P1++[(r,hr)])::R) w∧(i≤n)) (fun i=>n - i) 0
      (fun _ hF=>(hF.co rfl (by go_num) (hF.all rfl))) ⟨H,(Nat.zero_le _)⟩ ?_
    clear H;rintro i w ⟨H',hI⟩;have H:=H'.l3;have hin2:=hI;clear hI
    refine Z0 9 [0] rfl (Af rfl (fun h5=> ?_) (fun h5=> ?_))
    ·refine Zc 9 rfl (z_E_ rfl (call39 _) (Fx pp mb n o _ i (by omega)) H.f1 ?_);intro w H;replace H:=H.l3;refine AE 53 (v:=Iv_ (o.C i:Int)) rfl rfl (Z1 1 [1,i,i] [] rfl (by omega) ?_);skip
     refine Ax rfl rfl (Ai 1 H rfl rfl rfl rfl (vs:=[Iv_ (o.C i:Int)]) rfl (Ac rfl Ar) (by kernel_rfl) (by simp only[Ct,List.length_cons,List.length_nil];omega) (out:=Cs (updN (Ha o.C i) i (o.C i)) n) (HY _ (by omega) (by omega))) ?_;rintro w H';rw[Ru] at H';have H:=H'.l3;refine Z1 8 [] [(i:Int)+1] rfl (by omega) ?_;replace H:=H.f2.f1.f2;refine gf ?_;intro _ hF;refine ⟨(i+1),(hF.co rfl (by go_num) (hF.all rfl)),⟨H,?_⟩,?_⟩
     ·omega
     ·omega
    ·refine Zc 2 rfl (gx (Zc 3 rfl ?_));obtain rfl:n=i:=by omega
     replace H:=(H.mono 0 (B:=cnA b2 o.C n) rfl (fun h q=>by show blk b2 (Cs o.C n) 3 h;rw[←TU];exact q)).l3
     replace H:=(H.mono 1 (B:=trA Tb pp mb n o (some (⟨o.N,o.C,frC n o.C,0⟩,r::(pgs P1++Q)))) rfl (fun h q=>trA.perm (hL.r.trans (by rw[show pgs (P1++[(r,hr)])=pgs P1++[r] from by simp];exact (Uy r (pgs P1) Q).symm)) q)).l3
     refine Zc 3 rfl (Ao rfl (call22 _) (YG _ _ _ _ _ P1 r hr Q 7 _ _ (fun h q=>by have q:rdH 1 u (P1++[(r,hr)]).length (Bt (pgs (P1++[(r,hr)]))) h:=q;simpa using q) hL.s (by omega) (by obtain ⟨_,_,_,_,_,tr⟩:=hL.s.last;exact tr.node) (by show 0<10;omega)) H.f2.f2 ?_);rintro _ w _ ⟨u2,t3,P2,hf,rfl,rfl⟩ H;replace H:=H.l4;replace H:=(H.mono 1 (B:=stkA u2 P2) rfl (fun h q=>stkA.of q)).l4
     have su2:=H.says 1 rfl (fun h q=>q.slc)
     refine Z0 14 [4] rfl (z_E_ rfl (call20 _) (EZ _ _ _ _ _ _ (by have h:t3.k≤0+1:=hf.k;omega) (by omega)) H ?_);intro w H;refine Z0 19 [4] rfl ?_;refine AD (σ:=Nat) (fun j=>[(13,Iv_ (j:Int)),(12,Iv_ (cnt (Ni o.C t3.C) 0 j:Int)),(0,Pt_ pp),(5,u),(6,Iv_ (2 * (nodR o0.N ra h:Int))),(7,Iv_ (k:Int)),(8,.slice (some ⟨b2,0,none⟩) n n),(9,Iv_ (n:Int)),(10,u2),(11,Iv_ 0),(22,u),(23,Iv_ ((P1++[(r,hr)]).length:Int)),(24,.bool (decide ((0:Int)<((P1++[(r,hr)]).length:Int)))),(27,Iv_ (k:Int)),(28,Iv_ (2 * (nodR o0.N ra h:Int))),(29,.bool (decide ((2 * (nodR o0.N ra h:Int))≤(k:Int)))),(30,.bool false),(31,u),(32,Iv_ (((P1++[(r,hr)]).length:Nat):Int)),(33,.bool (decide ((8:Int)<(((P1++[(r,hr)]).length:Nat):Int)))),(34,.bool (decide ((8:Int)<(((P1++[(r,hr)]).length:Nat):Int)))),(35,.bool false),(36,Pt_ pp),(37,Iv_ 0),(38,.bool false),(39,.bool false),(40,Pt_ pp),(41,Iv_ (n:Int)),(42,.slice (some ⟨b2,0,none⟩) n n),(43,Iv_ (n:Int)),(44,.slice (some ⟨b2,0,none⟩) n n),(45,Iv_ (n:Int)),(46,.bool (decide ((n:Int)<(n:Int)))),(55,.tuple #[u2,Iv_ 0]),(56,Pt_ pp),(57,u),(58,.tuple #[u2,Iv_ 0]),(59,u2),(60,Iv_ 0),(61,Iv_ 0),(62,.bool false),(63,.bool false),(64,Pt_ pp),(65,Iv_ 0),(66,.bool false),(67,.bool false)])
       (fun j w=>Sep z (trA Tb pp (mb+2) n ⟨t3.N,t3.C,pgs P2++Q⟩ none::stkA u2 P2::stkA u (P1++[(r,hr)])::cnA b2 o.C n::R) w∧(j≤n)) (fun j=>n - j) 0
       (fun _ hF=>(hF.co rfl (by go_num) (hF.co rfl (congrArg Iv_ rfl) (hF.all rfl)))) ⟨H,(Nat.zero_le _)⟩ ?_
     clear H;rintro j w ⟨H',hI⟩;have H:=H'.l4;have hjn2:=hI;clear hI
     refine Z0 9 [0] rfl (Af rfl (fun h6=> ?_) (fun h6=> ?_))
     ·refine Zc 5 rfl ?_;have hcl:=J9 (Ni o.C t3.C) 0 j
      replace H:=H.f3;refine AI (Sep z (cnA b2 o.C n::R)) 8 rfl (by kernel_rfl) (Bc H fun w H'=> ?_)
      have H:=H'.l4;refine Ho [0,1,2] [1,j,j] [] (by exact (H.pick 4 [0] rfl)) rfl (by kernel_rfl) (by omega) rfl (BD 3 rfl (by kernel_rfl) (by kernel_rfl) (by kernel_rfl) rfl rfl rfl (AO rfl rfl (by kernel_rfl) (fun _ hx=>hx.cel 0 rfl j (cnL_at _ (by omega)))) (H.pick 4 [0] rfl) (AW [4,5] [] [] (by exact (H.pick 4 [0] rfl)) rfl (by kernel_rfl) rfl (Az [6] (by kernel_rfl) (by simp) (Aw (BQ rfl rfl rfl rfl rfl rfl (fun w=>call39 _ w) (Fx _ _ n _ none j (by omega)) H.f1 rfl ?_)))));rintro _ w _ ⟨rfl,rfl⟩ H;replace H:=H.l4;refine Av (H.pick 4 [1] rfl) (AW [7] [0] [] (by exact (H.pick 4 [1] rfl)) rfl (by kernel_rfl) rfl (a_done (by kernel_rfl) (gn (Zc 1 rfl (Af rfl (fun h7=> ?_) (fun h7=> ?_))))))
      ·refine Z1 12 [] [(cnt (Ni o.C t3.C) 0 j:Int)+1,(j:Int)+1] rfl (by omega) ?_;replace H:=H.f1.f3.f3.f3;refine gf ?_;intro _ hF;refine ⟨(j+1),(hF.co rfl (by go_num) (hF.co rfl (congrArg Iv_ (by have:=OK o.C t3.C j;have hc:curC ⟨t3.N,t3.C,pgs P2++Q⟩ none j=t3.C j:=rfl;split at this<;>omega)) (hF.all rfl))),⟨H,?_⟩,?_⟩
       ·omega
       ·omega
      ·refine Z1 8 [] [(j:Int)+1] rfl (by omega) ?_;replace H:=H.f1.f3.f3.f3;refine gf ?_;intro _ hF;refine ⟨(j+1),(hF.co rfl (by go_num) (hF.co rfl (congrArg Iv_ (by have:=OK o.C t3.C j;have hc:curC ⟨t3.N,t3.C,pgs P2++Q⟩ none j=t3.C j:=rfl;split at this<;>omega)) (hF.all rfl))),⟨H,?_⟩,?_⟩
       ·omega
       ·omega
     ·refine Zc 2 rfl (gx (Zc 4 rfl ?_));have hjn:j=n:=by omega
      obtain ⟨X,hX1,hX2⟩:=hf.c;have hfew:=Kn (F:=Ni o.C t3.C) (n:=n) (X:=X) (fun p _ h=>Classical.byContradiction fun q=>(of_decide_eq_true h) (hX2 p q).symm)
      rw[←hjn] at hfew;refine Z0 5 [0] rfl (Af rfl (fun h8=> ?_) (fun h8=> ?_))
      ·(exfalso;omega)
      ·refine Zc 2 rfl ?_;replace H:=H.f3.d.f2.d.f1;refine Z1 11 [] [(k:Int)+1] rfl (by omega) ?_;replace H:=H.f1;refine gf ?_;intro _ hF;refine ⟨⟨k+1,u2,P2,⟨t3.N,t3.C,pgs P2++Q⟩,mb+2⟩,(hF.co rfl (by go_num) (hF.all rfl)),⟨H,?_⟩,?_⟩
       ·exact hL.next hf
       ·(dsimp only;omega)
 ·refine Zc 2 rfl (gx (Zc 8 rfl (Zr rfl ?_)));obtain rfl:P=[]:=List.length_eq_zero_iff.1 (by omega);have hfn:=hL.n;have hfm:=hL.m;have hnb:=Ko hh hT
  exact ⟨_,⟨o,mb,⟨hL.r,hL.q,by omega⟩,rfl,rfl⟩,H.pick 2 [0] rfl⟩
end
open Go.RowKit
theorem Rv {n f:Nat} {N:Hm} {C:Nat→Nat} {R:List Nat} {a:Nat} {L:List E} (I:TInv n f N C R) (h:Root N a L) (hn:n≤511):∃ k,k≤4∧(a=0∨∃ lo hi m L,Tr N k a lo hi m L):=by
 by_cases e:a=0
 ·exact ⟨0,by omega,.inl e⟩
 ·obtain ⟨k,t,hk⟩:=h.low I e hn
  exact ⟨k,hk,.inr ⟨_,_,_,_,t⟩⟩
section
open Go.RowKit
variable {Tb:Ae}
theorem TW (pp mb n:Nat) (o:TB) (t:TS) (R0:List Nat) (p:Nat) (h0:p≠0) (hp:manyN n<p∧p<n) (hC:1≤t.C p) (hb:R0.length+n<1000):Cn prog 19 [Pt_ pp,Iv_ (p:Int)] [trA Tb pp mb n o (some (t,R0))] (fun v Γ=>v= .tuple #[Iv_ (p:Int),Iv_ 0]∧Γ=[trA Tb pp mb n o (some ({ t with C:=fup t.C p (t.C p+1) },p::R0))]):=by
 intro z R w H;replace H:=H.l1;refine Ad func19 rfl ntmps19 rfl (Zc 10 rfl (z_E_ rfl (call41 _) (Kk _ _ _ _ _) H ?_));intro w H;refine Z0 19 [4,0] rfl (Af rfl (fun h1=> ?_) (fun h1=> ?_))
 ·(exfalso;omega)
 ·refine Zc 7 rfl (z_E_ rfl (call42 _) (Ut pp mb n o t R0 p hp hC hb) H ?_);intro w H;refine Z0 20 [4] rfl (Zr rfl ?_);exact ⟨_,⟨rfl,rfl⟩,H⟩
theorem Rw (pp mb n:Nat) (o:TB) (s:TS×List Nat):Cn prog 19 [Pt_ pp,Iv_ 0] [trA Tb pp mb n o (some s)] (fun v Γ=>v= .tuple #[Iv_ 0,Iv_ 0]∧Γ=[trA Tb pp mb n o (some s)]):=by
 intro z R w H;replace H:=H.l1;refine Ad func19 rfl ntmps19 rfl (Zc 10 rfl (z_E_ rfl (call41 _) (Kk _ _ _ _ _) H ?_));intro w H;refine Z0 27 [4,3] rfl (Zr rfl ?_);exact ⟨_,⟨rfl,rfl⟩,H⟩
end
section
open Go.RowKit
variable {Tb:Ae}
theorem GrR.L80 {n:Nat} {o o2:TB} {a:Nat} {L:List E} {Q:List Nat} {ks:List Int} {mb m2:Nat} (h:GrR n o o2 a L Q (ks.take 80) mb m2):L.length≤80∧m2≤mb+160:=by
 have:=h.l;have h2:=h.m
 rw[List.length_take] at this h2;omega
end
section
open Go.RowKit
variable {Tb:Ae}
end
section
open Go.RowKit
variable {Tb:Ae}
end
section
open Go.RowKit
variable {Tb:Ae}
theorem WP (k:Int) (L:List E):(AS k L).length≤L.length:=List.length_filter_le ..
end
section
open Go.RowKit
variable {Tb:Ae}
end
section
open Go.RowKit
variable {Tb:Ae}
theorem Zw (pp mb n:Nat) (o:TB) (t:TS) (S0:List Nat) (ra:Nat) (h:ra≠0→(manyN n<ra∧ra<n)∧1≤t.C ra) (hb:S0.length+n<1000):Cn prog 19 [Pt_ pp,Iv_ (ra:Int)] [trA Tb pp mb n o (some (t,S0))] (fun v Γ=>∃ C2:Nat→Nat,v= .tuple #[Iv_ (ra:Int),Iv_ 0]∧Γ=[trA Tb pp mb n o (some (⟨t.N,C2,t.F,t.k⟩,A5 ra++S0))]):=by
 intro z R w H
 by_cases e:ra=0
 ·subst e
  refine Ret.mono (Rw pp mb n o (t,S0) z R w H) ?_
  rintro v w' ⟨Γ',⟨rfl,rfl⟩,H'⟩
  exact ⟨_,⟨t.C,rfl,rfl⟩,H'⟩
 ·refine Ret.mono (TW pp mb n o t S0 ra e (h e).1 (h e).2 hb z R w H) ?_
  rintro v w' ⟨Γ',⟨rfl,rfl⟩,H'⟩
  exact ⟨_,⟨_,rfl,by rw[CI e];rfl⟩,H'⟩
set_option maxHeartbeats 6000000 in
theorem K8 (A Tb:Ae) (hT:GS Tb) (v:Value) (ks:List Int) (hA:Yv v ks A) (vx:Value) (kt:List Int) (hAx:Yv vx kt A):Cn prog 8 [v,vx] [A,Tb] (fun v Γ=>v= .bool true∧Γ=[A,Tb]):=by
 intro z R w H;replace H:=H.l2;obtain ⟨ao,oc,rfl⟩:=H.says 0 rfl (fun h q=>(hA h q).1.slc);obtain ⟨ax,ox,rfl⟩:=H.says 0 rfl (fun h q=>(hAx h q).1.slc);refine Ad func8 rfl ntmps8 rfl (Zc 7 rfl (Ao rfl (call9 _) (M8 400 (by omega) Tb hT) H.f1 ?_));rintro _ w _ ⟨pp,rfl,rfl⟩ H;refine Zc 16 rfl (z_E_ rfl (call15 _) (Q7 _ _ _ _ none) H ?_);intro w H;replace H:=H.l2;refine AE 23 (v:=Iv_ (cnt (frC 400 (F3 400).C) 0 1024:Int)) rfl rfl (Zc 7 rfl (Ao rfl (call10 _) (OH _ 6 400 (F3 400) _ ([]) 0 [] _ ks hA (Uv (by omega)) rfl (Uw (by omega)) (by have e4:manyN 400=4:=rfl;simp only[List.length_nil];omega) (by omega)) H ?_));rintro _ w _ ⟨pm,ra,L,o2,m2,hG,rfl,rfl⟩ H;refine Zc 23 rfl (z_E_ rfl (call18 _) (Id _ _ _ _) H.f1 ?_);intro w H;refine Z0 7 [4] rfl ?_;have hl80:=hG.L80
 have K1:=H.says 0 rfl (fun h a=>trA.k a)
 have hrp:ra≠0→(manyN 400<ra∧ra<400)∧1≤o2.C ra:=fun h0=>by have hm:ra∈o2.R:=(by rw[hG.I.r,CI h0];simp);exact ⟨K1.i.rin ra hm,K1.i.pos hm⟩
 have hrl:o2.R.length+400<1000:=by have h1:(A5 ra).length≤1:=(by unfold A5;split<;>simp);rw[hG.I.r];simp;omega
 refine Zc 3 rfl (Ao rfl (call19 _) (Zw _ _ _ _ (⟨o2.N,o2.C,frC 400 o2.C,0⟩:TS) o2.R ra hrp hrl) H ?_);rintro _ w _ ⟨C2,rfl,rfl⟩ H;refine Z0 14 [4] rfl (z_E_ rfl (call20 _) (EZ _ _ _ _ _ _ (by show 0+manyN 400≤40;decide) (by omega)) H ?_);intro w H;refine Z0 7 [4] rfl ?_;replace H:=(H.mono 0 (B:=trA Tb pp (m2+2) 400 ⟨o2.N,C2,A5 ra++A5 ra⟩ none) rfl (fun h q=>by rw[hG.I.r,List.append_nil] at q;exact q)).l3
 refine OV (fun a w=>∃ (rb:Nat) (M:List E) (o:TB) (mb:Nat),Fr 138 [] [(7,Iv_ (rb:Int)),(1,.slice ax kt.length ox),(5,Pt_ pp),(6,Iv_ (cnt (frC 400 (F3 400).C) 0 1024:Int)),(8,Pt_ pm),(10,Iv_ (ra:Int))] a∧Sep z (trA Tb pp mb 400 o none::mpA pm L::A::R) w∧(LwI 400 o rb M (A5 ra)∧Root o.N ra L∧M.length≤120∧mb≤300)) ?_ ?_
 ·refine Zc 6 rfl ?_;refine AD (σ:=Nat×Nat×List E×TB×Nat) (fun ⟨i,rb,M,o,mb⟩=>[(12,Iv_ (i:Int)),(7,Iv_ (rb:Int)),(1,.slice ax kt.length ox),(5,Pt_ pp),(6,Iv_ (cnt (frC 400 (F3 400).C) 0 1024:Int)),(8,Pt_ pm),(10,Iv_ (ra:Int))])
    (fun ⟨i,rb,M,o,mb⟩ w=>Sep z (trA Tb pp mb 400 o none::mpA pm L::A::R) w∧(i≤40∧LwI 400 o rb M (A5 ra)∧Root o.N ra L∧M.length≤80+i∧mb≤200+2 * i)) (fun ⟨i,rb,M,o,mb⟩=>40 - i) ⟨0,ra,L,⟨o2.N,C2,A5 ra++A5 ra⟩,m2+2⟩
    (fun _ hF=>(hF.co rfl (by go_num) (hF.all rfl))) ⟨H,⟨Nat.zero_le _,⟨by omega,by unfold A5;split<;>simp,hG.I.root,hG.I.nd,rfl⟩,hG.I.root,by omega,by omega⟩⟩ ?_
  clear H;rintro ⟨i,rb,M,o,mb⟩ w ⟨H',hI⟩;dsimp only at hI H' ⊢
  have H:=H'.l3;obtain ⟨hi40,hW,hRa,hMl,hmb⟩:=hI;refine Z0 8 [0] rfl (Al 53 rfl (fun h1=> ?_) (fun h1=> ?_))
  ·refine Z0 5 [0] rfl (Af rfl (fun h2=> ?_) (fun h2=> ?_))
   ·refine Zc 6 rfl ?_;obtain ⟨x,hx⟩:∃ x,kt[i]? =some x:=⟨_,List.getElem?_eq_getElem (by omega)⟩;have hxb:=H.says 2 rfl (fun h q=>(hAx h q).2 x (List.mem_of_getElem? hx))
    have K:=H.says 0 rfl (fun h a=>trA.k a)
    have hrm:=hW.room rfl hRa K
    have e4:manyN 400=4:=rfl
    have hpk:=Ri x (N:=100) (by omega)
    have hky:(0:Int)≤(pkI x 100:Int)∧(pkI x 100:Int)<1048576:=by omega
    refine Zc 2 rfl (z_E_ rfl (call18 _) (Id _ _ _ _) H ?_);intro w H;replace H:=H.l3;replace H:=(H.mono 0 (B:=trA Tb pp mb 400 o (some ((⟨o.N,o.C,frC 400 o.C,0⟩:TS),A5 rb++A5 ra))) rfl (fun h q=>by rw[hW.r] at q;exact q)).l3
    refine Z0 7 [4] rfl ?_;have hat:=(H.rd 2 rfl (fun h q=>(hAx h q).1)).at (j:=i) (u:=Iv_ x) (Nc hx)
    refine Zc 3 rfl (Ab rfl (Am rfl (z:=1) (j:=i) (r:=i) (by kernel_rfl) rfl rfl rfl (by omega) hat (by omega)) (Ab rfl (Ay rfl rfl (by kernel_rfl) (Au hat)) (z_E_ rfl (call17 _) (OB _ 100 hxb (by omega)) H ?_)));intro w H;refine Zc 5 rfl ?_;have hat:=(H.rd 2 rfl (fun h q=>(hAx h q).1)).at (j:=i) (u:=Iv_ x) (Nc hx)
    refine Zc 3 rfl (Ab rfl (Am rfl (z:=1) (j:=i) (r:=i) (by kernel_rfl) rfl rfl rfl (by omega) hat (by omega)) (Ab rfl (Ay rfl rfl (by kernel_rfl) (Au hat)) (Ab rfl (K9 rfl rfl rfl (by omega)) (Z0 3 [0] rfl (Af rfl (fun h3=> ?_) (fun h3=> ?_))))))
    ·refine Zc 4 rfl (Ao rfl (call27 _) (Zm _ _ _ _ (⟨o.N,o.C,frC 400 o.C,0⟩:TS) (A5 ra) rb (pkI x 100:Int) M hW.root hW.nd hW.n (by show 0≤10;omega) hW.q) H ?_);rintro _ w _ (⟨hno,rfl,rfl⟩|⟨hf2,s2,rfl,rfl⟩|⟨t2,r,⟨hke,hSt,hR2,hfr⟩,rfl,rfl⟩) H'
     ·have H:=H'.l3;refine Z0 14 [4] rfl (z_E_ rfl (call20 _) (EZ _ _ _ _ _ _ (by show 0+manyN 400≤40;decide) (by omega)) H ?_);intro w H;refine Z1 13 [4] [(i:Int)+1] rfl (by omega) (gf ?_);intro _ hF;refine ⟨⟨i+1,rb,M,⟨o.N,o.C,A5 rb++A5 ra⟩,mb+2⟩,(hF.co rfl (by go_num) (hF.all rfl)),⟨H,?_⟩,?_⟩
      ·exact ⟨by show i+1≤40;omega,hW.done hW.root hW.nd rfl,hRa,by show M.length≤80+(i+1);omega,by show mb+2≤200+2 * (i+1);omega⟩
      ·(dsimp only;omega)
     ·(exfalso;have hf2:cnt (frC 400 o.C) 0 1024≤12:=hf2;omega)
     ·have H:=H'.l3;have hSk:t2.k≤0+27:=hSt.k
      refine Z0 14 [4] rfl (z_E_ rfl (call20 _) (EZ _ _ _ _ _ _ (by omega) (by omega)) H ?_);intro w H;refine Z1 13 [4] [(i:Int)+1] rfl (by omega) (gf ?_);intro _ hF;refine ⟨⟨i+1,r,AS (pkI x 100:Int) M,⟨t2.N,t2.C,A5 r++A5 ra⟩,mb+2⟩,(hF.co rfl (by go_num) (hF.all rfl)),⟨H,?_⟩,?_⟩
      ·exact ⟨by show i+1≤40;omega,hW.done hR2 (JF hW.nd) rfl,(Kp.of fun c hc h lo hi m L x=>hSt.fr c hc h lo hi m L x).root hRa,by have:=WP (pkI x 100:Int) M;show (AS (pkI x 100:Int) M).length≤80+(i+1);omega,by show mb+2≤200+2 * (i+1);omega⟩
      ·(dsimp only;omega)
    ·refine Zc 9 rfl (Ao rfl (call29 _) (Rl _) H ?_);rintro _ w _ ⟨pb,rfl,rfl⟩ H;replace H:=H.l4;refine Ao rfl (call28 _) (OC _ _ _ _ (⟨o.N,o.C,frC 400 o.C,0⟩:TS) (A5 rb++A5 ra) (pkI x 100:Int) pb (by show 0<40;omega)) H.f1 ?_;rintro _ w _ (⟨h00,rfl,rfl⟩|⟨val,t2,⟨hv0,hvd,hnv,hkT,hk2,hf2⟩,rfl,rfl⟩) H'
     ·(exfalso;have h00:cnt (frC 400 o.C) 0 1024=0:=h00;omega)
     ·have H:=H'.l4;have hf3:cnt (frC 400 o.C) 0 1024=cnt t2.F 0 1024+1:=hf2
      have hk3:t2.k≤0+1:=hk2
      refine Z0 19 [3] rfl ?_;have hR2:Root t2.N rb M:=Kp.of (Q:=[rb]) (fun c _ h=>hkT h c) rb (by simp) M hW.root
      refine Ao rfl (call30 _) (Uu _ _ _ _ t2 (A5 ra) rb (pkI x 100:Int) val _ M hR2 hW.n hky hvd hnv (by omega) hW.q) H ?_;rintro _ w _ (⟨hf4,s3,rfl,rfl⟩|⟨t3,r,⟨hSt3,hR3,hfr⟩,rfl,rfl⟩) H'
      ·(exfalso;omega)
      ·have H:=H'.l4;have hSk:=hSt3.k
       have hnd3:(vals (putE (pkI x 100:Int) val M)).Nodup:=JG hW.root.srt.1 hW.nd (fun q=>by obtain ⟨e,he,rfl⟩:=List.mem_map.1 q;obtain ⟨b,hb⟩:=hW.root.data e he;rw[show o.N e.2=none from hv0] at hb;cases hb)
       have hpl:=(KX (k:=(pkI x 100:Int)) (v:=val) hW.root.srt.1).1
       refine Z0 13 [4] rfl (z_E_ rfl (call20 _) (EZ _ _ _ _ _ _ (by omega) (by omega)) H ?_);intro w H;refine Z1 13 [4] [(i:Int)+1] rfl (by omega) ?_;replace H:=H.f1.d;refine gf ?_;intro _ hF;refine ⟨⟨i+1,r,putE (pkI x 100:Int) val M,⟨t3.N,t3.C,A5 r++A5 ra⟩,mb+2⟩,(hF.co rfl (by go_num) (hF.all rfl)),⟨H,?_⟩,?_⟩
       ·exact ⟨by show i+1≤40;omega,hW.done hR3 hnd3 rfl,(Kp.of fun c hc h lo hi m L x=>hSt3.fr c hc h lo hi m L (hkT h c lo hi m L x)).root hRa,by show (putE (pkI x 100:Int) val M).length≤80+(i+1);omega,by show mb+2≤200+2 * (i+1);omega⟩
       ·(dsimp only;omega)
   ·refine Zc 2 rfl (gx (Zc 1 rfl ?_));exact gf fun _ hF=>⟨rb,M,o,mb,(hF.all rfl),H,⟨hW,hRa,by omega,by omega⟩⟩
  ·refine Zc 8 rfl (gx (Zc 1 rfl ?_));exact gf fun _ hF=>⟨rb,M,o,mb,(hF.all rfl),H,⟨hW,hRa,by omega,by omega⟩⟩
 rintro a w ⟨rb,M,o,mb,hF,H,hI⟩;revert a;obtain ⟨hW,hRa,hMl,hmb⟩:=hI;refine Zc 5 rfl (z_E_ rfl (call25 _) (Pv _ _ _ _ _ _ L hRa (by omega)) H.f1 ?_);intro w H;refine Zc 4 rfl ?_;obtain ⟨h5,hh5,hT5⟩:=Rv (H.says 1 rfl (fun h a=>(trA.k a).i)) hW.root (by omega);refine Zc 3 rfl (Ao rfl (call16 _) (Nj _ _ _ _ rb (A5 ra) h5 hh5 hT5 (by rw[hW.r]) (by omega)) H.f1 ?_);rintro _ w _ ⟨o5,m5,⟨hr5,hk5,hm5⟩,rfl,rfl⟩ H;refine Zc 4 rfl ?_;have hRa5:Root o5.N ra L:=(Kp.of hk5).root hRa
 refine Zc 4 rfl (z_E_ rfl (call25 _) (Pv _ _ _ _ _ _ L hRa5 (by omega)) H.f1 ?_);intro w H;refine Zc 4 rfl ?_;obtain ⟨h6,hh6,hT6⟩:=Rv (H.says 1 rfl (fun h a=>(trA.k a).i)) hRa5 (by omega);refine Zc 3 rfl (Ao rfl (call16 _) (Nj _ _ _ _ ra ([]) h6 hh6 hT6 (by rw[List.append_nil];exact hr5) (by omega)) H.f1 ?_);rintro _ w _ ⟨o6,m6,⟨hr6,hk6,hm6⟩,rfl,rfl⟩ H;refine Zc 4 rfl ?_;have K3:=H.says 0 rfl (fun h a=>trA.k a)
 have hfe:cnt (frC 400 o6.C) 0 1024=cnt (frC 400 (F3 400).C) 0 1024:=by rw[K3.empty hr6.eq_nil];rfl
 refine Zc 13 rfl (z_E_ rfl (call15 _) (Q7 _ _ _ _ none) H ?_);intro w H;replace H:=H.l3;refine AE 131 (v:=Iv_ (cnt (frC 400 o6.C) 0 1024:Int)) rfl rfl (Z0 4 [0] rfl (Al 135 rfl (fun h4=> ?_) (fun h4=> ?_)))
 ·replace H:=(((H.pick 3 [0,2] rfl).trTab).2).l2
  refine z_E_ rfl (call14 _) (TN Tb hT) H ?_;intro w H;refine Zc 5 rfl (Zr rfl ?_);exact ⟨_,⟨rfl,rfl⟩,H.pick 2 [1,0] rfl⟩
 ·(exfalso;omega)
end
open Go.ChangeShapes Go.WideShapes Go.ChangeAt Go.RowKit Go.Joins
theorem WQ (os:Os):laidMet prog Rows.rangesCloneUptoRow.laid ((HF os).forCall (fun _ _=>0) ⟨#[],#[.slice none 0 0,.slice none 0 0],[]⟩).memory:=
 laidMet_of_run' 8 (by kernel_rfl) (by kernel_rfl)
theorem Rx (os:Os) {H:Type} (enc:TypeId×Value→H):∃ places,DataW.whole enc prog ((HF os).forCall (fun _ _=>0) ⟨#[],#[.slice none 0 0,.slice none 0 0],[]⟩).memory f8.params.toList Rows.rangesCloneSpec.vars false #[Value.slice none 0 0,.slice none 0 0].toList 8=some ([.nil,.nil],[],places):=
 ⟨[],by kernel_rfl⟩
theorem rcl_contract (H:Type) (enc:TypeId×Value→H) (W:World) (base:Nat) (args:Array Value) (ds gs:List (DataW H)) (before:List MemPlace)
  (hval:∀ (j:Nat) t v,f8.params[j]? =some t→args[j]? =some v→Value.okWide prog W .any base t v)
  (hW:DataW.Whole enc prog f8.params.toList Rows.rangesCloneSpec.vars false W args.toList ds gs before) (hk:Rows.uptoSmall H (ds++gs)=true) (hL:laidMetH prog Rows.rangesCloneUptoRow.laid W):
  Calls prog 8 args W fun e W'=>∃ v,e= .returned v∧Rows.rangesCloneSpec.post enc prog f8 false true false false W args v W':=by
 have hW0:=hW
 obtain ⟨p,q,hA0,hV,rfl,_,_⟩:=hW
 have hA:DataW.TrodAll enc prog W 0 (fun _=>true) true f8.params.toList args.toList ds p:=hA0
 rw[params8] at hA hval
 obtain ⟨v0,v1,d0,d1,p0,p1,rfl,rfl,rfl,h0,h1⟩:=Zu hA
 obtain ⟨rfl,rfl⟩:=trodVars_none hV
 simp only[List.append_nil] at hW0 hk
 have t0:∀ x∈p0,x.block<W.heap.size:=fun x hx=>by have:=hW0.lt x (by simp[hx]);simpa using this
 have t1:∀ x∈p1,x.block<W.heap.size:=fun x hx=>by have:=hW0.lt x (by simp[hx]);simpa using this
 have hb:Rows.uptoBulkAll [d0,d1]≤1048576:=of_decide_eq_true hk
 simp only[Rows.uptoBulkAll] at hb
 obtain ⟨ao0,l0,c0,rfl⟩:=okWide_slice underlying22 (hval 0 22 v0 rfl rfl)
 obtain ⟨fuel0,hf0⟩:=id h0
 obtain ⟨pk0,hpk0,hlen0,hwf0⟩:=Nf (h:=hf0)
 obtain ⟨ao1,l1,c1,rfl⟩:=okWide_slice underlying22 (hval 1 22 v1 rfl rfl)
 obtain ⟨fuel1,hf1⟩:=id h1
 obtain ⟨pk1,hpk1,hlen1,hwf1⟩:=Nf (h:=hf1)
 refine (Cn.run2 (WI (Lm hL)) (K8 (Il W) (Ng W) (Zt (Lm hL)) _ pk0 (fun h hh=>⟨Nh (Lm hL) hpk0 (by simp) h hh,fun x hx=>Ux (hwf0 x hx)⟩) _ pk1 (fun h hh=>⟨Nh (Lm hL) hpk1 (by simp) h hh,fun x hx=>Ux (hwf1 x hx)⟩))).mono fun e W' hR=> ?_
 obtain ⟨u,rfl,rfl,x⟩:∃ u,e=Ending.returned u∧u= .bool true∧Ext No W W':=by cases e<;>first|exact ⟨_,rfl,hR⟩|exact hR.elim
 exact ⟨_,rfl,_,_,_,[],_,[],hW0,trodAll_mk1 (shut_bool underlying4 true),WJ (Below.trod OI (by kernel_rfl) (of_decide_eq_true (by kernel_rfl)) h0 x.below t0) (Below.trod OI (by kernel_rfl) (of_decide_eq_true (by kernel_rfl)) h1 x.below t1),rfl,x.below.frame _,fun h=>by cases h⟩
theorem Pw (os:Os) (started:os.Started) (H:Type) (enc:TypeId×Value→H) (F:Stop.Interp):
  ReturnsInHanded {} checked os 8 .any ((Rows.OpenSpec.upto Rows.rangesCloneSpec).preRow enc prog f8 Rows.rangesCloneUptoRow.domain false Rows.rangesCloneUptoRow.laid) (((Rows.OpenSpec.upto Rows.rangesCloneSpec).at F).post enc prog f8 false true false false):=by
 obtain ⟨places,hx⟩:=Rx os enc
 refine returnsInHanded_of_row (C:=checked) (s:=Rows.OpenSpec.upto Rows.rangesCloneSpec) own started (by kernel_rfl) func8
  (witness_row_at (enc:=enc) (C:=checked) false (HF os) #[.slice none 0 0,.slice none 0 0] rfl (by kernel_rfl) (by kernel_rfl) (by kernel_rfl)
   (OpenSpec.preRow_of_cond 8 hx (by kernel_rfl) (fun k hk=>by cases hk;kernel_rfl) (by kernel_rfl) (WQ os))) ?_
 intro W base args ds gs before hval hW _ hcond _ hL _ _
 exact rcl_contract H enc W base args ds gs before hval hW (hcond _ rfl) hL
theorem rcl_said:Rows.RangesCloneUptoSaid:=
 OpenClaim.holds_of_cond 8 f8 rfl rfl rfl rfl rfl rfl rfl ⟨rfl,rfl,rfl,rfl,rfl⟩ rfl rfl rfl rfl rfl (by kernel_rfl) func8 (by kernel_rfl)
  (of_decide_eq_true (by kernel_rfl)) (by unfold Func.isWrapper;first|(rw[if_pos (by decide+kernel)];kernel_rfl)|(rw[if_neg (by decide+kernel)];exact ⟨rfl,rfl⟩))
  (fun os started H enc _ F=>by rw[OpenClaim.pre_eq_preRow];exact Pw os started H enc F)
theorem Ry (f:FuncId) (fn:Func) (hf:Tryz.pinned.checked.prog.funcNamed "polder/polderlaw13.RangesClone"=some f) (hfn:Tryz.pinned.checked.prog.funcs[f]? =some fn):
  false=Tryz.pinned.checked.prog.looks []∧∀ (j:Nat) t,fn.params[j]? =some t→Tryz.pinned.checked.prog.wantsStandIn t=false:=by
 obtain rfl:f=8:=Option.some.inj ((show prog.funcNamed "polder/polderlaw13.RangesClone"=some 8 by kernel_rfl).symm.trans hf) |>.symm
 obtain rfl:fn=f8:=(Option.some.inj (func8.symm.trans hfn)).symm
 refine ⟨by kernel_rfl,fun j t ht=> ?_⟩
 rw[params8] at ht
 have hm:=Array.mem_of_getElem? ht
 simp at hm
 rcases hm with rfl|rfl<;>first|exact (show prog.wantsStandIn 22=false by kernel_rfl)
theorem rangesClone_holds:Rows.RangesCloneUptoCardSaid:=
 Claim7.holds_tied_plain_at .later [] _ _ _ _ rcl_said (fun _ h=>by cases h) (by kernel_rfl) (fun _ h=>by cases h) rangesCloneUpto_row_tie rfl ⟨rfl,rfl⟩ (by kernel_rfl) rfl Ry (by kernel_rfl)
end Go.Proofs.YtickmpiipomncaaGreatDoor
