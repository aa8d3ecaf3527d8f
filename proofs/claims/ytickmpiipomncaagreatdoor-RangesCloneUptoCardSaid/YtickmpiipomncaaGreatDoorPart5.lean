/-
  Steps to: A clone keeps its entries, whatever becomes of the other one. No condition.
-/
import Derived.Test.YtickmpiipomncaaGreatDoorPart4
import Derived.Test.YtickmpiipomncaaGreatDoorCards
import Derived.Test.YtickmpiipomncaaGreatDoorTie
import Derived.WalkKit
import Derived.WalkSpells
import Derived.Deep.Quiet
import Derived.KernelRfl
import Derived.IntWalk
import Derived.Maps.AppendAt
import Derived.Laws.AppendOwnNone
import Derived.Laws.CopyRow
import Derived.StillTail
import Derived.Deep.RegionHeld
import Derived.Laws.IdiomStrings
import Derived.Laws.BytesArg
import Derived.Laws.OwnMore
import Derived.Lib.Strings
import Derived.ArgAppend
import Derived.Test.YtickmpiipomncaaGreatDoorRows
import Derived.RangeFuncLeaves
import Derived.RangeFuncRecord
import Derived.RangeFuncCalls
import Derived.RangeFuncSeq
import Derived.OrdersIn
import Derived.TacticsIn
import Derived.Laws.IdiomRangeMap
import Derived.Defers
import Derived.Laws.LoneSync
import Derived.LoopN
import Derived.Lib.TrailingZeros
import Derived.Test.YtickmpiipomncaaGreatDoorProg
import Derived.Shelf.Sort.Plain
import Derived.Shelf.Slices.In.SortNone
import Derived.DataReads
import Derived.ProofKit
import Derived.OpenShut
import Derived.Lib.SmallJoins
import Derived.Deep.DeepHandedRow
import Derived.Lib.LaidTab
set_option maxRecDepth 100000
set_option linter.unusedSimpArgs false
set_option linter.unusedVariables false
open Go.Proofs.Tryz
namespace Go.Proofs.YtickmpiipomncaaGreatDoor
section
open Go.RowKit
variable {Tb:Ae}
theorem JB {N:Hm} {h:Nat} {lo hi:Int} {L es a b:List E} {key:Int} {val:Nat} {lf:Bool} (hs:Srt es) (hBd:Bd N h (putE key val es) hi L) (hr:Bp lo hi (putE key val es)) (hk:∀ e∈putE key val es,0≤e.1∧e.1<1048576) (hdup:(vals (putE key val es)).Nodup)
  (e:putE key val es=a++b) (a4:4≤a.length) (a5:a.length≤5) (b4:4≤b.length) (b5:b.length≤5):
  ∃ L1 L2,L=L1++L2∧(Bd N h a (nx b hi) L1∧Bd N h b hi L2)∧(Bp lo (nx b hi) a∧Bp (nx b hi) hi b∧lo<nx b hi∧nx b hi<hi)∧((Nd.mk lf a).Ok∧(Nd.mk lf b).Ok)∧(vals a).Nodup∧(vals b).Nodup:=by
 have hs2:=IU (k:=key) (v:=val) hs
 rw[e] at hBd hr hk hdup hs2
 obtain ⟨L1,L2,h1,h2,h3⟩:=Bd.app.1 hBd
 have ha:a≠[]:=fun q=>by rw[q] at a4;simp at a4
 have hb:b≠[]:=fun q=>by rw[q] at b4;simp at b4
 obtain ⟨s1,s2,_⟩:=Srt.app.1 hs2
 have hv:vals (a++b)=vals a++vals b:=by simp[vals]
 rw[hv,List.nodup_append] at hdup
 exact ⟨L1,L2,h1,⟨h2,h3⟩,MV hs2 hr ha hb,⟨⟨s1,by dsimp only;omega,fun x hx=>hk x (by simp[hx]),fun _=>ha⟩,⟨s2,by dsimp only;omega,fun x hx=>hk x (by simp[hx]),fun _=>hb⟩⟩,hdup.1,hdup.2.1⟩
theorem KR (a:Nat) (x y:List E) (Q:List Nat):(a::(vals (x++y)++Q)).Perm (vals y++(a::(vals x++Q))):=by
 have hv:vals (x++y)=vals x++vals y:=by simp[vals]
 rw[hv,List.append_assoc]
 have h1:(a::(vals x++(vals y++Q))).Perm (a::(vals y++(vals x++Q))):=List.Perm.cons _ (by
  rw[←List.append_assoc,←List.append_assoc];exact List.Perm.append_right _ List.perm_append_comm)
 exact h1.trans List.perm_middle.symm
theorem KS (r a:Nat) (x Q:List Nat):(r::(a::(x++Q))).Perm (a::(x++(r::Q))):=
 (List.Perm.swap _ _ _).trans (List.Perm.cons _ List.perm_middle.symm)
theorem EJ {b:List E} {hi:Int} (h:4≤b.length):(kL b)[0]? =some (nx b hi):=by
 cases b with
 | nil=>simp at h
 | cons e t=>rfl
theorem Ih {t t1 t2:TS} {Q:List Nat} {a r h:Nat} {kr hi:Int} {x:List E} {L2:List E} (s1:St t t1 (a::(vals x++Q)) 1 1) (T1:Tr t1.N h r kr hi 4 L2) (s2:St t1 t2 (r::Q) 0 1):St t t2 Q 1 2∧Tr t2.N h r kr hi 4 L2:=
 ⟨s1.trans s2 (fun p hp=>by simp[hp]) (fun p hp=>by simp[hp]) (by omega) (by omega),s2.fr r (by simp) _ _ _ _ _ T1⟩
theorem Ov {lf:Bool} {es:List E} (h:CkN lf (kL es) (vL es)) (hs:Srt es) (h4:0<(es.take 4).length):CkN lf (kL (es.take 4)) (vL (es.take 4))∧Srt (es.take 4):=by
 have e:=List.take_append_drop 4 es
 have hs':=hs
 rw[←e] at hs'
 have h8:es.length≤8:=by have:=h.l8;simpa [kL] using this
 refine ⟨CkN.of ⟨(Srt.app.1 hs').1,by simp;omega,fun x hx=> ?_,fun _ q=>by have q:es.take 4=[]:=q;rw[q] at h4;simp at h4⟩ (fun v hv=> ?_),(Srt.app.1 hs').1⟩
 ·exact h.k x.1 (List.mem_map_of_mem (List.mem_of_mem_take hx))
 ·obtain ⟨x,hx,rfl⟩:=List.mem_map.1 hv
  have:=h.v (x.2:Int) (List.mem_map.2 ⟨x,List.mem_of_mem_take hx,rfl⟩)
  omega
theorem Ow {lf:Bool} {es:List E} (h:CkN lf (kL es) (vL es)) (hs:Srt es) (h4:0<(es.drop 4).length):CkN lf (kL (es.drop 4)) (vL (es.drop 4))∧Srt (es.drop 4):=by
 have e:=List.take_append_drop 4 es
 have hs':=hs
 rw[←e] at hs'
 have h8:es.length≤8:=by have:=h.l8;simpa [kL] using this
 refine ⟨CkN.of ⟨(Srt.app.1 hs').2.1,by simp;omega,fun x hx=> ?_,fun _ q=>by have q:es.drop 4=[]:=q;rw[q] at h4;simp at h4⟩ (fun v hv=> ?_),(Srt.app.1 hs').2.1⟩
 ·exact h.k x.1 (List.mem_map_of_mem (List.mem_of_mem_drop hx))
 ·obtain ⟨x,hx,rfl⟩:=List.mem_map.1 hv
  have:=h.v (x.2:Int) (List.mem_map.2 ⟨x,List.mem_of_mem_drop hx,rfl⟩)
  omega
theorem Wm {es:List E} (hs:Srt es) (h8:es.length=8) {key:Int} {val:Nat} (hno:¬ CH key es) (h:nx (es.drop 4) 0≤key):putE key val es=es.take 4++putE key val (es.drop 4)∧4≤(putE key val (es.drop 4)).length∧(putE key val (es.drop 4)).length≤5:=by
 obtain ⟨a,b,e,_,_,b4,b5,hu,_⟩:=MU (v:=val) hs h8 hno
 obtain ⟨rfl,rfl⟩:=hu h
 exact ⟨e,b4,b5⟩
theorem Wn {es:List E} (hs:Srt es) (h8:es.length=8) {key:Int} {val:Nat} (hno:¬ CH key es) (h:key<nx (es.drop 4) 0):putE key val es=putE key val (es.take 4)++es.drop 4∧4≤(putE key val (es.take 4)).length∧(putE key val (es.take 4)).length≤5:=by
 obtain ⟨a,b,e,a4,a5,_,_,_,hd⟩:=MU (v:=val) hs h8 hno
 obtain ⟨rfl,rfl⟩:=hd h
 exact ⟨e,a4,a5⟩
theorem Ye (pp mb n:Nat) (o:TB) (t:TS) (Q:List Nat) (a:Nat) (lf:Bool) (kv vv:Value) (es:List E) (A B:Ae) (hA:∀ h,A h→rdH 1 kv (kL es).length ((kL es).map Iv_) h) (hB:∀ h,B h→rdH 1 vv (vL es).length ((vL es).map Iv_) h) (key:Int) (val:Nat) (hkv:(0≤key∧key<1048576)∧1≤val∧val<1024) (hck:CkN lf (kL es) (vL es)) (hs:Srt es) (h:Nat) (lo hi:Int) (m:Nat) (L:List E) (hBd:Bd t.N h (putE key val es) hi L) (hlf:lf=decide (h=0)) (hrg:Bp lo hi (putE key val es)) (hdup:(vals (putE key val es)).Nodup) (hC:t.C a=1) (hN:t.N a=none) (hk:t.k<39) (hm:m≤(putE key val es).length) (hok2:(Nd.mk lf (putE key val es)).Ok) (hfit:CH key es∨es.length<8):Cn prog 101 [Pt_ pp,Iv_ (a:Int),.agg #[.bool lf,kv,vv],Iv_ key,Iv_ (val:Int)] [trA Tb pp mb n o (some (t,a::(vals (putE key val es)++Q))),A,B] (fun v Γ=>∃ t2:TS,(St t t2 Q 0 1∧Tr t2.N h a lo hi m L)∧v= .tuple #[.agg #[Iv_ (a:Int),Iv_ 0,Iv_ 0],Iv_ 0]∧Γ=[trA Tb pp mb n o (some (t2,a::Q)),A,B]):=by
 intro z R w H;replace H:=H.l3;obtain ⟨ka,kc,rfl⟩:=H.says 1 rfl (fun h q=>(hA h q).slc);obtain ⟨va,vc,rfl⟩:=H.says 2 rfl (fun h q=>(hB h q).slc);refine Ad func101 rfl ntmps101 rfl (Za 2 [] H rfl ?_);intro b1 w H;refine Za 0 [] H rfl ?_;intro b2 w H;refine Z2 8 [1,3] H rfl (Ao rfl (call137 _) (Pr hA hB hck hs key val hkv hfit) H.f4.f4 ?_);rintro _ w _ ⟨v3,v4,rfl,rfl⟩ H;replace H:=H.l7;have sv3:=H.says 0 rfl (fun h q=>q.slc)
 have sv4:=H.says 1 rfl (fun h q=>q.slc)
 refine Za 3 [] H rfl ?_;intro b5 w H;refine Ax rfl rfl (Ai 0 H rfl rfl rfl rfl (vs:=[.bool lf,v3,v4]) rfl (Ac rfl (Ac sv3.one (Ac sv4.one Ar))) (by kernel_rfl) (by simp) (out:=[.bool lf,v3,v4]) rfl) ?_;rintro w H;replace H:=H.l8;refine Z2 18 [3,0,3] H rfl (Ao rfl (call98 _) (E2 pp mb n o t Q a lf _ _ (putE key val es) _ _ (fun h q=>q.rd) (fun h q=>q.rd) h lo hi m L hBd hlf hrg hm hok2 hdup hC hN (by omega)) H.f2.f2.f7 ?_);rintro _ w _ ⟨t2,⟨hSt2,hT2,hC2,hN2⟩,rfl,rfl⟩ H;refine Z4 5 [6] H rfl ?_;intro w H;refine Zl [6,3] H rfl ?_;exact ⟨_,⟨t2,⟨hSt2,hT2⟩,rfl,rfl⟩,H.perm 8 [0,4,5] rfl rfl⟩
set_option maxHeartbeats 2000000 in
theorem Yf (pp mb n:Nat) (o:TB) (t:TS) (Q:List Nat) (a:Nat) (lf:Bool) (kv vv:Value) (es:List E) (A B:Ae) (hA:∀ h,A h→rdH 1 kv (kL es).length ((kL es).map Iv_) h) (hB:∀ h,B h→rdH 1 vv (vL es).length ((vL es).map Iv_) h) (key:Int) (val:Nat) (hkv:(0≤key∧key<1048576)∧1≤val∧val<1024) (hck:CkN lf (kL es) (vL es)) (hs:Srt es) (h:Nat) (lo hi:Int) (m:Nat) (L:List E) (hBd:Bd t.N h (putE key val es) hi L) (hlf:lf=decide (h=0)) (hrg:Bp lo hi (putE key val es)) (hdup:(vals (putE key val es)).Nodup) (hC:t.C a=1) (hN:t.N a=none) (hk:t.k<39) (hkr:∀ e∈putE key val es,0≤e.1∧e.1<1048576) (hno:¬ CH key es) (h8:es.length=8):Cn prog 101 [Pt_ pp,Iv_ (a:Int),.agg #[.bool lf,kv,vv],Iv_ key,Iv_ (val:Int)] [trA Tb pp mb n o (some (t,a::(vals (putE key val es)++Q))),A,B] (fun v Γ=>(cnt t.F 0 1024=0∧∃ s:TS×List Nat,v= .tuple #[.agg #[Iv_ 0,Iv_ 0,Iv_ 0],Iv_ 20]∧Γ=[trA Tb pp mb n o (some s),A,B])∨∃ (t2:TS) (kr:Int) (r:Nat) (L1 L2:List E),(St t t2 Q 1 2∧L=L1++L2∧lo<kr∧kr<hi∧Tr t2.N h a lo kr 4 L1∧Tr t2.N h r kr hi 4 L2)∧v= .tuple #[.agg #[Iv_ (a:Int),Iv_ kr,Iv_ (r:Int)],Iv_ 0]∧Γ=[trA Tb pp mb n o (some (t2,a::r::Q)),A,B]):=by
 intro z R w H;replace H:=H.l3;obtain ⟨ka,kc,rfl⟩:=H.says 1 rfl (fun h q=>(hA h q).slc);obtain ⟨va,vc,rfl⟩:=H.says 2 rfl (fun h q=>(hB h q).slc);refine Ad func101 rfl ntmps101 rfl (Za 2 [] H rfl ?_);intro b1 w H;refine Za 0 [] H rfl ?_;intro b2 w H;refine Z2 8 [1,3] H rfl (z_E_ rfl (call137 _) (Yb hA hB hck hs key val hkv hno h8) H.f4.f4 ?_);intro w H;refine Za 3 [] H rfl ?_;intro b3 w H;refine Z4 27 [0,4,4,4,3] H rfl ?_;intro w H;refine Ao rfl (call138 _) (Wk hA hB hck h8) H.f2.f2 ?_;rintro _ w _ ⟨v4,v5,v6,v7,rfl,rfl⟩ H;replace H:=H.l10;have sv4:=H.says 0 rfl (fun h q=>q.slc)
 have sv5:=H.says 1 rfl (fun h q=>q.slc)
 have sv6:=H.says 2 rfl (fun h q=>q.slc)
 have sv7:=H.says 3 rfl (fun h q=>q.slc)
 refine Za 4 [] H rfl ?_;intro b8 w H;refine Za 0 [] H rfl ?_;intro b9 w H;refine Ax rfl rfl (Ai 1 H rfl rfl rfl rfl (vs:=[.bool lf,v4,v5]) rfl (Ac rfl (Ac sv4.one (Ac sv5.one Ar))) (by kernel_rfl) (by simp) (out:=[.bool lf,v4,v5]) rfl) ?_;rintro w H;replace H:=H.l12;refine Ax rfl rfl (Ai 0 H rfl rfl rfl rfl (vs:=[.bool lf,v6,v7]) rfl (Ac rfl (Ac sv6.one (Ac sv7.one Ar))) (by kernel_rfl) (by simp) (out:=[.bool lf,v6,v7]) rfl) ?_;rintro w H;replace H:=H.l12;refine Z0 15 [4] rfl ?_;obtain ⟨ak,cc10,rfl⟩:=sv6;have hatak:=(H.rd 4 rfl (fun h q=>q.rd)).at (j:=0) (u:=Iv_ (nx (es.drop 4) 0)) (by rw[List.getElem?_map,EJ (by rw[List.length_drop];omega)];rfl)
 refine Z2 4 [1,0,0] H rfl (Ab rfl (Am rfl (z:=1) (j:=0) (r:=0) (by kernel_rfl) rfl rfl rfl (by simp only[List.length_map,List.length_drop];omega) hatak (by omega)) (Ab rfl (Ay rfl rfl (by kernel_rfl) (Au hatak)) (Z0 3 [0] rfl (Af rfl (fun h1=> ?_) (fun h1=> ?_)))))
 ·obtain ⟨hup,hl4,hl5⟩:=Wm (val:=val) hs h8 hno h1;refine Z2 4 [0,3] H rfl (Ao rfl (call137 _) (Pr (fun h q=>q.rd) (fun h q=>q.rd) (Ow hck hs (by simp;omega)).1 (Ow hck hs (by simp;omega)).2 key val hkv (.inr (by simp;omega))) H.f5.f5 ?_);rintro _ w _ ⟨v11,v12,rfl,rfl⟩ H;replace H:=H.l14;have sv11:=H.says 0 rfl (fun h q=>q.slc)
  have sv12:=H.says 1 rfl (fun h q=>q.slc)
  refine Zc 3 rfl (Ax rfl rfl (Ai 4 H rfl rfl rfl rfl (vs:=[.bool lf,v11,v12]) rfl (Ac rfl (Ac sv11.one (Ac sv12.one Ar))) (by kernel_rfl) (by simp) (out:=[.bool lf,v11,v12]) rfl) ?_);rintro w H;replace H:=H.l14;refine Z0 14 [4] rfl ?_;obtain ⟨L1,L2,hL,⟨hB1,hB2⟩,⟨hr1,hr2,hlo,hhi⟩,⟨hk1,hk2⟩,hd1,hd2⟩:=JB (lf:=lf) hs hBd hrg hkr hdup hup (by simp;omega) (by simp;omega) hl4 hl5;replace H:=(H.mono 13 (B:=trA Tb pp mb n o (some (t,vals (putE key val (es.drop 4))++(a::(vals (es.take 4)++Q))))) rfl (fun h q=>q.perm (by rw[hup];exact KR a _ _ Q))).l14
  refine Z2 3 [4,3] H rfl (Ao rfl (call62 _) (GA pp mb n o t (a::(vals (es.take 4)++Q)) lf _ _ (putE key val (es.drop 4)) _ _ (fun h q=>q.rd) (fun h q=>q.rd) h (nx (putE key val (es.drop 4)) hi) hi 4 L2 hB2 hlf hr2 hl4 hk2 hd2 (by omega)) H.f1.f1.f13 ?_);rintro _ w _ (⟨hnone,rfl,rfl⟩|⟨t1,r,⟨hSt1,hT1,hq1⟩,rfl,rfl⟩) H'
  ·have H:=H'.l14;refine Z4 24 [3,12] H rfl ?_;intro w H;refine Zl [12,3] H rfl ?_;exact ⟨_,.inl ⟨hnone,_,rfl,rfl⟩,H.perm 14 [0,9,10] rfl rfl⟩
  ·have H:=H'.l14;have hca:=hq1 a (by simp)
   refine Z0 18 [4] rfl ?_;obtain ⟨bk,cc13,rfl⟩:=sv11;have hatbk:=(H.rd 1 rfl (fun h q=>q.rd)).at (j:=0) (u:=Iv_ (nx (putE key val (es.drop 4)) hi)) (by rw[List.getElem?_map,EJ hl4];rfl)
   replace H:=(H.mono 0 (B:=trA Tb pp mb n o (some (t1,a::(vals (es.take 4)++(r::Q))))) rfl (fun h q=>q.perm (KS r a _ Q))).l14
   replace H:=H.f1.f5.f6;refine AI (Sep z (blk b8 [.bool lf,v4,v5] 92::blk b9 [.bool lf,.slice bk ((kL (putE key val (es.drop 4))).length) cc13,v12] 92::grow 3 1 (.slice bk ((kL (putE key val (es.drop 4))).length) cc13) ((kL (putE key val (es.drop 4))).length) ((kL (putE key val (es.drop 4))).map Iv_)::R)) 13 rfl (by kernel_rfl) (Bc H fun w H'=> ?_)
   have H:=H'.l14;refine AW [0,1,2] [1,1,0] [] (by exact (H.pick 14 [0,1,2] rfl)) rfl (by kernel_rfl) rfl (BD 3 rfl (by kernel_rfl) (by kernel_rfl) (by kernel_rfl) rfl rfl rfl (Am rfl (z:=1) (j:=0) (r:=0) (by kernel_rfl) rfl rfl rfl (by simp only[List.length_map];first|omega|(rw[List.length_drop];omega)) hatbk (by omega)) (H.pick 14 [0,1,2] rfl) (BD 4 rfl (by kernel_rfl) (by kernel_rfl) (by kernel_rfl) rfl rfl rfl (Ay rfl rfl (by kernel_rfl) (fun _ hx'=>(hx'.rd 2 rfl (fun h q=>q.rd)).at (j:=0) (u:=Iv_ (nx (putE key val (es.drop 4)) hi)) (by rw[List.getElem?_map,EJ hl4];rfl))) (H.pick 14 [0,1,2] rfl) ?_));refine AW [5,6,7,8,9] [0,3] [] (by exact (H.pick 14 [0,1,2] rfl)) rfl (by kernel_rfl) rfl (Az [10] (by kernel_rfl) (by simp) (Aw (BQ rfl rfl rfl rfl rfl rfl (fun w=>call98 _ w) (E2 pp mb n o t1 (r::Q) a lf _ _ (es.take 4) _ _ (fun h q=>q.rd) (fun h q=>q.rd) h lo (nx (putE key val (es.drop 4)) hi) 4 L1 (hSt1.bd (fun v hv=>by simp[hv]) hB1) hlf hr1 (by simp;omega) hk1 hd1 (hca.2.trans hC) (hca.1.trans hN) (by have:=hSt1.k;omega)) H.f8.f8.f5 rfl ?_)));rintro _ w _ ⟨t2,⟨hSt2,hT2,hC2,hN2⟩,rfl,rfl⟩ H;replace H:=H.l14;refine Av (H.pick 14 [3,4,5] rfl) (Az [11] (by kernel_rfl) (by simp) (Aw (Bh rfl rfl rfl (Ai 12 H rfl rfl rfl rfl (vs:=[Iv_ (a:Int),Iv_ (nx (putE key val (es.drop 4)) hi),Iv_ (r:Int)]) rfl (by simp[u8,u32,Value.oneCell']) (by kernel_rfl) (by simp) (out:=[Iv_ (a:Int),Iv_ (nx (putE key val (es.drop 4)) hi),Iv_ (r:Int)]) rfl) ?_)))
   rintro w H;replace H:=H.l14;refine Av (H.pick 14 [3,4,5] rfl) (AW [12] [] [] (by exact (H.pick 14 [3,4,5] rfl)) rfl (by kernel_rfl) rfl (a_done (by kernel_rfl) (gn (Zc 2 rfl (Zl [12,3] H rfl ?_)))));exact ⟨_,.inr ⟨t2,nx (putE key val (es.drop 4)) hi,r,L1,L2,⟨(Ih hSt1 hT1 hSt2).1,hL,hlo,hhi,hT2,(Ih hSt1 hT1 hSt2).2⟩,rfl,rfl⟩,H.perm 14 [0,9,10] rfl rfl⟩
 ·obtain ⟨hdn,hl4,hl5⟩:=Wn (val:=val) hs h8 hno (by omega);refine Z2 4 [1,3] H rfl (Ao rfl (call137 _) (Pr (fun h q=>q.rd) (fun h q=>q.rd) (Ov hck hs (by simp;omega)).1 (Ov hck hs (by simp;omega)).2 key val hkv (.inr (by simp;omega))) H.f3.f3 ?_);rintro _ w _ ⟨v14,v15,rfl,rfl⟩ H;replace H:=H.l14;have sv14:=H.says 0 rfl (fun h q=>q.slc)
  have sv15:=H.says 1 rfl (fun h q=>q.slc)
  refine Zc 3 rfl (Ax rfl rfl (Ai 5 H rfl rfl rfl rfl (vs:=[.bool lf,v14,v15]) rfl (Ac rfl (Ac sv14.one (Ac sv15.one Ar))) (by kernel_rfl) (by simp) (out:=[.bool lf,v14,v15]) rfl) ?_);rintro w H;replace H:=H.l14;refine Z0 14 [4] rfl ?_;obtain ⟨L1,L2,hL,⟨hB1,hB2⟩,⟨hr1,hr2,hlo,hhi⟩,⟨hk1,hk2⟩,hd1,hd2⟩:=JB (lf:=lf) hs hBd hrg hkr hdup hdn hl4 hl5 (by simp;omega) (by simp;omega);replace H:=(H.mono 13 (B:=trA Tb pp mb n o (some (t,vals (es.drop 4)++(a::(vals (putE key val (es.take 4))++Q))))) rfl (fun h q=>q.perm (by rw[hdn];exact KR a _ _ Q))).l14
  refine Z2 3 [4,3] H rfl (Ao rfl (call62 _) (GA pp mb n o t (a::(vals (putE key val (es.take 4))++Q)) lf _ _ (es.drop 4) _ _ (fun h q=>q.rd) (fun h q=>q.rd) h (nx (es.drop 4) hi) hi 4 L2 hB2 hlf hr2 (by simp;omega) hk2 hd2 (by omega)) H.f7.f7.f13 ?_);rintro _ w _ (⟨hnone,rfl,rfl⟩|⟨t1,r,⟨hSt1,hT1,hq1⟩,rfl,rfl⟩) H'
  ·have H:=H'.l14;refine Z4 24 [3,12] H rfl ?_;intro w H;refine Zl [12,3] H rfl ?_;exact ⟨_,.inl ⟨hnone,_,rfl,rfl⟩,H.perm 14 [0,9,10] rfl rfl⟩
  ·have H:=H'.l14;have hca:=hq1 a (by simp)
   refine Z0 18 [4] rfl ?_;have hatbk:=(H.rd 1 rfl (fun h q=>q.rd)).at (j:=0) (u:=Iv_ (nx (es.drop 4) hi)) (by rw[List.getElem?_map,EJ (by simp;omega)];rfl)
   replace H:=(H.mono 0 (B:=trA Tb pp mb n o (some (t1,a::(vals (putE key val (es.take 4))++(r::Q))))) rfl (fun h q=>q.perm (KS r a _ Q))).l14
   replace H:=H.f1.f7.f8;refine AI (Sep z (blk b8 [.bool lf,v14,v15] 92::blk b9 [.bool lf,.slice ak ((kL (es.drop 4)).length) cc10,v7] 92::grow 3 1 (.slice ak ((kL (es.drop 4)).length) cc10) ((kL (es.drop 4)).length) ((kL (es.drop 4)).map Iv_)::R)) 13 rfl (by kernel_rfl) (Bc H fun w H'=> ?_)
   have H:=H'.l14;refine AW [0,1,2] [1,1,0] [] (by exact (H.pick 14 [0,1,2] rfl)) rfl (by kernel_rfl) rfl (BD 3 rfl (by kernel_rfl) (by kernel_rfl) (by kernel_rfl) rfl rfl rfl (Am rfl (z:=1) (j:=0) (r:=0) (by kernel_rfl) rfl rfl rfl (by simp only[List.length_map];first|omega|(rw[List.length_drop];omega)) hatak (by omega)) (H.pick 14 [0,1,2] rfl) (BD 4 rfl (by kernel_rfl) (by kernel_rfl) (by kernel_rfl) rfl rfl rfl (Ay rfl rfl (by kernel_rfl) (fun _ hx'=>(hx'.rd 2 rfl (fun h q=>q.rd)).at (j:=0) (u:=Iv_ (nx (es.drop 4) hi)) (by rw[List.getElem?_map,EJ (by simp;omega)];rfl))) (H.pick 14 [0,1,2] rfl) ?_));refine AW [5,6,7,8,9] [0,3] [] (by exact (H.pick 14 [0,1,2] rfl)) rfl (by kernel_rfl) rfl (Az [10] (by kernel_rfl) (by simp) (Aw (BQ rfl rfl rfl rfl rfl rfl (fun w=>call98 _ w) (E2 pp mb n o t1 (r::Q) a lf _ _ (putE key val (es.take 4)) _ _ (fun h q=>q.rd) (fun h q=>q.rd) h lo (nx (es.drop 4) hi) 4 L1 (hSt1.bd (fun v hv=>by simp[hv]) hB1) hlf hr1 hl4 hk1 hd1 (hca.2.trans hC) (hca.1.trans hN) (by have:=hSt1.k;omega)) H.f6.f6.f5 rfl ?_)));rintro _ w _ ⟨t2,⟨hSt2,hT2,hC2,hN2⟩,rfl,rfl⟩ H;replace H:=H.l14;refine Av (H.pick 14 [3,4,5] rfl) (Az [11] (by kernel_rfl) (by simp) (Aw (Bh rfl rfl rfl (Ai 12 H rfl rfl rfl rfl (vs:=[Iv_ (a:Int),Iv_ (nx (es.drop 4) hi),Iv_ (r:Int)]) rfl (by simp[u8,u32,Value.oneCell']) (by kernel_rfl) (by simp) (out:=[Iv_ (a:Int),Iv_ (nx (es.drop 4) hi),Iv_ (r:Int)]) rfl) ?_)))
   rintro w H;replace H:=H.l14;refine Av (H.pick 14 [3,4,5] rfl) (AW [12] [] [] (by exact (H.pick 14 [3,4,5] rfl)) rfl (by kernel_rfl) rfl (a_done (by kernel_rfl) (gn (Zc 2 rfl (Zl [12,3] H rfl ?_)))));exact ⟨_,.inr ⟨t2,nx (es.drop 4) hi,r,L1,L2,⟨(Ih hSt1 hT1 hSt2).1,hL,hlo,hhi,hT2,(Ih hSt1 hT1 hSt2).2⟩,rfl,rfl⟩,H.perm 14 [0,9,10] rfl rfl⟩
end
section
open Go.RowKit
variable {Tb:Ae}
theorem Bi (X Y:List E):vals (X++Y)=vals X++vals Y:=by simp[vals]
theorem Bz (e:E) (Y:List E):vals (e::Y)=e.2::vals Y:=rfl
theorem Wo (key:Int) (val:Nat) (es:List E):putE key val es≠[]:=by
 cases es with
 | nil=>simp[putE]
 | cons e t=>simp only[putE];split;simp;split<;>simp
theorem F2 {es:List E} (hs:Srt es) {key:Int} (val:Nat) (hno:¬ CH key es):(vals (putE key val es)).Perm (val::vals es)∧(putE key val es).length=es.length+1:=by
 rcases key_split hs key with ⟨X,v,Y,rfl,_⟩|⟨_,X,Y,rfl,h1,h2⟩
 ·exact absurd ⟨v,by simp⟩ hno
 ·rw[putE_new h1 h2,Bi,Bi,Bz]
  exact ⟨List.perm_middle,by simp;omega⟩
theorem IV {es:List E} (hs:Srt es) (key:Int) (val:Nat):es.length≤(putE key val es).length∧(putE key val es).length≤es.length+1:=by
 rcases key_split hs key with ⟨X,v,Y,rfl,h1⟩|⟨h0,X,Y,e,h1,h2⟩
 ·rw[Dm _ h1];simp
 ·have:=(F2 hs val h0).2;omega
theorem M3 {es:List E} (hs:Srt es) {lo hi key:Int} (val:Nat) (hr:Bp lo hi es) (hk:lo≤key∧key<hi):Bp lo hi (putE key val es):=fun x hx=>by
 rcases (putE_mem hs x).1 hx with rfl|⟨h,_⟩
 ·exact hk
 ·exact hr x h
theorem Tr.ne {N:Hm} {h r:Nat} {lo hi:Int} {m:Nat} {L:List E} (t:Tr N h r lo hi m L) (hm:1≤m):L≠[]:=by
 induction h generalizing r lo hi m L with
 | zero=>
  obtain ⟨es,_,h2,_,_,rfl,_⟩:=t
  intro q;rw[q] at h2;simp at h2;omega
 | succ h ih=>
  obtain ⟨es,_,h2,_,_,h5⟩:=t
  cases es with
  | nil=>simp at h2;omega
  | cons e t=>
   obtain ⟨L1,L2,rfl,h6,_⟩:=h5
   intro q
   exact ih h6 (by omega) (List.append_eq_nil_iff.1 q).1
theorem Sq.nodup {N:Hm} {h:Nat} {es:List E} {hi:Int} {L:List E} (q:Sq (fun c a b L=>Tr N h c a b 4 L) es hi L) (hs:Srt es) (hr:∀ e∈es,e.1<hi):(vals es).Nodup:=by
 induction es generalizing L with
 | nil=>simp[vals]
 | cons e t ih=>
  obtain ⟨L1,L2,rfl,h1,h2⟩:=q
  obtain ⟨s1,s2⟩:=Srt.cons.1 hs
  have hr2:∀ x∈t,x.1<hi:=fun x hx=>hr x (by simp[hx])
  rw[Bz,List.nodup_cons]
  refine ⟨fun hm=> ?_,ih h2 s2 hr2⟩
  obtain ⟨x,hx,hxe⟩:=List.mem_map.1 hm
  obtain ⟨A,B,rfl⟩:=List.append_of_mem hx
  obtain ⟨_,Lc,_,_,_,h3,_⟩:=Sq.at h2
  rw[hxe] at h3
  obtain ⟨_,rfl⟩:=h1.uniq h3
  have hne:=h1.ne (by omega)
  obtain ⟨y,u,rfl⟩:=List.exists_cons_of_ne_nil hne
  have a1:=h1.srt.2 y (by simp)
  have a2:=h3.srt.2 y (by simp)
  have a3:nx (A++x::B) hi≤x.1:=by
   cases A with
   | nil=>exact Int.le_refl _
   | cons z A=>exact Int.le_of_lt ((Srt.cons.1 s2).1 x (by simp))
  omega
theorem Bd.nodup {N:Hm} {h:Nat} {es:List E} {hi:Int} {L:List E} (q:Bd N (h+1) es hi L) (hs:Srt es) (hr:∀ e∈es,e.1<hi):(vals es).Nodup:=Sq.nodup q hs hr
theorem Yg {N:Hm} {h:Nat} {lo hi:Int} {L X Y:List E} {e:E} {key:Int} (val:Nat) (hs:Srt (X++e::Y)) (hr:Bp lo hi (X++e::Y)) (hB:Bd N (h+1) (X++e::Y) hi L) (hX:X=[]∨e.1≤key) (hY:∀ x∈Y,key<x.1∧e.1<x.1) (hk:lo≤key∧key<hi):
  ∃ L0 Lc L2,(Sq (fun c a b L=>Tr N h c a b 4 L) X (min e.1 key) L0∧Tr N h e.2 (min e.1 key) (nx Y hi) 4 Lc∧Sq (fun c a b L=>Tr N h c a b 4 L) Y hi L2)∧L=L0++(Lc++L2)∧putE key val L=L0++(putE key val Lc++L2)∧(lo≤min e.1 key∧min e.1 key≤key∧key<nx Y hi∧nx Y hi≤hi):=by
 obtain ⟨L0,Lc,L2,rfl,h1,h2,h3⟩:=Sq.at hB
 have he:=hr e (by simp)
 have hn:=Us (fun x hx=>(hY x hx).1) hk.2
 have hn2:nx Y hi≤hi:=Pq (fun x hx=>(hr x (by simp[hx])).2)
 obtain ⟨s1,s2⟩:=Sq.sides hs (fun x hx=>(hr x hx).2) h1 h3 hX (fun x hx=>(hY x hx).1) hk.2
 refine ⟨L0,Lc,L2,⟨h1.nilK ?_,h2.mono (by omega) (Int.le_refl _) (Nat.le_refl _),h3⟩,rfl,?_,by omega,by omega,hn,hn2⟩
 ·rcases hX with q|q
  ·exact .inl q
  ·exact .inr (by omega)
 ·rw[putE_lt _ s1,Oq _ s2]
theorem IW {lo hi:Int} {X Y:List E} {e:E} {k1:Int} (c:Nat) (hs:Srt (X++e::Y)) (hr:Bp lo hi (X++e::Y)) (hX:X=[]∨k1=e.1) (hk:k1≤e.1) (hlo:lo≤k1):Srt (X++(k1,c)::Y)∧Bp lo hi (X++(k1,c)::Y):=by
 obtain ⟨s1,s2,s3⟩:=Srt.app.1 hs
 obtain ⟨s4,s5⟩:=Srt.cons.1 s2
 refine ⟨Srt.app.2 ⟨s1,Srt.cons.2 ⟨fun x hx=>by have:=s4 x hx;dsimp only;omega,s5⟩,fun a ha b hb=> ?_⟩,fun x hx=> ?_⟩
 ·rcases List.mem_cons.1 hb with rfl|hb
  ·rcases hX with rfl|rfl
   ·simp at ha
   ·exact s3 a ha e (by simp)
  ·exact s3 a ha b (by simp[hb])
 ·rcases List.mem_append.1 hx with hx|hx
  ·exact hr x (by simp[hx])
  ·rcases List.mem_cons.1 hx with rfl|hx
   ·have:=hr e (by simp);dsimp only;omega
   ·exact hr x (by simp[hx])
theorem TA {lo hi:Int} {X Y:List E} {k1 kr:Int} {c r:Nat} (hs:Srt (X++(k1,c)::Y)) (hk:k1<kr) (hn:kr<nx Y hi) (hr:Bp lo hi (X++(k1,c)::Y)) (hhi:nx Y hi≤hi):putE kr r (X++(k1,c)::Y)=X++(k1,c)::(kr,r)::Y∧¬ CH kr (X++(k1,c)::Y)∧lo≤kr∧kr<hi:=by
 obtain ⟨s1,s2,s3⟩:=Srt.app.1 hs
 obtain ⟨s4,s5⟩:=Srt.cons.1 s2
 have h1:∀ x∈X++[(k1,c)],x.1<kr:=fun x hx=>by
  rcases List.mem_append.1 hx with hx|hx
  ·have:=s3 x hx (k1,c) (by simp);dsimp only at this;omega
  ·simp at hx;subst hx;exact hk
 have h2:∀ x∈Y,kr<x.1:=fun x hx=>by
  cases Y with
  | nil=>simp at hx
  | cons y t=>
   simp only[nx] at hn
   rcases List.mem_cons.1 hx with rfl|hx
   ·exact hn
   ·have:=(Srt.cons.1 s5).1 x hx;omega
 have e:X++(k1,c)::Y=(X++[(k1,c)])++Y:=by simp
 refine ⟨by rw[e,putE_new h1 h2];simp,?_,by have:=(hr (k1,c) (by simp)).1;dsimp only at this;omega,by omega⟩
 rintro ⟨v,hv⟩
 rw[e] at hv
 rcases List.mem_append.1 hv with hv|hv
 ·have:=h1 _ hv;dsimp only at this;omega
 ·have:=h2 _ hv;dsimp only at this;omega
theorem K5 {es:List E} (hs:Srt es) {key:Int} {val c:Nat} {Q:List Nat} (hno:¬ CH key es):(c::(vals es++(val::Q))).Perm (c::(vals (putE key val es)++Q)):=
 List.Perm.cons _ (List.perm_middle.trans (List.Perm.append_right Q (F2 hs val hno).1.symm))
theorem K6 {X Y:List E} {key:Int} {val v0 c:Nat} {Q:List Nat} (h:∀ e∈X,e.1<key):(c::(vals (X++(key,v0)::Y)++(val::Q))).Perm (v0::(c::(vals (putE key val (X++(key,v0)::Y))++Q))):=by
 rw[Dm _ h,Bi,Bi,Bz,Bz]
 have h1:(vals X++v0::vals Y++val::Q).Perm (v0::(vals X++vals Y++val::Q)):=by
  have:(vals X++v0::vals Y).Perm (v0::(vals X++vals Y)):=List.perm_middle
  exact List.Perm.append_right _ this
 have h2:(vals X++vals Y++val::Q).Perm (vals X++val::vals Y++Q):=by
  have a:(vals X++vals Y++val::Q).Perm (val::(vals X++vals Y++Q)):=List.perm_middle
  have b:(vals X++val::vals Y++Q).Perm (val::(vals X++vals Y++Q)):=List.Perm.append_right Q List.perm_middle
  exact a.trans b.symm
 exact ((List.Perm.cons c h1).trans (List.Perm.swap _ _ _)).trans (List.Perm.cons _ (List.Perm.cons _ h2))
theorem Wp {X Y:List E} {e:E} {c val:Nat} {Q:List Nat} :(c::(vals (X++e::Y)++(val::Q))).Perm (e.2::val::(c::(vals X++(vals Y++Q)))):=by
 rw[Bi,Bz]
 have h1:(vals X++e.2::vals Y++val::Q).Perm (e.2::val::(vals X++(vals Y++Q))):=by
  have a:(vals X++e.2::vals Y++val::Q).Perm (e.2::(vals X++vals Y++val::Q)):=List.Perm.append_right (val::Q) List.perm_middle
  have b:(vals X++vals Y++val::Q).Perm (val::(vals X++vals Y++Q)):=List.perm_middle
  rw[←List.append_assoc]
  exact a.trans (List.Perm.cons _ b)
 exact (List.Perm.cons c h1).trans ((List.Perm.swap _ _ _).trans (List.Perm.cons _ (List.Perm.swap _ _ _)))
theorem M4 {X Y:List E} {k1:Int} {c c2:Nat} {Q:List Nat} :(c2::(c::(vals X++(vals Y++Q)))).Perm (c::(vals (X++(k1,c2)::Y)++Q)):=by
 rw[Bi,Bz]
 refine (List.Perm.swap _ _ _).trans (List.Perm.cons _ ?_)
 have:(vals X++c2::vals Y++Q).Perm (c2::(vals X++vals Y++Q)):=List.Perm.append_right Q List.perm_middle
 rw[←List.append_assoc]
 exact this.symm
theorem Re {X Y:List E} {k1 kr:Int} {c c2 r:Nat} {Q:List Nat} :(c2::r::(c::(vals X++(vals Y++Q)))).Perm (c::(vals (X++(k1,c2)::(kr,r)::Y)++Q)):=by
 have h1:(r::(c::(vals X++(vals Y++Q)))).Perm (c::(vals (X++(kr,r)::Y)++Q)):=M4
 refine (List.Perm.cons c2 h1).trans ((List.Perm.swap _ _ _).trans (List.Perm.cons _ ?_))
 rw[Bi,Bi,Bz,Bz,Bz]
 have:(vals X++c2::(r::vals Y)++Q).Perm (c2::(vals X++(r::vals Y)++Q)):=List.Perm.append_right Q List.perm_middle
 exact this.symm
theorem TC {N:Hm} {es:List E} {lo hi:Int} {key:Int} {val:Nat} {b:List UInt8} (hs:Srt es) (hr:Bp lo hi es) (hk:lo≤key∧key<hi) (h:∀ e∈es,∃ b,N e.2=some (.dt b)) (hv:N val=some (.dt b)) (hnd:(vals es).Nodup) (hnv:val∉vals es):
  Bd N 0 (putE key val es) hi (putE key val es)∧Bp lo hi (putE key val es)∧(vals (putE key val es)).Nodup:=by
 refine ⟨⟨rfl,fun e he=> ?_⟩,M3 hs val hr hk,?_⟩
 ·rcases (putE_mem hs e).1 he with rfl|⟨h1,_⟩
  ·exact ⟨b,hv⟩
  ·exact h e h1
 ·rcases key_split hs key with ⟨X,v,Y,rfl,h1⟩|⟨h0,X,Y,rfl,h1,h2⟩
  ·rw[Dm _ h1,Bi,Bz]
   rw[Bi,Bz] at hnd hnv
   simp only[List.mem_append,List.mem_cons,not_or] at hnv
   have h3:(val::(vals X++vals Y)).Nodup:=List.nodup_cons.2 ⟨by simp[hnv.1,hnv.2.2],(List.nodup_cons.1 (List.perm_middle.nodup_iff.1 hnd)).2⟩
   exact List.perm_middle.nodup_iff.2 h3
  ·exact (F2 hs val h0).1.nodup_iff.2 (List.nodup_cons.2 ⟨hnv,hnd⟩)
theorem Ii {lo hi:Int} {es:List E} (hr:Bp lo hi es) (h0:0≤lo) (h1:hi≤1048576):∀ e∈es,0≤e.1∧e.1<1048576:=fun e he=>by have:=hr e he;omega
theorem Ps (pp mb n:Nat) (o:TB) (t:TS) (Q:List Nat) (a:Nat) (lf:Bool) (kv vv:Value) (es:List E) (A B:Ae) (hA:Fo A kv es) (hB:Fp B vv es) (key:Int) (val:Nat) (hkv:(0≤key∧key<1048576)∧1≤val∧val<1024) (hck:CkN lf (kL es) (vL es)) (hs:Srt es) (h:Nat) (lo hi:Int) (m:Nat) (L:List E) (hBd:Bd t.N h (putE key val es) hi L) (hlf:lf=decide (h=0)) (hrg:Bp lo hi (putE key val es)) (hdup:(vals (putE key val es)).Nodup) (hC:t.C a=1) (hN:t.N a=none) (hk:t.k<39)
  (hm:m≤(putE key val es).length) (h0:0≤lo) (h1:hi≤1048576):
  Cn prog 101 [Pt_ pp,Iv_ (a:Int),CM lf kv vv,Iv_ key,Iv_ (val:Int)] [trA Tb pp mb n o (some (t,a::(vals (putE key val es)++Q))),A,B] (fun v Γ=>(cnt t.F 0 1024=0∧∃ s:TS×List Nat,v= .tuple #[.agg #[Iv_ 0,Iv_ 0,Iv_ 0],Iv_ 20]∧Γ=[trA Tb pp mb n o (some s),A,B])∨(∃ t2:TS,(St t t2 Q 1 2∧Tr t2.N h a lo hi m L)∧v= .tuple #[.agg #[Iv_ (a:Int),Iv_ 0,Iv_ 0],Iv_ 0]∧Γ=[trA Tb pp mb n o (some (t2,a::Q)),A,B])∨
   ∃ (t2:TS) (kr:Int) (r:Nat) (L1 L2:List E),(St t t2 Q 1 2∧L=L1++L2∧lo<kr∧kr<hi∧Tr t2.N h a lo kr 4 L1∧Tr t2.N h r kr hi 4 L2)∧v= .tuple #[.agg #[Iv_ (a:Int),Iv_ kr,Iv_ (r:Int)],Iv_ 0]∧Γ=[trA Tb pp mb n o (some (t2,a::r::Q)),A,B]):=by
 have hkr:=Ii hrg h0 h1
 have h8:es.length≤8:=by have:=hck.l8;simpa [kL] using this
 by_cases hf:CH key es∨es.length<8
 ·have hl:(putE key val es).length≤8:=by
   rcases hf with q|q
   ·rcases key_split hs key with ⟨X,v,Y,rfl,h1⟩|⟨h0,_⟩
    ·rw[Dm _ h1];simpa using h8
    ·exact absurd q h0
   ·have:=(IV hs key val).2;omega
  refine Cn.mono (Ye pp mb n o t Q a lf kv vv es A B hA hB key val hkv hck hs h lo hi m L hBd hlf hrg hdup hC hN hk hm ⟨IU hs,hl,hkr,fun _=>Wo _ _ _⟩ hf) ?_
  rintro v Γ ⟨t2,⟨a1,a2⟩,rfl,rfl⟩
  exact .inr (.inl ⟨t2,⟨a1.sub (fun _ q=>q) (by omega) (by omega),a2⟩,rfl,rfl⟩)
 ·simp only[not_or] at hf
  refine Cn.mono (Yf pp mb n o t Q a lf kv vv es A B hA hB key val hkv hck hs h lo hi m L hBd hlf hrg hdup hC hN hk hkr hf.1 (by omega)) ?_
  rintro v Γ (q|q)
  ·exact .inl q
  ·exact .inr (.inr q)
structure InsPre (n:Nat) (t:TS) (Q:List Nat) (a h:Nat) (lo hi:Int) (m:Nat) (key:Int) (val:Nat) (L:List E):Prop where
 T:Tr t.N h a lo hi m L
 kk:lo≤key∧key<hi
 l0:0≤lo
 h1:hi≤1048576
 dt:∃ b,t.N val=some (.dt b)
 nv:∀ q d,t.N q=some (.nd d)→val∉vals d.es
 hk:t.k+3 * h+3<40
 hb:Q.length+10 * h+12+n≤980
abbrev Ij (Tb:Ae) (pp mb n:Nat) (o:TB) (t:TS) (Q:List Nat) (h:Nat) (lo hi:Int) (m:Nat) (key:Int) (val:Nat) (L:List E) (v:Value) (Γ:List Ae):Prop:=
 (cnt t.F 0 1024≤2 * h+1∧∃ s:TS×List Nat,v= .tuple #[.agg #[.int .i64 0,.int .i64 0,.int .i64 0],.int .i64 20]∧Γ=[trA Tb pp mb n o (some s)])∨
 (∃ (t2:TS) (c:Nat),(St t t2 Q (2 * h+2) (3 * h+3)∧Tr t2.N h c lo hi m (putE key val L))∧v= .tuple #[.agg #[.int .i64 (c:Int),.int .i64 0,.int .i64 0],.int .i64 0]∧Γ=[trA Tb pp mb n o (some (t2,c::Q))])∨
 ∃ (t2:TS) (c:Nat) (kr:Int) (r:Nat) (L1 L2:List E),(St t t2 Q (2 * h+2) (3 * h+3)∧putE key val L=L1++L2∧lo<kr∧kr<hi∧Tr t2.N h c lo kr 4 L1∧Tr t2.N h r kr hi 4 L2)∧v= .tuple #[.agg #[.int .i64 (c:Int),.int .i64 kr,.int .i64 (r:Int)],.int .i64 0]∧Γ=[trA Tb pp mb n o (some (t2,c::r::Q))]
variable {t1 t2:TS} {X Y Q':List E} {e:E} {Q:List Nat} {c c2 r h d1 d2:Nat} {lo hi key kr:Int} {L0 Lc L2 M1 M2:List E}
theorem KT (S:St t1 t2 (c::(vals X++(vals Y++Q))) d1 d2) (hq0:Sq (fun c a b L=>Tr t1.N h c a b 4 L) X (min e.1 key) L0) (hq2:Sq (fun c a b L=>Tr t1.N h c a b 4 L) Y hi L2):Sq (fun c a b L=>Tr t2.N h c a b 4 L) X (min e.1 key) L0∧Sq (fun c a b L=>Tr t2.N h c a b 4 L) Y hi L2:=
 ⟨Sq.imp hq0 fun x hx _ _ q=>S.fr _ (by simp[List.mem_map_of_mem hx,vals]) _ _ _ _ _ q,Sq.imp hq2 fun x hx _ _ q=>S.fr _ (by simp[List.mem_map_of_mem hx,vals]) _ _ _ _ _ q⟩
theorem Wq (S:St t1 t2 (c::(vals X++(vals Y++Q))) d1 d2) (hq0:Sq (fun c a b L=>Tr t1.N h c a b 4 L) X (min e.1 key) L0) (hq2:Sq (fun c a b L=>Tr t1.N h c a b 4 L) Y hi L2) (hT:Tr t2.N h c2 (min e.1 key) (nx Y hi) 4 Lc) (hs:Srt (X++e::Y)) (hr:Bp lo hi (X++e::Y)) (hX:X=[]∨e.1≤key) (hlo:lo≤min e.1 key):
  Bd t2.N (h+1) (X++(min e.1 key,c2)::Y) hi (L0++(Lc++L2))∧(Srt (X++(min e.1 key,c2)::Y)∧Bp lo hi (X++(min e.1 key,c2)::Y))∧(vals (X++(min e.1 key,c2)::Y)).Nodup:=by
 obtain ⟨a,b⟩:=KT S hq0 hq2
 have hn:=IW c2 hs hr (k1:=min e.1 key) (hX.imp id (fun q=>by omega)) (by omega) hlo
 have hB:Bd t2.N (h+1) (X++(min e.1 key,c2)::Y) hi (L0++(Lc++L2)):=Sq.mk a hT b
 exact ⟨hB,hn,hB.nodup hn.1 (fun x hx=>(hn.2 x hx).2)⟩
theorem Wr (S:St t1 t2 (c::(vals X++(vals Y++Q))) d1 d2) (hq0:Sq (fun c a b L=>Tr t1.N h c a b 4 L) X (min e.1 key) L0) (hq2:Sq (fun c a b L=>Tr t1.N h c a b 4 L) Y hi L2) (hT:Tr t2.N h c2 (min e.1 key) kr 4 M1) (hT2:Tr t2.N h r kr (nx Y hi) 4 M2) (hs:Srt (X++e::Y)) (hr:Bp lo hi (X++e::Y)) (hX:X=[]∨e.1≤key) (hlo:lo≤min e.1 key) (hk1:min e.1 key<kr) (hk2:kr<nx Y hi) (hhi:nx Y hi≤hi):
  (Srt (X++(min e.1 key,c2)::Y))∧putE kr r (X++(min e.1 key,c2)::Y)=X++(min e.1 key,c2)::(kr,r)::Y∧Bd t2.N (h+1) (putE kr r (X++(min e.1 key,c2)::Y)) hi (L0++((M1++M2)++L2))∧Bp lo hi (putE kr r (X++(min e.1 key,c2)::Y))∧(vals (putE kr r (X++(min e.1 key,c2)::Y))).Nodup∧lo≤kr∧kr<hi:=by
 obtain ⟨a,b⟩:=KT S hq0 hq2
 have hn:=IW c2 hs hr (k1:=min e.1 key) (hX.imp id (fun q=>by omega)) (by omega) hlo
 obtain ⟨hp,_,hl1,hl2⟩:=TA (r:=r) hn.1 hk1 hk2 hn.2 hhi
 have hr2:=M3 hn.1 r hn.2 ⟨hl1,hl2⟩
 have hs2:=IU (k:=kr) (v:=r) hn.1
 have hB:Bd t2.N (h+1) (putE kr r (X++(min e.1 key,c2)::Y)) hi (L0++((M1++M2)++L2)):=by
  rw[hp]
  have:L0++((M1++M2)++L2)=L0++(M1++(M2++L2)):=by simp
  rw[this]
  exact Sq.mk (e:=(min e.1 key,c2)) (B:=(kr,r)::Y) a hT ⟨M2,L2,rfl,hT2,b⟩
 exact ⟨hn.1,hp,hB,hr2,hB.nodup hs2 (fun x hx=>(hr2 x hx).2),hl1,hl2⟩
theorem TD (hr:Bp lo hi (X++e::Y)) (hb:lo≤min e.1 key):∀ x∈X++(min e.1 key,c)::Y,lo≤x.1∧x.1<hi:=fun x hx=>by
 rcases List.mem_append.1 hx with hx|hx
 ·exact hr x (by simp[hx])
 ·rcases List.mem_cons.1 hx with rfl|hx
  ·have:=hr e (by simp);dsimp only;omega
  ·exact hr x (by simp[hx])
end
section
open Go.RowKit
variable {Tb:Ae}
set_option maxHeartbeats 2000000 in
theorem Yh (pp mb n:Nat) (o:TB) (t:TS) (Q:List Nat) (a:Nat) (lo hi:Int) (m:Nat) (key:Int) (val:Nat) (L:List E) (hP:InsPre n t Q a 0 lo hi m key val L):Cn prog 63 [Pt_ pp,Iv_ (a:Int),Iv_ key,Iv_ (val:Int)] [trA Tb pp mb n o (some (t,a::val::Q))] (fun v Γ=>Ij Tb pp mb n o t Q 0 lo hi m key val L v Γ):=by
 intro z R w H;replace H:=H.l1;have K:=H.says 0 rfl (fun h a=>trA.k a)
 have hn:=K.hn
 have hkk:=hP.kk;have h0:=hP.l0;have h1048:=hP.h1;have hnv:=hP.nv;have htk:=hP.hk;have htb:=hP.hb
 obtain ⟨b,hvd⟩:=hP.dt;have hvr:=K.i.rin val (by simp[B8])
 obtain ⟨es,hN,hm,hrg,hok,hLes,hdt⟩:=hP.T;have hck:CkN true (kL es) (vL es):=K.i.vok (by omega) hn.2 hN
 have hnd:=(K.i.nds a _ hN).2.1
 have hkv:(0≤key∧key<1048576)∧1≤val∧val<1024:=by omega
 obtain rfl:es=L:=hLes.symm;refine Ad func63 rfl ntmps63 rfl (Za 2 [] H rfl ?_);intro b1 w H;refine Zc 7 rfl (Ao rfl (call96 _) (Ig pp mb n o t (val::Q) a true es hN (by omega) (by simp only[List.length_cons];omega)) H.f1 ?_);rintro _ w _ (⟨hnone,v2,v3,s,rfl,rfl⟩|⟨t1,c,v2,v3,O,rfl,rfl⟩) H'
 ·have H:=H'.l4;have sv2:=H.says 0 rfl (fun h q=>q.slc)
  have sv3:=H.says 1 rfl (fun h q=>q.slc)
  refine Za 4 [] H rfl ?_;intro b4 w H;refine Zc 1 rfl (Ax rfl rfl (Ai 0 H rfl rfl rfl rfl (vs:=[.bool true,v2,v3]) rfl (Ac rfl (Ac sv2.one (Ac sv3.one Ar))) (by kernel_rfl) (by simp) (out:=[.bool true,v2,v3]) rfl) ?_);rintro w H;replace H:=H.l5;refine Z4 20 [3,4] H rfl ?_;intro w H;refine Zl [4,3] H rfl ?_;exact ⟨_,.inl ⟨(by omega),_,rfl,rfl⟩,H.perm 5 [3] rfl rfl⟩
 ·have H:=H'.l4;have sv2:=H.says 0 rfl (fun h q=>q.slc)
  have sv3:=H.says 1 rfl (fun h q=>q.slc)
  refine Za 4 [] H rfl ?_;intro b5 w H;refine Zc 1 rfl (Ax rfl rfl (Ai 0 H rfl rfl rfl rfl (vs:=[.bool true,v2,v3]) rfl (Ac rfl (Ac sv2.one (Ac sv3.one Ar))) (by kernel_rfl) (by simp) (out:=[.bool true,v2,v3]) rfl) ?_);rintro w H;replace H:=H.l5;refine Z0 15 [4] rfl ?_;obtain ⟨hl1,hl2,hl3⟩:=TC (N:=t1.N) hok.srt hrg hkk (fun e he=>by obtain ⟨b,hb⟩:=hdt e he;exact ⟨b,O.dv _ (List.mem_map_of_mem he) b hb⟩) (O.st.dt val (by simp) b hvd) hnd (hnv a _ hN);refine Z2 11 [0,0,0,0,3] H rfl (Ao rfl (call94 _) (MZ (es:=es) (fun h q=>q.rd) (fun h q=>q.rd) hok.len hok.srt key) H.f2.f2 ?_);rintro _ w _ (⟨X,v0,Y,⟨hes,hX⟩,rfl,rfl⟩|⟨hno,i0,rfl,rfl⟩) H'
  ·have H:=H'.l5;refine Zc 14 rfl ?_;have hv0:∀ d,t1.N v0≠some (.nd d):=fun d q=>by obtain ⟨b,hb⟩:=hdt (key,v0) (by rw[hes];simp);rw[O.dv v0 (by rw[hes];simp[vals]) b hb] at q;cases q
   obtain ⟨ao2,cc2,rfl⟩:=sv3;have hat:=(H.rd 1 rfl (fun h q=>q.rd)).at (j:=X.length) (u:=Iv_ (v0:Int)) (by rw[hes];simp[vL])
   replace H:=(H.mono 3 (B:=trA Tb pp mb n o (some (t1,v0::(c::(vals (putE key val es)++Q))))) rfl (fun h q=>q.perm (by rw[hes];exact K6 hX))).l5
   refine Z2 5 [2,2,0] H rfl (Ab rfl (Am rfl (z:=1) (j:=X.length) (r:=X.length) (by kernel_rfl) rfl rfl rfl (by rw[hes];simp) hat (by omega)) (Ab rfl (Ay rfl rfl (by kernel_rfl) (Au hat)) (Ao rfl (call52 _) (DE pp mb n o t1 _ v0 hv0) H.f3 ?_)));rintro _ w _ ⟨t2,⟨hS2,hq2,hC2,hN2,hF2⟩,rfl,rfl⟩ H;refine Z2 19 [4,3,3] H rfl (Ao rfl (call101 _) (Ps pp mb n o t2 Q c true _ _ es _ _ (fun h q=>q.rd) (fun h q=>q.rd) key val hkv hck hok.srt 0 lo hi m (putE key val es) (hS2.bd (fun v hv=>by simp[hv]) hl1) rfl hl2 hl3 (hS2.op c (by simp) O.N0 O.C1).2 (hS2.op c (by simp) O.N0 O.C1).1 (by have:=O.st.k;have:=hS2.k;omega) (by have:=(IV (es:=es) hok.srt key val).1;omega) h0 h1048) H ?_);rintro _ w _ (⟨hf3,s3,rfl,rfl⟩|⟨t3,⟨hSt3,hT3⟩,rfl,rfl⟩|⟨t3,kr3,r3,L3,L4,⟨hSt3,hL3,hk3,hk4,hT3,hT4⟩,rfl,rfl⟩) H'
   ·have H:=H'.l5;refine Z4 7 [4] H rfl ?_;intro w H;refine Zl [4,3] H rfl ?_;exact ⟨_,.inl ⟨(by have:=O.st.f;have:=hS2.f;omega),_,rfl,rfl⟩,H.perm 5 [0] rfl rfl⟩
   ·have H:=H'.l5;refine Z4 7 [4] H rfl ?_;intro w H;refine Zl [4,3] H rfl ?_;exact ⟨_,.inr (.inl ⟨_,c,⟨((O.st.sub (fun p hp=>by simp[hp]) (Nat.le_refl _) (Nat.le_refl _)).trans hS2 (R:=Q) (R1:=Q) (fun p hp=>hp) (fun p hp=>by simp[hp]) (e:=1) (f:=1) (by omega) (by omega)).trans hSt3 (fun p hp=>hp) (fun p hp=>hp) (by omega) (by omega),hT3⟩,rfl,rfl⟩),H.perm 5 [0] rfl rfl⟩
   ·have H:=H'.l5;refine Z4 7 [4] H rfl ?_;intro w H;refine Zl [4,3] H rfl ?_;exact ⟨_,.inr (.inr ⟨_,c,_,_,_,_,⟨((O.st.sub (fun p hp=>by simp[hp]) (Nat.le_refl _) (Nat.le_refl _)).trans hS2 (R:=Q) (R1:=Q) (fun p hp=>hp) (fun p hp=>by simp[hp]) (e:=1) (f:=1) (by omega) (by omega)).trans hSt3 (fun p hp=>hp) (fun p hp=>hp) (by omega) (by omega),hL3,hk3,hk4,hT3,hT4⟩,rfl,rfl⟩),H.perm 5 [0] rfl rfl⟩
  ·have H:=H'.l5;refine Zc 16 rfl ?_;replace H:=(H.mono 3 (B:=trA Tb pp mb n o (some (t1,c::(vals (putE key val es)++Q)))) rfl (fun h q=>q.perm (K5 hok.srt hno))).l5
   refine Z2 6 [2,3] H rfl (Ao rfl (call101 _) (Ps pp mb n o t1 Q c true _ _ es _ _ (fun h q=>q.rd) (fun h q=>q.rd) key val hkv hck hok.srt 0 lo hi m (putE key val es) hl1 rfl hl2 hl3 O.C1 O.N0 (by have:=O.st.k;omega) (by have:=(IV (es:=es) hok.srt key val).1;omega) h0 h1048) H.f1.f1.f3 ?_);rintro _ w _ (⟨hf3,s3,rfl,rfl⟩|⟨t3,⟨hSt3,hT3⟩,rfl,rfl⟩|⟨t3,kr3,r3,L3,L4,⟨hSt3,hL3,hk3,hk4,hT3,hT4⟩,rfl,rfl⟩) H'
   ·have H:=H'.l5;refine Z4 7 [4] H rfl ?_;intro w H;refine Zl [4,3] H rfl ?_;exact ⟨_,.inl ⟨(by have:=O.st.f;omega),_,rfl,rfl⟩,H.perm 5 [0] rfl rfl⟩
   ·have H:=H'.l5;refine Z4 7 [4] H rfl ?_;intro w H;refine Zl [4,3] H rfl ?_;exact ⟨_,.inr (.inl ⟨_,c,⟨(O.st.sub (fun p hp=>by simp[hp]) (Nat.le_refl _) (Nat.le_refl _)).trans hSt3 (R:=Q) (R1:=Q) (fun p hp=>hp) (fun p hp=>hp) (by omega) (by omega),hT3⟩,rfl,rfl⟩),H.perm 5 [0] rfl rfl⟩
   ·have H:=H'.l5;refine Z4 7 [4] H rfl ?_;intro w H;refine Zl [4,3] H rfl ?_;exact ⟨_,.inr (.inr ⟨_,c,_,_,_,_,⟨(O.st.sub (fun p hp=>by simp[hp]) (Nat.le_refl _) (Nat.le_refl _)).trans hSt3 (R:=Q) (R1:=Q) (fun p hp=>hp) (fun p hp=>hp) (by omega) (by omega),hL3,hk3,hk4,hT3,hT4⟩,rfl,rfl⟩),H.perm 5 [0] rfl rfl⟩
set_option maxHeartbeats 4000000 in
theorem Yi (pp mb n:Nat) (o:TB) (t:TS) (Q:List Nat) (h:Nat) (ih:∀ (t:TS) (Q:List Nat) (a:Nat) (lo hi:Int) (m:Nat) (key:Int) (val:Nat) (L:List E),InsPre n t Q a h lo hi m key val L→Cn prog 63 [Pt_ pp,Iv_ (a:Int),Iv_ key,Iv_ (val:Int)] [trA Tb pp mb n o (some (t,a::val::Q))] (fun v Γ=>Ij Tb pp mb n o t Q h lo hi m key val L v Γ)) (a:Nat) (lo hi:Int) (m:Nat) (key:Int) (val:Nat) (L:List E) (hP:InsPre n t Q a (h+1) lo hi m key val L):Cn prog 63 [Pt_ pp,Iv_ (a:Int),Iv_ key,Iv_ (val:Int)] [trA Tb pp mb n o (some (t,a::val::Q))] (fun v Γ=>Ij Tb pp mb n o t Q (h+1) lo hi m key val L v Γ):=by
 intro z R w H;replace H:=H.l1;have K:=H.says 0 rfl (fun h a=>trA.k a)
 have hn:=K.hn
 have hkk:=hP.kk;have h0:=hP.l0;have h1048:=hP.h1;have hnv:=hP.nv;have htk:=hP.hk;have htb:=hP.hb
 obtain ⟨b,hvd⟩:=hP.dt;have hvr:=K.i.rin val (by simp[B8])
 obtain ⟨es,hN,hm,hrg,hok,hBd⟩:=hP.T;refine Ad func63 rfl ntmps63 rfl (Za 2 [] H rfl ?_);intro b1 w H;refine Zc 7 rfl (Ao rfl (call96 _) (Ig pp mb n o t (val::Q) a false es hN (by omega) (by simp only[List.length_cons];omega)) H.f1 ?_);rintro _ w _ (⟨hnone,v2,v3,s,rfl,rfl⟩|⟨t1,c,v2,v3,O,rfl,rfl⟩) H'
 ·have H:=H'.l4;have sv2:=H.says 0 rfl (fun h q=>q.slc)
  have sv3:=H.says 1 rfl (fun h q=>q.slc)
  refine Za 4 [] H rfl ?_;intro b4 w H;refine Zc 1 rfl (Ax rfl rfl (Ai 0 H rfl rfl rfl rfl (vs:=[.bool false,v2,v3]) rfl (Ac rfl (Ac sv2.one (Ac sv3.one Ar))) (by kernel_rfl) (by simp) (out:=[.bool false,v2,v3]) rfl) ?_);rintro w H;replace H:=H.l5;refine Z4 20 [3,4] H rfl ?_;intro w H;refine Zl [4,3] H rfl ?_;exact ⟨_,.inl ⟨(by omega),_,rfl,rfl⟩,H.perm 5 [3] rfl rfl⟩
 ·have H:=H'.l4;have sv2:=H.says 0 rfl (fun h q=>q.slc)
  have sv3:=H.says 1 rfl (fun h q=>q.slc)
  refine Za 4 [] H rfl ?_;intro b5 w H;refine Zc 1 rfl (Ax rfl rfl (Ai 0 H rfl rfl rfl rfl (vs:=[.bool false,v2,v3]) rfl (Ac rfl (Ac sv2.one (Ac sv3.one Ar))) (by kernel_rfl) (by simp) (out:=[.bool false,v2,v3]) rfl) ?_);rintro w H;replace H:=H.l5;refine Z2 27 [4,0,0,0,0,3] H rfl (Ao rfl (call95 _) (Kj (es:=es) (fun h q=>q.rd) (fun h q=>q.rd) hok.len hok.srt (hok.ne rfl) key) H.f2.f2 ?_);rintro _ w _ ⟨X,e,Y,⟨hes,hX,hXe,hY⟩,rfl,rfl⟩ H;refine Zc 4 rfl ?_;obtain ⟨ao2,cc2,rfl⟩:=sv3;have hat:=(H.rd 1 rfl (fun h q=>q.rd)).at (j:=X.length) (u:=Iv_ (e.2:Int)) (by rw[hes];simp[vL])
  replace H:=(H.mono 3 (B:=trA Tb pp mb n o (some (t1,e.2::val::(c::(vals X++(vals Y++Q)))))) rfl (fun h q=>q.perm (by rw[hes];exact Wp))).l5
  have hs1:Srt (X++e::Y):=by rw[←hes];exact hok.srt
  have hr1:Bp lo hi (X++e::Y):=by rw[←hes];exact hrg
  obtain ⟨L0,Lc,L2,⟨hq0,hqc,hq2⟩,hLe,hLp,hb1,hb2,hb3,hb4⟩:=Yg val hs1 hr1 (by rw[←hes];exact O.bd hBd) hX hY hkk;have hel:(vals X).length+(vals Y).length+1=es.length:=by rw[hes];simp[vals];omega
  have hes8:es.length≤8:=hok.len
  refine Z2 5 [2,2,0] H rfl (Ab rfl (Am rfl (z:=1) (j:=X.length) (r:=X.length) (by kernel_rfl) rfl rfl rfl (by rw[hes];simp) hat (by omega)) (Ab rfl (Ay rfl rfl (by kernel_rfl) (Au hat)) (Zc 2 rfl (Ao rfl (call63 _) (ih t1 (c::(vals X++(vals Y++Q))) e.2 (min e.1 key) (nx Y hi) 4 key val Lc ⟨hqc,⟨hb2,hb3⟩,by omega,by omega,⟨b,O.st.dt val (by simp) b hvd⟩,fun q d hq=>hnv q d (O.sub q d hq),by have:=O.st.k;omega,by simp only[List.length_cons,List.length_append];omega⟩) H.f3 ?_))));rintro _ w _ (⟨hf2,s2,rfl,rfl⟩|⟨t2,c2,⟨hSt2,hT2⟩,rfl,rfl⟩|⟨t2,c2,kr,r,M1,M2,⟨hSt2,hLs,hk1,hk2,hT2,hT3⟩,rfl,rfl⟩) H'
  ·have H:=H'.l5;refine Za 3 [] H rfl ?_;intro b6 w H;refine Z4 21 [0,3,5] H rfl ?_;intro w H;refine Zl [5,3] H rfl ?_;exact ⟨_,.inl ⟨(by have:=O.st.f;omega),_,rfl,rfl⟩,H.perm 6 [1] rfl rfl⟩
  ·have H:=H'.l5;refine Za 3 [] H rfl ?_;intro b7 w H;refine Z4 15 [0,4] H rfl ?_;intro w H;have hXl:X.length<es.length:=by rw[hes];simp
   have hnek:0<(kL es).length:=by simp only[List.length_map];omega
   have hnev:0<(vL es).length:=by simp only[List.length_map];omega
   obtain ⟨gk,cap_gk,rest_gk,rfl,c1gk,c2gk,c3gk,H⟩:=H.ungrow 2 rfl hnek;replace H:=H.l6;obtain ⟨gv_,cap_gv_,rest_gv_,hgq,c1gv_,c2gv_,c3gv_,H'⟩:=H.ungrow 3 rfl hnev;cases hgq;clear H;have H:=H'.l6;refine Z2 6 [2,4,0,0,0,0] H rfl (Ab rfl (B3 rfl (z:=1) (j:=X.length) (r:=X.length) (by kernel_rfl) rfl rfl rfl (by simp only[List.length_map];omega) (by omega)) (Ax rfl rfl (Ai 3 H rfl rfl rfl rfl (vs:=[Iv_ (c2:Int)]) rfl (by simp[u8,u32,Value.oneCell']) (by kernel_rfl) (by simp only[List.length_append,List.length_map,List.length_cons,List.length_nil];omega) (out:=(((vL es).set X.length (c2:Int)).map Iv_++rest_gv_)) (Dk (by simp only[List.length_map];omega))) ?_));rintro w H;replace H:=H.l6;refine Zc 3 rfl (BF 11 (by kernel_rfl) (by kernel_rfl) (Bc H fun w H'=> ?_))
   have H:=H'.l6;refine T8 6 [1,0,1,0] (BA (H.blk 4 rfl) BC) rfl (by kernel_rfl) rfl (BY rfl rfl rfl (B3 rfl (z:=1) (j:=X.length) (r:=X.length) (by kernel_rfl) rfl rfl rfl (by simp only[List.length_map];omega) (by omega)) (BY rfl rfl rfl (AO rfl rfl (by kernel_rfl) (Au (H.cel 2 rfl X.length (show ((kL es).map Iv_++rest_gk)[X.length]? =some (Iv_ e.1) from (by rw[List.getElem?_append_left (by simp only[List.length_map];omega),List.getElem?_map,List.getElem?_map,hes];simp))))) ?_));refine NH 1 [] rfl (by kernel_rfl) (BY rfl rfl rfl (I3 rfl rfl rfl) (BY rfl rfl rfl (B3 rfl (z:=1) (j:=X.length) (r:=X.length) (by kernel_rfl) rfl rfl rfl (by simp only[List.length_map];omega) (by omega)) (Cy (gw (Ax rfl rfl (Ai 2 H rfl rfl rfl rfl (vs:=[Iv_ (min (e.1:Int) key)]) rfl (by simp[u8,u32,Value.oneCell']) (by kernel_rfl) (by simp only[List.length_append,List.length_map,List.length_cons,List.length_nil];omega) (out:=(((kL es).set X.length (min e.1 key)).map Iv_++rest_gk)) (Dk (by simp only[List.length_map];omega))) ?_)))));rintro w H;replace H:=H.l6;refine Zc 4 rfl ?_;have hlk:(kL es).length=(kL (X++(min e.1 key,c2)::Y)).length:=by rw[hes];simp
   have hlv:(vL es).length=(vL (X++(min e.1 key,c2)::Y)).length:=by rw[hes];simp
   have hks:(kL es).set X.length (min e.1 key)=kL (X++(min e.1 key,c2)::Y):=by rw[hes];simp[kL,List.set_append]
   have hvs:(vL es).set X.length (c2:Int)=vL (X++(min e.1 key,c2)::Y):=by rw[hes];simp[vL,List.set_append]
   replace H:=(H.mono 2 (B:=grow 3 1 (.slice (some ⟨gk,0,none⟩) ((kL es).length) cap_gk) ((kL es).length) ((kL (X++(min e.1 key,c2)::Y)).map Iv_)) rfl (fun h q=>q.grow (by omega) (by omega) (by simp only[List.length_append,List.length_map,List.length_set];simp only[List.length_map] at *;omega) (by rw[Nat.mul_one,List.take_left' (by simp),hks]))).l6
   replace H:=(H.mono 3 (B:=grow 3 1 (.slice (some ⟨gv_,0,none⟩) ((vL es).length) cc2) ((vL es).length) ((vL (X++(min e.1 key,c2)::Y)).map Iv_)) rfl (fun h q=>q.grow (by omega) (by omega) (by simp only[List.length_append,List.length_map,List.length_set];simp only[List.length_map] at *;omega) (by rw[Nat.mul_one,List.take_left' (by simp),hvs]))).l6
   refine Z2 10 [2,0,0,4] H rfl ?_;obtain ⟨hB2,⟨hn1,hn2⟩,hd2⟩:=Wq hSt2 hq0 hq2 hT2 hs1 hr1 hX hb1;have hl1:((X++(min e.1 key,c2)::Y):List E).length=es.length:=by rw[hes];simp
   replace H:=(H.mono 1 (B:=trA Tb pp mb n o (some (t2,c::(vals (X++(min e.1 key,c2)::Y)++Q)))) rfl (fun h q=>q.perm M4)).l6
   refine Z2 6 [4,3] H rfl (Ao rfl (call98 _) (E2 pp mb n o t2 Q c false _ _ (X++(min e.1 key,c2)::Y) _ _ (fun h q=>by rw[←hlk];exact q.rd) (fun h q=>by rw[←hlv];exact q.rd) (h+1) lo hi m (putE key val L) (by rw[hLp];exact hB2) (by simp) hn2 (by omega) ⟨hn1,by dsimp only;omega,Ii hn2 h0 h1048,fun _=>by simp⟩ hd2 (hSt2.op c (by simp) O.N0 O.C1).2 (hSt2.op c (by simp) O.N0 O.C1).1 (by have:=O.st.k;have:=hSt2.k;omega)) H.f3.f3.f3 ?_);rintro _ w _ ⟨t3,⟨hSt3,hT3,hC3,hN3⟩,rfl,rfl⟩ H;refine Z4 5 [5] H rfl ?_;intro w H;refine Zl [5,3] H rfl ?_;exact ⟨_,.inr (.inl ⟨_,c,⟨((O.st.sub (R':=Q) (fun p hp=>by simp[hp]) (Nat.le_refl _) (Nat.le_refl _)).trans hSt2 (R:=Q) (R1:=Q) (fun p hp=>hp) (fun p hp=>by simp[hp]) (Nat.le_refl _) (Nat.le_refl _)).trans hSt3 (fun p hp=>hp) (fun p hp=>hp) (by omega) (by omega),hT3⟩,rfl,rfl⟩),H.perm 6 [0] rfl rfl⟩
  ·have H:=H'.l5;refine Za 3 [] H rfl ?_;intro b8 w H;refine Z4 15 [0,4] H rfl ?_;intro w H;have hXl:X.length<es.length:=by rw[hes];simp
   have hnek:0<(kL es).length:=by simp only[List.length_map];omega
   have hnev:0<(vL es).length:=by simp only[List.length_map];omega
   obtain ⟨gk,cap_gk,rest_gk,rfl,c1gk,c2gk,c3gk,H⟩:=H.ungrow 2 rfl hnek;replace H:=H.l6;obtain ⟨gv_,cap_gv_,rest_gv_,hgq,c1gv_,c2gv_,c3gv_,H'⟩:=H.ungrow 3 rfl hnev;cases hgq;clear H;have H:=H'.l6;refine Z2 6 [2,4,0,0,0,0] H rfl (Ab rfl (B3 rfl (z:=1) (j:=X.length) (r:=X.length) (by kernel_rfl) rfl rfl rfl (by simp only[List.length_map];omega) (by omega)) (Ax rfl rfl (Ai 3 H rfl rfl rfl rfl (vs:=[Iv_ (c2:Int)]) rfl (by simp[u8,u32,Value.oneCell']) (by kernel_rfl) (by simp only[List.length_append,List.length_map,List.length_cons,List.length_nil];omega) (out:=(((vL es).set X.length (c2:Int)).map Iv_++rest_gv_)) (Dk (by simp only[List.length_map];omega))) ?_));rintro w H;replace H:=H.l6;refine Zc 3 rfl (BF 11 (by kernel_rfl) (by kernel_rfl) (Bc H fun w H'=> ?_))
   have H:=H'.l6;refine T8 6 [1,0,1,0] (BA (H.blk 4 rfl) BC) rfl (by kernel_rfl) rfl (BY rfl rfl rfl (B3 rfl (z:=1) (j:=X.length) (r:=X.length) (by kernel_rfl) rfl rfl rfl (by simp only[List.length_map];omega) (by omega)) (BY rfl rfl rfl (AO rfl rfl (by kernel_rfl) (Au (H.cel 2 rfl X.length (show ((kL es).map Iv_++rest_gk)[X.length]? =some (Iv_ e.1) from (by rw[List.getElem?_append_left (by simp only[List.length_map];omega),List.getElem?_map,List.getElem?_map,hes];simp))))) ?_));refine NH 1 [] rfl (by kernel_rfl) (BY rfl rfl rfl (I3 rfl rfl rfl) (BY rfl rfl rfl (B3 rfl (z:=1) (j:=X.length) (r:=X.length) (by kernel_rfl) rfl rfl rfl (by simp only[List.length_map];omega) (by omega)) (Cy (gw (Ax rfl rfl (Ai 2 H rfl rfl rfl rfl (vs:=[Iv_ (min (e.1:Int) key)]) rfl (by simp[u8,u32,Value.oneCell']) (by kernel_rfl) (by simp only[List.length_append,List.length_map,List.length_cons,List.length_nil];omega) (out:=(((kL es).set X.length (min e.1 key)).map Iv_++rest_gk)) (Dk (by simp only[List.length_map];omega))) ?_)))));rintro w H;replace H:=H.l6;refine Zc 4 rfl ?_;have hlk:(kL es).length=(kL (X++(min e.1 key,c2)::Y)).length:=by rw[hes];simp
   have hlv:(vL es).length=(vL (X++(min e.1 key,c2)::Y)).length:=by rw[hes];simp
   have hks:(kL es).set X.length (min e.1 key)=kL (X++(min e.1 key,c2)::Y):=by rw[hes];simp[kL,List.set_append]
   have hvs:(vL es).set X.length (c2:Int)=vL (X++(min e.1 key,c2)::Y):=by rw[hes];simp[vL,List.set_append]
   have hr0:manyN n+1≤r:=by have K3:=H.says 1 rfl (fun h a=>trA.k a);exact (K3.i.rin r (by simp[B8])).1
   replace H:=(H.mono 2 (B:=grow 3 1 (.slice (some ⟨gk,0,none⟩) ((kL es).length) cap_gk) ((kL es).length) ((kL (X++(min e.1 key,c2)::Y)).map Iv_)) rfl (fun h q=>q.grow (by omega) (by omega) (by simp only[List.length_append,List.length_map,List.length_set];simp only[List.length_map] at *;omega) (by rw[Nat.mul_one,List.take_left' (by simp),hks]))).l6
   replace H:=(H.mono 3 (B:=grow 3 1 (.slice (some ⟨gv_,0,none⟩) ((vL es).length) cc2) ((vL es).length) ((vL (X++(min e.1 key,c2)::Y)).map Iv_)) rfl (fun h q=>q.grow (by omega) (by omega) (by simp only[List.length_append,List.length_map,List.length_set];simp only[List.length_map] at *;omega) (by rw[Nat.mul_one,List.take_left' (by simp),hvs]))).l6
   refine Z2 6 [2,0,0,0] H rfl (Af rfl (fun h1=> ?_) (fun h1=> ?_))
   ·refine Zc 1 rfl ?_;obtain ⟨hn1,hput,hB2,hr2,hd2,hkr1,hkr2⟩:=Wr (r:=r) hSt2 hq0 hq2 hT2 hT3 hs1 hr1 hX hb1 hk1 hk2 hb4;have hpl:(putE kr r (X++(min e.1 key,c2)::Y)).length=es.length+1:=by rw[hput,hes];simp only[List.length_append,List.length_cons];omega
    replace H:=(H.mono 1 (B:=trA Tb pp mb n o (some (t2,c::(vals (putE kr r (X++(min e.1 key,c2)::Y))++Q)))) rfl (fun h q=>q.perm (by rw[hput];exact Re))).l6
    have K2:=H.says 1 rfl (fun h a=>trA.k a)
    have hr3:=Ii hr2 h0 h1048
    have hkv2:(0≤kr∧kr<1048576)∧1≤r∧r<1024:=by have:=K2.i.rin r (by simp[B8,hput,vals]);omega
    have hck2:CkN false (kL (X++(min e.1 key,c2)::Y)) (vL (X++(min e.1 key,c2)::Y)):=CkN.of ⟨hn1,by have:((X++(min e.1 key,c2)::Y):List E).length=es.length:=(by rw[hes];simp);dsimp only;omega,fun x hx=>by have:=TD hr1 hb1 (c:=c2) x hx;omega,fun _=>by simp⟩ (fun v hv=>by have:=K2.i.rin v (by simp only[B8,hput,Bi,Bz] at hv ⊢;simp only[List.mem_cons,List.mem_append] at hv ⊢;rcases hv with h|h|h<;>simp[h]);omega)
    refine Z2 8 [4,3,1,0,0,2,0,0] H rfl (Ao rfl (call101 _) (Ps pp mb n o t2 Q c false _ _ (X++(min e.1 key,c2)::Y) _ _ (fun h q=>by rw[←hlk];exact q.rd) (fun h q=>by rw[←hlv];exact q.rd) kr r hkv2 hck2 hn1 (h+1) lo hi m (putE key val L) (by rw[hLp,hLs];exact hB2) (by simp) hr2 hd2 (hSt2.op c (by simp) O.N0 O.C1).2 (hSt2.op c (by simp) O.N0 O.C1).1 (by have:=O.st.k;have:=hSt2.k;omega) (by omega) h0 h1048) H.f3.f3.f3 ?_);rintro _ w _ (⟨hf3,s3,rfl,rfl⟩|⟨t3,⟨hSt3,hT3⟩,rfl,rfl⟩|⟨t3,kr3,r3,L3,L4,⟨hSt3,hL3,hk3,hk4,hT3,hT4⟩,rfl,rfl⟩) H'
    ·have H:=H'.l6;refine Z4 7 [5] H rfl ?_;intro w H;refine Zl [5,3] H rfl ?_;exact ⟨_,.inl ⟨(by have:=O.st.f;have:=hSt2.f;omega),_,rfl,rfl⟩,H.perm 6 [0] rfl rfl⟩
    ·have H:=H'.l6;refine Z4 7 [5] H rfl ?_;intro w H;refine Zl [5,3] H rfl ?_;exact ⟨_,.inr (.inl ⟨_,c,⟨((O.st.sub (R':=Q) (fun p hp=>by simp[hp]) (Nat.le_refl _) (Nat.le_refl _)).trans hSt2 (R:=Q) (R1:=Q) (fun p hp=>hp) (fun p hp=>by simp[hp]) (Nat.le_refl _) (Nat.le_refl _)).trans hSt3 (fun p hp=>hp) (fun p hp=>hp) (by omega) (by omega),hT3⟩,rfl,rfl⟩),H.perm 6 [0] rfl rfl⟩
    ·have H:=H'.l6;refine Z4 7 [5] H rfl ?_;intro w H;refine Zl [5,3] H rfl ?_;exact ⟨_,.inr (.inr ⟨_,c,_,_,_,_,⟨((O.st.sub (R':=Q) (fun p hp=>by simp[hp]) (Nat.le_refl _) (Nat.le_refl _)).trans hSt2 (R:=Q) (R1:=Q) (fun p hp=>hp) (fun p hp=>by simp[hp]) (Nat.le_refl _) (Nat.le_refl _)).trans hSt3 (fun p hp=>hp) (fun p hp=>hp) (by omega) (by omega),hL3,hk3,hk4,hT3,hT4⟩,rfl,rfl⟩),H.perm 6 [0] rfl rfl⟩
   ·(exfalso;omega)
end
section
open Go.RowKit
variable {Tb:Ae}
theorem M5 (pp mb n:Nat) (o:TB):∀ (h:Nat) (t:TS) (Q:List Nat) (a:Nat) (lo hi:Int) (m:Nat) (key:Int) (val:Nat) (L:List E),InsPre n t Q a h lo hi m key val L→Cn prog 63 [Pt_ pp,Iv_ (a:Int),Iv_ key,Iv_ (val:Int)] [trA Tb pp mb n o (some (t,a::val::Q))] (fun v Γ=>Ij Tb pp mb n o t Q h lo hi m key val L v Γ)
 | 0=>fun t Q a lo hi m key val L hP=>Yh pp mb n o t Q a lo hi m key val L hP
 | h+1=>fun t Q a lo hi m key val L hP=>Yi pp mb n o t Q h (M5 pp mb n o h) a lo hi m key val L hP
theorem Tr.lo {N:Hm} {h r:Nat} {lo hi:Int} {m:Nat} {L es:List E} {lf:Bool} (t:Tr N h r lo hi m L) (hN:N r=some (.nd ⟨lf,es⟩)) (hm:1≤m):Tr N h r (nx es hi) hi m L∧lo≤nx es hi∧nx es hi<hi:=by
 obtain ⟨es',h1,h2,h3,h4,h5⟩:=Tr.iff.1 t
 rw[h1] at hN;cases hN
 cases es with
 | nil=>simp at h2;omega
 | cons e u=>
  have he:=h3 e (by simp)
  refine ⟨Tr.iff.2 ⟨_,h1,h2,fun x hx=>⟨?_,(h3 x hx).2⟩,h4,h5⟩,he⟩
  rcases List.mem_cons.1 hx with rfl|hx
  ·exact Int.le_refl _
  ·exact Int.le_of_lt ((Srt.cons.1 h4.srt).1 x hx)
theorem root_two {N:Hm} {h c r:Nat} {kr:Int} {L1 L2:List E} {es:List E} {lf:Bool} (hT:Tr N h c 0 kr 4 L1) (hN:N c=some (.nd ⟨lf,es⟩)) (hT2:Tr N h r kr 1048576 4 L2) (hkr:kr<1048576):
  Bd N (h+1) [(nx es kr,c),(kr,r)] 1048576 (L1++L2)∧Bp 0 1048576 [(nx es kr,c),(kr,r)]∧(Nd.mk false [(nx es kr,c),(kr,r)]).Ok∧(vals [(nx es kr,c),(kr,r)]).Nodup:=by
 obtain ⟨h1,h2,h3⟩:=hT.lo hN (by omega)
 have hs:Srt [(nx es kr,c),(kr,r)]:=Srt.cons.2 ⟨fun x hx=>by simp at hx;subst hx;exact h3,Srt.cons.2 ⟨by simp,by simp[Srt]⟩⟩
 have hr:Bp 0 1048576 [(nx es kr,c),(kr,r)]:=fun x hx=>by
  simp at hx;rcases hx with rfl|rfl
  ·dsimp only;omega
  ·dsimp only;omega
 have hB:Bd N (h+1) [(nx es kr,c),(kr,r)] 1048576 (L1++L2):=⟨L1,L2,rfl,h1,L2,[],by simp,hT2,rfl⟩
 exact ⟨hB,hr,⟨hs,by simp,fun e he=>hr e he,fun _=>by simp⟩,hB.nodup hs (fun x hx=>(hr x hx).2)⟩
theorem TE {N:Hm} {key:Int} {val:Nat} {b:List UInt8} (hv:N val=some (.dt b)) (hk:0≤key∧key<1048576):Bd N 0 [(key,val)] 1048576 (putE key val [])∧Bp 0 1048576 [(key,val)]∧(Nd.mk true [(key,val)]).Ok∧(vals [(key,val)]).Nodup:=by
 have hr:Bp 0 1048576 [(key,val)]:=fun x hx=>by simp at hx;subst hx;exact hk
 exact ⟨⟨rfl,fun e he=>by simp at he;subst he;exact ⟨b,hv⟩⟩,hr,⟨by simp[Srt],by simp,fun e he=>hr e he,fun q=>by cases q⟩,by simp[vals]⟩
def Root (N:Hm) (r:Nat) (L:List E):Prop:=(r=0∧L=[])∨(r≠0∧∃ h,Tr N h r 0 1048576 (if h=0 then 1 else 2) L)
def A5 (r:Nat):List Nat:=if r=0 then [] else [r]
def Ck (N:Hm):Nat→Nat→List Nat
 | 0,r=>[r]
 | h+1,r=>match N r with
  | some (.nd d)=>d.es.flatMap fun e=>Ck N h e.2
  | _=>[]
def Ox (N:Hm) (r:Nat):List E:=match N r with
 | some (.nd d)=>d.es
 | _=>[]
theorem JC {N:Hm} {h r:Nat} {lo hi:Int} {m:Nat} {L:List E} (t:Tr N h r lo hi m L) (hm:1≤m):(Ck N h r).flatMap (Ox N)=L∧(∀ q∈Ck N h r,Ox N q≠[]∧∃ d,N q=some (.nd d))∧m * 4 ^ (h - 1)≤(Ck N h r).length * (if h=0 then m else 1):=by
 induction h generalizing r lo hi m L with
 | zero=>
  obtain ⟨es,h1,h2,_,_,rfl,_⟩:=t
  refine ⟨by simp[Ck,Ox,h1],fun q hq=> ?_,by simp[Ck]⟩
  simp[Ck] at hq;subst hq
  refine ⟨?_,_,h1⟩
  simp only[Ox,h1]
  intro q;rw[q] at h2;simp at h2;omega
 | succ h ih=>
  obtain ⟨es,h1,h2,_,_,h5⟩:=t
  have hl:Ck N (h+1) r=es.flatMap fun e=>Ck N h e.2:=by simp[Ck,h1]
  rw[hl]
  have key:∀ (es:List E) (L:List E),Sq (fun c a b L=>Tr N h c a b 4 L) es hi L→(es.flatMap fun e=>Ck N h e.2).flatMap (Ox N)=L∧(∀ q∈es.flatMap fun e=>Ck N h e.2,Ox N q≠[]∧∃ d,N q=some (.nd d))∧es.length * 4 ^ h≤(es.flatMap fun e=>Ck N h e.2).length:=by
   intro es
   induction es with
   | nil=>intro L q;have q:L=[]:=q;subst q;simp
   | cons e u ih2=>
    rintro _ ⟨L1,L2,rfl,q1,q2⟩
    obtain ⟨a1,a2,a3⟩:=ih q1 (by omega)
    obtain ⟨b1,b2,b3⟩:=ih2 L2 q2
    have a4:4 ^ h≤(Ck N h e.2).length:=by
     cases h with
     | zero=>simp[Ck]
     | succ h=>simp at a3;rw[Nat.pow_succ,Nat.mul_comm];exact a3
    refine ⟨by simp only[List.flatMap_cons,List.flatMap_append,a1,b1],fun q hq=> ?_,?_⟩
    ·rcases List.mem_append.1 (by simpa using hq:q∈Ck N h e.2++u.flatMap fun e=>Ck N h e.2) with hq|hq
     ·exact a2 q hq
     ·exact b2 q hq
    ·simp only[List.flatMap_cons,List.length_append,List.length_cons]
     rw[Nat.add_mul];omega
  obtain ⟨a1,a2,a3⟩:=key es L h5
  refine ⟨a1,a2,?_⟩
  have:m * 4 ^ h≤es.length * 4 ^ h:=Nat.mul_le_mul_right _ h2
  rw[if_neg (by omega),Nat.mul_one,Nat.add_sub_cancel];omega
theorem G7 {f:Nat→List E} :∀ {ps:List Nat},Srt (ps.flatMap f)→(∀ p∈ps,f p≠[])→ps.Nodup
 | [],_,_=>by simp
 | p::ps,hs,hne=>by
  rw[List.flatMap_cons] at hs
  obtain ⟨s1,s2,s3⟩:=Srt.app.1 hs
  rw[List.nodup_cons]
  refine ⟨fun hp=> ?_,G7 s2 (fun q hq=>hne q (by simp[hq]))⟩
  obtain ⟨x,u,e⟩:=List.exists_cons_of_ne_nil (hne p (by simp))
  have:=s3 x (by rw[e];simp) x (List.mem_flatMap.2 ⟨p,hp,by rw[e];simp⟩)
  omega
theorem M6 {n:Nat} :∀ {l:List Nat},l.Nodup→(∀ x∈l,x<n)→l.length≤n:=fun {l} h1 h2=>by
 have:=List.Nodup.length_le_of_subset (l₁:=l) (l₂:=List.range n) h1 (fun x hx=>List.mem_range.2 (h2 x hx))
 simpa using this
theorem Tr.low {n f:Nat} {N:Hm} {C:Nat→Nat} {R:List Nat} (I:TInv n f N C R) {h r:Nat} {lo hi:Int} {m:Nat} {L:List E} (t:Tr N h r lo hi m L) (hm:(if h=0 then 1 else 2)≤m) (hn:n≤511):h≤4:=by
 have hm1:1≤m:=by split at hm<;>omega
 obtain ⟨a1,a2,a3⟩:=JC t hm1
 have hs:=t.srt.1
 rw[←a1] at hs
 have hd:=G7 hs (fun p hp=>(a2 p hp).1)
 have hl:=M6 hd (fun p hp=>by obtain ⟨d,hd⟩:=(a2 p hp).2;exact (I.nin p _ hd).2.1)
 rcases Nat.lt_or_ge h 5 with q|q
 ·omega
 ·exfalso
  rw[if_neg (by omega)] at a3 hm
  have:4 ^ 4≤4 ^ (h - 1):=Nat.pow_le_pow_right (by omega) (by omega)
  have h2:2 * 4 ^ (h - 1)≤m * 4 ^ (h - 1):=Nat.mul_le_mul_right _ hm
  simp at a3
  omega
theorem Pu {N:Hm} {h:Nat} {lo hi:Int} {L X Y:List E} {e:E} {key:Int} (hs:Srt (X++e::Y)) (hr:Bp lo hi (X++e::Y)) (hB:Bd N (h+1) (X++e::Y) hi L) (hX:X=[]∨e.1≤key) (hY:∀ x∈Y,key<x.1∧e.1<x.1):∃ Lc,Tr N h e.2 e.1 (nx Y hi) 4 Lc∧∀ v,(key,v)∈Lc↔(key,v)∈L:=by
 obtain ⟨L0,Lc,L2,rfl,h1,h2,h3⟩:=Sq.at hB
 obtain ⟨s1,s2,s3⟩:=Srt.app.1 hs
 have a1:=Sq.srt h1 s1 (fun x hx=>s3 x hx e (by simp)) (fun _ _ _ _ q=>Tr.srt q)
 have a3:=Sq.srt h3 (Srt.cons.1 s2).2 (fun x hx=>(hr x (by simp[hx])).2) (fun _ _ _ _ q=>Tr.srt q)
 refine ⟨Lc,h2,fun v=>⟨fun q=>by simp[q],fun q=> ?_⟩⟩
 rcases List.mem_append.1 q with q|q
 ·exfalso
  rcases hX with rfl|hX
  ·simp only[Sq] at h1;subst h1;simp at q
  ·have:=a1.2.1 _ q;dsimp only at this;omega
 ·rcases List.mem_append.1 q with q|q
  ·exact q
  ·exfalso
   cases Y with
   | nil=>simp only[Sq] at h3;subst h3;simp at q
   | cons y t=>
    have:=a3.2.1 _ q
    have:=hY y (by simp)
    simp only[nx] at *;omega
end
section
open Go.RowKit
variable {Tb:Ae}
theorem JD (pp mb n:Nat) (o:TB) (s:TS×List Nat):Cn prog 56 [Pt_ pp] [trA Tb pp mb n o (some s)] (fun v Γ=>v=Iv_ 0∧Γ=[trA Tb pp mb n o (some s)]):=by
 intro z R w H;replace H:=H.l1;refine Ad func56 rfl ntmps56 rfl (Zc 19 rfl (z_E_ rfl (call81 _) (Ke pp mb n o _) H ?_));intro w H;replace H:=H.l1;refine AE 6 (v:= .bool true) rfl rfl (Zc 12 rfl (Zr rfl ?_));exact ⟨_,⟨rfl,rfl⟩,H⟩
theorem Yj (pp mb n:Nat) (o:TB) (t:TS) (Q:List Nat) (key:Int) (val:Nat) (b:List UInt8) (hkk:0≤key∧key<1048576) (hvd:t.N val=some (.dt b)) (hk:t.k<40):Cn prog 30 [Pt_ pp,Iv_ 0,Iv_ key,Iv_ (val:Int)] [trA Tb pp mb n o (some (t,val::Q))] (fun v Γ=>(cnt t.F 0 1024≤0∧∃ s:TS×List Nat,v= .tuple #[Iv_ 0,Iv_ 20]∧Γ=[trA Tb pp mb n o (some s)])∨∃ (t2:TS) (r:Nat),(St t t2 Q 1 1∧Tr t2.N 0 r 0 1048576 1 (putE key val []))∧v= .tuple #[Iv_ (r:Int),Iv_ 0]∧Γ=[trA Tb pp mb n o (some (t2,r::Q))]):=by
 intro z R w H;replace H:=H.l1;have K:=H.says 0 rfl (fun h a=>trA.k a)
 have hn:=K.hn
 have hvr:=K.i.rin val (by simp[B8])
 have hvp:=K.i.pos (p:=val) (by simp[B8])
 have hvp:1≤t.C val:=hvp
 obtain ⟨hb1,hb2,hb3,hb4⟩:=TE hvd hkk;refine Ad func30 rfl ntmps30 rfl (Zc 10 rfl (z_E_ rfl (call56 _) (JD pp mb n o _) H ?_));intro w H;refine Z0 18 [4,0] rfl (Al 21 rfl (fun h1=> ?_) (fun h1=> ?_))
 ·(exfalso;omega)
 ·refine Z0 4 [0] rfl (Al 25 rfl (fun h2=> ?_) (fun h2=> ?_))
  ·(exfalso;omega)
  ·refine Zc 2 rfl (z_E_ rfl (call39 _) (Fx pp mb n o _ val (by omega)) H ?_);intro w H;replace H:=H.l1;refine AE 28 (v:=Iv_ (t.C val:Int)) rfl rfl (Z0 4 [0] rfl (Af rfl (fun h3=> ?_) (fun h3=> ?_)))
   ·(exfalso;omega)
   ·refine Z0 14 [3] rfl (AJ rfl (AC H rfl (by kernel_rfl) A4 rfl (by decide) (by decide) (out:=[Iv_ key]) (by kernel_rfl)) ?_);rintro _ w ⟨b1,rfl,H⟩;replace H:=H.l2;refine Zc 1 rfl (AJ rfl (AC H rfl (by kernel_rfl) A4 rfl (by decide) (by decide) (out:=[Iv_ (val:Int)]) (by kernel_rfl)) ?_);rintro _ w ⟨b2,rfl,H⟩;replace H:=H.l3;refine Zc 1 rfl (Ao rfl (call62 _) (GA pp mb n o t Q true _ _ [(key,val)] _ _ (fun h q=>q.rd (by omega) (by omega) (by simp) rfl) (fun h q=>q.rd (by omega) (by omega) (by simp) rfl) 0 0 1048576 1 (putE key val []) hb1 rfl hb2 (by simp) hb3 hb4 hk) H.f1.f2 ?_);rintro _ w _ (⟨hnt2,rfl,rfl⟩|⟨t2,rt2,⟨hSt2,hTt2,hqt2⟩,rfl,rfl⟩) H'
    ·have H:=H'.l3;refine Zc 7 rfl (Zr rfl ?_);exact ⟨_,.inl ⟨by omega,_,rfl,rfl⟩,H.perm 3 [0] rfl rfl⟩
    ·have H:=H'.l3;refine Zc 7 rfl (Zr rfl ?_);exact ⟨_,.inr ⟨t2,rt2,⟨hSt2,hTt2⟩,rfl,rfl⟩,H.perm 3 [0] rfl rfl⟩
set_option maxHeartbeats 1000000 in
theorem Yk (pp mb n:Nat) (o:TB) (t:TS) (Q:List Nat) (h a:Nat) (m:Nat) (key:Int) (val:Nat) (L:List E) (hP:InsPre n t Q a h 0 1048576 m key val L):Cn prog 30 [Pt_ pp,Iv_ (a:Int),Iv_ key,Iv_ (val:Int)] [trA Tb pp mb n o (some (t,a::val::Q))] (fun v Γ=>(cnt t.F 0 1024≤2 * h+2∧∃ s:TS×List Nat,v= .tuple #[Iv_ 0,Iv_ 20]∧Γ=[trA Tb pp mb n o (some s)])∨∃ (t2:TS) (r:Nat),(St t t2 Q (2 * h+3) (3 * h+4)∧(Tr t2.N h r 0 1048576 m (putE key val L)∨Tr t2.N (h+1) r 0 1048576 2 (putE key val L)))∧v= .tuple #[Iv_ (r:Int),Iv_ 0]∧Γ=[trA Tb pp mb n o (some (t2,r::Q))]):=by
 intro z R w H;replace H:=H.l1;have K:=H.says 0 rfl (fun h a=>trA.k a)
 have hn:=K.hn
 have hkk:=hP.kk
 have hvr:=K.i.rin val (by simp[B8])
 have hvp:=K.i.pos (p:=val) (by simp[B8])
 have hvp:1≤t.C val:=hvp
 have har:=K.i.rin a (by simp[B8])
 refine Ad func30 rfl ntmps30 rfl (Zc 10 rfl (z_E_ rfl (call56 _) (JD pp mb n o _) H ?_));intro w H;refine Z0 18 [4,0] rfl (Al 21 rfl (fun h1=> ?_) (fun h1=> ?_))
 ·(exfalso;omega)
 ·refine Z0 4 [0] rfl (Al 25 rfl (fun h2=> ?_) (fun h2=> ?_))
  ·(exfalso;omega)
  ·refine Zc 2 rfl (z_E_ rfl (call39 _) (Fx pp mb n o _ val (by omega)) H ?_);intro w H;replace H:=H.l1;refine AE 28 (v:=Iv_ (t.C val:Int)) rfl rfl (Z0 4 [0] rfl (Af rfl (fun h3=> ?_) (fun h3=> ?_)))
   ·(exfalso;omega)
   ·refine Z0 9 [0] rfl (Af rfl (fun h4=> ?_) (fun h4=> ?_))
    ·(exfalso;omega)
    ·refine Zc 8 rfl (Ao rfl (call63 _) (M5 pp mb n o h t Q a 0 1048576 m key val L hP) H ?_);rintro _ w _ (⟨hf2,s2,rfl,rfl⟩|⟨t2,c2,⟨hSt2,hT2⟩,rfl,rfl⟩|⟨t2,c2,kr,r,M1,M2,⟨hSt2,hLs,hk1,hk2,hT2,hT3⟩,rfl,rfl⟩) H'
     ·have H:=H'.l1;refine Za 3 [] H rfl ?_;intro b1 w H;refine Z4 27 [0,3,0,0,0] H rfl ?_;intro w H;refine Zr rfl ?_;exact ⟨_,.inl ⟨by omega,_,rfl,rfl⟩,H.perm 2 [1] rfl rfl⟩
     ·have H:=H'.l1;refine Za 3 [] H rfl ?_;intro b2 w H;refine Z4 27 [0,4,2,0,0,3,0,0,0] H rfl ?_;intro w H;refine Zr rfl ?_;exact ⟨_,.inr ⟨t2,c2,⟨hSt2.sub (fun p hp=>hp) (by omega) (by omega),.inl hT2⟩,rfl,rfl⟩,H.perm 2 [1] rfl rfl⟩
     ·have H:=H'.l1;refine Za 3 [] H rfl ?_;intro b3 w H;refine Z4 6 [0] H rfl ?_;intro w H;have hr0:manyN n+1≤r:=by have K3:=H.says 1 rfl (fun h a=>trA.k a);exact (K3.i.rin r (by simp[B8])).1
      refine Z2 10 [4,2,0,0,0] H rfl (Af rfl (fun h5=> ?_) (fun h5=> ?_))
      ·(exfalso;omega)
      ·refine Zc 3 rfl ?_;obtain ⟨es,hNc,hmc,hrc,hoc,hBc⟩:=Tr.iff.1 hT2;obtain ⟨hb1,hb2,hb3,hb4⟩:=root_two hT2 hNc hT3 hk2;refine Z2 4 [0,0,0] H rfl (Ao rfl (call50 _) (EI pp mb n o (some (t2,c2::r::Q)) c2 (decide (h=0)) es hNc) H.f1 ?_);rintro _ w _ ⟨v4,v5,rfl,rfl⟩ H;replace H:=H.l4;have sv4:=H.says 0 rfl (fun h q=>q.slc)
       have sv5:=H.says 1 rfl (fun h q=>q.slc)
       refine Za 3 [] H rfl ?_;intro b6 w H;refine Ax rfl rfl (Ai 0 H rfl rfl rfl rfl (vs:=[.bool (decide (h=0)),v4,v5]) rfl (Ac rfl (Ac sv4.one (Ac sv5.one Ar))) (by kernel_rfl) (by simp) (out:=[.bool (decide (h=0)),v4,v5]) rfl) ?_;rintro w H;replace H:=H.l5;refine Z0 14 [4] rfl ?_;obtain ⟨ao1,cc1,rfl⟩:=sv4;have hat:=(H.rd 1 rfl (fun h q=>q.rd)).at (j:=0) (u:=Iv_ (nx es kr)) (by rw[List.getElem?_map,EJ hmc];rfl)
       replace H:=H.f1.f1.f4;refine AI (Sep z (blk b3 [Iv_ (c2:Int),Iv_ kr,Iv_ (r:Int)] 106::blk b6 [.bool (decide (h=0)),.slice ao1 ((kL es).length) cc1,v5] 92::grow 3 1 (.slice ao1 ((kL es).length) cc1) ((kL es).length) ((kL es).map Iv_)::R)) 19 rfl (by kernel_rfl) (Bc H fun w H'=> ?_)
       have H:=H'.l5;refine AW [0,1,2] [1,1,0] [] (by exact (H.pick 5 [0,1,2] rfl)) rfl (by kernel_rfl) rfl (BD 3 rfl (by kernel_rfl) (by kernel_rfl) (by kernel_rfl) rfl rfl rfl (Am rfl (z:=1) (j:=0) (r:=0) (by kernel_rfl) rfl rfl rfl (by simp only[List.length_map];omega) hat (by omega)) (H.pick 5 [0,1,2] rfl) (BD 4 rfl (by kernel_rfl) (by kernel_rfl) (by kernel_rfl) rfl rfl rfl (Ay rfl rfl (by kernel_rfl) (fun _ hx'=>(hx'.rd 2 rfl (fun h q=>q.rd)).at (j:=0) (u:=Iv_ (nx es kr)) (by rw[List.getElem?_map,EJ hmc];rfl))) (H.pick 5 [0,1,2] rfl) ?_));refine AW [5,6,8,9,10,11] [1,0,0,0,0,0,2,0,0] [] (by exact (H.pick 5 [0,1,2] rfl)) rfl (by kernel_rfl) rfl (Az [7,12] (by kernel_rfl) (by simp) (JJ ?_ ?_))
       ·refine B6 rfl rfl rfl rfl (AC H rfl (by kernel_rfl) A4 rfl (by decide) (by decide) (out:=[Iv_ (nx es kr),Iv_ kr]) (by kernel_rfl)) ?_;rintro _ w ⟨b7,rfl,H⟩;replace H:=H.l6;refine Av (H.pick 6 [1,2,3] rfl) (Az [12] (by kernel_rfl) (by simp) (Aw (B6 rfl rfl rfl rfl (AC H rfl (by kernel_rfl) A4 rfl (by decide) (by decide) (out:=[Iv_ (c2:Int),Iv_ (r:Int)]) (by kernel_rfl)) ?_)));rintro _ w ⟨b8,rfl,H⟩;replace H:=H.l7;refine Av (H.pick 7 [2,3,4] rfl) (AW [13] [] [] (by exact (H.pick 7 [2,3,4] rfl)) rfl (by kernel_rfl) rfl (Az [14] (by kernel_rfl) (by simp) (Aw (BQ rfl rfl rfl rfl rfl rfl (fun w=>call62 _ w) (GA pp mb n o t2 Q false _ _ [(nx es kr,c2),(kr,r)] _ _ (fun h q=>q.rd (by omega) (by omega) (by simp) rfl) (fun h q=>q.rd (by omega) (by omega) (by simp) rfl) (h+1) 0 1048576 2 (putE key val L) (by rw[hLs];exact hb1) (by simp) hb2 (by simp) hb3 hb4 (by have:=hSt2.k;have:=hP.hk;omega)) H.f1.f6 rfl ?_))));rintro _ w _ (⟨hnt3,rfl,rfl⟩|⟨t3,rt3,⟨hSt3,hTt3,hqt3⟩,rfl,rfl⟩) H'
        ·have H:=H'.l7;refine Av (H.pick 7 [3,4,5] rfl) (AW [15,16,17,18] [] [] (by exact (H.pick 7 [3,4,5] rfl)) rfl (by kernel_rfl) rfl (a_done (by kernel_rfl) (gn (Zc 2 rfl (Zr rfl ?_)))));exact ⟨_,.inl ⟨by have:=hSt2.f;omega,_,rfl,rfl⟩,H.perm 7 [0] rfl rfl⟩
        ·have H:=H'.l7;refine Av (H.pick 7 [3,4,5] rfl) (AW [15,16,17,18] [] [] (by exact (H.pick 7 [3,4,5] rfl)) rfl (by kernel_rfl) rfl (a_done (by kernel_rfl) (gn (Zc 2 rfl (Zr rfl ?_)))));exact ⟨_,.inr ⟨t3,rt3,⟨hSt2.trans hSt3 (fun p hp=>hp) (fun p hp=>hp) (by omega) (by omega),.inr hTt3⟩,rfl,rfl⟩,H.perm 7 [0] rfl rfl⟩
       ·refine B6 rfl rfl rfl rfl (AC H rfl (by kernel_rfl) A4 rfl (by decide) (by decide) (out:=[Iv_ (c2:Int),Iv_ (r:Int)]) (by kernel_rfl)) ?_;rintro _ w ⟨b9,rfl,H⟩;replace H:=H.l6;refine Av (H.pick 6 [1,2,3] rfl) (Az [7] (by kernel_rfl) (by simp) (Aw (B6 rfl rfl rfl rfl (AC H rfl (by kernel_rfl) A4 rfl (by decide) (by decide) (out:=[Iv_ (nx es kr),Iv_ kr]) (by kernel_rfl)) ?_)));rintro _ w ⟨b10,rfl,H⟩;replace H:=H.l7;refine Av (H.pick 7 [2,3,4] rfl) (AW [13] [] [] (by exact (H.pick 7 [2,3,4] rfl)) rfl (by kernel_rfl) rfl (Az [14] (by kernel_rfl) (by simp) (Aw (BQ rfl rfl rfl rfl rfl rfl (fun w=>call62 _ w) (GA pp mb n o t2 Q false _ _ [(nx es kr,c2),(kr,r)] _ _ (fun h q=>q.rd (by omega) (by omega) (by simp) rfl) (fun h q=>q.rd (by omega) (by omega) (by simp) rfl) (h+1) 0 1048576 2 (putE key val L) (by rw[hLs];exact hb1) (by simp) hb2 (by simp) hb3 hb4 (by have:=hSt2.k;have:=hP.hk;omega)) H.f1.f1.f6 rfl ?_))));rintro _ w _ (⟨hnt3,rfl,rfl⟩|⟨t3,rt3,⟨hSt3,hTt3,hqt3⟩,rfl,rfl⟩) H'
        ·have H:=H'.l7;refine Av (H.pick 7 [3,4,5] rfl) (AW [15,16,17,18] [] [] (by exact (H.pick 7 [3,4,5] rfl)) rfl (by kernel_rfl) rfl (a_done (by kernel_rfl) (gn (Zc 2 rfl (Zr rfl ?_)))));exact ⟨_,.inl ⟨by have:=hSt2.f;omega,_,rfl,rfl⟩,H.perm 7 [0] rfl rfl⟩
        ·have H:=H'.l7;refine Av (H.pick 7 [3,4,5] rfl) (AW [15,16,17,18] [] [] (by exact (H.pick 7 [3,4,5] rfl)) rfl (by kernel_rfl) rfl (a_done (by kernel_rfl) (gn (Zc 2 rfl (Zr rfl ?_)))));exact ⟨_,.inr ⟨t3,rt3,⟨hSt2.trans hSt3 (fun p hp=>hp) (fun p hp=>hp) (by omega) (by omega),.inr hTt3⟩,rfl,rfl⟩,H.perm 7 [0] rfl rfl⟩
end
section
open Go.RowKit
variable {Tb:Ae}
theorem Ws (pp mb n:Nat) (o:TB) (T:TT) (key:Int) (L:List E) (h0 r0:Nat) (lo0 hi0:Int) (m0:Nat) (hT0:Tr (HD o T) h0 r0 lo0 hi0 m0 L):Cn prog 57 [Pt_ pp,Iv_ (r0:Int),Iv_ key] [trA Tb pp mb n o T] (fun v Γ=>((∃ v0:Nat,(key,v0)∈L∧v= .tuple #[Iv_ (v0:Int),Iv_ 0])∨(¬ CH key L∧v= .tuple #[Iv_ 0,Iv_ 0]))∧Γ=[trA Tb pp mb n o T]):=by
 intro z R w H;replace H:=H.l1;have K:=H.says 0 rfl (fun h a=>trA.k a)
 have hn:=K.hn
 refine Ad func57 rfl ntmps57 rfl (Zc 18 rfl ?_);refine AD (σ:=Nat×Nat×List E) (fun ⟨h,r,L1⟩=>[(1,Iv_ (r:Int)),(0,Pt_ pp),(2,Iv_ key)])
   (fun ⟨h,r,L1⟩ w=>Sep z (trA Tb pp mb n o T::R) w∧((∃ lo hi m,Tr (HD o T) h r lo hi m L1)∧∀ v,(key,v)∈L1↔(key,v)∈L)) (fun ⟨h,r,L1⟩=>h) ⟨h0,r0,L⟩
   (fun _ hF=>(hF.all rfl)) ⟨H,⟨⟨_,_,_,hT0⟩,fun _=>Iff.rfl⟩⟩ ?_
 clear H;rintro ⟨h,r,L1⟩ w ⟨H',hI⟩;dsimp only at hI H' ⊢
 have H:=H'.l1;obtain ⟨⟨lo,hi,m,hT⟩,hiff⟩:=hI;obtain ⟨es,hN,hm,hrg,hok,hBd⟩:=Tr.iff.1 hT;have hnr:=K.i.nin r _ hN
 refine Z0 7 [0] rfl (Af rfl (fun h1=> ?_) (fun h1=> ?_))
 ·refine Zc 7 rfl (Ao rfl (call50 _) (EI pp mb n o T r (decide (h=0)) es hN) H ?_);rintro _ w _ ⟨v1,v2,rfl,rfl⟩ H;replace H:=H.l3;have sv1:=H.says 0 rfl (fun h q=>q.slc)
  have sv2:=H.says 1 rfl (fun h q=>q.slc)
  refine Za 3 [] H rfl ?_;intro b1 w H;refine Ax rfl rfl (Ai 0 H rfl rfl rfl rfl (vs:=[.bool (decide (h=0)),v1,v2]) rfl (Ac rfl (Ac sv1.one (Ac sv2.one Ar))) (by kernel_rfl) (by simp) (out:=[.bool (decide (h=0)),v1,v2]) rfl) ?_;rintro w H;replace H:=H.l4;refine Z2 20 [4,0,0,0] H rfl (E7 rfl (fun h2=> ?_) (fun h2=> ?_))
  ·have hh0:h=0:=of_decide_eq_true h2
   have hLe:L1=es:=by subst hh0;exact hBd.1
   refine Z2 5 [0,3] H rfl (Ao rfl (call94 _) (MZ (es:=es) (fun h q=>q.rd) (fun h q=>q.rd) hok.len hok.srt key) H.f2.f2 ?_);rintro _ w _ (⟨X,v0,Y,⟨hes,hX⟩,rfl,rfl⟩|⟨hno,i0,rfl,rfl⟩) H'
   ·have H:=H'.l4;refine Zc 14 rfl ?_;obtain ⟨ao2,cc2,rfl⟩:=sv2;have hat:=(H.rd 1 rfl (fun h q=>q.rd)).at (j:=X.length) (u:=Iv_ (v0:Int)) (by rw[hes];simp[vL])
    refine Z2 4 [2,2,0] H rfl (Ab rfl (Am rfl (z:=1) (j:=X.length) (r:=X.length) (by kernel_rfl) rfl rfl rfl (by rw[hes];simp) hat (by omega)) (Ab rfl (Ay rfl rfl (by kernel_rfl) (Au hat)) (Zc 5 rfl (Zr rfl ?_))));exact ⟨_,⟨.inl ⟨v0,(hiff v0).1 (by rw[hLe,hes];simp),rfl⟩,rfl⟩,H.perm 4 [3] rfl rfl⟩
   ·have H:=H'.l4;refine Zc 22 rfl (Zr rfl ?_);exact ⟨_,⟨.inr ⟨fun ⟨v,hv⟩=>hno ⟨v,by rw[←hLe];exact (hiff v).2 hv⟩,rfl⟩,rfl⟩,H.perm 4 [3] rfl rfl⟩
  ·obtain ⟨h',rfl⟩:∃ h',h=h'+1:=⟨h - 1,by have:=of_decide_eq_false h2;omega⟩;refine Zc 2 rfl ?_;obtain ⟨ao2,cc2,rfl⟩:=sv2;replace H:=H.f2.f1;refine AI (Sep z (blk b1 [.bool (decide ((h'+1)=0)),v1,.slice ao2 ((vL es).length) cc2] 92::grow 3 1 (.slice ao2 ((vL es).length) cc2) ((vL es).length) ((vL es).map Iv_)::R)) 8 rfl (by kernel_rfl) (Bc H fun w H'=> ?_)
   have H:=H'.l4;refine AW [0,1,2,3] [2,0,0,0,3] [] (by exact (H.pick 4 [0,1] rfl)) rfl (by kernel_rfl) rfl (Az [4] (by kernel_rfl) (by simp) (Aw (BQ rfl rfl rfl rfl rfl rfl (fun w=>call95 _ w) (Kj (es:=es) (fun h q=>q.rd) (fun h q=>q.rd) hok.len hok.srt (hok.ne (by simp)) key) H.f1.f2 rfl ?_)));rintro _ w _ ⟨X,e,Y,⟨hes,hX,hXe,hY⟩,rfl,rfl⟩ H;replace H:=H.l4;obtain ⟨Lc,hTc,hLc⟩:=Pu (by rw[←hes];exact hok.srt) (by rw[←hes];exact hrg) (by rw[←hes];exact hBd) hX hY;have hat:=(H.rd 1 rfl (fun h q=>q.rd)).at (j:=X.length) (u:=Iv_ (e.2:Int)) (by rw[hes];simp[vL])
   refine Av (H.pick 4 [2,1] rfl) (BD 5 rfl (by kernel_rfl) (by kernel_rfl) (by kernel_rfl) rfl rfl rfl (Am rfl (z:=1) (j:=X.length) (r:=X.length) (by kernel_rfl) rfl rfl rfl (by rw[hes];simp) hat (by omega)) (H.pick 4 [2,1] rfl) (BD 6 rfl (by kernel_rfl) (by kernel_rfl) (by kernel_rfl) rfl rfl rfl (Ay rfl rfl (by kernel_rfl) (fun _ hx'=>(hx'.rd 1 rfl (fun h q=>q.rd)).at (j:=X.length) (u:=Iv_ (e.2:Int)) (by rw[hes];simp[vL]))) (H.pick 4 [2,1] rfl) (AW [7] [] [] (by exact (H.pick 4 [2,1] rfl)) rfl (by kernel_rfl) rfl (a_done (by kernel_rfl) (gn (Zc 1 rfl ?_))))));replace H:=H.f2.d.f1.d.d;refine gf ?_;intro _ hF;refine ⟨⟨h',e.2,Lc⟩,(hF.all rfl),⟨H,?_⟩,?_⟩
   ·exact ⟨⟨_,_,_,hTc⟩,fun v=>(hLc v).trans (hiff v)⟩
   ·(dsimp only;omega)
 ·(exfalso;omega)
theorem Wt (pp:Nat) (key:Int):Cn prog 57 [Pt_ pp,Iv_ 0,Iv_ key] [] (fun v Γ=>v= .tuple #[Iv_ 0,Iv_ 0]∧Γ=[]):=by
 intro z R w H;replace H:=H.l0;refine Ad func57 rfl ntmps57 rfl (Zc 18 rfl (FH 1 (CP (Z0 10 [4] rfl (gx (Zc 9 rfl (Zr rfl ?_)))))));exact ⟨_,⟨rfl,rfl⟩,H⟩
end
section
open Go.RowKit
variable {Tb:Ae}
theorem Bd.nd {N:Hm} {h:Nat} {es:List E} {hi:Int} {L:List E} (q:Bd N h es hi L) (hs:Srt es) (hr:∀ e∈es,e.1<hi) (hd:(vals L).Nodup):(vals es).Nodup:=by
 cases h with
 | zero=>obtain ⟨rfl,_⟩:=q;exact hd
 | succ h=>exact Bd.nodup q hs hr
theorem CX (a:Nat) (X Y:List E):(vals (X++Y)).count a=(vals X).count a+(vals Y).count a:=by simp[vals]
theorem Do (a:Nat) (e:E) (Y:List E):(vals (e::Y)).count a=(vals Y).count a+if e.2 == a then 1 else 0:=by rw[Bz,List.count_cons]
theorem mp1 (X Y:List E) (e1 e2:E) (Q:List Nat):(vals (X++e1::e2::Y)++Q).Perm (e1.2::(vals X++(e2.2::(vals Y++Q)))):=
 List.perm_iff_count.2 fun a=>by
  simp only[List.count_append,List.count_cons,CX,Do];omega
theorem mp2 (c1 c2:Nat) (A B D:List Nat):(c1::(A++(B++(c2::D)))).Perm (c2::(c1::(A++(B++D)))):=
 List.perm_iff_count.2 fun a=>by simp only[List.count_append,List.count_cons];omega
theorem mp3 (c1 c2:Nat) (es1 es2 x y:List E) (W:List Nat) (h:es1++es2=x++y):(c2::(vals es2++(c1::(vals es1++W)))).Perm (c1::(vals x++(c2::(vals y++W)))):=
 List.perm_iff_count.2 fun a=>by
  have e:=congrArg (fun l=>(vals l).count a) h
  simp only[CX] at e
  simp only[List.count_append,List.count_cons];omega
theorem ZY (c1 c2:Nat) (es1 es2:List E) (W:List Nat):(c2::(vals es2++(c1::(vals es1++W)))).Perm (c1::(vals (es1++es2)++(c2::W))):=
 List.perm_iff_count.2 fun a=>by simp only[List.count_append,List.count_cons,CX];omega
theorem mp4 (c1 c2:Nat) (A W:List Nat):(c1::(c2::(A++W))).Perm (c2::(A++(c1::W))):=
 List.perm_iff_count.2 fun a=>by simp only[List.count_append,List.count_cons];omega
theorem mp5 (c1:Nat) (k:Int) (X Y:List E) (Q:List Nat):(c1::(vals X++(vals Y++Q))).Perm (vals (X++(k,c1)::Y)++Q):=
 List.perm_iff_count.2 fun a=>by simp only[List.count_append,List.count_cons,CX,Do];omega
theorem mp6 (c1 c2:Nat) (k k2:Int) (X Y:List E) (Q:List Nat):(c2::(c1::(vals X++(vals Y++Q)))).Perm (vals (X++(k,c1)::(k2,c2)::Y)++Q):=
 List.perm_iff_count.2 fun a=>by simp only[List.count_append,List.count_cons,CX,Do];omega
structure MnPre (n:Nat) (t:TS) (Q:List Nat) (h:Nat) (lo hi:Int) (X Y:List E) (e1 e2:E) (m1 m2:Nat) (L0 La Lb L2:List E):Prop where
 ok:(Nd.mk false (X++e1::e2::Y)).Ok
 r:Bp lo hi (X++e1::e2::Y)
 q0:Sq (fun c a b L=>Tr t.N h c a b 4 L) X e1.1 L0
 ta:Tr t.N h e1.2 e1.1 e2.1 m1 La
 tb:Tr t.N h e2.2 e2.1 (nx Y hi) m2 Lb
 q2:Sq (fun c a b L=>Tr t.N h c a b 4 L) Y hi L2
 m3:3≤m1∧3≤m2∧7≤m1+m2
 l0:0≤lo
 h1:hi≤1048576
 d:(vals (La++Lb)).Nodup
 hk:t.k+5<40
 hb:Q.length+30+n≤980
variable {t t1 t2 t3:TS} {Q:List Nat} {h:Nat} {lo hi:Int} {X Y:List E} {e1 e2:E} {L0 La Lb L2 es1 es2:List E}
theorem Rg (ok:Srt (X++e1::e2::Y)) (r:Bp lo hi (X++e1::e2::Y)):e1.1<e2.1∧e2.1<nx Y hi∧nx Y hi≤hi∧lo≤e1.1:=by
 obtain ⟨_,s2,_⟩:=Srt.app.1 ok
 obtain ⟨s3,s4⟩:=Srt.cons.1 s2
 have h2:=r e2 (by simp)
 refine ⟨s3 e2 (by simp),?_,Pq (fun x hx=>(r x (by simp[hx])).2),(r e1 (by simp)).1⟩
 cases Y with
 | nil=>exact h2.2
 | cons y u=>exact (Srt.cons.1 s4).1 y (by simp)
theorem Wu {N:Hm} (b1:Bd N h es1 e2.1 La) (b2:Bd N h es2 (nx Y hi) Lb) (s1:Srt es1) (s2:Srt es2) (r1:Bp e1.1 e2.1 es1) (r2:Bp e2.1 (nx Y hi) es2) (hne:es2≠[]) (h12:e1.1<e2.1) (h2:e2.1<nx Y hi):
  Bd N h (es1++es2) (nx Y hi) (La++Lb)∧Srt (es1++es2)∧Bp e1.1 (nx Y hi) (es1++es2):=by
 refine ⟨Bd.app.2 ⟨La,Lb,rfl,b1.hi ?_,b2⟩,Srt.app.2 ⟨s1,s2,fun a ha b hb=> ?_⟩,fun x hx=> ?_⟩
 ·obtain ⟨y,u,rfl⟩:=List.exists_cons_of_ne_nil hne
  exact (r2 y (by simp)).1
 ·have:=r1 a ha;have:=r2 b hb;omega
 ·rcases List.mem_append.1 hx with hx|hx
  ·have:=r1 x hx;omega
  ·have:=r2 x hx;omega
theorem Oy {N:Hm} {c1:Nat} (ok:(Nd.mk false (X++e1::e2::Y)).Ok) (r:Bp lo hi (X++e1::e2::Y)) (q0:Sq (fun c a b L=>Tr N h c a b 4 L) X e1.1 L0) (q2:Sq (fun c a b L=>Tr N h c a b 4 L) Y hi L2) (T:Tr N h c1 e1.1 (nx Y hi) 4 (La++Lb)):
  Bd N (h+1) (X++(e1.1,c1)::Y) hi (L0++(La++(Lb++L2)))∧Bp lo hi (X++(e1.1,c1)::Y)∧(Nd.mk false (X++(e1.1,c1)::Y)).Ok∧(vals (X++(e1.1,c1)::Y)).Nodup:=by
 have hs:Srt (X++e1::e2::Y):=ok.srt
 obtain ⟨s1,s2,s3⟩:=Srt.app.1 hs
 obtain ⟨s4,s5⟩:=Srt.cons.1 s2
 have hs':Srt (X++(e1.1,c1)::Y):=Srt.app.2 ⟨s1,Srt.cons.2 ⟨fun x hx=>s4 x (by simp[hx]),(Srt.cons.1 s5).2⟩,fun a ha b hb=>by
  rcases List.mem_cons.1 hb with rfl|hb
  ·exact s3 a ha e1 (by simp)
  ·exact s3 a ha b (by simp[hb])⟩
 have hr':Bp lo hi (X++(e1.1,c1)::Y):=fun x hx=>by
  rcases List.mem_append.1 hx with hx|hx
  ·exact r x (by simp[hx])
  ·rcases List.mem_cons.1 hx with rfl|hx
   ·exact r e1 (by simp)
   ·exact r x (by simp[hx])
 have hB:Bd N (h+1) (X++(e1.1,c1)::Y) hi (L0++(La++(Lb++L2))):=by
  have e:L0++(La++(Lb++L2))=L0++((La++Lb)++L2):=by simp
  rw[e];exact Sq.mk (e:=(e1.1,c1)) q0 T q2
 have hl:(X++e1::e2::Y).length≤8:=ok.len
 refine ⟨hB,hr',⟨hs',by simp at hl ⊢;omega,fun x hx=> ?_,fun _=>by simp⟩,hB.nodup hs' (fun x hx=>(hr' x hx).2)⟩
 rcases List.mem_append.1 hx with hx|hx
 ·exact ok.key x (by simp[hx])
 ·rcases List.mem_cons.1 hx with rfl|hx
  ·exact ok.key e1 (by simp)
  ·exact ok.key x (by simp[hx])
theorem mn_share {N:Hm} {c1 c2:Nat} {ky:Int} {M1 M2:List E} (ok:(Nd.mk false (X++e1::e2::Y)).Ok) (r:Bp lo hi (X++e1::e2::Y)) (q0:Sq (fun c a b L=>Tr N h c a b 4 L) X e1.1 L0) (q2:Sq (fun c a b L=>Tr N h c a b 4 L) Y hi L2) (T1:Tr N h c1 e1.1 ky 4 M1) (T2:Tr N h c2 ky (nx Y hi) 4 M2) (hM:M1++M2=La++Lb) (hk1:e1.1<ky) (hk2:ky<nx Y hi) (h1:hi≤1048576):
  Bd N (h+1) (X++(e1.1,c1)::(ky,c2)::Y) hi (L0++(La++(Lb++L2)))∧Bp lo hi (X++(e1.1,c1)::(ky,c2)::Y)∧(Nd.mk false (X++(e1.1,c1)::(ky,c2)::Y)).Ok∧(vals (X++(e1.1,c1)::(ky,c2)::Y)).Nodup:=by
 have hs:Srt (X++e1::e2::Y):=ok.srt
 obtain ⟨s1,s2,s3⟩:=Srt.app.1 hs
 obtain ⟨s4,s5⟩:=Srt.cons.1 s2
 obtain ⟨_,_,hhi,hlo⟩:=Rg hs r
 have hsY:=(Srt.cons.1 s5).2
 have hkY:∀ x∈Y,ky<x.1:=fun x hx=>by
  cases Y with
  | nil=>simp at hx
  | cons y u=>
   simp only[nx] at hk2
   rcases List.mem_cons.1 hx with rfl|hx
   ·exact hk2
   ·have:=(Srt.cons.1 hsY).1 x hx;omega
 have hs':Srt (X++(e1.1,c1)::(ky,c2)::Y):=Srt.app.2 ⟨s1,Srt.cons.2 ⟨fun x hx=>by
   rcases List.mem_cons.1 hx with rfl|hx
   ·exact hk1
   ·exact s4 x (by simp[hx]),Srt.cons.2 ⟨hkY,hsY⟩⟩,fun a ha b hb=>by
  have ha1:=s3 a ha e1 (by simp)
  rcases List.mem_cons.1 hb with rfl|hb
  ·exact ha1
  ·rcases List.mem_cons.1 hb with rfl|hb
   ·dsimp only;omega
   ·exact s3 a ha b (by simp[hb])⟩
 have hall:∀ x∈X++(e1.1,c1)::(ky,c2)::Y,lo≤x.1∧x.1<hi:=fun x hx=>by
  rcases List.mem_append.1 hx with hx|hx
  ·exact r x (by simp[hx])
  ·rcases List.mem_cons.1 hx with rfl|hx
   ·exact r e1 (by simp)
   ·rcases List.mem_cons.1 hx with rfl|hx
    ·dsimp only;omega
    ·exact r x (by simp[hx])
 have hB:Bd N (h+1) (X++(e1.1,c1)::(ky,c2)::Y) hi (L0++(La++(Lb++L2))):=by
  have e:L0++(La++(Lb++L2))=L0++(M1++(M2++L2)):=by
   rw[←List.append_assoc La,←hM];simp
  rw[e];exact Sq.mk (e:=(e1.1,c1)) (B:=(ky,c2)::Y) q0 T1 ⟨M2,L2,rfl,T2,q2⟩
 have hl:(X++e1::e2::Y).length≤8:=ok.len
 have k1:=ok.key e1 (by simp)
 refine ⟨hB,hall,⟨hs',by simp at hl ⊢;omega,fun x hx=> ?_,fun _=>by simp⟩,hB.nodup hs' (fun x hx=>(hall x hx).2)⟩
 rcases List.mem_append.1 hx with hx|hx
 ·exact ok.key x (by simp[hx])
 ·rcases List.mem_cons.1 hx with rfl|hx
  ·exact k1
  ·rcases List.mem_cons.1 hx with rfl|hx
   ·dsimp only
    omega
   ·exact ok.key x (by simp[hx])
section
variable {lf:Bool} {kv1 vv1 kv2 vv2:Value} {es1 es2:List E} {A1 B1 A2 B2:Ae}
theorem Wv (hA1:Fo A1 kv1 es1) (hB1:Fp B1 vv1 es1) (hA2:Fo A2 kv2 es2) (hB2:Fp B2 vv2 es2) (hck1:CkN lf (kL es1) (vL es1)) (hck2:CkN lf (kL es2) (vL es2)) (hs:Srt (es1++es2)) (h8:8<es1.length+es2.length) (x y:List E) (hx:x=(es1++es2).take (EO es1 es2)) (hy:y=(es1++es2).drop (EO es1 es2)):
  Cn prog 136 [CM lf kv1 vv1,CM lf kv2 vv2] [A1,B1,A2,B2] (fun v Γ=>∃ v1 v2 v3 v4:Value,v= .tuple #[CM lf v1 v2,CM lf v3 v4,Iv_ 0]∧Γ=[gK v1 x,gV v2 x,gK v3 y,gV v4 y,A1,B1,A2,B2]):=by
 subst hx hy;exact Wl hA1 hB1 hA2 hB2 hck1 hck2 hs h8
end
theorem IX (X:List E):(vals X).length=X.length:=by simp[vals]
theorem Oz {α:Type} (x:List α) (a b:α) (y:List α):(x++a::b::y).take (x.length+1)++(x++a::b::y).drop (x.length+1+1)=x++a::y:=by
 have e1:x++a::b::y=(x++[a])++(b::y):=by simp
 have e2:x++a::b::y=(x++[a,b])++y:=by simp
 have h1:(x++a::b::y).take (x.length+1)=x++[a]:=by rw[e1];exact List.take_left' (by simp)
 have h2:(x++a::b::y).drop (x.length+1+1)=y:=by rw[e2];exact List.drop_left' (by simp)
 rw[h1,h2];simp
theorem Ww {lf:Bool} {kv vv:Value} {X Y:List E} {a b:E} {A B:Ae} (hA:Fo A kv (X++a::b::Y)) (hB:Fp B vv (X++a::b::Y)) (hck:CkN lf (kL (X++a::b::Y)) (vL (X++a::b::Y))) (hck2:CkN lf (kL (X++a::Y)) (vL (X++a::Y))):
  Cn prog 97 [CM lf kv vv,Iv_ ((X.length+1:Nat):Int)] [A,B] (fun v Γ=>∃ v1 v2:Value,v= .tuple #[CM lf v1 v2,Iv_ 0]∧Γ=[gK v1 (X++a::Y),gV v2 (X++a::Y),A,B]):=
 Om lf kv vv _ _ A B hA hB hck (X.length+1) (by simp[kL]) (kL (X++a::Y)) (vL (X++a::Y)) (by simp only[kL,List.map_append,List.map_cons];have:=Oz (X.map Prod.fst) a.1 b.1 (Y.map Prod.fst);rw[List.length_map] at this;exact this) (by simp only[vL,List.map_append,List.map_cons];have:=Oz (X.map fun e=>(e.2:Int)) (a.2:Int) (b.2:Int) (Y.map fun e=>(e.2:Int));rw[List.length_map] at this;exact this) hck2
theorem Sq.st {t t':TS} {R:List Nat} {a b:Nat} (S:St t t' R a b) {h:Nat} {X:List E} {hi:Int} {L:List E} (hv:∀ v∈vals X,v∈R) (q:Sq (fun c a b L=>Tr t.N h c a b 4 L) X hi L):Sq (fun c a b L=>Tr t'.N h c a b 4 L) X hi L:=
 Sq.imp q fun x hx _ _ q=>S.fr _ (hv _ (List.mem_map_of_mem hx)) _ _ _ _ _ q
theorem St.t4 {t0 t1 t2 t3 t4:TS} {R1 R2 R3 R4 Q:List Nat} {k4:Nat} (a:St t0 t1 R1 1 1) (b:St t1 t2 R2 1 1) (c:St t2 t3 R3 0 1) (d:St t3 t4 R4 0 k4) (hk:k4≤1) (h1:∀ p∈Q,p∈R1) (h2:∀ p∈Q,p∈R2) (h3:∀ p∈Q,p∈R3) (h4:∀ p∈Q,p∈R4):St t0 t4 Q 2 4:=
 ((a.trans b h1 h2 (Nat.le_refl _) (Nat.le_refl _)).trans (c.trans d h3 h4 (Nat.le_refl _) (Nat.le_refl _)) (R:=Q) (R1:=Q) (R2:=Q) (fun _ q=>q) (fun _ q=>q) (by omega) (by omega))
abbrev Yl (Tb:Ae) (pp mb n:Nat) (o:TB) (t:TS) (Q:List Nat) (h:Nat) (lo hi:Int) (N8:Nat) (L:List E) (v:Value) (Γ:List Ae):Prop:=
 (cnt t.F 0 1024≤1∧∃ (v1 v2:Value) (es':List E) (s:TS×List Nat),v= .tuple #[CM false v1 v2,.int .i64 20]∧Γ=[gK v1 es',gV v2 es',trA Tb pp mb n o (some s)])∨
 ∃ (t2:TS) (es':List E) (v1 v2:Value),(St t t2 Q 2 4∧Bd t2.N (h+1) es' hi L∧Bp lo hi es'∧(Nd.mk false es').Ok∧(vals es').Nodup∧N8≤es'.length+1)∧v= .tuple #[CM false v1 v2,.int .i64 0]∧Γ=[gK v1 es',gV v2 es',trA Tb pp mb n o (some (t2,vals es'++Q))]
theorem Ym {c1 c2:Nat} (ok:(Nd.mk false (X++e1::e2::Y)).Ok):(Nd.mk false (X++(e1.1,c1)::(e2.1,c2)::Y)).Ok:=by
 have hs:Srt (X++e1::e2::Y):=ok.srt
 obtain ⟨s1,s2,s3⟩:=Srt.app.1 hs
 obtain ⟨s4,s5⟩:=Srt.cons.1 s2
 have hl:(X++e1::e2::Y).length≤8:=ok.len
 refine ⟨Srt.app.2 ⟨s1,Srt.cons.2 ⟨fun x hx=> ?_,Srt.cons.2 ⟨(Srt.cons.1 s5).1,(Srt.cons.1 s5).2⟩⟩,fun a ha b hb=> ?_⟩,by simp at hl ⊢;omega,fun x hx=> ?_,fun _=>by simp⟩
 ·rcases List.mem_cons.1 hx with rfl|hx
  ·exact s4 e2 (by simp)
  ·exact s4 x (by simp[hx])
 ·rcases List.mem_cons.1 hb with rfl|hb
  ·exact s3 a ha e1 (by simp)
  ·rcases List.mem_cons.1 hb with rfl|hb
   ·exact s3 a ha e2 (by simp)
   ·exact s3 a ha b (by simp[hb])
 ·have hx:x∈X++(e1.1,c1)::(e2.1,c2)::Y:=hx
  rcases List.mem_append.1 hx with hx|hx
  ·exact ok.key x (by simp[hx])
  ·rcases List.mem_cons.1 hx with rfl|hx
   ·exact ok.key e1 (by simp)
   ·rcases List.mem_cons.1 hx with rfl|hx
    ·exact ok.key e2 (by simp)
    ·exact ok.key x (by simp[hx])
end
section
open Go.RowKit
variable {Tb:Ae}
set_option maxHeartbeats 4000000 in
theorem Yn (pp mb n:Nat) (o:TB) (t:TS) (Q:List Nat) (kv vv:Value) (h:Nat) (lo hi:Int) (X Y:List E) (e1 e2:E) (m1 m2:Nat) (L0 La Lb L2:List E) (hP:MnPre n t Q h lo hi X Y e1 e2 m1 m2 L0 La Lb L2):Cn prog 99 [Pt_ pp,.agg #[.bool false,kv,vv],Iv_ (X.length:Int)] [trA Tb pp mb n o (some (t,vals (X++e1::e2::Y)++Q)),grow 3 1 kv ((kL (X++e1::e2::Y)).length) ((kL (X++e1::e2::Y)).map Iv_),grow 3 1 vv ((vL (X++e1::e2::Y)).length) ((vL (X++e1::e2::Y)).map Iv_)] (fun v Γ=>Yl Tb pp mb n o t Q h lo hi (X++e1::e2::Y).length (L0++(La++(Lb++L2))) v Γ):=by
 intro z R w H;replace H:=H.l3;obtain ⟨gk,capk,rest_gk,rfl,ck1,ck2,ck3,H⟩:=H.ungrow 1 rfl (by simp only[List.length_map,List.length_append,List.length_cons];omega);replace H:=H.l3;obtain ⟨gv,capv,rest_gv,rfl,cv1,cv2,cv3,H⟩:=H.ungrow 2 rfl (by simp only[List.length_map,List.length_append,List.length_cons];omega);replace H:=H.l3;have K:=H.says 0 rfl (fun h a=>trA.k a)
 have hn:=K.hn
 obtain ⟨hE1,hE2,hE3,hE4⟩:=Rg hP.ok.srt hP.r;obtain ⟨m31,m32,m33⟩:=hP.m3;have hPk:=hP.hk;have hPb:=hP.hb
 have hl8:(X++e1::e2::Y).length≤8:=hP.ok.len
 have hl9:X.length+Y.length+2≤8:=by simp only[List.length_append,List.length_cons] at hl8;omega
 obtain ⟨es1,hN1,hm1,hr1,ho1,hB1⟩:=Tr.iff.1 hP.ta;have hes18:es1.length≤8:=ho1.len
 replace H:=(H.mono 0 (B:=trA Tb pp mb n o (some (t,e1.2::(vals X++(e2.2::(vals Y++Q)))))) rfl (fun h q=>q.perm (mp1 X Y e1 e2 Q))).l3
 refine Ad func99 rfl ntmps99 rfl (Za 2 [] H rfl ?_);intro b1 w H;refine Za 0 [] H rfl ?_;intro b2 w H;refine Za 5 [] H rfl ?_;intro b3 w H;refine Zc 9 rfl (FH 3 (CP (Z3 25 [3,2,2,0] [(X.length:Int)] H rfl (by omega) (Ab rfl (B3 rfl (z:=1) (j:=X.length) (r:=X.length) (by kernel_rfl) rfl rfl rfl (by simp only[List.length_map,List.length_append,List.length_cons];omega) (by omega)) (Ab rfl (AO rfl rfl (by kernel_rfl) (Au (H.cel 5 rfl X.length (show ((vL (X++e1::e2::Y)).map Iv_++rest_gv)[X.length]? =some (Iv_ (e1.2:Int)) from (by rw[List.getElem?_append_left (by simp),List.getElem?_map];simp[vL]))))) ?_)))));refine Ao rfl (call96 _) (Ig pp mb n o t (vals X++(e2.2::(vals Y++Q))) e1.2 (decide (h=0)) es1 hN1 (by omega) (by simp only[List.length_cons,List.length_append,IX];omega)) H.f3 ?_;rintro _ w _ (⟨hnone1,v4,v5,s1,rfl,rfl⟩|⟨t1,c1,v4,v5,O1,rfl,rfl⟩) H'
 ·have H:=H'.l8;have sv4:=H.says 0 rfl (fun h q=>q.slc)
  have sv5:=H.says 1 rfl (fun h q=>q.slc)
  refine Za 4 [] H rfl ?_;intro b6 w H;refine Zc 1 rfl (Ax rfl rfl (Ai 0 H rfl rfl rfl rfl (vs:=[.bool (decide (h=0)),v4,v5]) rfl (Ac rfl (Ac sv4.one (Ac sv5.one Ar))) (by kernel_rfl) (by simp) (out:=[.bool (decide (h=0)),v4,v5]) rfl) ?_);rintro w H;replace H:=H.l9;refine Z4 20 [3,6,3,5] H rfl ?_;intro w H;refine Zl [5,3] H rfl ?_;replace H:=(H.mono 7 (B:=grow 3 1 (.slice (some ⟨gk,0,none⟩) ((kL (X++e1::e2::Y)).length) capk) ((kL (X++e1::e2::Y)).length) ((kL (X++e1::e2::Y)).map Iv_)) rfl (fun h q=>by exact q.grow (by omega) (by omega) (by have a:=ck3;have b:=ck1;simp only[List.length_append,List.length_map,List.length_cons] at a b ⊢;omega) (by rw[Nat.mul_one,List.take_left' (by simp)]))).l9
  replace H:=(H.mono 8 (B:=grow 3 1 (.slice (some ⟨gv,0,none⟩) ((vL (X++e1::e2::Y)).length) capv) ((vL (X++e1::e2::Y)).length) ((vL (X++e1::e2::Y)).map Iv_)) rfl (fun h q=>by exact q.grow (by omega) (by omega) (by have a:=cv3;have b:=cv1;simp only[List.length_append,List.length_map,List.length_cons] at a b ⊢;omega) (by rw[Nat.mul_one,List.take_left' (by simp)]))).l9
  exact ⟨_,.inl ⟨(by omega),_,_,_,_,rfl,rfl⟩,H.perm 9 [7,8,3] rfl rfl⟩
 ·have H:=H'.l8;have sv4:=H.says 0 rfl (fun h q=>q.slc)
  have sv5:=H.says 1 rfl (fun h q=>q.slc)
  refine Za 4 [] H rfl ?_;intro b7 w H;refine Zc 1 rfl (Ax rfl rfl (Ai 0 H rfl rfl rfl rfl (vs:=[.bool (decide (h=0)),v4,v5]) rfl (Ac rfl (Ac sv4.one (Ac sv5.one Ar))) (by kernel_rfl) (by simp) (out:=[.bool (decide (h=0)),v4,v5]) rfl) ?_);rintro w H;replace H:=H.l9;refine Z0 13 [4] rfl ?_;obtain ⟨es2,hN2,hm2,hr2,ho2,hB2⟩:=Tr.iff.1 (O1.st.fr e2.2 (by simp) _ _ _ _ _ hP.tb);have hes28:es2.length≤8:=ho2.len
  replace H:=(H.mono 3 (B:=trA Tb pp mb n o (some (t1,e2.2::(c1::(vals es1++(vals X++(vals Y++Q))))))) rfl (fun h q=>q.perm (mp2 c1 e2.2 (vals es1) (vals X) (vals Y++Q)))).l9
  replace H:=H.f6;refine AI (Sep z (blk b1 [.bool false,.slice (some ⟨gk,0,none⟩) ((kL (X++e1::e2::Y)).length) capk,.slice (some ⟨gv,0,none⟩) ((vL (X++e1::e2::Y)).length) capv] 92::blk b7 [.bool (decide (h=0)),v4,v5] 92::R)) 12 rfl (by kernel_rfl) (Bc H fun w H'=> ?_)
  have H:=H'.l9;refine Ho [0,1,2,3,4,5,6,7] [2,0,0,1,3] [(X.length:Int)] (by exact (H.pick 9 [0,1] rfl)) rfl (by kernel_rfl) (by omega) rfl (BD 8 rfl (by kernel_rfl) (by kernel_rfl) (by kernel_rfl) rfl rfl rfl (B3 rfl (z:=1) (j:=X.length) (r:=X.length) (by kernel_rfl) rfl rfl rfl (by simp only[List.length_map,List.length_append,List.length_cons];omega) (by omega)) (H.pick 9 [0,1] rfl) (Az [9] (by kernel_rfl) (by simp) (Aw (Bh rfl rfl rfl (Ai 8 H rfl rfl rfl rfl (vs:=[Iv_ (c1:Int)]) rfl (Ac rfl Ar) (by kernel_rfl) (by simp only[List.length_append,List.length_map,List.length_cons,List.length_nil];omega) (out:=((vL (X++(e1.1,c1)::e2::Y)).map Iv_++rest_gv)) ((Dk (by simp)).trans (by rw[show (vL (X++e1::e2::Y)).set (X.length) (c1:Int)=(vL (X++(e1.1,c1)::e2::Y)) from by simp[vL,List.set_append]]))) ?_))));rintro w H;replace H:=H.l9;refine Av (H.pick 9 [0,1] rfl) (Ho [10] [2,3,0,0] [] (by exact (H.pick 9 [0,1] rfl)) rfl (by kernel_rfl) (by omega) rfl (Az [11] (by kernel_rfl) (by simp) (Aw (Bh rfl rfl rfl (Ai 5 H rfl rfl rfl rfl (vs:=[.bool (decide (h=0)),v4,v5]) rfl (Ac rfl (Ac sv4.one (Ac sv5.one Ar))) (by kernel_rfl) (by simp) (out:=[.bool (decide (h=0)),v4,v5,.bool false,.slice none 0 0,.slice none 0 0]) rfl) ?_))));rintro w H;replace H:=H.l9;refine Av (H.pick 9 [0,1] rfl) (a_done (by kernel_rfl) (gn (Z1 6 [] [1] rfl (by omega) (gf (CP (Z3 25 [3,2,0,0] [(X.length:Int)+1] H rfl (by omega) (Ab rfl (B3 rfl (z:=1) (j:=(X.length+1)) (r:=(X.length+1)) (by kernel_rfl) rfl rfl (by omega) (by simp only[List.length_map,List.length_append,List.length_cons];omega) (by omega)) (Ab rfl (AO rfl rfl (by kernel_rfl) (Au (H.cel 8 rfl (X.length+1) (show ((vL (X++(e1.1,c1)::e2::Y)).map Iv_++rest_gv)[X.length+1]? =some (Iv_ (e2.2:Int)) from (by rw[List.getElem?_append_left (by simp),List.getElem?_map];simp[vL]))))) ?_))))))))
  refine Ao rfl (call96 _) (Ig pp mb n o t1 (c1::(vals es1++(vals X++(vals Y++Q)))) e2.2 (decide (h=0)) es2 hN2 (by have:=O1.st.k;omega) (by simp only[List.length_cons,List.length_append,IX];omega)) H.f4 ?_;rintro _ w _ (⟨hnone2,v8,v9,s2,rfl,rfl⟩|⟨t2,c2,v8,v9,O2,rfl,rfl⟩) H'
  ·have H:=H'.l11;have sv8:=H.says 0 rfl (fun h q=>q.slc)
   have sv9:=H.says 1 rfl (fun h q=>q.slc)
   refine Za 4 [] H rfl ?_;intro b10 w H;refine Zc 1 rfl (Ax rfl rfl (Ai 0 H rfl rfl rfl rfl (vs:=[.bool (decide (h=0)),v8,v9]) rfl (Ac rfl (Ac sv8.one (Ac sv9.one Ar))) (by kernel_rfl) (by simp) (out:=[.bool (decide (h=0)),v8,v9]) rfl) ?_);rintro w H;replace H:=H.l12;refine Z4 20 [3,4,3,9] H rfl ?_;intro w H;refine Zl [9,3] H rfl ?_;replace H:=(H.mono 10 (B:=grow 3 1 (.slice (some ⟨gk,0,none⟩) ((kL (X++e1::e2::Y)).length) capk) ((kL (X++(e1.1,c1)::e2::Y)).length) ((kL (X++(e1.1,c1)::e2::Y)).map Iv_)) rfl (fun h q=>by rw[show (kL (X++(e1.1,c1)::e2::Y)).length=(kL (X++e1::e2::Y)).length from by simp,show kL (X++(e1.1,c1)::e2::Y)=kL (X++e1::e2::Y) from by simp[kL]];exact q.grow (by omega) (by omega) (by have a:=ck3;have b:=ck1;simp only[List.length_append,List.length_map,List.length_cons] at a b ⊢;omega) (by rw[Nat.mul_one,List.take_left' (by simp)]))).l12
   replace H:=(H.mono 11 (B:=grow 3 1 (.slice (some ⟨gv,0,none⟩) ((vL (X++e1::e2::Y)).length) capv) ((vL (X++(e1.1,c1)::e2::Y)).length) ((vL (X++(e1.1,c1)::e2::Y)).map Iv_)) rfl (fun h q=>by rw[show (vL (X++(e1.1,c1)::e2::Y)).length=(vL (X++e1::e2::Y)).length from by simp];exact q.grow (by omega) (by omega) (by have a:=cv3;have b:=cv1;simp only[List.length_append,List.length_map,List.length_cons] at a b ⊢;omega) (by rw[Nat.mul_one,List.take_left' (by simp)]))).l12
   exact ⟨_,.inl ⟨(by have:=O1.st.f;omega),_,_,_,_,rfl,rfl⟩,H.perm 12 [10,11,3] rfl rfl⟩
  ·have H:=H'.l11;have sv8:=H.says 0 rfl (fun h q=>q.slc)
   have sv9:=H.says 1 rfl (fun h q=>q.slc)
   refine Za 4 [] H rfl ?_;intro b11 w H;refine Zc 1 rfl (Ax rfl rfl (Ai 0 H rfl rfl rfl rfl (vs:=[.bool (decide (h=0)),v8,v9]) rfl (Ac rfl (Ac sv8.one (Ac sv9.one Ar))) (by kernel_rfl) (by simp) (out:=[.bool (decide (h=0)),v8,v9]) rfl) ?_);rintro w H;replace H:=H.l12;refine Z0 13 [4] rfl ?_;replace H:=H.f4;refine AI (Sep z (blk b1 [.bool false,.slice (some ⟨gk,0,none⟩) ((kL (X++e1::e2::Y)).length) capk,.slice (some ⟨gv,0,none⟩) ((vL (X++e1::e2::Y)).length) capv] 92::blk b11 [.bool (decide (h=0)),v8,v9] 92::R)) 12 rfl (by kernel_rfl) (Bc H fun w H'=> ?_)
   have H:=H'.l12;refine Ho [0,1,2,3,4,5,6,7] [2,0,0,1,3] [(X.length:Int)+1] (by exact (H.pick 12 [0,1] rfl)) rfl (by kernel_rfl) (by omega) rfl (BD 8 rfl (by kernel_rfl) (by kernel_rfl) (by kernel_rfl) rfl rfl rfl (B3 rfl (z:=1) (j:=(X.length+1)) (r:=(X.length+1)) (by kernel_rfl) rfl rfl (by omega) (by simp only[List.length_map,List.length_append,List.length_cons];omega) (by omega)) (H.pick 12 [0,1] rfl) (Az [9] (by kernel_rfl) (by simp) (Aw (Bh rfl rfl rfl (Ai 11 H rfl rfl rfl rfl (vs:=[Iv_ (c2:Int)]) rfl (Ac rfl Ar) (by kernel_rfl) (by simp only[List.length_append,List.length_map,List.length_cons,List.length_nil];omega) (out:=((vL (X++(e1.1,c1)::(e2.1,c2)::Y)).map Iv_++rest_gv)) ((Dk (by simp)).trans (by rw[show (vL (X++(e1.1,c1)::e2::Y)).set (X.length+1) (c2:Int)=(vL (X++(e1.1,c1)::(e2.1,c2)::Y)) from by simp[vL,List.set_append]]))) ?_))));rintro w H;replace H:=H.l12;refine Av (H.pick 12 [0,1] rfl) (Ho [10] [2,3,1,3] [] (by exact (H.pick 12 [0,1] rfl)) rfl (by kernel_rfl) (by omega) rfl (Az [11] (by kernel_rfl) (by simp) (Aw (Bh rfl rfl rfl (Ai 8 H rfl rfl rfl rfl (vs:=[.bool (decide (h=0)),v8,v9]) rfl (Ac rfl (Ac sv8.one (Ac sv9.one Ar))) (by kernel_rfl) (by simp) (out:=[.bool (decide (h=0)),v4,v5,.bool (decide (h=0)),v8,v9]) rfl) ?_))));rintro w H;replace H:=H.l12;refine Av (H.pick 12 [0,1] rfl) (a_done (by kernel_rfl) (gn (Z1 6 [] [2] rfl (by omega) (gf (CP (Z0 9 [4] rfl (gx (Zc 3 rfl ?_))))))))
   have K2:=H.says 4 rfl (fun h a=>trA.k a)
   have hB1b:Bd t2.N h es1 e2.1 La:=O2.st.bd (fun v hv=>by simp[hv]) (O1.bd hB1)
   have hB2b:Bd t2.N h es2 (nx Y hi) Lb:=O2.bd hB2
   have hne2:es2≠[]:=fun q=>by rw[q] at hm2;simp at hm2;omega
   obtain ⟨hBB,hsB,hrB⟩:=Wu hB1b hB2b ho1.srt ho2.srt hr1 hr2 hne2 hE1 hE2;have hdB:(vals (es1++es2)).Nodup:=hBB.nd hsB (fun x hx=>(hrB x hx).2) hP.d
   have hc1o:=O2.st.op c1 (by simp) O1.N0 O1.C1
   have hq0:Sq (fun c a b L=>Tr t2.N h c a b 4 L) X e1.1 L0:=Sq.imp hP.q0 fun x hx _ _ q=>O2.st.fr _ (by simp[List.mem_map_of_mem hx,vals]) _ _ _ _ _ (O1.st.fr _ (by simp[List.mem_map_of_mem hx,vals]) _ _ _ _ _ q)
   have hq2:Sq (fun c a b L=>Tr t2.N h c a b 4 L) Y hi L2:=Sq.imp hP.q2 fun x hx _ _ q=>O2.st.fr _ (by simp[List.mem_map_of_mem hx,vals]) _ _ _ _ _ (O1.st.fr _ (by simp[List.mem_map_of_mem hx,vals]) _ _ _ _ _ q)
   have hv1:∀ v∈vals es1,1≤v∧v<1024:=fun v hv=>by have:=K2.i.rin v (by simp[B8,hv]);omega
   have hv2:∀ v∈vals es2,1≤v∧v<1024:=fun v hv=>by have:=K2.i.rin v (by simp[B8,hv]);omega
   have hck1:=CkN.of ho1 hv1
   have hck2:=CkN.of ho2 hv2
   have hkB:=Ii hrB (by have:=hP.l0;omega) (by have:=hP.h1;omega)
   refine Z3 5 [2,3,0,0,8,3,2,3,1,3,8,3] [] H rfl (by omega) ?_;rcases Nat.lt_or_ge 8 (es1.length+es2.length) with hj|hj
   ·refine z_E_ rfl (call135 _) (joinF_e (fun h q=>q.rd) (fun h q=>q.rd) (fun h q=>q.rd) (fun h q=>q.rd) hck1 hck2 hsB hj) H.f3.f3.f7.f7 ?_;intro w H;refine Za 3 [] H rfl ?_;intro b14 w H;refine Z5 20 [0,4,2,3,0,0,9,3,2,3,1,3,9,3] [] H rfl (by omega) ?_;intro w H;have hfl:5≤EO es1 es2∧EO es1 es2≤8∧4≤(es1++es2).length - EO es1 es2∧(es1++es2).length - EO es1 es2≤8:=by unfold EO;simp only[List.length_append];omega
    have hsp:=List.take_append_drop (EO es1 es2) (es1++es2)
    obtain ⟨x_,hx_⟩:∃ x_,x_=(es1++es2).take (EO es1 es2):=⟨_,rfl⟩;obtain ⟨y_,hy_⟩:∃ y_,y_=(es1++es2).drop (EO es1 es2):=⟨_,rfl⟩;refine Ao rfl (call136 _) (Wv (fun h q=>q.rd) (fun h q=>q.rd) (fun h q=>q.rd) (fun h q=>q.rd) hck1 hck2 hsB hj x_ y_ hx_ hy_) H.f4.f4.f4.f4 ?_;rintro _ w _ ⟨v15,v16,v17,v18,rfl,rfl⟩ H;replace H:=H.l17;have sv15:=H.says 0 rfl (fun h q=>q.slc)
    have sv16:=H.says 1 rfl (fun h q=>q.slc)
    have sv17:=H.says 2 rfl (fun h q=>q.slc)
    have sv18:=H.says 3 rfl (fun h q=>q.slc)
    have hxl:4≤x_.length∧x_.length≤8:=by rw[hx_,List.length_take];simp only[List.length_append] at hfl ⊢;omega
    have hyl:4≤y_.length∧y_.length≤8:=by rw[hy_,List.length_drop];exact hfl.2.2
    rw[←hx_,←hy_] at hsp;rw[←hsp] at hBB hsB hrB hdB hkB;have hxne:x_≠[]:=fun q=>by rw[q] at hxl;simp at hxl
    have hyne:y_≠[]:=fun q=>by rw[q] at hyl;simp at hyl
    obtain ⟨M1,M2,hM,hBx,hBy⟩:=Bd.app.1 hBB;obtain ⟨hrx,hry,hky1,hky2⟩:=MV hsB hrB hxne hyne;obtain ⟨hsx,hsy,_⟩:=Srt.app.1 hsB;rw[Bi,List.nodup_append] at hdB;obtain ⟨ky,hky⟩:∃ ky,ky=nx y_ (nx Y hi):=⟨_,rfl⟩;rw[←hky] at hBx hrx hry hky1 hky2;have hox:(Nd.mk (decide (h=0)) x_).Ok:=⟨hsx,hxl.2,fun e he=>hkB e (by simp[he]),fun _=>hxne⟩
    have hoy:(Nd.mk (decide (h=0)) y_).Ok:=⟨hsy,hyl.2,fun e he=>hkB e (by simp[he]),fun _=>hyne⟩
    have hpm:(c2::(vals es2++(c1::(vals es1++(vals X++(vals Y++Q)))))).Perm (c1::(vals x_++(c2::(vals y_++(vals X++(vals Y++Q)))))):=mp3 c1 c2 es1 es2 x_ y_ _ hsp.symm
    refine Za 4 [] H rfl ?_;intro b19 w H;refine Za 0 [] H rfl ?_;intro b20 w H;refine Ax rfl rfl (Ai 1 H rfl rfl rfl rfl (vs:=[.bool (decide (h=0)),v15,v16]) rfl (Ac rfl (Ac sv15.one (Ac sv16.one Ar))) (by kernel_rfl) (by simp) (out:=[.bool (decide (h=0)),v15,v16]) rfl) ?_;rintro w H;replace H:=H.l19;refine Ax rfl rfl (Ai 0 H rfl rfl rfl rfl (vs:=[.bool (decide (h=0)),v17,v18]) rfl (Ac rfl (Ac sv17.one (Ac sv18.one Ar))) (by kernel_rfl) (by simp) (out:=[.bool (decide (h=0)),v17,v18]) rfl) ?_;rintro w H;replace H:=H.l19;refine Z0 15 [4] rfl ?_;replace H:=(H.mono 13 (B:=trA Tb pp mb n o (some (t2,c1::(vals x_++(c2::(vals y_++(vals X++(vals Y++Q)))))))) rfl (fun h q=>q.perm hpm)).l19
    replace H:=(H.pick 19 [11,1,18,0,2,3,4,5,6,7,8,9,10,12,13,14,15,16,17] rfl).l19
    refine AI (Sep z (blk b1 [.bool false,.slice (some ⟨gk,0,none⟩) ((kL (X++e1::e2::Y)).length) capk,.slice (some ⟨gv,0,none⟩) ((vL (X++e1::e2::Y)).length) capv] 92::blk b19 [.bool (decide (h=0)),v15,v16] 92::blk gv ((vL (X++(e1.1,c1)::(e2.1,c2)::Y)).map Iv_++rest_gv) 3::R)) 9 rfl (by kernel_rfl) (Bc H fun w H'=> ?_)
    have H:=H'.l19;refine AW [0,1,2,3] [2,0,0] [] (by exact (H.pick 19 [0,1,2] rfl)) rfl (by kernel_rfl) rfl (BD 4 rfl (by kernel_rfl) (by kernel_rfl) (by kernel_rfl) rfl rfl rfl (B3 rfl (z:=1) (j:=X.length) (r:=X.length) (by kernel_rfl) rfl rfl rfl (by simp only[List.length_map,List.length_append,List.length_cons];omega) (by omega)) (H.pick 19 [0,1,2] rfl) (BD 5 rfl (by kernel_rfl) (by kernel_rfl) (by kernel_rfl) rfl rfl rfl (AO rfl rfl (by kernel_rfl) (fun _ hx=>hx.cel 2 rfl X.length (show ((vL (X++(e1.1,c1)::(e2.1,c2)::Y)).map Iv_++rest_gv)[X.length]? =some (Iv_ (c1:Int)) from (by rw[List.getElem?_append_left (by simp),List.getElem?_map];simp[vL])))) (H.pick 19 [0,1,2] rfl) ?_));refine AW [6] [1,3] [] (by exact (H.pick 19 [0,1,2] rfl)) rfl (by kernel_rfl) rfl (Az [7] (by kernel_rfl) (by simp) (Aw (NG rfl rfl rfl rfl rfl rfl (fun w=>call98 _ w) (E2 pp mb n o t2 (c2::(vals y_++(vals X++(vals Y++Q)))) c1 (decide (h=0)) _ _ x_ _ _ (fun h q=>q.rd) (fun h q=>q.rd) h e1.1 ky 4 M1 hBx rfl hrx hxl.1 hox hdB.1 hc1o.2 hc1o.1 (by have:=O1.st.k;have:=O2.st.k;omega)) H 15 [14,4,5,0,1,2,3,6,7,8,9,10,11,12,13] rfl rfl ?_)));rintro _ w _ ⟨t3,⟨hSt3,hT3,hC3,hN3⟩,rfl,rfl⟩ H;replace H:=H.l19;refine Av (H.pick 19 [3,4,5] rfl) (AW [8] [] [] (by exact (H.pick 19 [3,4,5] rfl)) rfl (by kernel_rfl) rfl (a_done (by kernel_rfl) (gn (Z0 11 [4] rfl ?_))));obtain ⟨aoy,cc21,rfl⟩:=sv17;have haty:=(H.rd 7 rfl (fun h q=>q.rd)).at (j:=0) (u:=Iv_ ky) (by rw[List.getElem?_map,EJ (hi:=nx Y hi) hyl.1,hky];rfl)
    replace H:=(H.pick 19 [3,6,7,0,1,2,4,5,8,9,10,11,12,13,14,15,16,17,18] rfl).l19
    refine AI (Sep z (blk b1 [.bool false,.slice (some ⟨gk,0,none⟩) ((kL (X++e1::e2::Y)).length) capk,.slice (some ⟨gv,0,none⟩) ((vL (X++e1::e2::Y)).length) capv] 92::blk b20 [.bool (decide (h=0)),.slice aoy ((kL y_).length) cc21,v18] 92::grow 3 1 (.slice aoy ((kL y_).length) cc21) ((kL y_).length) ((kL y_).map Iv_)::R)) 10 rfl (by kernel_rfl) (Bc H fun w H'=> ?_)
    have H:=H'.l19;refine Ho [0,1,2,3,4,5] [1,0,0,1,1,0] [(X.length:Int)+1] (by exact (H.pick 19 [0,1,2] rfl)) rfl (by kernel_rfl) (by omega) rfl (BD 6 rfl (by kernel_rfl) (by kernel_rfl) (by kernel_rfl) rfl rfl rfl (Am rfl (z:=1) (j:=0) (r:=0) (by kernel_rfl) rfl rfl rfl (by simp only[List.length_map];omega) haty (by omega)) (H.pick 19 [0,1,2] rfl) (BD 7 rfl (by kernel_rfl) (by kernel_rfl) (by kernel_rfl) rfl rfl rfl (Ay rfl rfl (by kernel_rfl) (fun _ hx'=>(hx'.rd 2 rfl (fun h q=>q.rd)).at (j:=0) (u:=Iv_ ky) (by rw[List.getElem?_map,EJ (hi:=nx Y hi) hyl.1,hky];rfl))) (H.pick 19 [0,1,2] rfl) ?_));refine BD 8 rfl (by kernel_rfl) (by kernel_rfl) (by kernel_rfl) rfl rfl rfl (B3 rfl (z:=1) (j:=(X.length+1)) (r:=(X.length+1)) (by kernel_rfl) rfl rfl (by omega) (by simp only[List.length_map,List.length_append,List.length_cons];omega) (by omega)) (H.pick 19 [0,1,2] rfl) (Az [9] (by kernel_rfl) (by simp) (Aw (Bh rfl rfl rfl (Ai 18 H rfl rfl rfl rfl (vs:=[Iv_ ky]) rfl (Ac rfl Ar) (by kernel_rfl) (by simp only[List.length_append,List.length_map,List.length_cons,List.length_nil];omega) (out:=((kL (X++(e1.1,c1)::(ky,c2)::Y)).map Iv_++rest_gk)) ((Dk (by simp)).trans (by rw[show (kL (X++e1::e2::Y)).set (X.length+1) ky=(kL (X++(e1.1,c1)::(ky,c2)::Y)) from by simp[kL,List.set_append]]))) ?_)));rintro w H;replace H:=H.l19;refine Av (H.pick 19 [0,1,2] rfl) (a_done (by kernel_rfl) (gn (Zc 2 rfl ?_)))
    replace H:=(H.mono 3 (B:=trA Tb pp mb n o (some (t3,c2::(vals y_++(c1::(vals X++(vals Y++Q))))))) rfl (fun h q=>q.perm (mp4 c1 c2 _ _))).l19
    replace H:=(H.pick 19 [0,1,7,2,3,4,5,6,8,9,10,11,12,13,14,15,16,17,18] rfl).l19
    refine AI (Sep z (blk b1 [.bool false,.slice (some ⟨gk,0,none⟩) ((kL (X++e1::e2::Y)).length) capk,.slice (some ⟨gv,0,none⟩) ((vL (X++e1::e2::Y)).length) capv] 92::blk b20 [.bool (decide (h=0)),.slice aoy ((kL y_).length) cc21,v18] 92::blk gv ((vL (X++(e1.1,c1)::(e2.1,c2)::Y)).map Iv_++rest_gv) 3::R)) 12 rfl (by kernel_rfl) (Bc H fun w H'=> ?_)
    have H:=H'.l19;refine Ho [0,1,2,3,4,5] [0,3,2,0,0] [(X.length:Int)+1] (by exact (H.pick 19 [0,1,2] rfl)) rfl (by kernel_rfl) (by omega) rfl (BD 6 rfl (by kernel_rfl) (by kernel_rfl) (by kernel_rfl) rfl rfl rfl (B3 rfl (z:=1) (j:=(X.length+1)) (r:=(X.length+1)) (by kernel_rfl) rfl rfl (by omega) (by simp only[List.length_map,List.length_append,List.length_cons];omega) (by omega)) (H.pick 19 [0,1,2] rfl) (BD 7 rfl (by kernel_rfl) (by kernel_rfl) (by kernel_rfl) rfl rfl rfl (AO rfl rfl (by kernel_rfl) (fun _ hx=>hx.cel 2 rfl (X.length+1) (show ((vL (X++(e1.1,c1)::(e2.1,c2)::Y)).map Iv_++rest_gv)[X.length+1]? =some (Iv_ (c2:Int)) from (by rw[List.getElem?_append_left (by simp),List.getElem?_map];simp[vL])))) (H.pick 19 [0,1,2] rfl) ?_));refine AW [8] [1,3] [] (by exact (H.pick 19 [0,1,2] rfl)) rfl (by kernel_rfl) rfl (Az [9] (by kernel_rfl) (by simp) (Aw (NG rfl rfl rfl rfl rfl rfl (fun w=>call98 _ w) (E2 pp mb n o t3 (c1::(vals X++(vals Y++Q))) c2 (decide (h=0)) _ _ y_ _ _ (fun h q=>q.rd) (fun h q=>q.rd) h ky (nx Y hi) 4 M2 (hSt3.bd (fun v hv=>by simp[hv]) hBy) rfl hry hyl.1 hoy hdB.2.1 (hSt3.op c2 (by simp) O2.N0 O2.C1).2 (hSt3.op c2 (by simp) O2.N0 O2.C1).1 (by have:=O1.st.k;have:=O2.st.k;have:=hSt3.k;omega)) H 9 [4,3,8,0,1,2,5,6,7] rfl rfl ?_)));rintro _ w _ ⟨t4,⟨hSt4,hT4,hC4,hN4⟩,rfl,rfl⟩ H;replace H:=H.l19;refine Av (H.pick 19 [3,4,5] rfl) (Az [10] (by kernel_rfl) (by simp) (Aw (Bh rfl rfl rfl (Ai 17 H rfl rfl rfl rfl (vs:=[.bool false,.slice (some ⟨gk,0,none⟩) ((kL (X++e1::e2::Y)).length) capk,.slice (some ⟨gv,0,none⟩) ((vL (X++e1::e2::Y)).length) capv]) rfl (by simp[u8,u32,Value.oneCell']) (by kernel_rfl) (by simp) (out:=[.bool false,.slice (some ⟨gk,0,none⟩) ((kL (X++e1::e2::Y)).length) capk,.slice (some ⟨gv,0,none⟩) ((vL (X++e1::e2::Y)).length) capv]) rfl) ?_)))
    rintro w H;replace H:=H.l19;refine Av (H.pick 19 [3,4,5] rfl) (AW [11] [] [] (by exact (H.pick 19 [3,4,5] rfl)) rfl (by kernel_rfl) rfl (a_done (by kernel_rfl) (gn (Zc 2 rfl (Zl [17,3] H rfl ?_)))));replace H:=(H.mono 18 (B:=grow 3 1 (.slice (some ⟨gk,0,none⟩) ((kL (X++e1::e2::Y)).length) capk) ((kL (X++(e1.1,c1)::(ky,c2)::Y)).length) ((kL (X++(e1.1,c1)::(ky,c2)::Y)).map Iv_)) rfl (fun h q=>by rw[show (kL (X++(e1.1,c1)::(ky,c2)::Y)).length=(kL (X++e1::e2::Y)).length from by simp];exact q.grow (by omega) (by omega) (by have a:=ck3;have b:=ck1;simp only[List.length_append,List.length_map,List.length_cons] at a b ⊢;omega) (by rw[Nat.mul_one,List.take_left' (by simp)]))).l19
    replace H:=(H.mono 5 (B:=grow 3 1 (.slice (some ⟨gv,0,none⟩) ((vL (X++e1::e2::Y)).length) capv) ((vL (X++(e1.1,c1)::(ky,c2)::Y)).length) ((vL (X++(e1.1,c1)::(ky,c2)::Y)).map Iv_)) rfl (fun h q=>by rw[show (vL (X++(e1.1,c1)::(ky,c2)::Y)).length=(vL (X++e1::e2::Y)).length from by simp,show vL (X++(e1.1,c1)::(ky,c2)::Y)=vL (X++(e1.1,c1)::(e2.1,c2)::Y) from by simp[vL]];exact q.grow (by omega) (by omega) (by have a:=cv3;have b:=cv1;simp only[List.length_append,List.length_map,List.length_cons] at a b ⊢;omega) (by rw[Nat.mul_one,List.take_left' (by simp)]))).l19
    replace H:=(H.mono 0 (B:=trA Tb pp mb n o (some (t4,vals (X++(e1.1,c1)::(ky,c2)::Y)++Q))) rfl (fun h q=>q.perm (mp6 c1 c2 e1.1 ky X Y Q))).l19
    have hj4:=mn_share (c1:=c1) (c2:=c2) hP.ok hP.r (Sq.st hSt4 (fun v hv=>by simp[hv]) (Sq.st hSt3 (fun v hv=>by simp[hv]) hq0)) (Sq.st hSt4 (fun v hv=>by simp[hv]) (Sq.st hSt3 (fun v hv=>by simp[hv]) hq2)) (hSt4.fr c1 (by simp) _ _ _ _ _ hT3) hT4 hM.symm hky1 hky2 hP.h1
    exact ⟨_,.inr ⟨t4,_,_,_,⟨St.t4 O1.st O2.st hSt3 hSt4 (by omega) (fun p hp=>by simp[hp]) (fun p hp=>by simp[hp]) (fun p hp=>by simp[hp]) (fun p hp=>by simp[hp]),hj4.1,hj4.2.1,hj4.2.2.1,hj4.2.2.2,by simp⟩,rfl,rfl⟩,H.perm 19 [18,5,0] rfl rfl⟩
   ·refine Ao rfl (call135 _) (Yd (fun h q=>q.rd) (fun h q=>q.rd) (fun h q=>q.rd) (fun h q=>q.rd) hck1 hck2 hsB hj) H.f3.f3.f7.f7 ?_;rintro _ w _ ⟨v12,v13,rfl,rfl⟩ H;replace H:=H.l14;have sv12:=H.says 0 rfl (fun h q=>q.slc)
    have sv13:=H.says 1 rfl (fun h q=>q.slc)
    refine Za 3 [] H rfl ?_;intro b22 w H;refine Ax rfl rfl (Ai 0 H rfl rfl rfl rfl (vs:=[.bool (decide (h=0)),v12,v13]) rfl (Ac rfl (Ac sv12.one (Ac sv13.one Ar))) (by kernel_rfl) (by simp) (out:=[.bool (decide (h=0)),v12,v13]) rfl) ?_;rintro w H;replace H:=H.l15;refine Z0 13 [3] rfl ?_;have hoB:(Nd.mk (decide (h=0)) (es1++es2)).Ok:=⟨hsB,by simp;omega,hkB,fun _=>by simp[hne2]⟩
    replace H:=(H.mono 9 (B:=trA Tb pp mb n o (some (t2,c1::(vals (es1++es2)++(c2::(vals X++(vals Y++Q))))))) rfl (fun h q=>q.perm (ZY c1 c2 es1 es2 _))).l15
    replace H:=H.f14.f1.f8;refine AI (Sep z (blk b1 [.bool false,.slice (some ⟨gk,0,none⟩) ((kL (X++e1::e2::Y)).length) capk,.slice (some ⟨gv,0,none⟩) ((vL (X++e1::e2::Y)).length) capv] 92::blk b22 [.bool (decide (h=0)),v12,v13] 92::blk gv ((vL (X++(e1.1,c1)::(e2.1,c2)::Y)).map Iv_++rest_gv) 3::R)) 9 rfl (by kernel_rfl) (Bc H fun w H'=> ?_)
    have H:=H'.l15;refine AW [0,1,2,3] [2,0,0] [] (by exact (H.pick 15 [0,1,2] rfl)) rfl (by kernel_rfl) rfl (BD 4 rfl (by kernel_rfl) (by kernel_rfl) (by kernel_rfl) rfl rfl rfl (B3 rfl (z:=1) (j:=X.length) (r:=X.length) (by kernel_rfl) rfl rfl rfl (by simp only[List.length_map,List.length_append,List.length_cons];omega) (by omega)) (H.pick 15 [0,1,2] rfl) (BD 5 rfl (by kernel_rfl) (by kernel_rfl) (by kernel_rfl) rfl rfl rfl (AO rfl rfl (by kernel_rfl) (fun _ hx=>hx.cel 2 rfl X.length (show ((vL (X++(e1.1,c1)::(e2.1,c2)::Y)).map Iv_++rest_gv)[X.length]? =some (Iv_ (c1:Int)) from (by rw[List.getElem?_append_left (by simp),List.getElem?_map];simp[vL])))) (H.pick 15 [0,1,2] rfl) ?_));refine AW [6] [1,3] [] (by exact (H.pick 15 [0,1,2] rfl)) rfl (by kernel_rfl) rfl (Az [7] (by kernel_rfl) (by simp) (Aw (BQ rfl rfl rfl rfl rfl rfl (fun w=>call98 _ w) (E2 pp mb n o t2 (c2::(vals X++(vals Y++Q))) c1 (decide (h=0)) _ _ (es1++es2) _ _ (fun h q=>q.rd) (fun h q=>q.rd) h e1.1 (nx Y hi) 4 (La++Lb) hBB rfl hrB (by simp;omega) hoB hdB hc1o.2 hc1o.1 (by have:=O1.st.k;have:=O2.st.k;omega)) H.f4.f4.f10 rfl ?_)));rintro _ w _ ⟨t3,⟨hSt3,hT3,hC3,hN3⟩,rfl,rfl⟩ H;replace H:=H.l15;refine Av (H.pick 15 [3,4,5] rfl) (AW [8] [] [] (by exact (H.pick 15 [3,4,5] rfl)) rfl (by kernel_rfl) rfl (a_done (by kernel_rfl) (gn (Z0 12 [4] rfl ?_))));replace H:=(H.mono 0 (B:=trA Tb pp mb n o (some (t3,c2::(c1::(vals X++(vals Y++Q)))))) rfl (fun h q=>q.perm (List.Perm.swap _ _ _))).l15
    refine Z3 6 [2,3,0] [(X.length:Int)+1] H rfl (by omega) (Ab rfl (B3 rfl (z:=1) (j:=(X.length+1)) (r:=(X.length+1)) (by kernel_rfl) rfl rfl (by omega) (by simp only[List.length_map,List.length_append,List.length_cons];omega) (by omega)) (Ab rfl (AO rfl rfl (by kernel_rfl) (Au (H.cel 5 rfl (X.length+1) (show ((vL (X++(e1.1,c1)::(e2.1,c2)::Y)).map Iv_++rest_gv)[X.length+1]? =some (Iv_ (c2:Int)) from (by rw[List.getElem?_append_left (by simp),List.getElem?_map];simp[vL]))))) ?_));refine Ao rfl (call52 _) (DE pp mb n o t3 _ c2 (fun d q=>by rw[(hSt3.op c2 (by simp) O2.N0 O2.C1).1] at q;cases q)) H ?_;rintro _ w _ ⟨t4,⟨hS4,hq4,hC4,hN4,hF4⟩,rfl,rfl⟩ H;refine Z0 13 [4] rfl ?_;have K4:=H.says 0 rfl (fun h a=>trA.k a)
    have hvW:∀ v∈vals X++vals Y,1≤v∧v<1024:=fun v hv=>by have:=K4.i.rin v (by simp only[B8,List.mem_cons,List.mem_append] at hv ⊢;rcases hv with h|h<;>simp[h]);omega
    have hvc1:1≤c1∧c1<1024:=by have:=K4.i.rin c1 (by simp[B8]);omega
    have hvc2:1≤c2∧c2<1024:=by have:=K2.i.rin c2 (by simp[B8]);omega
    have hjj:=Oy (N:=t4.N) (c1:=c1) hP.ok hP.r (Sq.st hS4 (fun v hv=>by simp[hv]) (Sq.st hSt3 (fun v hv=>by simp[hv]) hq0)) (Sq.st hS4 (fun v hv=>by simp[hv]) (Sq.st hSt3 (fun v hv=>by simp[hv]) hq2)) (hS4.fr c1 (by simp) _ _ _ _ _ hT3)
    have hckB:CkN false (kL (X++(e1.1,c1)::Y)) (vL (X++(e1.1,c1)::Y)):=CkN.of hjj.2.2.1 (fun v hv=>by rw[Bi,Bz] at hv;simp only[List.mem_append,List.mem_cons] at hv;rcases hv with q|q|q;exact hvW v (by simp[q]);rw[q];exact hvc1;exact hvW v (by simp[q]))
    have hckA:CkN false (kL (X++(e1.1,c1)::(e2.1,c2)::Y)) (vL (X++(e1.1,c1)::(e2.1,c2)::Y)):=CkN.of (Ym hP.ok) (fun v hv=>by rw[Bi,Bz,Bz] at hv;simp only[List.mem_append,List.mem_cons] at hv;rcases hv with q|q|q|q;exact hvW v (by simp[q]);rw[q];exact hvc1;rw[q];exact hvc2;exact hvW v (by simp[q]))
    refine Z3 4 [3,3] [((X.length+1:Nat):Int)] H rfl (by omega) (Ao rfl (call97 _) (Ww (fun h q=>by rw[show kL (X++(e1.1,c1)::(e2.1,c2)::Y)=kL (X++e1::e2::Y) from by simp[kL]];exact q.rd (by omega) (by omega) (by simp only[List.length_append,List.length_map,List.length_cons];omega) (by rw[List.drop_zero,Nat.mul_one,List.take_left' (by simp)])) (fun h q=>by rw[show (vL (X++(e1.1,c1)::(e2.1,c2)::Y)).length=(vL (X++e1::e2::Y)).length from by simp];exact q.rd (by omega) (by omega) (by simp only[List.length_append,List.length_map,List.length_cons];omega) (by rw[List.drop_zero,Nat.mul_one,List.take_left' (by simp)])) hckA hckB) H.f5.f14 ?_);rintro _ w _ ⟨v23,v24,rfl,rfl⟩ H;replace H:=H.l17;have sv23:=H.says 0 rfl (fun h q=>q.slc)
    have sv24:=H.says 1 rfl (fun h q=>q.slc)
    refine Zc 2 rfl (Ax rfl rfl (Ai 16 H rfl rfl rfl rfl (vs:=[.bool false,v23,v24]) rfl (Ac rfl (Ac sv23.one (Ac sv24.one Ar))) (by kernel_rfl) (by simp) (out:=[.bool false,v23,v24]) rfl) ?_);rintro w H;replace H:=H.l17;refine Zc 4 rfl (Zl [16,3] H rfl ?_);replace H:=(H.mono 4 (B:=trA Tb pp mb n o (some (t4,vals (X++(e1.1,c1)::Y)++Q))) rfl (fun h q=>q.perm (mp5 c1 e1.1 X Y Q))).l17
    have hj4:=Oy (c1:=c1) hP.ok hP.r (Sq.st hS4 (fun v hv=>by simp[hv]) (Sq.st hSt3 (fun v hv=>by simp[hv]) hq0)) (Sq.st hS4 (fun v hv=>by simp[hv]) (Sq.st hSt3 (fun v hv=>by simp[hv]) hq2)) (hS4.fr c1 (by simp) _ _ _ _ _ hT3)
    exact ⟨_,.inr ⟨t4,_,_,_,⟨St.t4 O1.st O2.st hSt3 hS4 (by omega) (fun p hp=>by simp[hp]) (fun p hp=>by simp[hp]) (fun p hp=>by simp[hp]) (fun p hp=>by simp[hp]),hj4.1,hj4.2.1,hj4.2.2.1,hj4.2.2.2,by simp;omega⟩,rfl,rfl⟩,H.perm 17 [0,1,4] rfl rfl⟩
end
section
open Go.RowKit
variable {Tb:Ae}
structure RmPre (n:Nat) (t:TS) (Q:List Nat) (a h:Nat) (lo hi:Int) (m:Nat) (key:Int) (v0:Nat) (L:List E):Prop where
 T:Tr t.N h a lo hi m L
 kin:(key,v0)∈L
 l0:0≤lo
 h1:hi≤1048576
 d:(vals L).Nodup
 mm:1≤m∧(h≠0→2≤m)
 hk:t.k+6 * h+4<40
 hb:Q.length+10 * h+42+n≤980
abbrev JE (Tb:Ae) (pp mb n:Nat) (o:TB) (t:TS) (Q:List Nat) (h:Nat) (lo hi:Int) (m:Nat) (key:Int) (L:List E) (v:Value) (Γ:List Ae):Prop:=
 (cnt t.F 0 1024≤3 * h∧∃ s:TS×List Nat,v= .tuple #[.int .i64 0,.int .i64 0,.int .i64 20]∧Γ=[trA Tb pp mb n o (some s)])∨
 ∃ (t2:TS) (c:Nat) (es':List E),(St t t2 Q (3 * h+1) (6 * h+2)∧Tr t2.N h c lo hi es'.length (AS key L)∧t2.N c=some (.nd ⟨decide (h=0),es'⟩)∧t2.C c=1∧m≤es'.length+1)∧v= .tuple #[.int .i64 (c:Int),.int .i64 (es'.length:Int),.int .i64 0]∧Γ=[trA Tb pp mb n o (some (t2,c::Q))]
theorem JF {key:Int} {L:List E} (h:(vals L).Nodup):(vals (AS key L)).Nodup:=by
 unfold vals AS
 exact List.Nodup.sublist (List.Sublist.map _ List.filter_sublist) h
theorem Wx {X Y:List E} {key:Int} {v0 c:Nat} {Q:List Nat} :(c::(vals (X++(key,v0)::Y)++Q)).Perm (v0::(c::(vals (X++Y)++Q))):=
 List.perm_iff_count.2 fun a=>by simp only[List.count_append,List.count_cons,CX,Do];omega
theorem TF {X Y:List E} {e:E} {c:Nat} {Q:List Nat} :(c::(vals (X++e::Y)++Q)).Perm (e.2::(c::(vals X++(vals Y++Q)))):=
 List.perm_iff_count.2 fun a=>by simp only[List.count_append,List.count_cons,CX,Do];omega
theorem Rh {X Y:List E} {k:Int} {c c2:Nat} {Q:List Nat} :(c2::(c::(vals X++(vals Y++Q)))).Perm (vals (X++(k,c2)::Y)++(c::Q)):=
 List.perm_iff_count.2 fun a=>by simp only[List.count_append,List.count_cons,CX,Do];omega
theorem KU {es:List E} {c:Nat} {Q:List Nat} :(vals es++(c::Q)).Perm (c::(vals es++Q)):=List.perm_middle
theorem TG {N:Hm} {X Y:List E} {lo hi:Int} {key:Int} {v0:Nat} (ok:(Nd.mk true (X++(key,v0)::Y)).Ok) (hr:Bp lo hi (X++(key,v0)::Y)) (h:∀ e∈X++(key,v0)::Y,∃ b,N e.2=some (.dt b)) (hnd:(vals (X++(key,v0)::Y)).Nodup):
  AS key (X++(key,v0)::Y)=X++Y∧Bd N 0 (X++Y) hi (X++Y)∧Bp lo hi (X++Y)∧(Nd.mk true (X++Y)).Ok∧(vals (X++Y)).Nodup:=by
 have hs:Srt (X++(key,v0)::Y):=ok.srt
 obtain ⟨s1,s2,s3⟩:=Srt.app.1 hs
 have hm:∀ x∈X++Y,x∈X++(key,v0)::Y:=fun x hx=>by
  rcases List.mem_append.1 hx with q|q<;>simp[q]
 have hl:(X++(key,v0)::Y).length≤8:=ok.len
 refine ⟨Or hs,⟨rfl,fun e he=>h e (hm e he)⟩,fun x hx=>hr x (hm x hx),⟨Srt.app.2 ⟨s1,(Srt.cons.1 s2).2,fun a ha b hb=>s3 a ha b (by simp[hb])⟩,by simp at hl ⊢;omega,fun e he=>ok.key e (hm e he),fun q=>by cases q⟩,?_⟩
 rw[Bi,Bz] at hnd
 rw[Bi]
 exact (List.nodup_cons.1 (List.perm_middle.nodup_iff.1 hnd)).2
theorem Zk {N:Hm} {h:Nat} {lo hi:Int} {L X Y:List E} {e:E} {key:Int} {v0:Nat} (hs:Srt (X++e::Y)) (hr:Bp lo hi (X++e::Y)) (hB:Bd N (h+1) (X++e::Y) hi L) (hX:X=[]∨e.1≤key) (hY:∀ x∈Y,key<x.1∧e.1<x.1) (hk:(key,v0)∈L):
  ∃ L0 Lc L2,(Sq (fun c a b L=>Tr N h c a b 4 L) X e.1 L0∧Tr N h e.2 e.1 (nx Y hi) 4 Lc∧Sq (fun c a b L=>Tr N h c a b 4 L) Y hi L2)∧L=L0++(Lc++L2)∧AS key L=L0++(AS key Lc++L2)∧(key,v0)∈Lc∧lo≤e.1∧nx Y hi≤hi:=by
 obtain ⟨L0,Lc,L2,rfl,h1,h2,h3⟩:=Sq.at hB
 obtain ⟨s1,s2,s3⟩:=Srt.app.1 hs
 have a1:=Sq.srt h1 s1 (fun x hx=>s3 x hx e (by simp)) (fun _ _ _ _ q=>Tr.srt q)
 have a3:=Sq.srt h3 (Srt.cons.1 s2).2 (fun x hx=>(hr x (by simp[hx])).2) (fun _ _ _ _ q=>Tr.srt q)
 have n0:∀ x∈L0,x.1≠key:=fun x hx=>by
  rcases hX with rfl|hX
  ·simp only[Sq] at h1;subst h1;simp at hx
  ·have:=a1.2.1 x hx;omega
 have n2:∀ x∈L2,x.1≠key:=fun x hx=>by
  cases Y with
  | nil=>simp only[Sq] at h3;subst h3;simp at hx
  | cons y t=>
   have:=a3.2.1 x hx
   have:=hY y (by simp)
   simp only[nx] at *;omega
 refine ⟨L0,Lc,L2,⟨h1,h2,h3⟩,rfl,?_,?_,(hr e (by simp)).1,Pq (fun x hx=>(hr x (by simp[hx])).2)⟩
 ·rw[G5,G5,Gy n0,Gy n2]
 ·rcases List.mem_append.1 hk with q|q
  ·exact absurd rfl (n0 _ q)
  ·rcases List.mem_append.1 q with q|q
   ·exact q
   ·exact absurd rfl (n2 _ q)
theorem rm_node {lo hi:Int} {X Y:List E} {e:E} (c2:Nat) (ok:(Nd.mk false (X++e::Y)).Ok) (hr:Bp lo hi (X++e::Y)):(Nd.mk false (X++(e.1,c2)::Y)).Ok∧Bp lo hi (X++(e.1,c2)::Y):=by
 have hs:Srt (X++e::Y):=ok.srt
 have hn:=IW (k1:=e.1) c2 hs hr (.inr rfl) (Int.le_refl _) (hr e (by simp)).1
 have hl:(X++e::Y).length≤8:=ok.len
 refine ⟨⟨hn.1,by simp at hl ⊢;omega,fun x hx=> ?_,fun _=>by simp⟩,hn.2⟩
 have hx:x∈X++(e.1,c2)::Y:=hx
 rcases List.mem_append.1 hx with hx|hx
 ·exact ok.key x (by simp[hx])
 ·rcases List.mem_cons.1 hx with rfl|hx
  ·exact ok.key e (by simp)
  ·exact ok.key x (by simp[hx])
theorem rm_pick {n:Nat} {t:TS} {Q:List Nat} {h c2:Nat} {lo hi:Int} {X Y:List E} {k:Int} {L0 Lc L2:List E} {m1:Nat} (ok:(Nd.mk false (X++(k,c2)::Y)).Ok) (r:Bp lo hi (X++(k,c2)::Y)) (q0:Sq (fun c a b L=>Tr t.N h c a b 4 L) X k L0) (qc:Tr t.N h c2 k (nx Y hi) m1 Lc) (q2:Sq (fun c a b L=>Tr t.N h c a b 4 L) Y hi L2)
  (h3:3≤m1) (h2:2≤(X++(k,c2)::Y).length) (l0:0≤lo) (h1:hi≤1048576) (hd:(vals (L0++(Lc++L2))).Nodup) (hk:t.k+5<40) (hb:Q.length+30+n≤980):
  ∃ U V f1 f2 m2 m3 M0 Ma Mb M2,X++(k,c2)::Y=U++f1::f2::V∧min (X.length:Int) (((X++(k,c2)::Y).length:Int) - 2)=(U.length:Int)∧L0++(Lc++L2)=M0++(Ma++(Mb++M2))∧MnPre n t Q h lo hi U V f1 f2 m2 m3 M0 Ma Mb M2:=by
 cases Y with
 | cons y Y=>
  obtain ⟨Ly,L3,rfl,hy,q3⟩:=q2
  refine ⟨X,Y,(k,c2),y,m1,4,L0,Lc,Ly,L3,rfl,?_,rfl,ok,r,q0,qc,hy,q3,by omega,l0,h1,?_,hk,hb⟩
  ·simp only[List.length_append,List.length_cons];omega
  ·rw[Bi,Bi,Bi,List.nodup_append] at hd
   have h5:=hd.2.1
   rw[←List.append_assoc,List.nodup_append] at h5
   rw[Bi];exact h5.1
 | nil=>
  have e2:L2=[]:=q2
  subst e2
  rcases List.eq_nil_or_concat X with rfl|⟨X',x,rfl⟩
  ·simp at h2
  ·rw[List.concat_eq_append] at *
   obtain ⟨La,Lb,rfl,qa,Lx,L5,rfl,hx,q5⟩:=Sq.app.1 q0
   have e5:L5=[]:=q5
   subst e5
   refine ⟨X',[],x,(k,c2),4,m1,La,Lx,Lc,[],by simp,?_,by simp,?_,?_,qa,hx,qc,rfl,by omega,l0,h1,?_,hk,hb⟩
   ·simp only[List.length_append,List.length_cons,List.length_nil];omega
   ·rw[List.append_assoc] at ok;exact ok
   ·rw[List.append_assoc] at r;exact r
   ·simp only[Bi,List.append_nil,List.append_assoc,List.nodup_append] at hd ⊢
    simp only[vals,List.map_nil,List.nil_append] at hd ⊢
    exact ⟨hd.2.1.1,hd.2.1.2.1,hd.2.1.2.2⟩
end
section
open Go.RowKit
variable {Tb:Ae}
set_option maxHeartbeats 2000000 in
theorem Yo (pp mb n:Nat) (o:TB) (t:TS) (Q:List Nat) (a:Nat) (lo hi:Int) (m:Nat) (key:Int) (v0:Nat) (L:List E) (hP:RmPre n t Q a 0 lo hi m key v0 L):Cn prog 58 [Pt_ pp,Iv_ (a:Int),Iv_ key] [trA Tb pp mb n o (some (t,a::Q))] (fun v Γ=>JE Tb pp mb n o t Q 0 lo hi m key L v Γ):=by
 intro z R w H;replace H:=H.l1;have K:=H.says 0 rfl (fun h a=>trA.k a)
 have hn:=K.hn
 have hkin:=hP.kin;have h0:=hP.l0;have h1048:=hP.h1;have hdL:=hP.d;have htk:=hP.hk;have htb:=hP.hb
 obtain ⟨hmm1,hmm2⟩:=hP.mm;obtain ⟨es,hN,hm,hrg,hok,hLes,hdt⟩:=hP.T;have hck:CkN true (kL es) (vL es):=K.i.vok (by omega) hn.2 hN
 have hnd:=(K.i.nds a _ hN).2.1
 obtain rfl:es=L:=hLes.symm;refine Ad func58 rfl ntmps58 rfl (Zc 11 rfl (Ao rfl (call96 _) (Ig pp mb n o t Q a true es hN (by omega) (by omega)) H ?_));rintro _ w _ (⟨hnone,v1,v2,s,rfl,rfl⟩|⟨t1,c,v1,v2,O,rfl,rfl⟩) H'
 ·have H:=H'.l3;have sv1:=H.says 0 rfl (fun h q=>q.slc)
  have sv2:=H.says 1 rfl (fun h q=>q.slc)
  refine Za 4 [] H rfl ?_;intro b3 w H;refine Zc 1 rfl (Ax rfl rfl (Ai 0 H rfl rfl rfl rfl (vs:=[.bool true,v1,v2]) rfl (Ac rfl (Ac sv1.one (Ac sv2.one Ar))) (by kernel_rfl) (by simp) (out:=[.bool true,v1,v2]) rfl) ?_);rintro w H;replace H:=H.l4;refine Z0 20 [3] rfl (Zr rfl ?_);exact ⟨_,.inl ⟨by omega,_,rfl,rfl⟩,H.perm 4 [3] rfl rfl⟩
 ·have H:=H'.l3;have sv1:=H.says 0 rfl (fun h q=>q.slc)
  have sv2:=H.says 1 rfl (fun h q=>q.slc)
  refine Za 4 [] H rfl ?_;intro b4 w H;refine Zc 1 rfl (Ax rfl rfl (Ai 0 H rfl rfl rfl rfl (vs:=[.bool true,v1,v2]) rfl (Ac rfl (Ac sv1.one (Ac sv2.one Ar))) (by kernel_rfl) (by simp) (out:=[.bool true,v1,v2]) rfl) ?_);rintro w H;replace H:=H.l4;refine Z2 25 [4,0,0,0,0,3] H rfl (Ao rfl (call94 _) (MZ (es:=es) (fun h q=>q.rd) (fun h q=>q.rd) hok.len hok.srt key) H.f2.f2 ?_);rintro _ w _ (⟨X,vd,Y,⟨hes,hX⟩,rfl,rfl⟩|⟨hno,i0,rfl,rfl⟩) H'
  ·have H:=H'.l4;refine Zc 9 rfl ?_;have hv1:∀ d,t1.N vd≠some (.nd d):=fun d q=>by obtain ⟨b,hb⟩:=hdt (key,vd) (by rw[hes];simp);rw[O.dv vd (by rw[hes];simp[vals]) b hb] at q;cases q
   obtain ⟨hdel,hBd2,hr2,ho2,hd2⟩:=TG (N:=t1.N) (by rw[←hes];exact hok) (by rw[←hes];exact hrg) (fun e he=>by obtain ⟨b,hb⟩:=hdt e (by rw[hes];exact he);exact ⟨b,O.dv _ (by rw[hes];exact List.mem_map_of_mem he) b hb⟩) (by rw[←hes];exact hnd);obtain ⟨ao2,cc2,rfl⟩:=sv2;have hat:=(H.rd 1 rfl (fun h q=>q.rd)).at (j:=X.length) (u:=Iv_ (vd:Int)) (by rw[hes];simp[vL])
   replace H:=(H.mono 3 (B:=trA Tb pp mb n o (some (t1,vd::(c::(vals (X++Y)++Q))))) rfl (fun h q=>q.perm (by rw[hes];exact Wx))).l4
   refine Z2 5 [2,2,0] H rfl (Ab rfl (Am rfl (z:=1) (j:=X.length) (r:=X.length) (by kernel_rfl) rfl rfl rfl (by rw[hes];simp) hat (by omega)) (Ab rfl (Ay rfl rfl (by kernel_rfl) (Au hat)) (Ao rfl (call52 _) (DE pp mb n o t1 _ vd hv1) H.f3 ?_)));rintro _ w _ ⟨t2,⟨hS2,hq2,hC2,hN2,hF2⟩,rfl,rfl⟩ H;refine Z2 16 [4,3,3] H rfl ?_;have hvr:∀ v∈vals (X++Y),1≤v∧v<1024:=fun v hv=>by have K2:=H.says 0 rfl (fun h a=>trA.k a);have:=K2.i.rin v (by simp[B8,hv]);omega
   refine Ao rfl (call97 _) (Yc (lf:=true) (X:=X) (e:=(key,vd)) (Y:=Y) (by rw[←hes];exact (fun h q=>q.rd)) (by rw[←hes];exact (fun h q=>q.rd)) (by rw[←hes];exact hck) (CkN.of ho2 hvr)) H.f2.f2 ?_;rintro _ w _ ⟨v5,v6,rfl,rfl⟩ H;replace H:=H.l6;have sv5:=H.says 0 rfl (fun h q=>q.slc)
   have sv6:=H.says 1 rfl (fun h q=>q.slc)
   refine Zc 3 rfl (Ax rfl rfl (Ai 5 H rfl rfl rfl rfl (vs:=[.bool true,v5,v6]) rfl (Ac rfl (Ac sv5.one (Ac sv6.one Ar))) (by kernel_rfl) (by simp) (out:=[.bool true,v5,v6]) rfl) ?_);rintro w H;replace H:=H.l6;refine Z0 14 [4] rfl ?_;replace H:=H.f5;refine AI (Sep z (blk b4 [.bool true,v5,v6] 92::R)) 11 rfl (by kernel_rfl) (Bc H fun w H'=> ?_)
   have H:=H'.l6;refine AW [0,1,2] [1,0,0] [] (by exact (H.pick 6 [0] rfl)) rfl (by kernel_rfl) rfl (BD 3 rfl (by kernel_rfl) (by kernel_rfl) (by kernel_rfl) rfl rfl rfl (CR rfl (sz:=1) (by kernel_rfl) rfl sv5) (H.pick 6 [0] rfl) (AW [4,5,6] [0,3] [] (by exact (H.pick 6 [0] rfl)) rfl (by kernel_rfl) rfl (Az [7] (by kernel_rfl) (by simp) (Aw (BQ rfl rfl rfl rfl rfl rfl (fun w=>call98 _ w) (E2 pp mb n o t2 Q c true _ _ (X++Y) _ _ (fun h q=>q.rd) (fun h q=>q.rd) 0 lo hi (X++Y).length (X++Y) (hS2.bd (fun v hv=>by simp[hv]) hBd2) rfl hr2 (Nat.le_refl _) ho2 hd2 (hS2.op c (by simp) O.N0 O.C1).2 (hS2.op c (by simp) O.N0 O.C1).1 (by have:=O.st.k;have:=hS2.k;omega)) H.f2.f2.f5 rfl ?_)))));rintro _ w _ ⟨t3,⟨hSt3,hT3,hC3,hN3⟩,rfl,rfl⟩ H;replace H:=H.l6;refine Av (H.pick 6 [3] rfl) (AW [8,9,10] [] [] (by exact (H.pick 6 [3] rfl)) rfl (by kernel_rfl) rfl (a_done (by kernel_rfl) (gn (Zc 2 rfl (Zr rfl ?_)))));exact ⟨_,.inr ⟨t3,c,X++Y,⟨((O.st.sub (R':=Q) (fun p hp=>hp) (Nat.le_refl _) (Nat.le_refl _)).trans hS2 (R:=Q) (R1:=Q) (fun p hp=>hp) (fun p hp=>by simp[hp]) (e:=1) (f:=1) (by omega) (by omega)).trans hSt3 (fun p hp=>hp) (fun p hp=>hp) (by omega) (by omega),by rw[hes,hdel];exact hT3,by rw[hN3];exact Be _ _ _,by rw[hC3];exact (hS2.op c (by simp) O.N0 O.C1).2,by have:es.length=X.length+Y.length+1:=(by rw[hes];simp;omega);simp only[List.length_append];omega⟩,congrArg (fun q:Int=>Value.tuple #[Iv_ (c:Int),Iv_ q,Iv_ 0]) (by simp),rfl⟩,H.perm 6 [0] rfl rfl⟩
  ·exact absurd ⟨v0,hkin⟩ hno
set_option maxHeartbeats 4000000 in
theorem Yp (pp mb n:Nat) (o:TB) (t:TS) (Q:List Nat) (h:Nat) (ih:∀ (t:TS) (Q:List Nat) (a:Nat) (lo hi:Int) (m:Nat) (key:Int) (v0:Nat) (L:List E),RmPre n t Q a h lo hi m key v0 L→Cn prog 58 [Pt_ pp,Iv_ (a:Int),Iv_ key] [trA Tb pp mb n o (some (t,a::Q))] (fun v Γ=>JE Tb pp mb n o t Q h lo hi m key L v Γ)) (a:Nat) (lo hi:Int) (m:Nat) (key:Int) (v0:Nat) (L:List E) (hP:RmPre n t Q a (h+1) lo hi m key v0 L):Cn prog 58 [Pt_ pp,Iv_ (a:Int),Iv_ key] [trA Tb pp mb n o (some (t,a::Q))] (fun v Γ=>JE Tb pp mb n o t Q (h+1) lo hi m key L v Γ):=by
 intro z R w H;replace H:=H.l1;have K:=H.says 0 rfl (fun h a=>trA.k a)
 have hn:=K.hn
 have hkin:=hP.kin;have h0:=hP.l0;have h1048:=hP.h1;have hdL:=hP.d;have htk:=hP.hk;have htb:=hP.hb
 obtain ⟨hmm1,hmm2⟩:=hP.mm;obtain ⟨es,hN,hm,hrg,hok,hBd⟩:=hP.T;refine Ad func58 rfl ntmps58 rfl (Zc 11 rfl (Ao rfl (call96 _) (Ig pp mb n o t Q a false es hN (by omega) (by omega)) H ?_));rintro _ w _ (⟨hnone,v1,v2,s,rfl,rfl⟩|⟨t1,c,v1,v2,O,rfl,rfl⟩) H'
 ·have H:=H'.l3;have sv1:=H.says 0 rfl (fun h q=>q.slc)
  have sv2:=H.says 1 rfl (fun h q=>q.slc)
  refine Za 4 [] H rfl ?_;intro b3 w H;refine Zc 1 rfl (Ax rfl rfl (Ai 0 H rfl rfl rfl rfl (vs:=[.bool false,v1,v2]) rfl (Ac rfl (Ac sv1.one (Ac sv2.one Ar))) (by kernel_rfl) (by simp) (out:=[.bool false,v1,v2]) rfl) ?_);rintro w H;replace H:=H.l4;refine Z0 20 [3] rfl (Zr rfl ?_);exact ⟨_,.inl ⟨by omega,_,rfl,rfl⟩,H.perm 4 [3] rfl rfl⟩
 ·have H:=H'.l3;have sv1:=H.says 0 rfl (fun h q=>q.slc)
  have sv2:=H.says 1 rfl (fun h q=>q.slc)
  refine Za 4 [] H rfl ?_;intro b4 w H;refine Zc 1 rfl (Ax rfl rfl (Ai 0 H rfl rfl rfl rfl (vs:=[.bool false,v1,v2]) rfl (Ac rfl (Ac sv1.one (Ac sv2.one Ar))) (by kernel_rfl) (by simp) (out:=[.bool false,v1,v2]) rfl) ?_);rintro w H;replace H:=H.l4;refine Z2 27 [4,0,0,0,0,3] H rfl (Ao rfl (call95 _) (Kj (es:=es) (fun h q=>q.rd) (fun h q=>q.rd) hok.len hok.srt (hok.ne rfl) key) H.f2.f2 ?_);rintro _ w _ ⟨X,e,Y,⟨hes,hX,hXe,hY⟩,rfl,rfl⟩ H;refine Zc 4 rfl ?_;obtain ⟨ao2,cc2,rfl⟩:=sv2;have hat:=(H.rd 1 rfl (fun h q=>q.rd)).at (j:=X.length) (u:=Iv_ (e.2:Int)) (by rw[hes];simp[vL])
  replace H:=(H.mono 3 (B:=trA Tb pp mb n o (some (t1,e.2::(c::(vals X++(vals Y++Q)))))) rfl (fun h q=>q.perm (by rw[hes];exact TF))).l4
  have hs1:Srt (X++e::Y):=by rw[←hes];exact hok.srt
  have hr1:Bp lo hi (X++e::Y):=by rw[←hes];exact hrg
  have ho1:(Nd.mk false (X++e::Y)).Ok:=by rw[←hes];exact hok
  obtain ⟨L0,Lc,L2,⟨hq0,hqc,hq2⟩,hLe,hLd,hkc,hb1,hb4⟩:=Zk hs1 hr1 (by rw[←hes];exact O.bd hBd) hX hY hkin;have hel:X.length+Y.length+1=es.length:=by rw[hes];simp;omega
  have hes8:es.length≤8:=hok.len
  have hdc:(vals Lc).Nodup:=by rw[hLe,Bi,Bi,List.nodup_append] at hdL;have h5:=hdL.2.1;rw[List.nodup_append] at h5;exact h5.1
  refine Z2 5 [2,2,0] H rfl (Ab rfl (Am rfl (z:=1) (j:=X.length) (r:=X.length) (by kernel_rfl) rfl rfl rfl (by rw[hes];simp) hat (by omega)) (Ab rfl (Ay rfl rfl (by kernel_rfl) (Au hat)) (Zc 1 rfl (Ao rfl (call58 _) (ih t1 (c::(vals X++(vals Y++Q))) e.2 e.1 (nx Y hi) 4 key v0 Lc ⟨hqc,hkc,by omega,by omega,hdc,⟨by omega,fun _=>by omega⟩,by have:=O.st.k;omega,by simp only[List.length_cons,List.length_append,IX];omega⟩) H.f3 ?_))));rintro _ w _ (⟨hf2,s2,rfl,rfl⟩|⟨t2,c2,es',⟨hSt2,hT2,hN2,hC2,hm2⟩,rfl,rfl⟩) H'
  ·have H:=H'.l4;refine Z0 26 [3] rfl (Zr rfl ?_);exact ⟨_,.inl ⟨by have:=O.st.f;omega,_,rfl,rfl⟩,H.perm 4 [0] rfl rfl⟩
  ·have H:=H'.l4;refine Z0 20 [4] rfl ?_;have hXl:X.length<es.length:=by rw[hes];simp
   have hnev:0<(vL es).length:=by simp only[List.length_map];omega
   obtain ⟨gv_,cap_gv_,rest_gv_,hgq,c1gv_,c2gv_,c3gv_,H'⟩:=H.ungrow 2 rfl hnev;cases hgq;clear H;have H:=H'.l4;refine Z2 5 [2,3,0] H rfl (Ab rfl (B3 rfl (z:=1) (j:=X.length) (r:=X.length) (by kernel_rfl) rfl rfl rfl (by simp only[List.length_map];omega) (by omega)) (Ax rfl rfl (Ai 2 H rfl rfl rfl rfl (vs:=[Iv_ (c2:Int)]) rfl (by simp[u8,u32,Value.oneCell']) (by kernel_rfl) (by simp only[List.length_append,List.length_map,List.length_cons,List.length_nil];omega) (out:=(((vL es).set X.length (c2:Int)).map Iv_++rest_gv_)) (Dk (by simp only[List.length_map];omega))) ?_));rintro w H;replace H:=H.l4;refine Zc 4 rfl ?_;have hlv:(vL es).length=(vL (X++(e.1,c2)::Y)).length:=by rw[hes];simp
   have hvs:(vL es).set X.length (c2:Int)=vL (X++(e.1,c2)::Y):=by rw[hes];simp[vL,List.set_append]
   have hke:kL es=kL (X++(e.1,c2)::Y):=by rw[hes];simp[kL]
   have hkl:(kL es).length=es.length:=by simp
   obtain ⟨ho2,hr2⟩:=rm_node c2 ho1 hr1;have hs0:Sq (fun c a b L=>Tr t2.N h c a b 4 L) X e.1 L0:=Sq.st hSt2 (fun v hv=>by simp[hv]) hq0
   have hs2:Sq (fun c a b L=>Tr t2.N h c a b 4 L) Y hi L2:=Sq.st hSt2 (fun v hv=>by simp[hv]) hq2
   have hE2:(X++(e.1,c2)::Y).length=es.length:=by simp only[List.length_append,List.length_cons];omega
   have hcO:=hSt2.op c (by simp) O.N0 O.C1
   have hdL2:(vals (L0++(AS key Lc++L2))).Nodup:=by rw[←hLd];exact JF hdL
   replace H:=(H.mono 2 (B:=grow 3 1 (.slice (some ⟨gv_,0,none⟩) ((vL es).length) cc2) ((vL es).length) ((vL (X++(e.1,c2)::Y)).map Iv_)) rfl (fun h q=>q.grow (by omega) (by omega) (by simp only[List.length_append,List.length_map,List.length_set];simp only[List.length_map] at *;omega) (by rw[Nat.mul_one,List.take_left' (by simp),hvs]))).l4
   replace H:=(H.mono 0 (B:=trA Tb pp mb n o (some (t2,vals (X++(e.1,c2)::Y)++(c::Q)))) rfl (fun h q=>q.perm Rh)).l4
   refine Z0 4 [0] rfl (Al 87 rfl (fun h1=> ?_) (fun h1=> ?_))
   ·refine Z2 2 [1,3,0] H rfl (Ab rfl (CR rfl (sz:=1) (by kernel_rfl) rfl sv1) (Z0 4 [0] rfl (Af rfl (fun h2=> ?_) (fun h2=> ?_))))
    ·refine Zc 1 rfl ?_;have hm23:3≤es'.length:=by omega
     obtain ⟨U,V,f1,f2,m2,m3,M0,Ma,Mb,M2,hU,hmin,hMM,hMn⟩:=rm_pick (n:=n) (t:=t2) (Q:=c::Q) ho2 hr2 hs0 hT2 hs2 hm23 (by omega) h0 h1048 hdL2 (by have:=O.st.k;have:=hSt2.k;omega) (by simp only[List.length_cons];omega);replace H:=(H.mono 1 (B:=grow 3 1 v1 ((kL (U++f1::f2::V)).length) ((kL (U++f1::f2::V)).map Iv_)) rfl (fun h q=>by rw[←hU,←hke];exact q)).l4
     replace H:=(H.mono 2 (B:=grow 3 1 (.slice (some ⟨gv_,0,none⟩) ((vL es).length) cc2) ((vL (U++f1::f2::V)).length) ((vL (U++f1::f2::V)).map Iv_)) rfl (fun h q=>by rw[←hU,←hlv];exact q)).l4
     replace H:=(H.mono 0 (B:=trA Tb pp mb n o (some (t2,vals (U++f1::f2::V)++(c::Q)))) rfl (fun h q=>by rw[←hU];exact q)).l4
     refine Z2 6 [3,3,1,3,0] H rfl (Ab rfl (CR rfl (sz:=1) (by kernel_rfl) rfl sv1) (Z1 1 [] [(((kL es).length:Nat):Int) - 2] rfl (by omega) (Ab rfl (I3 rfl rfl rfl) (AE 101 (v:=Iv_ (U.length:Int)) rfl (congrArg Iv_ (by rw[←hmin,hE2,hkl])) (Ao rfl (call99 _) (Yn pp mb n o t2 (c::Q) _ _ h lo hi U V f1 f2 m2 m3 M0 Ma Mb M2 hMn) H ?_)))));rintro _ w _ (⟨hf3,v5,v6,es3,s3,rfl,rfl⟩|⟨t3,es3,v5,v6,⟨hSt3,hB3,hr3,ho3,hd3,hl3⟩,rfl,rfl⟩) H'
     ·have H:=H'.l4;have sv5:=H.says 0 rfl (fun h q=>q.slc)
      have sv6:=H.says 1 rfl (fun h q=>q.slc)
      refine Zc 3 rfl (Ax rfl rfl (Ai 3 H rfl rfl rfl rfl (vs:=[.bool false,v5,v6]) rfl (Ac rfl (Ac sv5.one (Ac sv6.one Ar))) (by kernel_rfl) (by simp) (out:=[.bool false,v5,v6]) rfl) ?_);rintro w H;replace H:=H.l4;refine Z0 19 [3] rfl (Zr rfl ?_);exact ⟨_,.inl ⟨by have:=O.st.f;have:=hSt2.f;omega,_,rfl,rfl⟩,H.perm 4 [2] rfl rfl⟩
     ·have H:=H'.l4;have sv5:=H.says 0 rfl (fun h q=>q.slc)
      have sv6:=H.says 1 rfl (fun h q=>q.slc)
      refine Zc 3 rfl (Ax rfl rfl (Ai 3 H rfl rfl rfl rfl (vs:=[.bool false,v5,v6]) rfl (Ac rfl (Ac sv5.one (Ac sv6.one Ar))) (by kernel_rfl) (by simp) (out:=[.bool false,v5,v6]) rfl) ?_);rintro w H;replace H:=H.l4;refine Z0 13 [4] rfl ?_;have hcO3:=hSt3.op c (by simp) hcO.1 hcO.2
      replace H:=(H.mono 2 (B:=trA Tb pp mb n o (some (t3,c::(vals es3++Q)))) rfl (fun h q=>q.perm KU)).l4
      replace H:=H.f3;refine AI (Sep z (blk b4 [.bool false,v5,v6] 92::R)) 11 rfl (by kernel_rfl) (Bc H fun w H'=> ?_)
      have H:=H'.l4;refine AW [0,1,2] [1,0,0] [] (by exact (H.pick 4 [0] rfl)) rfl (by kernel_rfl) rfl (BD 3 rfl (by kernel_rfl) (by kernel_rfl) (by kernel_rfl) rfl rfl rfl (CR rfl (sz:=1) (by kernel_rfl) rfl sv5) (H.pick 4 [0] rfl) (AW [4,5,6] [0,3] [] (by exact (H.pick 4 [0] rfl)) rfl (by kernel_rfl) rfl (Az [7] (by kernel_rfl) (by simp) (Aw (BQ rfl rfl rfl rfl rfl rfl (fun w=>call98 _ w) (E2 pp mb n o t3 Q c false _ _ es3 _ _ (fun h q=>q.rd) (fun h q=>q.rd) (h+1) lo hi es3.length (AS key L) (by rw[hLd,hMM];exact hB3) (by simp) hr3 (Nat.le_refl _) ho3 hd3 hcO3.2 hcO3.1 (by have:=O.st.k;have:=hSt2.k;have:=hSt3.k;omega)) H.f2.f2.f3 rfl ?_)))));rintro _ w _ ⟨t4,⟨hSt4,hT4,hC4,hN4⟩,rfl,rfl⟩ H;replace H:=H.l4;refine Av (H.pick 4 [3] rfl) (AW [8,9,10] [] [] (by exact (H.pick 4 [3] rfl)) rfl (by kernel_rfl) rfl (a_done (by kernel_rfl) (gn (Zc 2 rfl (Zr rfl ?_)))));exact ⟨_,.inr ⟨t4,c,es3,⟨(((O.st.sub (R':=Q) (fun p hp=>hp) (Nat.le_refl _) (Nat.le_refl _)).trans hSt2 (R:=Q) (R1:=Q) (fun p hp=>hp) (fun p hp=>by simp[hp]) (Nat.le_refl _) (Nat.le_refl _)).trans hSt3 (R:=Q) (R1:=Q) (fun p hp=>hp) (fun p hp=>by simp[hp]) (Nat.le_refl _) (Nat.le_refl _)).trans hSt4 (fun p hp=>hp) (fun p hp=>hp) (by omega) (by omega),hT4,by rw[hN4];simp[Be],by rw[hC4];exact hcO3.2,by rw[←hU,hE2] at hl3;omega⟩,congrArg (fun q:Int=>Value.tuple #[Iv_ (c:Int),Iv_ q,Iv_ 0]) (by simp),rfl⟩,H.perm 4 [0] rfl rfl⟩
    ·(exfalso;have:=hmm2 (by omega);simp only[List.length_map] at *;omega)
   ·refine Zc 11 rfl ?_;have hB3:Bd t2.N (h+1) (X++(e.1,c2)::Y) hi (L0++(AS key Lc++L2)):=Sq.mk (e:=(e.1,c2)) hs0 (hT2.mono (Int.le_refl _) (Int.le_refl _) (by omega)) hs2
    replace H:=(H.mono 0 (B:=trA Tb pp mb n o (some (t2,c::(vals (X++(e.1,c2)::Y)++Q)))) rfl (fun h q=>q.perm KU)).l4
    replace H:=(H.mono 1 (B:=grow 3 1 v1 ((kL es).length) ((kL (X++(e.1,c2)::Y)).map Iv_)) rfl (fun h q=>by rw[←hke];exact q)).l4
    replace H:=H.f3;refine AI (Sep z (blk b4 [.bool false,v1,.slice (some ⟨gv_,0,none⟩) ((vL es).length) cc2] 92::R)) 11 rfl (by kernel_rfl) (Bc H fun w H'=> ?_)
    have H:=H'.l4;refine AW [0,1,2] [1,0,0] [] (by exact (H.pick 4 [0] rfl)) rfl (by kernel_rfl) rfl (BD 3 rfl (by kernel_rfl) (by kernel_rfl) (by kernel_rfl) rfl rfl rfl (CR rfl (sz:=1) (by kernel_rfl) rfl sv1) (H.pick 4 [0] rfl) (AW [4,5,6] [0,3] [] (by exact (H.pick 4 [0] rfl)) rfl (by kernel_rfl) rfl (Az [7] (by kernel_rfl) (by simp) (Aw (BQ rfl rfl rfl rfl rfl rfl (fun w=>call98 _ w) (E2 pp mb n o t2 Q c false _ _ (X++(e.1,c2)::Y) _ _ (fun h q=>by rw[←hke];rw[←hke] at q;exact q.rd) (fun h q=>by rw[←hlv];exact q.rd) (h+1) lo hi (X++(e.1,c2)::Y).length (AS key L) (by rw[hLd];exact hB3) (by simp) hr2 (Nat.le_refl _) ho2 (hB3.nodup ho2.srt (fun x hx=>(hr2 x hx).2)) hcO.2 hcO.1 (by have:=O.st.k;have:=hSt2.k;omega)) H.f3.f3.f3 rfl ?_)))));rintro _ w _ ⟨t4,⟨hSt4,hT4,hC4,hN4⟩,rfl,rfl⟩ H;replace H:=H.l4;refine Av (H.pick 4 [3] rfl) (AW [8,9,10] [] [] (by exact (H.pick 4 [3] rfl)) rfl (by kernel_rfl) rfl (a_done (by kernel_rfl) (gn (Zc 2 rfl (Zr rfl ?_)))));exact ⟨_,.inr ⟨t4,c,(X++(e.1,c2)::Y),⟨((O.st.sub (R':=Q) (fun p hp=>hp) (Nat.le_refl _) (Nat.le_refl _)).trans hSt2 (R:=Q) (R1:=Q) (fun p hp=>hp) (fun p hp=>by simp[hp]) (Nat.le_refl _) (Nat.le_refl _)).trans hSt4 (fun p hp=>hp) (fun p hp=>hp) (by omega) (by omega),hT4,by rw[hN4];simp[Be],by rw[hC4];exact hcO.2,by rw[hE2];omega⟩,congrArg (fun q:Int=>Value.tuple #[Iv_ (c:Int),Iv_ q,Iv_ 0]) (by simp only[List.length_map];omega),rfl⟩,H.perm 4 [0] rfl rfl⟩
end
section
open Go.RowKit
variable {Tb:Ae}
theorem M7 (pp mb n:Nat) (o:TB):∀ (h:Nat) (t:TS) (Q:List Nat) (a:Nat) (lo hi:Int) (m:Nat) (key:Int) (v0:Nat) (L:List E),RmPre n t Q a h lo hi m key v0 L→Cn prog 58 [Pt_ pp,Iv_ (a:Int),Iv_ key] [trA Tb pp mb n o (some (t,a::Q))] (fun v Γ=>JE Tb pp mb n o t Q h lo hi m key L v Γ)
 | 0=>fun t Q a lo hi m key v0 L hP=>Yo pp mb n o t Q a lo hi m key v0 L hP
 | h+1=>fun t Q a lo hi m key v0 L hP=>Yp pp mb n o t Q h (M7 pp mb n o h) a lo hi m key v0 L hP
abbrev rootM (h:Nat):Nat:=if h=0 then 1 else 2
theorem Tr.data {N:Hm} {h r:Nat} {lo hi:Int} {m:Nat} {L:List E} (t:Tr N h r lo hi m L):∀ e∈L,∃ b,N e.2=some (.dt b):=by
 induction h generalizing r lo hi m L with
 | zero=>obtain ⟨es,_,_,_,_,rfl,h⟩:=t;exact h
 | succ h ih=>
  obtain ⟨es,_,_,_,_,h5⟩:=t
  have key:∀ (es:List E) (L:List E),Sq (fun c a b L=>Tr N h c a b 4 L) es hi L→∀ e∈L,∃ b,N e.2=some (.dt b):=by
   intro es
   induction es with
   | nil=>intro L q;have q:L=[]:=q;subst q;simp
   | cons e u ih2=>
    rintro _ ⟨L1,L2,rfl,h6,h7⟩ x hx
    rcases List.mem_append.1 hx with hx|hx
    ·exact ih h6 x hx
    ·exact ih2 L2 h7 x hx
  exact key es L h5
theorem delR_none {N:Hm} {h c:Nat} {lo hi:Int} {m:Nat} {L es:List E} {lf:Bool} (t:Tr N h c lo hi m L) (hN:N c=some (.nd ⟨lf,es⟩)) (h0:es.length=0):L=[]:=by
 have he:es=[]:=List.length_eq_zero_iff.1 h0
 subst he
 obtain ⟨es',h1,_,_,h4,h5⟩:=Tr.iff.1 t
 rw[h1] at hN;cases hN
 cases h with
 | zero=>exact h5.1
 | succ h=>exact absurd rfl (h4.ne (by simp))
theorem TH {N:Hm} {h c:Nat} {m:Nat} {L es:List E} {lf:Bool} (t:Tr N h c 0 1048576 m L) (hN:N c=some (.nd ⟨lf,es⟩)) (h1:es.length=1) (hh:h≠0):∃ e h',es=[e]∧h=h'+1∧Tr N h' e.2 0 1048576 4 L:=by
 obtain ⟨e,rfl⟩:=List.length_eq_one_iff.1 h1
 obtain ⟨h',rfl⟩:∃ h',h=h'+1:=⟨h - 1,by omega⟩
 obtain ⟨es',h2,_,h3,h4,h5⟩:=t
 rw[h2] at hN;cases hN
 obtain ⟨L1,L2,rfl,h6,h7⟩:=h5
 have h7:L2=[]:=h7
 subst h7
 have:=h3 e (by simp)
 refine ⟨e,h',rfl,rfl,?_⟩
 rw[List.append_nil]
 exact h6.mono this.1 (Int.le_refl _) (Nat.le_refl _)
theorem root_of {N:Hm} {h r:Nat} {m:Nat} {L:List E} (t:Tr N h r 0 1048576 m L) (hm:rootM h≤m) (hr:r≠0):Root N r L:= .inr ⟨hr,h,t.mono (Int.le_refl _) (Int.le_refl _) hm⟩
theorem CI {r:Nat} (h:r≠0):A5 r=[r]:=by simp[A5,h]
end
section
open Go.RowKit
variable {Tb:Ae}
theorem TI {n:Nat} {o:TB} {T:TT} (K:TrK n o T) {h r:Nat} {lo hi:Int} {m:Nat} {L:List E} (t:Tr (HD o T) h r lo hi m L) {key:Int} {v0:Nat} (hk:(key,v0)∈L):1≤v0:=by
 have:∃ b,HD o T v0=some (.dt b):=Tr.data t (key,v0) hk
 obtain ⟨b,hb⟩:=this
 have:=(K.i.nin v0 _ hb).1
 omega
set_option maxHeartbeats 2000000 in
theorem Yq (pp mb n:Nat) (o:TB) (t:TS) (Q:List Nat) (h a:Nat) (key:Int) (L:List E) (hT:Tr t.N h a 0 1048576 (rootM h) L) (hd:(vals L).Nodup) (hk:t.k+6 * h+4<40) (hb:Q.length+10 * h+42+n≤980):Cn prog 27 [Pt_ pp,Iv_ (a:Int),Iv_ key] [trA Tb pp mb n o (some (t,a::Q))] (fun v Γ=>(¬ CH key L∧v= .tuple #[Iv_ (a:Int),.bool false,Iv_ 0]∧Γ=[trA Tb pp mb n o (some (t,a::Q))])∨(cnt t.F 0 1024≤3 * h∧∃ s:TS×List Nat,v= .tuple #[Iv_ 0,.bool false,Iv_ 20]∧Γ=[trA Tb pp mb n o (some s)])∨∃ (t2:TS) (r:Nat),(CH key L∧St t t2 Q (3 * h+2) (6 * h+3)∧Root t2.N r (AS key L))∧v= .tuple #[Iv_ (r:Int),.bool true,Iv_ 0]∧Γ=[trA Tb pp mb n o (some (t2,A5 r++Q))]):=by
 intro z R w H;replace H:=H.l1;have K:=H.says 0 rfl (fun h a=>trA.k a)
 have hn:=K.hn
 refine Ad func27 rfl ntmps27 rfl (Zc 11 rfl (z_E_ rfl (call56 _) (JD pp mb n o _) H ?_));intro w H;refine Z0 17 [4] rfl (Ao rfl (call57 _) (Ws pp mb n o (some (t,a::Q)) key L h a _ _ _ hT) H ?_);rintro _ w _ ⟨(⟨v0,hkin,rfl⟩|⟨hno,rfl⟩),rfl⟩ H'
 ·have H:=H'.l1;refine Zc 9 rfl ?_;have hv00:1≤v0:=TI K hT hkin
  refine Z0 9 [4,0] rfl (Af rfl (fun h1=> ?_) (fun h1=> ?_))
  ·(exfalso;omega)
  ·refine Zc 7 rfl (Ao rfl (call58 _) (M7 pp mb n o h t Q a 0 1048576 (rootM h) key v0 L ⟨hT,hkin,by omega,by omega,hd,⟨by unfold rootM;split<;>omega,fun q=>by unfold rootM;rw[if_neg q];omega⟩,hk,hb⟩) H ?_);rintro _ w _ (⟨hf2,s2,rfl,rfl⟩|⟨t2,c,es',⟨hSt2,hT2,hN2,hC2,hm2⟩,rfl,rfl⟩) H'
   ·have H:=H'.l1;refine Z0 26 [3] rfl (Zr rfl ?_);exact ⟨_,.inr (.inl ⟨hf2,_,rfl,rfl⟩),H.perm 1 [0] rfl rfl⟩
   ·have H:=H'.l1;refine Z0 23 [4] rfl (Ao rfl (call50 _) (EI pp mb n o (some (t2,c::Q)) c (decide (h=0)) es' hN2) H ?_);rintro _ w _ ⟨v1,v2,rfl,rfl⟩ H;replace H:=H.l3;have sv1:=H.says 0 rfl (fun h q=>q.slc)
    have sv2:=H.says 1 rfl (fun h q=>q.slc)
    refine Za 3 [] H rfl ?_;intro b3 w H;refine Ax rfl rfl (Ai 0 H rfl rfl rfl rfl (vs:=[.bool (decide (h=0)),v1,v2]) rfl (Ac rfl (Ac sv1.one (Ac sv2.one Ar))) (by kernel_rfl) (by simp) (out:=[.bool (decide (h=0)),v1,v2]) rfl) ?_;rintro w H;replace H:=H.l4;refine Z0 20 [4,0] rfl (Af rfl (fun h2=> ?_) (fun h2=> ?_))
    ·refine Zc 1 rfl ?_;have hes0:es'=[]:=List.length_eq_zero_iff.1 (by omega)
     have O2:=Kg (show TInv n (manyN n+1) t2.N t2.C (c::Q) from (H.says 3 rfl (fun h a=>trA.k a)).i) hC2 hN2
     replace H:=(H.mono 3 (B:=trA Tb pp mb n o (some ({ t2 with N:=fup t2.N c none },c::(vals es'++Q)))) rfl (fun h q=>q.opens hC2 hN2)).l4
     refine Zc 3 rfl (Ao rfl (call52 _) (DE pp mb n o _ _ c (fun d q=>by simp[fup] at q)) H.f3 ?_);rintro _ w _ ⟨t3,⟨hS3,hq3,hC3,hN3,hF3⟩,rfl,rfl⟩ H;refine Zc 6 rfl (Zr rfl ?_);exact ⟨_,.inr (.inr ⟨t3,0,⟨⟨v0,hkin⟩,(hSt2.trans O2.st (R:=Q) (R1:=Q) (fun p hp=>hp) (fun p hp=>hp) (Nat.le_refl _) (Nat.le_refl _)).trans hS3 (fun p hp=>hp) (fun p hp=>by simp[hp]) (by omega) (by omega),.inl ⟨rfl,delR_none hT2 hN2 (by omega)⟩⟩,rfl,by rw[hes0];rfl⟩),H.perm 4 [0] rfl rfl⟩
    ·refine Z2 6 [0,0,0] H rfl (GP 66 rfl (fun h3=> ?_) (fun h3=> ?_))
     ·have hh0:h≠0:=by simpa using h3
      refine Z0 6 [0] rfl (Af rfl (fun h4=> ?_) (fun h4=> ?_))
      ·refine Zc 1 rfl ?_;obtain ⟨e,h',hes1,hhh,hTe⟩:=TH hT2 hN2 (by omega) hh0;have O2:=Kg (show TInv n (manyN n+1) t2.N t2.C (c::Q) from (H.says 3 rfl (fun h a=>trA.k a)).i) hC2 hN2
       replace H:=(H.mono 3 (B:=trA Tb pp mb n o (some ({ t2 with N:=fup t2.N c none },c::(vals es'++Q)))) rfl (fun h q=>q.opens hC2 hN2)).l4
       obtain ⟨ao2,cc2,rfl⟩:=sv2;have hat:=(H.rd 2 rfl (fun h q=>q.rd)).at (j:=0) (u:=Iv_ (e.2:Int)) (by rw[hes1];simp[vL])
       replace H:=(H.mono 3 (B:=trA Tb pp mb n o (some ({ t2 with N:=fup t2.N c none },c::(e.2::Q)))) rfl (fun h q=>by rw[hes1] at q;exact q)).l4
       replace H:=H.f2.f1;refine AI (Sep z (blk b3 [.bool (decide (h=0)),v1,.slice ao2 ((vL es').length) cc2] 92::grow 3 1 (.slice ao2 ((vL es').length) cc2) ((vL es').length) ((vL es').map Iv_)::R)) 10 rfl (by kernel_rfl) (Bc H fun w H'=> ?_)
       have H:=H'.l4;refine AW [0,1] [2,0,0] [] (by exact (H.pick 4 [0,1] rfl)) rfl (by kernel_rfl) rfl (BD 2 rfl (by kernel_rfl) (by kernel_rfl) (by kernel_rfl) rfl rfl rfl (Am rfl (z:=1) (j:=0) (r:=0) (by kernel_rfl) rfl rfl rfl (by simp only[List.length_map];omega) hat (by omega)) (H.pick 4 [0,1] rfl) (BD 3 rfl (by kernel_rfl) (by kernel_rfl) (by kernel_rfl) rfl rfl rfl (Ay rfl rfl (by kernel_rfl) (fun _ hx'=>(hx'.rd 1 rfl (fun h q=>q.rd)).at (j:=0) (u:=Iv_ (e.2:Int)) (by rw[hes1];simp[vL]))) (H.pick 4 [0,1] rfl) (AW [4,5] [] [] (by exact (H.pick 4 [0,1] rfl)) rfl (by kernel_rfl) rfl (Az [6] (by kernel_rfl) (by simp) (Aw (BQ rfl rfl rfl rfl rfl rfl (fun w=>call52 _ w) (DE pp mb n o _ _ c (fun d q=>by simp[fup] at q)) H.f3 rfl ?_))))));rintro _ w _ ⟨t3,⟨hS3,hq3,hC3,hN3,hF3⟩,rfl,rfl⟩ H;replace H:=H.l4;refine Av (H.pick 4 [1,2] rfl) (AW [7,8,9] [] [] (by exact (H.pick 4 [1,2] rfl)) rfl (by kernel_rfl) rfl (a_done (by kernel_rfl) (gn (Zc 2 rfl (Zr rfl ?_)))));have hr0:manyN n+1≤e.2:=by have K3:=H.says 0 rfl (fun h a=>trA.k a);exact (K3.i.rin e.2 (by simp[B8])).1
       exact ⟨_,.inr (.inr ⟨t3,e.2,⟨⟨v0,hkin⟩,(hSt2.trans O2.st (R:=Q) (R1:=Q) (fun p hp=>hp) (fun p hp=>hp) (Nat.le_refl _) (Nat.le_refl _)).trans hS3 (fun p hp=>hp) (fun p hp=>by simp[hp]) (by omega) (by omega),root_of (hS3.fr e.2 (by simp) _ _ _ _ _ (O2.fv e.2 (by rw[hes1];simp[vals]) _ _ _ _ _ hTe)) (by unfold rootM;split<;>omega) (by omega)⟩,rfl,by rw[CI (show e.2≠0 by omega)];rfl⟩),H.perm 4 [0] rfl rfl⟩
      ·refine Zc 12 rfl (Zr rfl ?_);have hr0:manyN n+1≤c:=by have K3:=H.says 3 rfl (fun h a=>trA.k a);exact (K3.i.rin c (by simp[B8])).1
       exact ⟨_,.inr (.inr ⟨t2,c,⟨⟨v0,hkin⟩,hSt2.sub (fun p hp=>hp) (by omega) (by omega),root_of hT2 (by unfold rootM;split<;>omega) (by omega)⟩,rfl,by rw[CI (show c≠0 by omega)];rfl⟩),H.perm 4 [3] rfl rfl⟩
     ·have hh1:h=0:=by simpa using h3
      refine Zc 19 rfl (Zr rfl ?_);have hr0:manyN n+1≤c:=by have K3:=H.says 3 rfl (fun h a=>trA.k a);exact (K3.i.rin c (by simp[B8])).1
      exact ⟨_,.inr (.inr ⟨t2,c,⟨⟨v0,hkin⟩,hSt2.sub (fun p hp=>hp) (by omega) (by omega),root_of hT2 (by unfold rootM;split<;>omega) (by omega)⟩,rfl,by rw[CI (show c≠0 by omega)];rfl⟩),H.perm 4 [3] rfl rfl⟩
 ·have H:=H'.l1;refine Z0 29 [4,3] rfl (Zr rfl ?_);exact ⟨_,.inl ⟨hno,rfl,rfl⟩,H.perm 1 [0] rfl rfl⟩
theorem Yr (pp mb n:Nat) (o:TB) (s:TS×List Nat) (key:Int):Cn prog 27 [Pt_ pp,Iv_ 0,Iv_ key] [trA Tb pp mb n o (some s)] (fun v Γ=>v= .tuple #[Iv_ 0,.bool false,Iv_ 0]∧Γ=[trA Tb pp mb n o (some s)]):=by
 intro z R w H;replace H:=H.l1;refine Ad func27 rfl ntmps27 rfl (Zc 11 rfl (z_E_ rfl (call56 _) (JD pp mb n o _) H ?_));intro w H;refine Z0 17 [4] rfl (z_E_ rfl (call57 _) (Wt _ _) H ?_);intro w H;refine Z0 29 [4,3] rfl (Zr rfl ?_);exact ⟨_,⟨rfl,rfl⟩,H⟩
end
section
open Go.RowKit
variable {Tb:Ae}
def pkI (c:Int) (N:Nat):Nat:=((if c<0 then -(c+1) else c).tmod N).toNat
theorem Ri (c:Int) {N:Nat} (h:0<N):pkI c N<N:=by
 unfold pkI
 have h1:(0:Int)≤if c<0 then -(c+1) else c:=by split<;>omega
 have h2:=Int.tmod_lt_of_pos (if c<0 then -(c+1) else c) (by omega:(0:Int)<(N:Int))
 have h3:=Int.tmod_nonneg (N:Int) h1
 omega
def FS (kd fl:Int):Pg:=⟨kd,List.replicate 240 (E4 fl)⟩
theorem Ys {kd:Int} (fl:Int) (h:1≤kd∧kd≤5):(FS kd fl).Ok:=⟨h,by simp[FS]⟩
theorem OA (kd fl:Int):(FS kd fl).body.length=240:=by simp[FS]
theorem Rj (i:Nat) (x y:UInt8) (hi:i<240):((List.replicate i x++List.replicate (240 - i) y).map u8).take i++[u8 x]++((List.replicate i x++List.replicate (240 - i) y).map u8).drop (i+1)=(List.replicate (i+1) x++List.replicate (240 - (i+1)) y).map u8:=by
 rw[List.map_append,List.take_append_of_le_length (by simp),List.take_of_length_le (by simp),List.drop_append,List.drop_of_length_le (by simp),List.nil_append]
 simp only[List.map_replicate,List.length_replicate,List.drop_replicate]
 rw[show 240 - i - (i+1 - i)=240 - (i+1) from by omega,List.map_append,List.map_replicate,List.map_replicate,List.replicate_succ',List.append_assoc]
theorem Yt {n:Nat} (h:16≤n∧n≤1024):(BV (n:Int) 1030 128 2).Ok ((1200:Nat):Int):=
 Sup.ok_mk (by show 0≤(2:Int)∧(2:Int)≤1099511627776;omega) (by show 0≤(1:Int)∧(1:Int)≤1099511627776;omega) (by show 16≤(n:Int)∧(n:Int)≤1024;omega) (by show 2+(n:Int)≤1030∧(1030:Int)≤1099511627776;omega) (by show 64≤(128:Int)∧(128:Int)≤1099511627776;omega) (by show 0≤(0:Int)∧(0:Int)<128;omega) (by show 0≤(1:Int)∧(1:Int)≤1099511627776;omega) (by show (1030:Int)≤((1200:Nat):Int) - 128∧(128:Int)≤((1200:Nat):Int);omega)
theorem Rk {n:Nat} {bs:List UInt8} (hbs:bs.length=256) {M:Nat→Pg} (hM:M=D6 (fun _=>noPg) (some (gF n (bs.take 240) (manyN n),1+manyN n))):M 0=⟨1,bs.take 240⟩∧∀ i,i<manyN n→M (1+i)=CL (C1 (manyN n+1)) n i:=by
 subst hM
 refine ⟨rfl,fun i hi=> ?_⟩
 simp only[D6,gF]
 rw[if_neg (by omega),if_pos (by omega),show 1+i - 1=i by omega];rfl
def F3 (n:Nat):TB:=⟨fun _=>none,C1 (manyN n+1),[]⟩
theorem KV (p:Nat):∀ n,refs (fun _=>none) p n=0
 | 0=>rfl
 | n+1=>by simp only[refs,KV p n];rfl
theorem Wy (n:Nat) (M:Nat→Pg):Rel n M (F3 n).N (F3 n).C (F3 n).R:=
 ⟨fun p c h=>(by cases h),⟨fun p h1 h2=>(by show C1 (manyN n+1) p=_;unfold C1;rw[if_neg (by omega)];simp[F3,KV]),fun p h=>(by cases h),fun q c h=>(by cases h),fun q d h=>(by cases h),fun q d h=>(by cases h)⟩⟩
theorem OB (c:Int) (N:Nat) (hc: -9223372036854775808≤c∧c≤9223372036854775807) (hN:0<N∧N≤1099511627776):Cn prog 17 [Iv_ c,Iv_ (N:Int)] [] (fun v Γ=>v=Iv_ (pkI c N:Int)∧Γ=[]):=by
 intro z R w H;replace H:=H.l0;refine Ad func17 rfl ntmps17 rfl (Z0 12 [0] rfl (Af rfl (fun h1=> ?_) (fun h1=> ?_)))
 ·refine Z1 3 [] [c+1] rfl (by omega) (Ab rfl (NB rfl rfl (r:= -(c+1)) (by omega) (by omega)) (Zc 7 rfl (Ab rfl (K9 rfl rfl rfl (by omega)) ?_)));have hm1:=Int.tmod_lt_of_pos (-(c+1)) (by omega:(0:Int)<(N:Int))
  have hm2:=Int.tmod_nonneg (N:Int) (show 0≤ -(c+1) by omega)
  refine Zc 4 rfl (Zr rfl ?_);have hv:(-(c+1)).tmod (N:Int)=(pkI c N:Int):=by unfold pkI;rw[if_pos (by omega)];omega
  exact ⟨_,⟨congrArg Iv_ hv,rfl⟩,H⟩
 ·refine Zc 6 rfl (Ab rfl (K9 rfl rfl rfl (by omega)) ?_);have hm1:=Int.tmod_lt_of_pos c (by omega:(0:Int)<(N:Int))
  have hm2:=Int.tmod_nonneg (N:Int) (show 0≤c by omega)
  refine Zc 4 rfl (Zr rfl ?_);have hv:c.tmod (N:Int)=(pkI c N:Int):=by unfold pkI;rw[if_neg (by omega)];omega
  exact ⟨_,⟨congrArg Iv_ hv,rfl⟩,H⟩
theorem Rl (fl:Int):Cn prog 29 [Iv_ fl] [] (fun v Γ=>∃ b,v= .agg #[Iv_ 5,.slice (some ⟨b,0,none⟩) 240 240]∧Γ=[blk b ((FS 5 fl).body.map u8) 5]):=by
 intro z R w H;replace H:=H.l0;refine Ad func29 rfl ntmps29 rfl (Za 2 [] H rfl ?_);intro b1 w H;refine Zc 4 rfl (AJ rfl (E5 (k:=240) H rfl (by kernel_rfl) C4 rfl rfl rfl (by omega)) ?_);rintro _ w ⟨b2,rfl,H⟩;replace H:=H.l2;refine Zc 10 rfl ?_;refine AD (σ:=Nat) (fun i=>[(4,Iv_ (i:Int)),(0,Iv_ fl),(2,Pt_ b1),(3,.slice (some ⟨b2,0,none⟩) 240 240)])
   (fun i w=>Sep z (blk b2 ((List.replicate i (E4 fl)++List.replicate (240 - i) (0:UInt8)).map u8) 5::blk b1 [Iv_ 0,.slice none 0 0] 62::R) w∧(i≤240)) (fun i=>240 - i) 0
   (fun _ hF=>(hF.co rfl (by go_num) (hF.all rfl))) ⟨(by simpa [u8] using H),by omega⟩ ?_
 clear H;rintro i w ⟨H',hI⟩;have H:=H'.l2;have hi:=hI;clear hI
 refine Z0 9 [0] rfl (Af rfl (fun h1=> ?_) (fun h1=> ?_))
 ·refine Zc 8 rfl (Ab rfl (OO rfl (by kernel_rfl) rfl) (Z1 1 [1,i,i] [] rfl (by omega) (Ax rfl rfl (Ai 0 H rfl rfl rfl rfl (vs:=[u8 (E4 fl)]) rfl (by simp[u8,u32,Value.oneCell']) (by kernel_rfl) (by simp;omega) (out:=((List.replicate (i+1) (E4 fl)++List.replicate (240 - (i+1)) (0:UInt8)).map u8)) (Rj i _ _ (by omega))) ?_)));rintro w H;replace H:=H.l2;refine Z1 8 [] [(i:Int)+1] rfl (by omega) (gf ?_);intro _ hF;refine ⟨(i+1),(hF.co rfl (by go_num) (hF.all rfl)),⟨H,?_⟩,?_⟩
  ·omega
  ·omega
 ·obtain rfl:i=240:=by omega
  refine Zc 2 rfl (gx (Z4 10 [1] H rfl ?_));intro w H;refine Zl [1,2] H rfl ?_;rw[show (List.replicate 240 (E4 fl)++List.replicate (240 - 240) (0:UInt8)).map u8=(FS 5 fl).body.map u8 from by simp[FS]] at H;exact ⟨_,⟨b2,rfl,rfl⟩,H.perm 2 [0] rfl rfl⟩
set_option maxHeartbeats 2000000 in
theorem M8 (n:Nat) (hn:16≤n∧n≤1024) (Tb:Ae) (hT:GS Tb):Cn prog 9 [Iv_ (n:Int)] [Tb] (fun v Γ=>∃ pp:Nat,v=Pt_ pp∧Γ=[trA Tb pp 6 n (F3 n) none]):=by
 intro z R w H;replace H:=H.l1;refine Ad func9 rfl ntmps9 rfl (Zc 7 rfl (Ao rfl (call31 _) (XL 1200) H ?_));rintro _ w _ (⟨hn_,rfl,rfl⟩|⟨_,pd,rfl,rfl⟩) H'
 ·exact absurd (by omega) hn_
 ·have H:=H'.l2;refine Z0 19 [4] rfl (Ao rfl (call32 _) (Q3 _ 1200 n _ _ hn (Yt (by omega))) H ?_);rintro _ w _ ⟨D2,G2,bs,hbs,hO,hcl,hge,hdn,hpg,hM,rfl,rfl⟩ H;refine Z0 10 [4] rfl (Ao rfl (call33 _) (QY _ _ _ _ _ _ hO hcl hge (by omega)) H ?_);rintro _ w _ ⟨ps,D3,got,hgd3,fi3,hn3,rfl,rfl⟩ H;replace H:=H.l2;have hM2:pgMap (ov got) G2.B=G2.M:=by rw[hgd3];rfl
  obtain ⟨hc0,hcp⟩:=Rk (n:=n) hbs (hM2.trans hM);refine Z0 24 [4] rfl (Ao rfl (call34 _) (V5 _ _ _ _ 6 n (C1 (manyN n+1)) fi3 hn hpg (bs.take 240) hc0 hcp (fun k=>Pp _ k) (fun p hp=>by unfold C1;rw[if_pos (by omega)])) H ?_);rintro _ w _ ⟨pp,pc,bn,m,pa,rfl,rfl⟩ H;refine Z0 24 [4] rfl (Zr rfl ?_);have H8:=(H.pick 7 [1,0,2,3,4,5,6] rfl).toPo (X:=⟨ps,pd,pc,bn,m,pa,D3,(Of G2.x (pgMap (ov got) G2.B)),CV,[],0,BS,Tb⟩) (mb:=6) (n:=n) (M0:=pgMap (ov got) G2.B) (C0:=C1 (manyN n+1)) (t:=none) ⟨hn,fi3,hpg,⟨hT,rfl⟩,fun p _=>rfl,hcp,fun k=>Pp _ k,fun p hp=>(by unfold C1;rw[if_pos (by omega)]),fun _=>⟨rfl,rfl⟩,fun _ e=>(by cases e)⟩ rfl
  exact ⟨_,⟨pp,rfl,rfl⟩,Sep.toTr0 (o:=F3 n) H8 (Wy n _)⟩
end
section
open Go.RowKit
def cutZ (z:Nat) (ao:Option Addr) (c p:Nat):Option Addr:=if c=p then ao else ao.map (·.add (p * z))
theorem rdH.cutZ {z:Nat} {ao:Option Addr} {n c p m:Nat} {xs:List Value} {h:Hp} (r:rdH z (.slice ao n c) n xs h) (hz:0<z) (h1:p+m≤n) (h2:n≤c):rdH z (.slice (YtickmpiipomncaaGreatDoor.cutZ z ao c p) m (c - p)) m ((xs.drop (p * z)).take (m * z)) h:=by
 obtain ⟨ao',c',e,q1,q2,q3,q4⟩:=r
 cases e
 have hmz:p * z+m * z≤n * z:=by rw[←Nat.add_mul];exact Nat.mul_le_mul_right _ h1
 refine ⟨_,_,rfl,by omega,by omega,by simp;omega,fun j u hj=> ?_⟩
 have hjm:j<m * z:=by
  have:=(List.getElem?_eq_some_iff.1 hj).1
  simp at this;omega
 obtain ⟨b,o,rfl,hc⟩:=q4 (p * z+j) u (by
  rw[List.getElem?_take,if_pos hjm,List.getElem?_drop] at hj
  exact hj)
 have hm0:0<m:=Nat.pos_of_ne_zero fun e=>by subst e;omega
 refine ⟨b,o+p * z,?_,by rw[Nat.add_assoc];exact hc⟩
 unfold YtickmpiipomncaaGreatDoor.cutZ
 rw[if_neg (by omega)]
 simp only[Option.map_some]
 unfold Addr.add;split
 ·rename_i h0;simp[h0]
 ·rfl
theorem rdH.slcapZ {z:Nat} {ao:Option Addr} {n c:Nat} {xs:List Value} {h:Hp} (r:rdH z (.slice ao n c) n xs h):n≤c∧c≤9223372036854775807∧xs.length=n * z:=by
 obtain ⟨ao',c',e,q1,q2,q3,q4⟩:=r
 cases e;exact ⟨q1,q2,q3⟩
section
variable {P:Program} {C:World→Prop} {o:Oper} {n:Nat} {ds:List Deferred} {L:List (Nat×Value)} {x y:Operand}
theorem G8 {z:Nat} {t:TypeId} {lo hi:Option Operand} {ao:Option Addr} {l c p q l' c':Nat} (ho:o.op= .slice t x lo hi none) (ht:Cj P t=some z)
  (hx:ev L x=some (.slice ao l c)) (hlo:(lo=none∧p=0)∨∃ y k i,lo=some y∧ev L y=some (.int k i)∧i=(p:Int)) (hhi:(hi=none∧q=l)∨∃ y k i,hi=some y∧ev L y=some (.int k i)∧i=(q:Int)) (hpq:p≤q) (hqc:q≤c)
  (h2:q - p=l') (h3:c - p=c'):Aj P C n ds L o (.slice (cutZ z ao c p) l' c'):=by
 subst h2 h3
 exact HH ho ht hx hlo hhi hpq hqc
end
def Ba (L:List E):List Value:=L.flatMap fun e=>[.int .i64 e.1,.int .i64 (e.2:Int)]
theorem GB (A B:List E):Ba (A++B)=Ba A++Ba B:=by simp[Ba]
theorem CC:∀ {L:List E} {j:Nat} {e:E},L[j]? =some e→(Ba L)[j * 2]? =some (Iv_ e.1)∧(Ba L)[j * 2+1]? =some (Iv_ (e.2:Int))
 | x::L,0,e,h=>by simp at h;subst h;exact ⟨rfl,rfl⟩
 | x::L,j+1,e,h=>by
  have:=CC (L:=L) (j:=j) (by simpa using h)
  have e1:Ba (x::L)=Iv_ x.1::Iv_ (x.2:Int)::Ba L:=rfl
  rw[e1,show (j+1) * 2=j * 2+1+1 by omega]
  simp only[List.getElem?_cons_succ]
  exact this
theorem M9:∀ (L:List E) (p:Nat),(Ba L).drop (p * 2)=Ba (L.drop p)
 | L,0=>by simp
 | [],p+1=>by simp[Ba]
 | x::L,p+1=>by
  have e1:Ba (x::L)=Iv_ x.1::Iv_ (x.2:Int)::Ba L:=rfl
  rw[e1,show (p+1) * 2=p * 2+1+1 by omega,List.drop_succ_cons,List.drop_succ_cons,List.drop_succ_cons];exact M9 L p
theorem Na:∀ (L:List E) (p:Nat),(Ba L).take (p * 2)=Ba (L.take p)
 | L,0=>by simp[Ba]
 | [],p+1=>by simp[Ba]
 | x::L,p+1=>by
  have e1:Ba (x::L)=Iv_ x.1::Iv_ (x.2:Int)::Ba L:=rfl
  rw[e1,show (p+1) * 2=p * 2+1+1 by omega,List.take_succ_cons,List.take_succ_cons,List.take_succ_cons,Na L p];rfl
theorem Ik (L:List E):∀ c∈Ba L,c.oneCell'=true:=fun c hc=>by
 simp only[Ba,List.mem_flatMap] at hc
 obtain ⟨e,_,he⟩:=hc
 simp at he;rcases he with rfl|rfl<;>rfl
theorem rdH.cutE {ao:Option Addr} {n c p m:Nat} {L:List E} {h:Hp} (r:rdH 2 (.slice ao n c) n (Ba L) h) (h1:p+m≤n) (h2:n≤c):rdH 2 (.slice (YtickmpiipomncaaGreatDoor.cutZ 2 ao c p) m (c - p)) m (Ba ((L.drop p).take m)) h:=by
 have:=r.cutZ (by omega) h1 h2
 rw[M9,Na] at this;exact this
def mpA (pm:Nat) (L:List E):Ae:=fun h=>∃ v,True∧seps [blk pm [v] 76,grow 55 2 v L.length (Ba L)] h
theorem Sep.mp {z w:World} {Γ:List Ae} {pm:Nat} {L:List E} (H:Sep z (mpA pm L::Γ) w):∃ v,Sep z (YtickmpiipomncaaGreatDoor.blk pm [v] 76::YtickmpiipomncaaGreatDoor.grow 55 2 v L.length (Ba L)::Γ) w:=by
 obtain ⟨v,_,H⟩:=H.into (p:=fun _=>True) (As:=fun v=>[YtickmpiipomncaaGreatDoor.blk pm [v] 76,YtickmpiipomncaaGreatDoor.grow 55 2 v L.length (Ba L)]) (fun _ q=>q)
 exact ⟨v,H⟩
theorem Sep.toMp {z w:World} {Γ:List Ae} {pm:Nat} {v:Value} {L:List E} (H:Sep z (YtickmpiipomncaaGreatDoor.blk pm [v] 76::YtickmpiipomncaaGreatDoor.grow 55 2 v L.length (Ba L)::Γ) w):Sep z (mpA pm L::Γ) w:=H.made 2 (fun h q=>⟨v,trivial,q⟩)
theorem KW {L:List E} {i:Nat} {e:E} (k:Int) (h:L[i]? =some e):AS k (L.take (i+1))=if e.1=k then AS k (L.take i) else AS k (L.take i)++[e]:=by
 have h1:L.take (i+1)=L.take i++[e]:=by rw[List.take_add_one,h];rfl
 rw[h1,G5]
 split
 ·rename_i h2;simp[AS,h2]
 ·rename_i h2;simp[AS,h2]
theorem TJ {L:List E} (hs:Srt L) (key:Int) (val:Nat):putE key val (AS key L)=putE key val L:=by
 rcases key_split hs key with ⟨X,v,Y,rfl,h1⟩|⟨h0,X,Y,rfl,h1,h2⟩
 ·rw[Or hs,Dm _ h1]
  have h3:∀ e∈Y,key<e.1:=fun e he=>(Srt.cons.1 (Srt.app.1 hs).2.1).1 e he
  exact putE_new h1 h3
 ·rw[Gy (fun e he=>by
   rcases List.mem_append.1 he with q|q
   ·have:=h1 e q;omega
   ·have:=h2 e q;omega)]
theorem Rm {L:List E} (hs:Srt L) (key:Int) (val:Nat) {i:Nat} (h1:∀ (j:Nat) (e:E),j<i→(AS key L)[j]? =some e→e.1<key) (h2:∀ e,(AS key L)[i]? =some e→key≤e.1):
  putE key val L=(AS key L).take i++(key,val)::(AS key L).drop i:=by
 have hs':Srt (AS key L):=List.Pairwise.sublist List.filter_sublist hs
 have hk:∀ e∈AS key L,e.1≠key:=fun e he=>by simpa [AS] using (List.mem_filter.1 he).2
 rw[←TJ hs]
 refine (congrArg (putE key val) (List.take_append_drop i _).symm).trans (putE_new (fun e he=> ?_) (fun e he=> ?_))
 ·obtain ⟨j,hj⟩:=List.getElem?_of_mem he
  rw[List.getElem?_take] at hj
  split at hj
  ·exact h1 j e (by assumption) hj
  ·cases hj
 ·have h3:=hk e (List.mem_of_mem_drop he)
  have h4:Srt ((AS key L).drop i):=List.Pairwise.sublist (List.drop_sublist _ _) hs'
  cases hd:(AS key L).drop i with
  | nil=>rw[hd] at he;cases he
  | cons x t=>
   rw[hd] at he h4
   have h5:key≤x.1:=h2 x (by
    have:((AS key L).drop i)[0]? =some x:=by rw[hd];rfl
    rwa[List.getElem?_drop,Nat.add_zero] at this)
   rcases List.mem_cons.1 he with rfl|q
   ·omega
   ·have:=(Srt.cons.1 h4).1 e q;omega
theorem Wz (pm:Nat) (key:Int) (L:List E) (hL:L.length≤1048576):Cn prog 26 [Pt_ pm,Iv_ key] [mpA pm L] (fun v Γ=>∃ b:Bool,v= .bool b∧Γ=[mpA pm (AS key L)]):=by
 intro z R w H;replace H:=H.l1;refine Ad func26 rfl ntmps26 rfl (Zc 1 rfl ?_);obtain ⟨v_,H⟩:=(H.pick 1 [0] rfl).mp;replace H:=H.l2;obtain ⟨ao,oc,rfl⟩:=H.says 1 rfl (fun h q=>q.rd.slc);have hcp_ao:=H.says 1 rfl (fun h q=>q.rd.slcapZ)
 have H:Sep z (blk pm [.slice ao L.length oc] 76::grow 55 2 (.slice ao L.length oc) L.length (Ba L)::R) w:=H
 refine Zc 11 rfl ?_;replace H:=(H.nilg 55 2).l3
 refine Zc 5 rfl ?_;refine AD (σ:=Nat×Value) (fun ⟨i,u⟩=>[(6,Iv_ (i:Int)),(5,u),(0,Pt_ pm),(1,Iv_ key),(4,.bool false)])
   (fun ⟨i,u⟩ w=>Sep z (grow 55 2 u ((AS key (L.take i)).length) (Ba (AS key (L.take i)))::blk pm [.slice ao L.length oc] 76::grow 55 2 (.slice ao L.length oc) L.length (Ba L)::R) w∧(i≤L.length)) (fun ⟨i,u⟩=>L.length - i) ⟨0,.slice none 0 0⟩
   (fun _ hF=>(hF.co rfl (by go_num) (hF.co rfl (by go_num) (hF.all rfl)))) ⟨H,by omega⟩ ?_
 clear H;rintro ⟨i,u⟩ w ⟨H',hI⟩;dsimp only at hI H' ⊢
 have H:=H'.l3;have su:=H.says 0 rfl (fun h q=>q.slc)
 have hi:=hI;clear hI
 refine Z2 12 [0,1,0,0] H rfl (Af rfl (fun h1=> ?_) (fun h1=> ?_))
 ·refine Zc 5 rfl ?_;obtain ⟨e,he⟩:∃ e,L[i]? =some e:=⟨_,List.getElem?_eq_getElem (by omega)⟩;have hat0:=(H.rd 2 rfl (fun h q=>q.rd)).at (CC he).1
  have hat1:=(H.rd 2 rfl (fun h q=>q.rd)).at (CC he).2
  have hdl:(AS key (L.take i)).length≤i:=Nat.le_trans (List.length_filter_le _ _) (by rw[List.length_take];omega)
  refine Z2 6 [0,1,0] H rfl (Ab rfl (Am rfl (z:=2) (j:=i) (r:=i * 2) (by kernel_rfl) rfl rfl rfl (by omega) hat0 (by omega)) (Ab rfl (FA rfl (k:=0) (r:=i * 2) (by kernel_rfl) rfl hat0 rfl) (Ab rfl (Ay rfl rfl (by kernel_rfl) (Au hat0)) (Z0 4 [0] rfl (Af rfl (fun h2=> ?_) (fun h2=> ?_))))))
  ·refine Z2 7 [0,1,0] H rfl (Ab rfl (Am rfl (z:=2) (j:=i) (r:=i * 2) (by kernel_rfl) rfl rfl rfl (by omega) hat0 (by omega)) (Ab rfl (Cx rfl rfl (vs:=[Iv_ e.1,Iv_ (e.2:Int)]) (by kernel_rfl) (by simp) (Au (fun k u hk=>by rcases k with _|_|k<;>simp at hk<;>subst hk<;>assumption))) (AJ rfl (AC H rfl (by kernel_rfl) AU rfl (by decide) (by decide) (out:=[Iv_ e.1,Iv_ (e.2:Int)]) (by kernel_rfl)) ?_)));rintro _ w ⟨b1,rfl,H⟩;replace H:=H.l4;refine AJ rfl (AX 1 H rfl rfl (by kernel_rfl) AU rfl rfl (H.rd 0 rfl (fun h q=>q.rd (by omega) (by omega) (by simp) rfl)) (by simp[Value.oneCell']) (by omega)) ?_;rintro v2 w H';have H':Sep z (blk b1 [Iv_ e.1,Iv_ (e.2:Int)] 55::grow 55 2 v2 ((AS key (L.take i)).length+1) (Ba (AS key (L.take i))++[Iv_ e.1,Iv_ (e.2:Int)])::blk pm [.slice ao L.length oc] 76::grow 55 2 (.slice ao L.length oc) L.length (Ba L)::R) w:=H'
   have ev2:(Ba (AS key (L.take i))++[Iv_ e.1,Iv_ (e.2:Int)]:List Value)=Ba (AS key (L.take i)++[e]):=by rw[GB];rfl
   rw[ev2] at H';have H:=H'.l4;have sv2:=H.says 1 rfl (fun h q=>q.slc)
   refine Z1 9 [] [(i:Int)+1] rfl (by omega) ?_;replace H:=H.d;refine gf ?_;intro _ hF;refine ⟨⟨i+1,v2⟩,(hF.co rfl (by go_num) (hF.all rfl)),⟨(by rw[KW key he,if_neg (by omega),List.length_append];exact H),?_⟩,?_⟩
   ·omega
   ·(dsimp only;omega)
  ·refine Z1 8 [] [(i:Int)+1] rfl (by omega) (gf ?_);intro _ hF;refine ⟨⟨i+1,u⟩,(hF.co rfl (by go_num) (hF.all rfl)),⟨(by rw[KW key he,if_pos (by omega)];exact H),?_⟩,?_⟩
   ·omega
   ·(dsimp only;omega)
 ·refine Zc 2 rfl (gx (Zc 5 rfl (Ab rfl (CR rfl (sz:=2) (by kernel_rfl) rfl su) (Z2 15 [0,1,0,0,0] H rfl (Ax rfl rfl (JK 1 H rfl rfl rfl rfl su.cells su.one (by kernel_rfl)) ?_)))));rintro w H;replace H:=H.l3;refine Zc 9 rfl (Zr rfl ?_);rw[show i=L.length by omega,List.take_length] at H;exact ⟨_,⟨_,rfl,rfl⟩,(H.pick 3 [1,0] rfl).toMp⟩
theorem Yu (pm:Nat) (key:Int) (val:Nat) (L:List E) (hL:L.length≤1048576) (hs:Srt L):Cn prog 35 [Pt_ pm,Iv_ key,Iv_ (val:Int)] [mpA pm L] (fun v Γ=>v= .tuple #[]∧Γ=[mpA pm (putE key val L)]):=by
 intro z R w H;replace H:=H.l1;have hdl:(AS key L).length≤L.length:=List.length_filter_le _ _
 refine Ad func35 rfl ntmps35 rfl (Zc 4 rfl (Ao rfl (call26 _) (Wz _ _ _ hL) H ?_));rintro _ w _ ⟨bb,rfl,rfl⟩ H;refine Zc 3 rfl ?_;obtain ⟨v_,H⟩:=(H.pick 1 [0] rfl).mp;replace H:=H.l2;obtain ⟨ao,oc,rfl⟩:=H.says 1 rfl (fun h q=>q.rd.slc);have hcp_ao:=H.says 1 rfl (fun h q=>q.rd.slcapZ)
 have H:Sep z (blk pm [.slice ao ((AS key L).length) oc] 76::grow 55 2 (.slice ao ((AS key L).length) oc) ((AS key L).length) (Ba (AS key L))::R) w:=H
 refine Zc 6 rfl ?_;refine AD (σ:=Nat) (fun i=>[(6,Iv_ (i:Int)),(0,Pt_ pm),(1,Iv_ key),(2,Iv_ (val:Int))])
   (fun i w=>Sep z (blk pm [.slice ao ((AS key L).length) oc] 76::grow 55 2 (.slice ao ((AS key L).length) oc) ((AS key L).length) (Ba (AS key L))::R) w∧(i≤(AS key L).length∧∀ (j:Nat) (e:E),j<i→(AS key L)[j]? =some e→e.1<key)) (fun i=>(AS key L).length - i) 0
   (fun _ hF=>(hF.co rfl (by go_num) (hF.all rfl))) ⟨H,⟨Nat.zero_le _,fun j e h=>by omega⟩⟩ ?_
 clear H;rintro i w ⟨H',hI⟩;have H:=H'.l2;obtain ⟨hi,hall⟩:=hI;refine Z2 11 [0,0,0,0] H rfl (Al 18 rfl (fun h1=> ?_) (fun h1=> ?_))
 ·have hlt9:=h1
  obtain ⟨e,he⟩:∃ e,(AS key L)[i]? =some e:=⟨_,List.getElem?_eq_getElem (by omega)⟩;have hat0:=(H.rd 1 rfl (fun h q=>q.rd)).at (CC he).1
  refine Z2 5 [0,0,0] H rfl (Ab rfl (Am rfl (z:=2) (j:=i) (r:=i * 2) (by kernel_rfl) rfl rfl rfl (by omega) hat0 (by omega)) (Ab rfl (FA rfl (k:=0) (r:=i * 2) (by kernel_rfl) rfl hat0 rfl) (Ab rfl (Ay rfl rfl (by kernel_rfl) (Au hat0)) (Z0 5 [0] rfl (Af rfl (fun h2=> ?_) (fun h2=> ?_))))))
  ·refine Z1 9 [] [(i:Int)+1] rfl (by omega) (gf ?_);intro _ hF;refine ⟨(i+1),(hF.co rfl (by go_num) (hF.all rfl)),⟨H,?_⟩,?_⟩
   ·refine ⟨by omega,fun j e9 hj he9=> ?_⟩;rcases Nat.lt_or_ge j i with q|q
    ·exact hall j e9 q he9
    ·obtain rfl:j=i:=by omega
     rw[he] at he9;cases he9;omega
   ·omega
  ·refine Zc 2 rfl (gx (Z2 15 [0,0,0] H rfl (Ab rfl (G8 (z:=2) (p:=0) (q:=i) (l':=i) (c':=oc) rfl (by kernel_rfl) rfl (.inl ⟨rfl,rfl⟩) (.inr ⟨_,_,_,rfl,rfl,rfl⟩) (by omega) (by omega) rfl rfl) ?_)));replace H:=(H.nilg 55 2).l3
   refine AJ rfl (AX 0 H rfl rfl (by kernel_rfl) AU rfl rfl (H.rd 2 rfl (fun h q=>q.rd.cutE (by omega) (by omega))) (Ik _) (by omega)) ?_;rintro v1 w H;replace H:=H.l3;have sv1:=H.says 0 rfl (fun h q=>q.slc)
   refine Zc 9 rfl (AJ rfl (AC H rfl (by kernel_rfl) AU rfl (by decide) (by decide) (out:=[Iv_ key,Iv_ (val:Int)]) (by kernel_rfl)) ?_);rintro _ w ⟨b2,rfl,H⟩;replace H:=H.l4;refine AJ rfl (AX 1 H rfl rfl (by kernel_rfl) AU rfl rfl (H.rd 0 rfl (fun h q=>q.rd (by omega) (by omega) (by simp) rfl)) (by simp[Value.oneCell']) (by omega)) ?_;rintro v3 w H;replace H:=H.l4;have sv3:=H.says 1 rfl (fun h q=>q.slc)
   refine Z2 11 [0,2,0] H rfl (Ab rfl (G8 (z:=2) (p:=i) (q:=(AS key L).length) (l':=((AS key L).length) - i) (c':=oc - i) rfl (by kernel_rfl) rfl (.inr ⟨_,_,_,rfl,rfl,rfl⟩) (.inl ⟨rfl,rfl⟩) (by omega) (by omega) rfl rfl) (AJ rfl (AX 1 H rfl rfl (by kernel_rfl) AU rfl rfl (H.rd 3 rfl (fun h q=>q.rd.cutE (by omega) (by omega))) (Ik _) (by omega)) ?_));rintro v4 w H;replace H:=H.l4;have sv4:=H.says 1 rfl (fun h q=>q.slc)
   refine Z0 8 [0] rfl (Ax rfl rfl (JK 2 H rfl rfl rfl rfl sv4.cells sv4.one (by kernel_rfl)) ?_);rintro w H;replace H:=H.l4;refine Zc 1 rfl (Zf rfl ?_);have ep:=Rm hs key val hall (fun e9 he9=>by first|(have:=(List.getElem?_eq_some_iff.1 he9).1;omega)|(rw[he] at he9;cases he9;omega))
   rw[show (0+i+1+((AS key L).length - i):Nat)=(putE key val L).length from by rw[ep];simp only[List.length_append,List.length_take,List.length_cons,List.length_drop];omega,show ([]++Ba (((AS key L).drop 0).take i)++List.take (1 * 2) (List.drop 0 [Iv_ key,Iv_ (val:Int)])++Ba (((AS key L).drop i).take ((AS key L).length - i)):List Value)=Ba (putE key val L) from by rw[ep,GB,List.drop_zero,List.take_of_length_le (l:=(AS key L).drop i) (by rw[List.length_drop];omega)];simp[Ba]] at H;exact ⟨_,⟨rfl,rfl⟩,(H.pick 4 [2,1] rfl).toMp⟩
 ·refine Zc 16 rfl (gx (Z2 15 [0,0,0] H rfl (Ab rfl (G8 (z:=2) (p:=0) (q:=i) (l':=i) (c':=oc) rfl (by kernel_rfl) rfl (.inl ⟨rfl,rfl⟩) (.inr ⟨_,_,_,rfl,rfl,rfl⟩) (by omega) (by omega) rfl rfl) ?_)));replace H:=(H.nilg 55 2).l3
  refine AJ rfl (AX 0 H rfl rfl (by kernel_rfl) AU rfl rfl (H.rd 2 rfl (fun h q=>q.rd.cutE (by omega) (by omega))) (Ik _) (by omega)) ?_;rintro v5 w H;replace H:=H.l3;have sv5:=H.says 0 rfl (fun h q=>q.slc)
  refine Zc 9 rfl (AJ rfl (AC H rfl (by kernel_rfl) AU rfl (by decide) (by decide) (out:=[Iv_ key,Iv_ (val:Int)]) (by kernel_rfl)) ?_);rintro _ w ⟨b6,rfl,H⟩;replace H:=H.l4;refine AJ rfl (AX 1 H rfl rfl (by kernel_rfl) AU rfl rfl (H.rd 0 rfl (fun h q=>q.rd (by omega) (by omega) (by simp) rfl)) (by simp[Value.oneCell']) (by omega)) ?_;rintro v7 w H;replace H:=H.l4;have sv7:=H.says 1 rfl (fun h q=>q.slc)
  refine Z2 11 [0,2,0] H rfl (Ab rfl (G8 (z:=2) (p:=i) (q:=(AS key L).length) (l':=((AS key L).length) - i) (c':=oc - i) rfl (by kernel_rfl) rfl (.inr ⟨_,_,_,rfl,rfl,rfl⟩) (.inl ⟨rfl,rfl⟩) (by omega) (by omega) rfl rfl) (AJ rfl (AX 1 H rfl rfl (by kernel_rfl) AU rfl rfl (H.rd 3 rfl (fun h q=>q.rd.cutE (by omega) (by omega))) (Ik _) (by omega)) ?_));rintro v8 w H;replace H:=H.l4;have sv8:=H.says 1 rfl (fun h q=>q.slc)
  refine Z0 8 [0] rfl (Ax rfl rfl (JK 2 H rfl rfl rfl rfl sv8.cells sv8.one (by kernel_rfl)) ?_);rintro w H;replace H:=H.l4;refine Zc 1 rfl (Zf rfl ?_);have ep:=Rm hs key val hall (fun e9 he9=>by first|(have:=(List.getElem?_eq_some_iff.1 he9).1;omega)|(rw[he] at he9;cases he9;omega))
  rw[show (0+i+1+((AS key L).length - i):Nat)=(putE key val L).length from by rw[ep];simp only[List.length_append,List.length_take,List.length_cons,List.length_drop];omega,show ([]++Ba (((AS key L).drop 0).take i)++List.take (1 * 2) (List.drop 0 [Iv_ key,Iv_ (val:Int)])++Ba (((AS key L).drop i).take ((AS key L).length - i)):List Value)=Ba (putE key val L) from by rw[ep,GB,List.drop_zero,List.take_of_length_le (l:=(AS key L).drop i) (by rw[List.length_drop];omega)];simp[Ba]] at H;exact ⟨_,⟨rfl,rfl⟩,(H.pick 4 [2,1] rfl).toMp⟩
end
section
open Go.RowKit
variable {Tb:Ae}
variable {z w:World} {Γ:List Ae} {pp mb n:Nat} {o:TB} {t t':TS} {R:List Nat} {T:TT}
theorem OC (pp mb n:Nat) (o:TB) (t:TS) (R:List Nat) (fl:Int) (b:Nat) (hk:t.k<40):
  Cn prog 28 [Pt_ pp,.agg #[Iv_ 5,.slice (some ⟨b,0,none⟩) 240 240]] [trA Tb pp mb n o (some (t,R)),blk b ((FS 5 fl).body.map u8) 5] (fun v Γ=>(cnt t.F 0 1024=0∧v= .tuple #[Iv_ 0,Iv_ 20]∧Γ=[trA Tb pp mb n o (some (t,R)),blk b ((FS 5 fl).body.map u8) 5])∨
   ∃ (a:Nat) (t2:TS),(t.N a=none∧t2.N a=some (.dt (FS 5 fl).body)∧(∀ q d,t2.N q=some (.nd d)→a∉vals d.es)∧(∀ h c lo hi m L,Tr t.N h c lo hi m L→Tr t2.N h c lo hi m L)∧t2.k≤t.k+1∧cnt t.F 0 1024=cnt t2.F 0 1024+1)∧v= .tuple #[Iv_ (a:Int),Iv_ 0]∧Γ=[trA Tb pp mb n o (some (t2,a::R)),blk b ((FS 5 fl).body.map u8) 5]):=by
 intro z R' w H
 have K:=H.says 0 rfl (fun h a=>trA.k a)
 have I:TInv n (manyN n+1) t.N t.C R:=K.i
 refine Ret.mono (Cn.at (MW pp mb n o t R R (FS 5 fl) (Ys fl (by omega)) _ _ (fun h q=>q.rd (by omega) (by omega) (by simp[OA]) (by simp only[Nat.mul_one,List.drop_zero];exact List.take_of_length_le (by rw[List.length_map,OA];omega))) hk (some (.dt (FS 5 fl).body)) (fun q hq=>by cases hq;rfl) (fun a h1 h2 h3=>(I.freshD h3 ⟨h1,h2⟩).2.1)) H 2 [0,1] rfl rfl) ?_
 rintro v w' ⟨Γ',(⟨h0,rfl,rfl⟩|⟨a,F,k,⟨h1,h2,h3,h4,h5,h6,h7⟩,rfl,rfl⟩),H'⟩
 ·exact ⟨_,.inl ⟨h0,rfl,rfl⟩,H'⟩
 ·obtain ⟨f1,f2,f3⟩:=I.freshD (b:=(FS 5 fl).body) h2 ⟨h1.1,h1.2⟩
  refine ⟨_,.inr ⟨a,⟨_,_,F,k⟩,⟨f1,Be _ _ _,fun q d hq=> ?_,fun h c lo hi m L q=>q.fup f3 (fun e=> ?_),h6,h7⟩,rfl,rfl⟩,H'⟩
  ·have hq:fup t.N a (some (.dt (FS 5 fl).body)) q=some (.nd d):=hq
   by_cases e:q=a
   ·subst e;rw[Be] at hq;cases hq
   ·rw[AQ _ _ e] at hq;exact f3 q d hq
  ·subst e;obtain ⟨d,hd⟩:=q.node;rw[f1] at hd;cases hd
structure LwI (n:Nat) (o:TB) (a:Nat) (L:List E) (Q:List Nat):Prop where
 n:n≤511
 q:Q.length≤100
 root:Root o.N a L
 nd:(vals L).Nodup
 r:o.R=A5 a++Q
theorem Root.low {N:Hm} {C:Nat→Nat} {f a:Nat} {L:List E} (I:TInv n f N C R) (h:Root N a L) (ha:a≠0) (hn:n≤511):∃ h,Tr N h a 0 1048576 (rootM h) L∧h≤4:=by
 rcases h with ⟨e,_⟩|⟨_,h,hT⟩
 ·exact absurd e ha
 ·exact ⟨h,hT,hT.low I (Nat.le_refl _) hn⟩
theorem Root.srt {N:Hm} {a:Nat} {L:List E} (h:Root N a L):Srt L∧Bp 0 1048576 L:=by
 rcases h with ⟨_,rfl⟩|⟨_,h,hT⟩
 ·exact ⟨by simp[Srt],by simp[Bp]⟩
 ·exact hT.srt
theorem Root.data {N:Hm} {a:Nat} {L:List E} (h:Root N a L):∀ e∈L,∃ b,N e.2=some (.dt b):=by
 rcases h with ⟨_,rfl⟩|⟨_,h,hT⟩
 ·simp
 ·exact hT.data
def Kp (N N':Hm) (Q:List Nat):Prop:=∀ c∈Q,∀ L,Root N c L→Root N' c L
theorem Kp.of {N N':Hm} {Q:List Nat} (h:∀ c∈Q,∀ h lo hi m L,Tr N h c lo hi m L→Tr N' h c lo hi m L):Kp N N' Q:=fun c hc L q=>by
 rcases q with q|⟨h0,h1,hT⟩
 ·exact .inl q
 ·exact .inr ⟨h0,h1,h c hc _ _ _ _ _ hT⟩
theorem Kp.trans {N N' N'':Hm} {Q:List Nat} (h:Kp N N' Q) (h2:Kp N' N'' Q):Kp N N'' Q:=fun c hc L q=>h2 c hc L (h c hc L q)
theorem Nb {F G:Nat→Bool} (h:∀ q,F q=true→G q=true) (a:Nat):∀ n,cnt F a n≤cnt G a n
 | 0=>Nat.le_refl _
 | n+1=>by
  have:=Nb h a n
  have h2:(F (a+n)).toNat≤(G (a+n)).toNat:=by
   cases e:F (a+n) with
   | false=>simp
   | true=>rw[h _ e];simp
  simp only[cnt];omega
theorem TrK.free {n:Nat} {o:TB} {t:TS} {R:List Nat} (K:TrK n o (some (t,R))):cnt t.F 0 1024≤cnt (frC n t.C) 0 1024:=
 Nb (fun q hq=>by
  obtain ⟨h1,h2,_⟩:=K.fr q hq
  simp only[frC];exact decide_eq_true ⟨h1,h2⟩) 0 1024
theorem Uu (pp mb n:Nat) (o:TB) (t:TS) (Q:List Nat) (a:Nat) (key:Int) (val:Nat) (b:List UInt8) (L:List E) (hR:Root t.N a L) (hn:n≤511) (hkk:0≤key∧key<1048576) (hvd:t.N val=some (.dt b)) (hnv:∀ q d,t.N q=some (.nd d)→val∉vals d.es) (hk:t.k≤20) (hb:Q.length≤100):
  Cn prog 30 [Pt_ pp,Iv_ (a:Int),Iv_ key,Iv_ (val:Int)] [trA Tb pp mb n o (some (t,val::(A5 a++Q)))] (fun v Γ=>(cnt t.F 0 1024≤10∧∃ s:TS×List Nat,v= .tuple #[Iv_ 0,Iv_ 20]∧Γ=[trA Tb pp mb n o (some s)])∨
   ∃ (t2:TS) (r:Nat),(St t t2 Q 11 16∧Root t2.N r (putE key val L)∧cnt t2.F 0 1024≤cnt (frC n t2.C) 0 1024)∧v= .tuple #[Iv_ (r:Int),Iv_ 0]∧Γ=[trA Tb pp mb n o (some (t2,A5 r++Q))]):=by
 intro z R' w H
 have K:=H.says 0 rfl (fun h a=>trA.k a)
 by_cases ha:a=0
 ·subst ha
  have hL:L=[]:=by rcases hR with ⟨_,e⟩|⟨e,_⟩;exact e;exact absurd rfl e
  subst hL
  refine Ret.mono (Cn.at (Yj pp mb n o t Q key val b hkk hvd (by omega)) H 1 [0] rfl rfl) ?_
  rintro v w' ⟨Γ',(⟨h0,s,rfl,rfl⟩|⟨t2,r,⟨h1,h2⟩,rfl,rfl⟩),H'⟩
  ·exact ⟨_,.inl ⟨by omega,s,rfl,rfl⟩,H'⟩
  ·have K2:=H'.says 0 rfl (fun h a=>trA.k a)
   have hr:r≠0:=by have:=(K2.i.rin r (by simp[B8])).1;omega
   exact ⟨_,.inr ⟨t2,r,⟨h1.sub (fun p hp=>hp) (by omega) (by omega),.inr ⟨hr,0,h2⟩,K2.free⟩,rfl,by rw[CI hr];rfl⟩,H'⟩
 ·obtain ⟨h,hT,hh⟩:=hR.low K.i ha hn
  have H2:=H.mono 0 (B:=trA Tb pp mb n o (some (t,a::val::Q))) rfl (fun h q=>q.perm (by rw[CI ha];exact List.Perm.swap _ _ _))
  have hk3:t.k+3 * h+3<40:=by omega
  refine Ret.mono (Cn.at (Yk pp mb n o t Q h a (rootM h) key val L ⟨hT,hkk,by omega,by omega,⟨b,hvd⟩,hnv,hk3,by omega⟩) H2 1 [0] rfl rfl) ?_
  rintro v w' ⟨Γ',(⟨h0,s,rfl,rfl⟩|⟨t2,r,⟨h1,h2⟩,rfl,rfl⟩),H'⟩
  ·exact ⟨_,.inl ⟨by omega,s,rfl,rfl⟩,H'⟩
  ·have K2:=H'.says 0 rfl (fun h a=>trA.k a)
   have hr:r≠0:=by have:=(K2.i.rin r (by simp[B8])).1;omega
   refine ⟨_,.inr ⟨t2,r,⟨h1.sub (fun p hp=>hp) (by omega) (by omega),?_,K2.free⟩,rfl,by rw[CI hr];rfl⟩,H'⟩
   rcases h2 with h2|h2
   ·exact root_of h2 (Nat.le_refl _) hr
   ·exact root_of h2 (by unfold rootM;rw[if_neg (by omega)];omega) hr
theorem Zm (pp mb n:Nat) (o:TB) (t:TS) (Q:List Nat) (a:Nat) (key:Int) (L:List E) (hR:Root t.N a L) (hd:(vals L).Nodup) (hn:n≤511) (hk:t.k≤10) (hb:Q.length≤100):
  Cn prog 27 [Pt_ pp,Iv_ (a:Int),Iv_ key] [trA Tb pp mb n o (some (t,A5 a++Q))] (fun v Γ=>(¬ CH key L∧v= .tuple #[Iv_ (a:Int),.bool false,Iv_ 0]∧Γ=[trA Tb pp mb n o (some (t,A5 a++Q))])∨(cnt t.F 0 1024≤12∧∃ s:TS×List Nat,v= .tuple #[Iv_ 0,.bool false,Iv_ 20]∧Γ=[trA Tb pp mb n o (some s)])∨
   ∃ (t2:TS) (r:Nat),(CH key L∧St t t2 Q 14 27∧Root t2.N r (AS key L)∧cnt t2.F 0 1024≤cnt (frC n t2.C) 0 1024)∧v= .tuple #[Iv_ (r:Int),.bool true,Iv_ 0]∧Γ=[trA Tb pp mb n o (some (t2,A5 r++Q))]):=by
 intro z R' w H
 have K:=H.says 0 rfl (fun h a=>trA.k a)
 by_cases ha:a=0
 ·subst ha
  have hL:L=[]:=by rcases hR with ⟨_,e⟩|⟨e,_⟩;exact e;exact absurd rfl e
  subst hL
  refine Ret.mono (Cn.at (Yr pp mb n o _ key) H 1 [0] rfl rfl) ?_
  rintro v w' ⟨Γ',⟨rfl,rfl⟩,H'⟩
  exact ⟨_,.inl ⟨fun ⟨v,hv⟩=>(by cases hv),rfl,rfl⟩,H'⟩
 ·obtain ⟨h,hT,hh⟩:=hR.low K.i ha hn
  have e:A5 a++Q=a::Q:=by rw[CI ha];rfl
  rw[e] at H
  rw[e]
  refine Ret.mono (Cn.at (Yq pp mb n o t Q h a key L hT hd (by omega) (by omega)) H 1 [0] rfl rfl) ?_
  rintro v w' ⟨Γ',(⟨h0,rfl,rfl⟩|⟨h0,s,rfl,rfl⟩|⟨t2,r,⟨h0,h1,h2⟩,rfl,rfl⟩),H'⟩
  ·exact ⟨_,.inl ⟨h0,rfl,rfl⟩,H'⟩
  ·exact ⟨_,.inr (.inl ⟨by omega,s,rfl,rfl⟩),H'⟩
  ·exact ⟨_,.inr (.inr ⟨t2,r,⟨h0,h1.sub (fun p hp=>hp) (by omega) (by omega),h2,(H'.says 0 rfl (fun h a=>trA.k a)).free⟩,rfl,rfl⟩),H'⟩
theorem JG {L:List E} (hs:Srt L) {key:Int} {val:Nat} (hd:(vals L).Nodup) (hv:val∉vals L):(vals (putE key val L)).Nodup:=by
 rcases key_split hs key with ⟨X,v,Y,rfl,h1⟩|⟨h0,_⟩
 ·rw[Dm _ h1]
  rw[Bi,Bz] at hd hv ⊢
  simp only[List.mem_append,List.mem_cons,not_or] at hv
  rw[List.nodup_append,List.nodup_cons] at hd ⊢
  obtain ⟨a,⟨b,c⟩,d⟩:=hd
  refine ⟨a,⟨hv.2.2,c⟩,fun x hx y hy=> ?_⟩
  rcases List.mem_cons.1 hy with rfl|hy
  ·exact fun e=>hv.1 (by rw[←e];exact hx)
  ·exact d x hx y (by simp[hy])
 ·rw[(F2 hs val h0).1.nodup_iff,List.nodup_cons];exact ⟨hv,hd⟩
theorem TK {n f:Nat} {N:Hm} {C:Nat→Nat} (I:TInv n f N C R) (hf:1≤f) {L:List E} (hd:∀ e∈L,∃ b,N e.2=some (.dt b)):∀ e∈L,1≤e.2∧e.2<n:=fun e he=>by
 obtain ⟨b,hb⟩:=hd e he
 have:=I.nin _ _ hb;omega
theorem LwI.done {a r:Nat} {L L2:List E} {Q:List Nat} {o2:TB} (h:LwI n o a L Q) (hr:Root o2.N r L2) (hd:(vals L2).Nodup) (hR:o2.R=A5 r++Q):LwI n o2 r L2 Q:=⟨h.n,h.q,hr,hd,hR⟩
end
section
open Go.RowKit
variable {Tb:Ae}
end
section
open Go.RowKit
variable {Tb:Ae}
theorem Zn {P:Nat→Int→Int→List E→Prop} {es:List E} {i:Nat} {e:E} {hi:Int} {L2:List E} (he:es[i]? =some e) (h:Sq P (es.drop i) hi L2):∃ Lc L3,L2=Lc++L3∧P e.2 e.1 (nx (es.drop (i+1)) hi) Lc∧Sq P (es.drop (i+1)) hi L3:=by
 obtain ⟨hi',rfl⟩:=List.getElem?_eq_some_iff.1 he
 rw[List.drop_eq_getElem_cons hi'] at h
 exact h
theorem Zo {es:List E} {i:Nat} (hi:Int) (h:i+1<es.length):((kL es).map Iv_)[i+1]? =some (Iv_ (nx (es.drop (i+1)) hi)):=by
 rw[List.drop_eq_getElem_cons h]
 simp[kL,nx,List.getElem?_eq_getElem h]
end
section
open Go.RowKit
variable {Tb:Ae}
end
section
open Go.RowKit
variable {Tb:Ae}
variable {z w:World} {Γ:List Ae} {pp mb n f:Nat} {o:TB} {T:TT} {N:Hm} {C:Nat→Nat} {R:List Nat}
theorem Tr.kid {h r:Nat} {lo hi:Int} {m:Nat} {L:List E} (t:Tr N h r lo hi m L) {d:Nd} (hN:N r=some (.nd d)) {p:Nat} (hp:p∈vals d.es):(h=0∧∃ b,N p=some (.dt b))∨∃ h' lo' hi' L',h=h'+1∧Tr N h' p lo' hi' 4 L':=by
 obtain ⟨es,h1,_,_,_,hB⟩:=Tr.iff.1 t
 rw[h1] at hN;cases hN
 obtain ⟨e,he,rfl⟩:=List.mem_map.1 hp
 cases h with
 | zero=>exact .inl ⟨rfl,hB.2 e he⟩
 | succ h=>
  obtain ⟨X,Y,rfl⟩:=List.append_of_mem he
  obtain ⟨_,Lc,_,_,_,h2,_⟩:=Sq.at hB
  exact .inr ⟨h,_,_,Lc,rfl,h2⟩
theorem Tr.low1 (I:TInv n f N C R) {h r:Nat} {lo hi:Int} {m:Nat} {L:List E} (t:Tr N h r lo hi m L) (hn:n≤1024):h≤6:=by
 rcases Nat.eq_zero_or_pos h with e|hh
 ·omega
 obtain ⟨es,h1,h2,h3,h4,h5⟩:=Tr.iff.1 t
 have hne:es≠[]:=h4.ne (by simp;omega)
 have hl:1≤es.length:=by cases es with|nil=>exact absurd rfl hne|cons=>simp
 have t1:Tr N h r lo hi 1 L:=Tr.iff.2 ⟨es,h1,hl,h3,h4,h5⟩
 obtain ⟨a1,a2,a3⟩:=JC t1 (Nat.le_refl _)
 have hs:=t1.srt.1
 rw[←a1] at hs
 have hd:=G7 hs (fun p hp=>(a2 p hp).1)
 have hl:=M6 hd (fun p hp=>by obtain ⟨d,hd⟩:=(a2 p hp).2;exact (I.nin p _ hd).2.1)
 rcases Nat.lt_or_ge h 7 with q|q
 ·omega
 ·exfalso
  rw[if_neg (by omega)] at a3
  have:4 ^ 6≤4 ^ (h - 1):=Nat.pow_le_pow_right (by omega) (by omega)
  simp at a3
  omega
inductive Rch (N:Hm) (r:Nat):Nat→Prop where
 | refl:Rch N r r
 | step {q p:Nat} {d:Nd} :Rch N r q→N q=some (.nd d)→p∈vals d.es→Rch N r p
theorem TInv.up (I:TInv n f N C R) {p:Nat} (h1:f≤p) (h2:p<n) (hC:1≤C p) (hno:¬ ∃ r∈R,Rch N r p):∃ q d,N q=some (.nd d)∧p∈vals d.es∧¬ ∃ r∈R,Rch N r q:=by
 have hc:=I.cnt p h1 h2
 have hR:p∉R:=fun h=>hno ⟨p,h,.refl⟩
 rw[List.count_eq_zero_of_not_mem hR] at hc
 obtain ⟨q,hq,he⟩:=MT N p n (by omega)
 cases hN:N q with
 | none=>rw[hN] at he;simp[Dl] at he
 | some c=>
  cases c with
  | dt b=>rw[hN] at he;simp[Dl] at he
  | nd d=>
   rw[hN] at he
   have hp:=IT.1 he
   exact ⟨q,d,hN,hp,fun ⟨r,hr,hq⟩=>hno ⟨r,hr,hq.step hN hp⟩⟩
theorem TInv.reach (I:TInv n f N C R) (hn:n≤1024) {p:Nat} (h1:f≤p) (h2:p<n) (hC:1≤C p):∃ r∈R,Rch N r p:=by
 refine Classical.byContradiction fun hno=> ?_
 have key:∀ j,∃ q h lo hi m L,j≤h∧Tr N h q lo hi m L∧¬ ∃ r∈R,Rch N r q:=fun j=>by
  induction j with
  | zero=>
   obtain ⟨q,d,hq,_,hn⟩:=I.up h1 h2 hC hno
   obtain ⟨h,lo,hi,m,L,t⟩:=I.hg q d hq
   exact ⟨q,h,lo,hi,m,L,Nat.zero_le _,t,hn⟩
  | succ j ih=>
   obtain ⟨q,h,lo,hi,m,L,hj,t,hn⟩:=ih
   obtain ⟨d0,hq0⟩:=t.node
   obtain ⟨a,b,c⟩:=I.nin q _ hq0
   obtain ⟨q',d,hq,hp,hn'⟩:=I.up a b c hn
   obtain ⟨h',lo',hi',m',L',t'⟩:=I.hg q' d hq
   refine ⟨q',h',lo',hi',m',L',?_,t',hn'⟩
   rcases t'.kid hq hp with ⟨_,b,hb⟩|⟨h'',_,_,_,e,t''⟩
   ·rw[hq0] at hb;cases hb
   ·have:=(t.uniq t'').1;omega
 obtain ⟨q,h,lo,hi,m,L,hj,t,_⟩:=key 7
 have:=t.low1 I hn
 omega
theorem TrK.empty (K:TrK n o none) (hR:o.R=[]):frC n o.C=frC n (C1 (manyN n+1)):=by
 have hn:=K.hn
 funext p
 have I:TInv n (manyN n+1) o.N o.C []:=by have:=K.i;rw[show B8 o none=[] from hR] at this;exact this
 have h1:o.C p=C1 (manyN n+1) p∨n≤p:=by
  rcases Nat.lt_or_ge p n with q|q
  ·left
   unfold C1
   rcases Nat.lt_or_ge p (manyN n+1) with r|r
   ·rw[if_pos r];exact K.one p (by omega)
   ·rw[if_neg (by omega)]
    rcases Nat.eq_zero_or_pos (o.C p) with e|e
    ·exact e
    ·obtain ⟨r,hr,_⟩:=I.reach hn.2 r q e
     cases hr
  ·exact .inr q
 rcases h1 with e|e
 ·simp only[frC,e]
 ·simp only[frC]
  rw[decide_eq_false (by omega),decide_eq_false (by omega)]
theorem Sep.trTab (H:Sep z (trA Tb pp mb n o none::Γ) w):GS Tb∧Sep z (Tb::Γ) w:=by
 obtain ⟨M0,_,H⟩:=H.tr0
 obtain ⟨X,hX,H⟩:=H.po
 refine ⟨hX.tab.2▸hX.tab.1,?_⟩
 have h:=H.pick 7 [6] rfl
 rw[←hX.tab.2];exact h
end
section
open Go.RowKit
variable {Tb:Ae}
theorem Uv {n:Nat} (hn:n≤511):LwI n (F3 n) 0 [] []:=⟨hn,by simp,.inl ⟨rfl,rfl⟩,by simp[vals],rfl⟩
end
section
open Go.RowKit
variable {Tb:Ae}
structure OtE where
 k:Int
 d:Bool
 f:Int
def OtE.cells (e:OtE):List Value:=[.int .i64 e.k,.bool e.d,.int .i64 e.f]
end
section
open Go.RowKit
variable {Tb:Ae}
end
section
open Go.RowKit
variable {Tb:Ae}
end
section
open Go.RowKit
section
variable {P:Program} {o:Oper} {w z:World} {Γ:List Ae} {n:Nat} {ds:List Deferred} {L:List (Nat×Value)} {v:Value} {x y:Operand}
end
/-! ### the pages of a tree -/
def Cl (N:Hm) (Z:List Nat):Prop:=∀ q∈Z,∀ d,N q=some (.nd d)→∀ p∈vals d.es,p∈Z
theorem Cl.app {N:Hm} {Z Y:List Nat} (a:Cl N Z) (b:Cl N Y):Cl N (Z++Y):=fun q hq d hd p hp=>by
 rcases List.mem_append.1 hq with h|h
 ·exact List.mem_append_left _ (a q h d hd p hp)
 ·exact List.mem_append_right _ (b q h d hd p hp)
theorem Rch.cl {N:Hm} {Z:List Nat} (c:Cl N Z) {r p:Nat} (hr:r∈Z) (h:Rch N r p):p∈Z:=by
 induction h with
 | refl=>exact hr
 | step _ hN hp ih=>exact c _ ih _ hN _ hp
theorem Tr.pages {N:Hm} {h r:Nat} {lo hi:Int} {m:Nat} {L:List E} (t:Tr N h r lo hi m L):∃ Z,r∈Z∧Cl N Z∧3 * Z.length+m≤4 * L.length+3:=by
 induction h generalizing r lo hi m L with
 | zero=>
  obtain ⟨es,hN,hm,_,_,rfl,hd⟩:=t
  refine ⟨r::vals L,by simp,?_,by simp[vals];omega⟩
  intro q hq d hd' p hp
  rcases List.mem_cons.1 hq with rfl|hq
  ·rw[hN] at hd';cases hd';exact List.mem_cons_of_mem _ hp
  ·obtain ⟨e,he,rfl⟩:=List.mem_map.1 hq
   obtain ⟨b,hb⟩:=hd e he
   rw[hb] at hd';cases hd'
 | succ h ih=>
  obtain ⟨es,hN,hm,_,_,hs⟩:=t
  have key:∀ (es:List E) (L:List E),Sq (fun c a b L=>Tr N h c a b 4 L) es hi L→∃ Z,(∀ e∈es,e.2∈Z)∧Cl N Z∧3 * Z.length+es.length≤4 * L.length:=by
   intro es
   induction es with
   | nil=>intro L q;exact ⟨[],by simp,fun q hq=>(by simp at hq),by simp⟩
   | cons e u ih2=>
    rintro _ ⟨L1,L2,rfl,h6,h7⟩
    obtain ⟨Z1,a1,a2,a3⟩:=ih h6
    obtain ⟨Z2,b1,b2,b3⟩:=ih2 L2 h7
    refine ⟨Z1++Z2,fun x hx=> ?_,a2.app b2,by simp only[List.length_append,List.length_cons];omega⟩
    rcases List.mem_cons.1 hx with rfl|hx
    ·exact List.mem_append_left _ a1
    ·exact List.mem_append_right _ (b1 x hx)
  obtain ⟨Z,a,b,c⟩:=key es L hs
  refine ⟨r::Z,by simp,?_,by simp only[List.length_cons];omega⟩
  intro q hq d hd p hp
  rcases List.mem_cons.1 hq with rfl|hq
  ·rw[hN] at hd;cases hd
   obtain ⟨e,he,rfl⟩:=List.mem_map.1 hp
   exact List.mem_cons_of_mem _ (a e he)
  ·exact List.mem_cons_of_mem _ (b q hq d hd p hp)
theorem Root.pages {N:Hm} {a:Nat} {L:List E} (h:Root N a L):∃ Z,(∀ p∈A5 a,p∈Z)∧Cl N Z∧3 * Z.length≤4 * L.length+2:=by
 rcases h with ⟨rfl,rfl⟩|⟨h0,h,t⟩
 ·exact ⟨[],by simp[A5],fun q hq=>(by simp at hq),by simp⟩
 ·obtain ⟨Z,a,b,c⟩:=t.pages
  refine ⟨Z,fun p hp=> ?_,b,by split at c<;>omega⟩
  rw[CI h0] at hp;simp at hp;rw[hp];exact a
theorem HE {F:Nat→Bool} :∀ {n:Nat} {Y:List Nat},(∀ p,p<n→F p=true∨p∈Y)→n≤cnt F 0 n+Y.length
 | 0,_,_=>Nat.zero_le _
 | n+1,Y,h=>by
  simp only[cnt,Nat.zero_add]
  cases e:F n with
  | true=>
   have:=HE (n:=n) (Y:=Y) (fun p hp=>h p (by omega))
   simp;omega
  | false=>
   have hn:n∈Y:=(h n (by omega)).resolve_left (by rw[e];simp)
   have:=HE (n:=n) (Y:=Y.erase n) (fun p hp=>(h p (by omega)).imp id fun q=>(List.mem_erase_of_ne (by omega)).2 q)
   rw[List.length_erase_of_mem hn] at this
   have:=List.length_pos_of_mem hn
   simp;omega
theorem LwI.room {n:Nat} {o:TB} {a b:Nat} {L M:List E} {Q:List Nat} (hI:LwI n o a L Q) (hQ:Q=A5 b) (hb:Root o.N b M) (K:TrK n o none):n≤cnt (frC n o.C) 0 1024+(manyN n+1)+(4 * (L.length+M.length)+4) / 3:=by
 subst hQ
 obtain ⟨Z,z1,z2,z3⟩:=hI.root.pages
 obtain ⟨Y,y1,y2,y3⟩:=hb.pages
 have hn:=K.hn
 have:=HE (F:=frC n o.C) (n:=n) (Y:=List.range (manyN n+1)++(Z++Y)) (fun p hp=>by
  rcases Nat.lt_or_ge p (manyN n+1) with q|q
  ·exact .inr (List.mem_append_left _ (List.mem_range.2 q))
  rcases Nat.eq_zero_or_pos (o.C p) with e|e
  ·exact .inl (decide_eq_true ⟨hp,e⟩)
  ·obtain ⟨r,hr,hR⟩:=K.i.reach hn.2 q hp e
   refine .inr (List.mem_append_right _ ?_)
   have hr:r∈A5 a++A5 b:=by rw[←hI.r];exact hr
   refine hR.cl (z2.app y2) ?_
   rcases List.mem_append.1 hr with hr|hr
   ·exact List.mem_append_left _ (z1 r hr)
   ·exact List.mem_append_right _ (y1 r hr))
 have h2:=Fs (frC n o.C) 0 n (1024 - n)
 rw[show n+(1024 - n)=1024 by omega] at h2
 simp only[List.length_append,List.length_range] at this
 omega
/-! ### keys -/
theorem KX {k:Int} {v:Nat} {L:List E} (h:Srt L):(putE k v L).length≤L.length+1∧∀ j,j∈kL (putE k v L)↔j∈kL L∨j=k:=by
 rcases key_split h k with ⟨A,w,B,rfl,h1⟩|⟨_,A,B,rfl,h1,h2⟩
 ·rw[Dm B h1]
  refine ⟨by simp,fun j=> ?_⟩
  simp only[kL,List.map_append,List.map_cons,List.mem_append,List.mem_cons]
  grind
 ·rw[putE_new h1 h2]
  refine ⟨by simp only[List.length_append,List.length_cons];omega,fun j=> ?_⟩
  simp only[kL,List.map_append,List.map_cons,List.mem_append,List.mem_cons]
  grind
theorem OD:∀ {A B:List Int},A.Pairwise (· < ·)→B.Pairwise (· < ·)→(∀ j,j∈A↔j∈B)→A=B
 | [],[],_,_,_=>rfl
 | [],b::B,_,_,h=>by have:=(h b).2 (by simp);simp at this
 | a::A,[],_,_,h=>by have:=(h a).1 (by simp);simp at this
 | a::A,b::B,ha,hb,h=>by
  obtain ⟨a1,a2⟩:=List.pairwise_cons.1 ha
  obtain ⟨b1,b2⟩:=List.pairwise_cons.1 hb
  have e:a=b:=by
   rcases List.mem_cons.1 ((h a).1 (by simp)) with e|e
   ·exact e
   rcases List.mem_cons.1 ((h b).2 (by simp)) with e'|e'
   ·exact e'.symm
   have:=b1 a e;have:=a1 b e';omega
  subst e
  rw[OD a2 b2 fun j=>⟨fun hj=> ?_,fun hj=> ?_⟩]
  ·rcases List.mem_cons.1 ((h j).1 (by simp[hj])) with e|e
   ·subst e;have:=a1 _ hj;omega
   ·exact e
  ·rcases List.mem_cons.1 ((h j).2 (by simp[hj])) with e|e
   ·subst e;have:=b1 _ hj;omega
   ·exact e
theorem WA {L:List E} (h:Srt L):(kL L).Pairwise (· < ·):=List.pairwise_map.2 h
theorem Kp.root {N N':Hm} {a:Nat} {L:List E} (h:Kp N N' (A5 a)) (r:Root N a L):Root N' a L:=by
 by_cases e:a=0
 ·subst e
  rcases r with r|⟨r,_⟩
  ·exact .inl r
  ·exact absurd rfl r
 ·exact h a (by simp[A5,e]) L r
end
open Go.RowKit
def AZ (a b:Int) (L:List E):List E:=L.filter fun e=>decide (a≤e.1∧e.1<b)
theorem WB (a b:Int) (X Y:List E):AZ a b (X++Y)=AZ a b X++AZ a b Y:=List.filter_append ..
theorem scF_no {a b:Int} {L:List E} (h:∀ e∈L,e.1<a∨b≤e.1):AZ a b L=[]:=List.filter_eq_nil_iff.2 fun e he q=>by
 have:=h e he
 have:=of_decide_eq_true q
 omega
theorem OE {a b:Int} {L:List E} (h:∀ e∈L,a≤e.1∧e.1<b):AZ a b L=L:=List.filter_eq_self.2 fun e he=>decide_eq_true (h e he)
def AT (m:Nat) (l X:List E):List E:=l++X.take (m - l.length)
theorem WC (m:Nat) (l X Y:List E):AT m l (X++Y)=AT m (AT m l X) Y:=by
 unfold AT
 rw[List.take_append,List.append_assoc]
 congr 3
 rw[List.length_append,List.length_take];omega
theorem scT_full {m:Nat} {l:List E} (h:m≤l.length) (X:List E):AT m l X=l:=by unfold AT;rw[Nat.sub_eq_zero_of_le h];simp
theorem WD (m:Nat) (l:List E):AT m l []=l:=by simp[AT]
theorem WE {m:Nat} {l:List E} (e:E) (h:l.length<m):AT m l [e]=l++[e]:=by unfold AT;rw[List.take_of_length_le (by simp;omega)]
theorem JH (m:Nat) (l X:List E):(AT m l X).length≤l.length+X.length:=by unfold AT;rw[List.length_append,List.length_take];omega
theorem JI (a b:Int) (L:List E):(AZ a b L).length≤L.length:=List.length_filter_le ..
theorem F4 (m:Nat) (l:List E) (a b:Int) (L0 L2:List E):AT m l (AZ a b (L0++L2))=AT m (AT m l (AZ a b L0)) (AZ a b L2):=by rw[WB,WC]
theorem CY {m:Nat} {l:List E} {a b:Int} {L0 L2:List E} (h:m≤(AT m l (AZ a b L0)).length∨∀ e∈L2,e.1<a∨b≤e.1):AT m l (AZ a b (L0++L2))=AT m l (AZ a b L0):=by
 rw[F4]
 rcases h with h|h
 ·exact scT_full h _
 ·rw[scF_no h,WD]
theorem F5 {m:Nat} {l:List E} {a b:Int} {L0:List E} {e:E} (h1:(AT m l (AZ a b L0)).length<m) (h2:a≤e.1∧e.1<b):AT m l (AZ a b (L0++[e]))=AT m l (AZ a b L0)++[e]:=by
 rw[F4,OE (L:=[e]) (by simpa using h2),WE _ h1]
theorem Sq.ge {N:Hm} {h:Nat} {es:List E} {hi:Int} {L:List E} (s:Sq (fun c a b L=>Tr N h c a b 4 L) es hi L) (hs:Srt es) (hr:∀ e∈es,e.1<hi):∀ x∈L,nx es hi≤x.1:=fun x hx=>
 ((Sq.srt s hs hr (fun _ _ _ _ q=>Tr.srt q)).2.1 x hx).1
theorem Srt.drop {es:List E} (h:Srt es) (i:Nat):Srt (es.drop i):=List.Pairwise.drop h
theorem Srt.at_ge {es:List E} (h:Srt es) {i:Nat} {e:E} (he:es[i]? =some e):∀ x∈es.drop i,e.1≤x.1:=fun x hx=>by
 obtain ⟨hi,rfl⟩:=List.getElem?_eq_some_iff.1 he
 have:=h.drop i
 rw[List.drop_eq_getElem_cons hi] at hx this
 rcases List.mem_cons.1 hx with rfl|hx
 ·exact Int.le_refl _
 ·exact Int.le_of_lt ((Srt.cons.1 this).1 x hx)
/-! ### felling -/
def stp (N:Hm):Nat→Nat→Nat
 | 0,_=>1
 | h+1,r=>match N r with
  | some (.nd d)=>(d.es.map fun e=>1+stp N h e.2).sum
  | _=>1
def nods (N:Hm):Nat→Nat→Nat
 | 0,_=>1
 | h+1,r=>match N r with
  | some (.nd d)=>1+(d.es.map fun e=>nods N h e.2).sum
  | _=>1
theorem OF {f g:E→Nat} :∀ {es:List E},(∀ e∈es,f e≤g e)→(es.map f).sum≤(es.map g).sum
 | [],_=>Nat.le_refl _
 | e::es,h=>by
  have:=OF (es:=es) (fun x hx=>h x (by simp[hx]))
  have:=h e (by simp)
  simp only[List.map_cons,List.sum_cons];omega
theorem OG (g:E→Nat):∀ es:List E,(es.map fun e=>2 * g e).sum=2 * (es.map g).sum
 | []=>rfl
 | e::es=>by simp only[List.map_cons,List.sum_cons,OG g es];omega
theorem Rn (N:Hm):∀ h r,stp N h r+1≤2 * nods N h r
 | 0,r=>by simp[stp,nods]
 | h+1,r=>by
  unfold stp nods
  split
  ·rename_i d _
   have:=OF (f:=fun e=>1+stp N h e.2) (g:=fun e=>2 * nods N h e.2) (es:=d.es) (fun e _=>by have:=Rn N h e.2;omega)
   rw[OG (fun e=>nods N h e.2)] at this
   omega
  ·omega
theorem Tr.stp_pos {N:Hm} {h r:Nat} {lo hi:Int} {m:Nat} {L:List E} (t:Tr N h r lo hi m L):1≤stp N h r:=by
 cases h with
 | zero=>simp[stp]
 | succ h=>
  obtain ⟨es,h1,_,_,h4,_⟩:=Tr.iff.1 t
  have hne:=h4.ne (by simp)
  unfold stp;rw[h1]
  cases es with
  | nil=>exact absurd rfl hne
  | cons e es=>simp only[List.map_cons,List.sum_cons];omega
theorem Tr.stp_eq {N N':Hm} {a:Nat} (hk:∀ q d,q≠a→N q=some (.nd d)→N' q=some (.nd d)) (hno:∀ q d,N q=some (.nd d)→a∉vals d.es):∀ {h r:Nat} {lo hi:Int} {m:Nat} {L:List E},r≠a→Tr N h r lo hi m L→stp N' h r=stp N h r
 | 0,_,_,_,_,_,_,_=>rfl
 | h+1,r,lo,hi,m,L,hr,t=>by
  obtain ⟨d,hd⟩:=t.node
  unfold stp
  rw[hd,hk r d hr hd]
  dsimp only
  congr 1
  refine List.map_congr_left fun e he=> ?_
  have hp:e.2∈vals d.es:=List.mem_map_of_mem he
  rcases t.kid hd hp with ⟨e0,_⟩|⟨h',lo',hi',L',e0,t'⟩
  ·omega
  ·cases e0
   have:=Tr.stp_eq hk hno (fun q=>hno r d hd (by rw[←q];exact hp)) t'
   rw[this]
section
open Go.RowKit
variable {Tb:Ae}
end
section
open Go.RowKit
variable {Tb:Ae}
def Yv (v:Value) (ts:List Int) (A:Ae):Prop:=∀ h,A h→rdH 1 v ts.length (ts.map (Value.int .i64)) h∧∀ x∈ts,-9223372036854775808≤x∧x≤9223372036854775807
theorem Nc {A:List Int} {j:Nat} {x:Int} (h:A[j]? =some x):(A.map Iv_)[j]? =some (Iv_ x):=by simp[h]
end
section
open Go.RowKit
variable {Tb:Ae}
structure GrR (n:Nat) (o o2:TB) (a:Nat) (L:List E) (Q:List Nat) (ks:List Int) (mb m2:Nat):Prop where
 m:m2≤mb+2 * ks.length
 I:LwI n o2 a L Q
 kp:Kp o.N o2.N Q
 l:L.length≤ks.length
 k:∀ j,j∈kL L↔j∈ks.map fun x=>(pkI x 100:Int)
theorem GrR.nil {n:Nat} {o:TB} {Q:List Nat} (h:LwI n o 0 [] Q) (mb:Nat):GrR n o o 0 [] Q [] mb mb:=⟨by simp,h,fun c hc L q=>q,Nat.le_refl _,fun j=>by simp[kL]⟩
theorem GrR.step {n:Nat} {o o2 o3:TB} {a a3:Nat} {L:List E} {Q:List Nat} {ks:List Int} {mb m2 i:Nat} {x:Int} {val:Nat} (h:GrR n o o2 a L Q (ks.take i) mb m2) (hx:ks[i]? =some x) (I:LwI n o3 a3 (putE (pkI x 100) val L) Q) (kp:Kp o2.N o3.N Q):GrR n o o3 a3 (putE (pkI x 100) val L) Q (ks.take (i+1)) mb (m2+2):=by
 have hi:=(List.getElem?_eq_some_iff.1 hx).1
 have h1:=h.m
 have h2:=h.l
 rw[List.length_take] at h1 h2
 obtain ⟨p1,p2⟩:=KX (k:=(pkI x 100:Int)) (v:=val) h.I.root.srt.1
 refine ⟨by rw[List.length_take];omega,I,h.kp.trans kp,by rw[List.length_take];omega,fun j=> ?_⟩
 rw[p2 j,h.k j,List.take_add_one,hx,List.map_append,List.mem_append];simp
set_option maxHeartbeats 4000000 in
theorem OH (pp mb0 n:Nat) (o0:TB) (A:Ae) (Q:List Nat) (b:Nat) (M:List E) (v:Value) (ks:List Int) (hA:Yv v ks A) (h0:LwI n o0 0 [] Q) (hQ:Q=A5 b) (hb:Root o0.N b M) (hroom:manyN n+14+(4 * (min 80 ks.length+M.length)+4) / 3≤n) (hmb0:mb0≤900000000):Cn prog 10 [Pt_ pp,v] [trA Tb pp mb0 n o0 none,A] (fun v Γ=>∃ (pm ra:Nat) (L:List E) (o2:TB) (m2:Nat),GrR n o0 o2 ra L Q (ks.take 80) mb0 m2∧v= .tuple #[Iv_ (ra:Int),Pt_ pm,.bool true]∧Γ=[mpA pm L,trA Tb pp m2 n o2 none,A]):=by
 intro z R w H;replace H:=H.l2;obtain ⟨ao,oc,rfl⟩:=H.says 1 rfl (fun h q=>(hA h q).1.slc);refine Ad func10 rfl ntmps10 rfl (Za 10 [] H rfl ?_);intro b1 w H;refine Zc 4 rfl ?_;replace H:=(H.nilg 55 2).l4
 have H':Sep z (mpA b1 ([])::trA Tb pp mb0 n o0 none::A::R) w:=(H.pick 4 [1,0,2,3] rfl).toMp (L:=[])
 have H:=H'.l3;refine Zc 11 rfl ?_;refine AD (σ:=Nat×Nat×List E×TB×Nat) (fun ⟨i,ra,L,o,mb⟩=>[(9,Iv_ (i:Int)),(8,Iv_ (ra:Int)),(0,Pt_ pp),(1,.slice ao ks.length oc),(7,Pt_ b1)])
   (fun ⟨i,ra,L,o,mb⟩ w=>Sep z (mpA b1 L::trA Tb pp mb n o none::A::R) w∧(i≤80∧i≤ks.length∧GrR n o0 o ra L Q (ks.take i) mb0 mb)) (fun ⟨i,ra,L,o,mb⟩=>80 - i) ⟨0,0,[],o0,mb0⟩
   (fun _ hF=>(hF.co rfl (by go_num) (hF.co rfl (by go_num) (hF.all rfl)))) ⟨H,⟨Nat.zero_le _,Nat.zero_le _,GrR.nil h0 mb0⟩⟩ ?_
 clear H;rintro ⟨i,ra,L,o,mb⟩ w ⟨H',hI⟩;dsimp only at hI H' ⊢
 have H:=H'.l3;obtain ⟨hi80,hil,hG⟩:=hI;refine Z0 8 [0] rfl (Al 19 rfl (fun h1=> ?_) (fun h1=> ?_))
 ·refine Z0 5 [0] rfl (Af rfl (fun h2=> ?_) (fun h2=> ?_))
  ·refine Zc 5 rfl ?_;have hI:=hG.I
   obtain ⟨x,hx⟩:∃ x,ks[i]? =some x:=⟨_,List.getElem?_eq_getElem (by omega)⟩;have hxb:=H.says 2 rfl (fun h q=>(hA h q).2 x (List.mem_of_getElem? hx))
   have hat:=(H.rd 2 rfl (fun h q=>(hA h q).1)).at (j:=i) (u:=Iv_ x) (Nc hx)
   have K:=H.says 1 rfl (fun h a=>trA.k a)
   have hn:=K.hn
   have hmn:manyN n≤5:=by unfold manyN;have:=hI.n;omega
   have hkp:Kp o0.N o.N (A5 b):=hQ▸hG.kp
   have hrm:=hI.room hQ (hkp.root hb) K
   have hgl:=hG.l
   rw[List.length_take] at hgl;have hpk:=Ri x (N:=100) (by omega)
   have hky:(0:Int)≤(pkI x 100:Int)∧(pkI x 100:Int)<1048576:=by omega
   have hvp:=TK K.i (by omega) (show ∀ e∈L,∃ b,HD o none e.2=some (.dt b) from hI.root.data)
   have hll:L.length≤1048576:=by omega
   have hmb:mb≤1000000000:=by have:=hG.m;rw[List.length_take] at this;omega
   refine Zc 3 rfl (Ab rfl (Am rfl (z:=1) (j:=i) (r:=i) (by kernel_rfl) rfl rfl rfl (by omega) hat (by omega)) (Ab rfl (Ay rfl rfl (by kernel_rfl) (Au hat)) (z_E_ rfl (call17 _) (OB _ 100 hxb (by omega)) H ?_)));intro w H;refine Zc 7 rfl (z_E_ rfl (call18 _) (Id _ _ _ _) H.f1 ?_);intro w H;replace H:=H.l3;replace H:=(H.mono 0 (B:=trA Tb pp mb n o (some ((⟨o.N,o.C,frC n o.C,0⟩:TS),A5 ra++Q))) rfl (fun h q=>by rw[hI.r] at q;exact q)).l3
   refine Z0 10 [4] rfl (Ao rfl (call29 _) (Rl _) H ?_);rintro _ w _ ⟨pb,rfl,rfl⟩ H;replace H:=H.l4;refine Ao rfl (call28 _) (OC pp mb n o (⟨o.N,o.C,frC n o.C,0⟩:TS) (A5 ra++Q) (pkI x 100:Int) pb (by show 0<40;omega)) H.f1 ?_;rintro _ w _ (⟨h00,rfl,rfl⟩|⟨val,t2,⟨hv0,hvd,hnv,hkT,hk2,hf2⟩,rfl,rfl⟩) H'
   ·(exfalso;have h00:cnt (frC n o.C) 0 1024=0:=h00;omega)
   ·have H:=H'.l4;have hf3:cnt (frC n o.C) 0 1024=cnt t2.F 0 1024+1:=hf2
    have hk3:t2.k≤0+1:=hk2
    refine Z0 23 [4] rfl ?_;have hR2:Root t2.N ra L:=Kp.of (Q:=[ra]) (fun c _ h=>hkT h c) ra (by simp) L hI.root
    refine Ao rfl (call30 _) (Uu pp mb n o t2 Q ra (pkI x 100:Int) val _ L hR2 hI.n hky hvd hnv (by omega) hI.q) H ?_;rintro _ w _ (⟨hf4,s3,rfl,rfl⟩|⟨t3,r,⟨hSt3,hR3,hfr⟩,rfl,rfl⟩) H'
    ·(exfalso;omega)
    ·have H:=H'.l4;have hSk:=hSt3.k
     have hnd3:(vals (putE (pkI x 100:Int) val L)).Nodup:=JG hI.root.srt.1 hI.nd (fun q=>by obtain ⟨e,he,rfl⟩:=List.mem_map.1 q;obtain ⟨b,hb⟩:=hI.root.data e he;rw[show o.N e.2=none from hv0] at hb;cases hb)
     refine Z0 14 [4] rfl (z_E_ rfl (call20 _) (EZ _ _ _ _ _ _ (by omega) hmb) H ?_);intro w H;refine Z0 11 [4] rfl (z_E_ rfl (call35 _) (Yu _ _ val L (by omega) hI.root.srt.1) H.f2 ?_);intro w H;refine Z1 8 [] [(i:Int)+1] rfl (by omega) ?_;replace H:=H.f2.d;refine gf ?_;intro _ hF;refine ⟨⟨i+1,r,putE (pkI x 100:Int) val L,⟨t3.N,t3.C,A5 r++Q⟩,mb+2⟩,(hF.co rfl (by go_num) (hF.all rfl)),⟨H,?_⟩,?_⟩
     ·exact ⟨by show i+1≤80;omega,by show i+1≤ks.length;omega,hG.step hx (hI.done hR3 hnd3 rfl) (Kp.of fun c hc h lo hi m L x=>hSt3.fr c hc h lo hi m L (hkT h c lo hi m L x))⟩
     ·(dsimp only;omega)
  ·refine Zc 2 rfl (gx (Zc 12 rfl (Zr rfl ?_)));exact ⟨_,⟨b1,ra,L,o,mb,(by have e:ks.take i=ks.take 80:=(by rcases Nat.lt_or_ge i 80 with r|r;rw[List.take_of_length_le (by omega),List.take_of_length_le (by omega)];rw[show i=80 by omega]);rw[←e];exact hG),rfl,rfl⟩,H.pick 3 [0,1,2] rfl⟩
 ·refine Zc 8 rfl (gx (Zc 12 rfl (Zr rfl ?_)));exact ⟨_,⟨b1,ra,L,o,mb,(by have e:ks.take i=ks.take 80:=(by rcases Nat.lt_or_ge i 80 with r|r;rw[List.take_of_length_le (by omega),List.take_of_length_le (by omega)];rw[show i=80 by omega]);rw[←e];exact hG),rfl,rfl⟩,H.pick 3 [0,1,2] rfl⟩
end
section
open Go.RowKit
variable {Tb:Ae}
set_option maxHeartbeats 4000000 in
theorem Yw (pp mb n:Nat) (o:TB) (fr tt mo:Int) (ra:Nat) (lo hi:Int) (m_:Nat) (L l:List E) (u:Value) (hT:Tr o.N 0 ra lo hi m_ L) (hll:l.length+L.length≤1048576):Cn prog 36 [Pt_ pp,Iv_ (ra:Int),Iv_ fr,Iv_ tt,Iv_ mo,u] [trA Tb pp mb n o none,grow 55 2 u l.length (Ba l)] (fun v Γ=>∃ u2:Value,v= .tuple #[u2,Iv_ 0]∧Γ=[trA Tb pp mb n o none,grow 55 2 u2 (AT mo.toNat l (AZ fr tt L)).length (Ba (AT mo.toNat l (AZ fr tt L)))]):=by
 intro z R w H;replace H:=H.l2;have su:=H.says 1 rfl (fun h q=>q.slc)
 have K:=H.says 0 rfl (fun h a=>trA.k a)
 have hn:=K.hn
 obtain ⟨es,hN,hme,hrg,hok,hLe,hdt⟩:=hT;obtain rfl:es=L:=hLe.symm;have hck:CkN true (kL es) (vL es):=K.i.vok (by omega) hn.2 hN
 have hes8:es.length≤8:=hok.len
 have hra0:=(K.i.nin _ _ hN).1
 refine Ad func36 rfl ntmps36 rfl (Zc 10 rfl (Ao rfl (call50 _) (EI pp mb n o none ra true es hN) H ?_));rintro _ w _ ⟨nk,nv,rfl,rfl⟩ H;replace H:=H.l4;have snk:=H.says 0 rfl (fun h q=>q.slc)
 obtain ⟨ka,kc,rfl⟩:=snk;have snv:=H.says 1 rfl (fun h q=>q.slc)
 obtain ⟨va,vc,rfl⟩:=snv;refine Za 3 [] H rfl ?_;intro b1 w H;refine Z4 24 [0,4,1,0,0] H rfl ?_;intro w H;refine AD (σ:=Nat×Value) (fun ⟨i,u⟩=>[(29,Iv_ (i:Int)),(5,u),(0,Pt_ pp),(2,Iv_ fr),(3,Iv_ tt),(4,Iv_ mo),(14,Pt_ b1),(28,Iv_ (((kL es).length:Nat):Int))])
   (fun ⟨i,u⟩ w=>Sep z (blk b1 [.bool true,.slice ka ((kL es).length) kc,.slice va ((vL es).length) vc] 92::grow 3 1 (.slice ka ((kL es).length) kc) ((kL es).length) ((kL es).map Iv_)::grow 3 1 (.slice va ((vL es).length) vc) ((vL es).length) ((vL es).map Iv_)::trA Tb pp mb n o none::grow 55 2 u ((AT mo.toNat l (AZ fr tt (es.take i))).length) (Ba (AT mo.toNat l (AZ fr tt (es.take i))))::R) w∧(i≤es.length)) (fun ⟨i,u⟩=>es.length - i) ⟨0,u⟩
   (fun _ hF=>(hF.co rfl (by go_num) (hF.all rfl))) ⟨(by simpa [AT,AZ] using H),Nat.zero_le _⟩ ?_
 clear H;rintro ⟨i,u⟩ w ⟨H',hI⟩;dsimp only at hI H' ⊢
 have H:=H'.l5;have su:=H.says 4 rfl (fun h q=>q.slc)
 have hil0:=hI;clear hI
 have hkl:(kL es).length=es.length:=by simp
 have hvl:(vL es).length=es.length:=by simp
 refine Z0 6 [0] rfl (Af rfl (fun h1=> ?_) (fun h1=> ?_))
 ·refine Zc 12 rfl ?_;have hil:i<es.length:=by simp only[List.length_map] at *;omega
  obtain ⟨e,he⟩:∃ e,es[i]? =some e:=⟨_,List.getElem?_eq_getElem hil⟩;have hem:=List.mem_of_getElem? he
  have her:=hrg e hem
  have hka:=(H.rd 1 rfl (fun h q=>q.rd)).at (j:=i) (u:=Iv_ e.1) (by simp[kL,he])
  have hva:=(H.rd 2 rfl (fun h q=>q.rd)).at (j:=i) (u:=Iv_ (e.2:Int)) (by simp[vL,he])
  have hge:=hok.srt.at_ge he
  have htk:es.take (i+1)=es.take i++[e]:=by rw[List.take_add_one,he];rfl
  refine Zc 2 rfl (Ab rfl (CR rfl (sz:=2) (by kernel_rfl) rfl su) (Z0 3 [0] rfl (Al 37 rfl (fun h2=> ?_) (fun h2=> ?_))))
  ·refine Zc 20 rfl (Zr rfl ?_);have hend:(AT mo.toNat l (AZ fr tt es))=(AT mo.toNat l (AZ fr tt (es.take i))):=by have:=CY (m:=mo.toNat) (l:=l) (a:=fr) (b:=tt) (L0:=es.take i) (L2:=es.drop i) (by first|exact .inl (by omega)|exact .inr (fun x hx=> .inr (by have:=hge x hx;omega)));rwa[List.take_append_drop] at this
   exact ⟨_,⟨u,rfl,rfl⟩,by rw[hend];exact H.pick 5 [3,4] rfl⟩
  ·refine Z2 3 [1,0,0] H rfl (Ab rfl (Am rfl (z:=1) (j:=i) (r:=i) (by kernel_rfl) rfl rfl rfl (by omega) hka (by omega)) (Ab rfl (Ay rfl rfl (by kernel_rfl) (Au hka)) (Z0 6 [0] rfl (Af rfl (fun h3=> ?_) (fun h3=> ?_)))))
   ·refine Zc 8 rfl (Zr rfl ?_);have hend:(AT mo.toNat l (AZ fr tt es))=(AT mo.toNat l (AZ fr tt (es.take i))):=by have:=CY (m:=mo.toNat) (l:=l) (a:=fr) (b:=tt) (L0:=es.take i) (L2:=es.drop i) (by first|exact .inl (by omega)|exact .inr (fun x hx=> .inr (by have:=hge x hx;omega)));rwa[List.take_append_drop] at this
    exact ⟨_,⟨u,rfl,rfl⟩,by rw[hend];exact H.pick 5 [3,4] rfl⟩
   ·refine Z2 8 [0,0,0,1,0,0] H rfl (Ab rfl (Am rfl (z:=1) (j:=i) (r:=i) (by kernel_rfl) rfl rfl rfl (by omega) hka (by omega)) (Ab rfl (Ay rfl rfl (by kernel_rfl) (Au hka)) (Z0 6 [0] rfl (Af rfl (fun h4=> ?_) (fun h4=> ?_)))))
    ·refine AI (Sep z (blk b1 [.bool true,.slice ka ((kL es).length) kc,.slice va ((vL es).length) vc] 92::grow 3 1 (.slice ka ((kL es).length) kc) ((kL es).length) ((kL es).map Iv_)::grow 3 1 (.slice va ((vL es).length) vc) ((vL es).length) ((vL es).map Iv_)::R)) 15 rfl (by kernel_rfl) (Bc H fun w H'=> ?_)
     have H:=H'.l5;refine AW [0,1,2,3] [1,0,0] [] (by exact (H.pick 5 [0,1,2] rfl)) rfl (by kernel_rfl) rfl (BD 4 rfl (by kernel_rfl) (by kernel_rfl) (by kernel_rfl) rfl rfl rfl (Am rfl (z:=1) (j:=i) (r:=i) (by kernel_rfl) rfl rfl rfl (by omega) hka (by omega)) (H.pick 5 [0,1,2] rfl) (BD 5 rfl (by kernel_rfl) (by kernel_rfl) (by kernel_rfl) rfl rfl rfl (Ay rfl rfl (by kernel_rfl) (fun _ hx'=>(hx'.rd 1 rfl (fun h q=>q.rd)).at (j:=i) (u:=Iv_ e.1) (by simp[kL,he]))) (H.pick 5 [0,1,2] rfl) (AW [6,7,8] [2,0,0] [] (by exact (H.pick 5 [0,1,2] rfl)) rfl (by kernel_rfl) rfl (BD 9 rfl (by kernel_rfl) (by kernel_rfl) (by kernel_rfl) rfl rfl rfl (Am rfl (z:=1) (j:=i) (r:=i) (by kernel_rfl) rfl rfl rfl (by omega) hva (by omega)) (H.pick 5 [0,1,2] rfl) (BD 10 rfl (by kernel_rfl) (by kernel_rfl) (by kernel_rfl) rfl rfl rfl (Ay rfl rfl (by kernel_rfl) (fun _ hx'=>(hx'.rd 2 rfl (fun h q=>q.rd)).at (j:=i) (u:=Iv_ (e.2:Int)) (by simp[vL,he]))) (H.pick 5 [0,1,2] rfl) (AW [11] [] [] (by exact (H.pick 5 [0,1,2] rfl)) rfl (by kernel_rfl) rfl (Az [12] (by kernel_rfl) (by simp) (Aw (B6 rfl rfl rfl rfl (AC H rfl (by kernel_rfl) AU rfl (by decide) (by decide) (out:=[Iv_ e.1,Iv_ (e.2:Int)]) (by kernel_rfl)) ?_)))))))));rintro _ w ⟨b2,rfl,H⟩;replace H:=H.l6;refine Av (H.pick 6 [1,2,3] rfl) (Az [13] (by kernel_rfl) (by simp) (Aw (B6 rfl rfl rfl rfl (AX 5 H rfl rfl (by kernel_rfl) AU rfl rfl (H.rd 0 rfl (fun h q=>q.rd (by omega) (by omega) (by simp) rfl)) (by simp[Value.oneCell']) (by have:=JH mo.toNat l (AZ fr tt (es.take i));have:=JI fr tt (es.take i);rw[List.length_take] at this;omega)) ?_)))
     rintro v3 w H';have H':Sep z (blk b2 [Iv_ e.1,Iv_ (e.2:Int)] 55::blk b1 [.bool true,.slice ka ((kL es).length) kc,.slice va ((vL es).length) vc] 92::grow 3 1 (.slice ka ((kL es).length) kc) ((kL es).length) ((kL es).map Iv_)::grow 3 1 (.slice va ((vL es).length) vc) ((vL es).length) ((vL es).map Iv_)::trA Tb pp mb n o none::grow 55 2 v3 ((AT mo.toNat l (AZ fr tt (es.take i))).length+1) (Ba (AT mo.toNat l (AZ fr tt (es.take i)))++[Iv_ e.1,Iv_ (e.2:Int)])::R) w:=H'
     have ev3:(Ba (AT mo.toNat l (AZ fr tt (es.take i)))++[Iv_ e.1,Iv_ (e.2:Int)]:List Value)=Ba (AT mo.toNat l (AZ fr tt (es.take (i+1)))):=(by rw[htk,F5 (by omega) ⟨by omega,by omega⟩,GB];rfl)
     rw[ev3] at H';rw[show ((AT mo.toNat l (AZ fr tt (es.take i))).length+1:Nat)=(AT mo.toNat l (AZ fr tt (es.take (i+1)))).length from (by rw[htk,F5 (by omega) ⟨by omega,by omega⟩,List.length_append];rfl)] at H';have H:=H'.l6;have sv3:=H.says 5 rfl (fun h q=>q.slc)
     refine Av (H.pick 6 [1,2,3] rfl) (AW [14] [] [] (by exact (H.pick 6 [1,2,3] rfl)) rfl (by kernel_rfl) rfl (a_done (by kernel_rfl) (gn (Z1 7 [] [(i:Int)+1] rfl (by omega) ?_))));replace H:=H.d;refine gf ?_;intro _ hF;refine ⟨⟨i+1,v3⟩,(hF.co rfl (by go_num) (hF.all rfl)),⟨H,?_⟩,?_⟩
     ·show i+1≤es.length;omega
     ·(dsimp only;omega)
    ·refine Z3 35 [0,0,0] [(i:Int)+1] H rfl (by omega) (gf ?_);intro _ hF;refine ⟨⟨i+1,u⟩,(hF.co rfl (by go_num) (hF.all rfl)),⟨(by rw[show (AT mo.toNat l (AZ fr tt (es.take (i+1))))=(AT mo.toNat l (AZ fr tt (es.take i))) from by rw[htk];exact CY (.inr (fun x hx=>by simp at hx;subst hx;omega))];exact H),?_⟩,?_⟩
     ·show i+1≤es.length;omega
     ·(dsimp only;omega)
 ·refine Zc 2 rfl (gx (Zc 10 rfl (Zr rfl ?_)));have hend:(AT mo.toNat l (AZ fr tt es))=(AT mo.toNat l (AZ fr tt (es.take i))):=by rw[show es.take i=es from List.take_of_length_le (by simp only[List.length_map] at *;omega)]
  exact ⟨_,⟨u,rfl,rfl⟩,by rw[hend];exact H.pick 5 [3,4] rfl⟩
set_option maxHeartbeats 4000000 in
theorem Yx (pp mb n:Nat) (o:TB) (fr tt mo:Int) (h:Nat) (ih:∀ (ra:Nat) (lo hi:Int) (m_:Nat) (L l:List E) (u:Value),Tr o.N h ra lo hi m_ L→l.length+L.length≤1048576→Cn prog 36 [Pt_ pp,Iv_ (ra:Int),Iv_ fr,Iv_ tt,Iv_ mo,u] [trA Tb pp mb n o none,grow 55 2 u l.length (Ba l)] (fun v Γ=>∃ u2:Value,v= .tuple #[u2,Iv_ 0]∧Γ=[trA Tb pp mb n o none,grow 55 2 u2 (AT mo.toNat l (AZ fr tt L)).length (Ba (AT mo.toNat l (AZ fr tt L)))])) (ra:Nat) (lo hi:Int) (m_:Nat) (L l:List E) (u:Value) (hT:Tr o.N (h+1) ra lo hi m_ L) (hll:l.length+L.length≤1048576):Cn prog 36 [Pt_ pp,Iv_ (ra:Int),Iv_ fr,Iv_ tt,Iv_ mo,u] [trA Tb pp mb n o none,grow 55 2 u l.length (Ba l)] (fun v Γ=>∃ u2:Value,v= .tuple #[u2,Iv_ 0]∧Γ=[trA Tb pp mb n o none,grow 55 2 u2 (AT mo.toNat l (AZ fr tt L)).length (Ba (AT mo.toNat l (AZ fr tt L)))]):=by
 intro z R w H;replace H:=H.l2;have su:=H.says 1 rfl (fun h q=>q.slc)
 have K:=H.says 0 rfl (fun h a=>trA.k a)
 have hn:=K.hn
 obtain ⟨es,hN,hme,hrg,hok,hsq⟩:=hT;have hck:CkN false (kL es) (vL es):=K.i.vok (by omega) hn.2 hN
 have hes8:es.length≤8:=hok.len
 have hra0:=(K.i.nin _ _ hN).1
 refine Ad func36 rfl ntmps36 rfl (Zc 10 rfl (Ao rfl (call50 _) (EI pp mb n o none ra false es hN) H ?_));rintro _ w _ ⟨nk,nv,rfl,rfl⟩ H;replace H:=H.l4;have snk:=H.says 0 rfl (fun h q=>q.slc)
 obtain ⟨ka,kc,rfl⟩:=snk;have snv:=H.says 1 rfl (fun h q=>q.slc)
 obtain ⟨va,vc,rfl⟩:=snv;refine Za 3 [] H rfl ?_;intro b1 w H;refine Z4 24 [0,4,1,0,0] H rfl ?_;intro w H;refine AD (σ:=Nat×Value×List E×List E) (fun ⟨i,u,L0,L2⟩=>[(29,Iv_ (i:Int)),(5,u),(0,Pt_ pp),(2,Iv_ fr),(3,Iv_ tt),(4,Iv_ mo),(14,Pt_ b1),(28,Iv_ (((kL es).length:Nat):Int))])
   (fun ⟨i,u,L0,L2⟩ w=>Sep z (blk b1 [.bool false,.slice ka ((kL es).length) kc,.slice va ((vL es).length) vc] 92::grow 3 1 (.slice ka ((kL es).length) kc) ((kL es).length) ((kL es).map Iv_)::grow 3 1 (.slice va ((vL es).length) vc) ((vL es).length) ((vL es).map Iv_)::trA Tb pp mb n o none::grow 55 2 u ((AT mo.toNat l (AZ fr tt L0)).length) (Ba (AT mo.toNat l (AZ fr tt L0)))::R) w∧(i≤es.length∧L=L0++L2∧Sq (fun c a b L=>Tr o.N h c a b 4 L) (es.drop i) hi L2)) (fun ⟨i,u,L0,L2⟩=>es.length - i) ⟨0,u,[],L⟩
   (fun _ hF=>(hF.co rfl (by go_num) (hF.all rfl))) ⟨(by simpa [AT,AZ] using H),⟨Nat.zero_le _,rfl,hsq⟩⟩ ?_
 clear H;rintro ⟨i,u,L0,L2⟩ w ⟨H',hI⟩;dsimp only at hI H' ⊢
 have H:=H'.l5;have su:=H.says 4 rfl (fun h q=>q.slc)
 obtain ⟨hil0,hLe,hsi⟩:=hI;have hkl:(kL es).length=es.length:=by simp
 have hvl:(vL es).length=es.length:=by simp
 refine Z0 6 [0] rfl (Af rfl (fun h1=> ?_) (fun h1=> ?_))
 ·refine Zc 12 rfl ?_;have hil:i<es.length:=by simp only[List.length_map] at *;omega
  obtain ⟨e,he⟩:∃ e,es[i]? =some e:=⟨_,List.getElem?_eq_getElem hil⟩;have hem:=List.mem_of_getElem? he
  have her:=hrg e hem
  have hka:=(H.rd 1 rfl (fun h q=>q.rd)).at (j:=i) (u:=Iv_ e.1) (by simp[kL,he])
  have hva:=(H.rd 2 rfl (fun h q=>q.rd)).at (j:=i) (u:=Iv_ (e.2:Int)) (by simp[vL,he])
  obtain ⟨Lc,L3,hL2,hTc,hs3⟩:=Zn he hsi;have hdr:=List.drop_eq_getElem_cons hil
  have hge:∀ x∈L2,e.1≤x.1:=fun x hx=>by have:=Sq.ge hsi (hok.srt.drop i) (fun y hy=>(hrg y (List.mem_of_mem_drop hy)).2) x hx;rw[hdr] at this;have he2:=(List.getElem?_eq_some_iff.1 he).2;simp only[nx] at this;rw[he2] at this;exact this
  have hlc:=hTc.srt.2
  refine Zc 2 rfl (Ab rfl (CR rfl (sz:=2) (by kernel_rfl) rfl su) (Z0 3 [0] rfl (Al 37 rfl (fun h2=> ?_) (fun h2=> ?_))))
  ·refine Zc 20 rfl (Zr rfl ?_);have hend:(AT mo.toNat l (AZ fr tt L))=(AT mo.toNat l (AZ fr tt L0)):=by rw[hLe];exact CY (by first|exact .inl (by omega)|exact .inr (fun x hx=> .inr (by have:=hge x hx;omega)))
   exact ⟨_,⟨u,rfl,rfl⟩,by rw[hend];exact H.pick 5 [3,4] rfl⟩
  ·refine Z2 3 [1,0,0] H rfl (Ab rfl (Am rfl (z:=1) (j:=i) (r:=i) (by kernel_rfl) rfl rfl rfl (by omega) hka (by omega)) (Ab rfl (Ay rfl rfl (by kernel_rfl) (Au hka)) (Z0 6 [0] rfl (Af rfl (fun h3=> ?_) (fun h3=> ?_)))))
   ·refine Zc 8 rfl (Zr rfl ?_);have hend:(AT mo.toNat l (AZ fr tt L))=(AT mo.toNat l (AZ fr tt L0)):=by rw[hLe];exact CY (by first|exact .inl (by omega)|exact .inr (fun x hx=> .inr (by have:=hge x hx;omega)))
    exact ⟨_,⟨u,rfl,rfl⟩,by rw[hend];exact H.pick 5 [3,4] rfl⟩
   ·refine Z3 30 [0,0,0,0,0,0,1,0,0,0] [(i:Int)+1] H rfl (by omega) (Al 84 rfl (fun h4=> ?_) (fun h4=> ?_))
    ·refine Z2 20 [2,0,0] H rfl (Ab rfl (Am rfl (z:=1) (j:=i) (r:=i) (by kernel_rfl) rfl rfl rfl (by omega) hva (by omega)) (Ab rfl (Ay rfl rfl (by kernel_rfl) (Au hva)) (Zc 4 rfl (Ao rfl (call36 _) (ih e.2 e.1 (nx (es.drop (i+1)) hi) 4 Lc (AT mo.toNat l (AZ fr tt L0)) u hTc (by have:=JH mo.toNat l (AZ fr tt L0);have:=JI fr tt L0;rw[hLe,hL2] at hll;simp only[List.length_append] at hll;omega)) H.f4.f4 ?_))));rintro _ w _ ⟨u2,rfl,rfl⟩ H;replace H:=H.l5;have H':Sep z (trA Tb pp mb n o none::grow 55 2 u2 ((AT mo.toNat l (AZ fr tt (L0++Lc))).length) (Ba (AT mo.toNat l (AZ fr tt (L0++Lc))))::blk b1 [.bool false,.slice ka ((kL es).length) kc,.slice va ((vL es).length) vc] 92::grow 3 1 (.slice ka ((kL es).length) kc) ((kL es).length) ((kL es).map Iv_)::grow 3 1 (.slice va ((vL es).length) vc) ((vL es).length) ((vL es).map Iv_)::R) w:=by rw[F4];exact H
     have H:=H'.l5;have su2:=H.says 1 rfl (fun h q=>q.rd.slc)
     refine Z1 22 [4] [(i:Int)+1] rfl (by omega) ?_;replace H:=H.f1.f1.f4.f4.f4;refine gf ?_;intro _ hF;refine ⟨⟨i+1,u2,L0++Lc,L3⟩,(hF.co rfl (by go_num) (hF.all rfl)),⟨H,?_⟩,?_⟩
     ·exact ⟨by show i+1≤es.length;omega,by show L=L0++Lc++L3;rw[hLe,hL2,List.append_assoc],hs3⟩
     ·(dsimp only;omega)
    ·refine Z3 4 [1,0,0] [(i:Int)+1] H rfl (by omega) ?_;have hnx:=(H.rd 1 rfl (fun h q=>q.rd)).at (j:=i+1) (u:=Iv_ (nx (es.drop (i+1)) hi)) (Zo hi (by simp only[List.length_map] at *;omega))
     refine Ab rfl (Am rfl (z:=1) (j:=(i+1)) (r:=(i+1)) (by kernel_rfl) rfl rfl (by omega) (by simp only[List.length_map] at *;omega) hka (by omega)) (Ab rfl (Ay rfl rfl (by kernel_rfl) (Au hnx)) (Z0 7 [0] rfl (Af rfl (fun h5=> ?_) (fun h5=> ?_))))
     ·refine Z2 6 [2,0,0] H rfl (Ab rfl (Am rfl (z:=1) (j:=i) (r:=i) (by kernel_rfl) rfl rfl rfl (by omega) hva (by omega)) (Ab rfl (Ay rfl rfl (by kernel_rfl) (Au hva)) (Zc 4 rfl (Ao rfl (call36 _) (ih e.2 e.1 (nx (es.drop (i+1)) hi) 4 Lc (AT mo.toNat l (AZ fr tt L0)) u hTc (by have:=JH mo.toNat l (AZ fr tt L0);have:=JI fr tt L0;rw[hLe,hL2] at hll;simp only[List.length_append] at hll;omega)) H.f4.f4 ?_))));rintro _ w _ ⟨u2,rfl,rfl⟩ H;replace H:=H.l5;have H':Sep z (trA Tb pp mb n o none::grow 55 2 u2 ((AT mo.toNat l (AZ fr tt (L0++Lc))).length) (Ba (AT mo.toNat l (AZ fr tt (L0++Lc))))::blk b1 [.bool false,.slice ka ((kL es).length) kc,.slice va ((vL es).length) vc] 92::grow 3 1 (.slice ka ((kL es).length) kc) ((kL es).length) ((kL es).map Iv_)::grow 3 1 (.slice va ((vL es).length) vc) ((vL es).length) ((vL es).map Iv_)::R) w:=by rw[F4];exact H
      have H:=H'.l5;have su2:=H.says 1 rfl (fun h q=>q.rd.slc)
      refine Z1 22 [4] [(i:Int)+1] rfl (by omega) ?_;replace H:=H.f1.f1.f4.f4.f4;refine gf ?_;intro _ hF;refine ⟨⟨i+1,u2,L0++Lc,L3⟩,(hF.co rfl (by go_num) (hF.all rfl)),⟨H,?_⟩,?_⟩
      ·exact ⟨by show i+1≤es.length;omega,by show L=L0++Lc++L3;rw[hLe,hL2,List.append_assoc],hs3⟩
      ·(dsimp only;omega)
     ·refine Z1 8 [] [(i:Int)+1] rfl (by omega) (gf ?_);intro _ hF;refine ⟨⟨i+1,u,L0++Lc,L3⟩,(hF.co rfl (by go_num) (hF.all rfl)),⟨(by rw[show (AT mo.toNat l (AZ fr tt (L0++Lc)))=(AT mo.toNat l (AZ fr tt L0)) from CY (.inr (fun x hx=>by have:=hlc x hx;omega))];exact H),?_⟩,?_⟩
      ·exact ⟨by show i+1≤es.length;omega,by show L=L0++Lc++L3;rw[hLe,hL2,List.append_assoc],hs3⟩
      ·(dsimp only;omega)
 ·refine Zc 2 rfl (gx (Zc 10 rfl (Zr rfl ?_)));have hend:(AT mo.toNat l (AZ fr tt L))=(AT mo.toNat l (AZ fr tt L0)):=by have:L2=[]:=(by have hie:i=es.length:=(by simp only[List.length_map] at *;omega);have h:=hsi;rw[hie,List.drop_length] at h;exact h);rw[hLe,this,List.append_nil]
  exact ⟨_,⟨u,rfl,rfl⟩,by rw[hend];exact H.pick 5 [3,4] rfl⟩
end
section
open Go.RowKit
variable {Tb:Ae}
theorem Zp (pp mb n:Nat) (o:TB) (fr tt mo:Int) (h:Nat):∀ (ra:Nat) (lo hi:Int) (m_:Nat) (L l:List E) (u:Value),Tr o.N h ra lo hi m_ L→l.length+L.length≤1048576→Cn prog 36 [Pt_ pp,Iv_ (ra:Int),Iv_ fr,Iv_ tt,Iv_ mo,u] [trA Tb pp mb n o none,grow 55 2 u l.length (Ba l)] (fun v Γ=>∃ u2:Value,v= .tuple #[u2,Iv_ 0]∧Γ=[trA Tb pp mb n o none,grow 55 2 u2 (AT mo.toNat l (AZ fr tt L)).length (Ba (AT mo.toNat l (AZ fr tt L)))]):=by
 induction h with
 | zero=>exact fun ra lo hi m_ L l u=>Yw pp mb n o fr tt mo ra lo hi m_ L l u
 | succ h ih=>exact fun ra lo hi m_ L l u=>Yx pp mb n o fr tt mo h ih ra lo hi m_ L l u
theorem Ro (pp mb n:Nat) (o:TB) (ra:Nat) (L:List E) (fr tt mo:Int) (hR:Root o.N ra L) (hll:L.length≤1048576):Cn prog 11 [Pt_ pp,Iv_ (ra:Int),Iv_ fr,Iv_ tt,Iv_ mo] [trA Tb pp mb n o none] (fun v Γ=>∃ u2:Value,v= .tuple #[u2,Iv_ 0]∧Γ=[trA Tb pp mb n o none,grow 55 2 u2 (AT mo.toNat [] (AZ fr tt L)).length (Ba (AT mo.toNat [] (AZ fr tt L)))]):=by
 intro z R w H;replace H:=H.l1;have hRL:ra=0→L=[]:=fun q=>by rcases hR with ⟨_,e⟩|⟨e,_⟩;exact e;exact absurd q e
 refine Ad func11 rfl ntmps11 rfl (Z0 22 [0] rfl (Al 16 rfl (fun h1=> ?_) (fun h1=> ?_)))
 ·refine Zc 18 rfl (Zr rfl ?_);have h0:(AT mo.toNat [] (AZ fr tt L))=[]:=by first|(rw[hRL (by omega)];simp[AT,AZ])|(rw[show mo.toNat=0 by omega];simp[AT])|(rw[scF_no (fun e _=>by omega)];simp[AT])
  exact ⟨_,⟨.slice none 0 0,rfl,rfl⟩,by rw[h0];exact (((H.pick 1 [0] rfl).nilg 55 2).f1)⟩
 ·refine Z0 4 [0] rfl (Al 20 rfl (fun h2=> ?_) (fun h2=> ?_))
  ·refine Zc 14 rfl (Zr rfl ?_);have h0:(AT mo.toNat [] (AZ fr tt L))=[]:=by first|(rw[hRL (by omega)];simp[AT,AZ])|(rw[show mo.toNat=0 by omega];simp[AT])|(rw[scF_no (fun e _=>by omega)];simp[AT])
   exact ⟨_,⟨.slice none 0 0,rfl,rfl⟩,by rw[h0];exact (((H.pick 1 [0] rfl).nilg 55 2).f1)⟩
  ·refine Z0 6 [0] rfl (Af rfl (fun h3=> ?_) (fun h3=> ?_))
   ·refine Zc 7 rfl (Zr rfl ?_);have h0:(AT mo.toNat [] (AZ fr tt L))=[]:=by first|(rw[hRL (by omega)];simp[AT,AZ])|(rw[show mo.toNat=0 by omega];simp[AT])|(rw[scF_no (fun e _=>by omega)];simp[AT])
    exact ⟨_,⟨.slice none 0 0,rfl,rfl⟩,by rw[h0];exact (((H.pick 1 [0] rfl).nilg 55 2).f1)⟩
   ·refine Zc 3 rfl ?_;replace H:=(H.nilg 55 2).l2
    obtain ⟨_,h,hT⟩:=hR.resolve_left (fun q=>by have:=q.1;omega);refine Zc 6 rfl (Ao rfl (call36 _) (Zp _ _ _ _ _ _ _ h ra _ _ _ L [] _ hT (by simpa using hll)) H.f1 ?_);rintro _ w _ ⟨u2,rfl,rfl⟩ H;refine Zc 7 rfl (Zr rfl ?_);exact ⟨_,⟨u2,rfl,rfl⟩,H.pick 2 [0,1] rfl⟩
end
open Go.RowKit
set_option maxHeartbeats 2000000 in
theorem Z7 (pm:Nat) (L:List E) (fr tt mo:Int) (hL:L.length≤1048576):Cn prog 13 [Pt_ pm,Iv_ fr,Iv_ tt,Iv_ mo] [mpA pm L] (fun v Γ=>∃ u:Value,v=u∧Γ=[mpA pm L,grow 55 2 u (AT mo.toNat [] (AZ fr tt L)).length (Ba (AT mo.toNat [] (AZ fr tt L)))]):=by
 intro z R w H;replace H:=H.l1;refine Ad func13 rfl ntmps13 rfl (Zc 1 rfl ?_);obtain ⟨v_,H⟩:=(H.pick 1 [0] rfl).mp;replace H:=H.l2;obtain ⟨ao,oc,rfl⟩:=H.says 1 rfl (fun h q=>q.rd.slc);have hcp_ao:=H.says 1 rfl (fun h q=>q.rd.slcapZ)
 have H:Sep z (blk pm [.slice ao L.length oc] 76::grow 55 2 (.slice ao L.length oc) L.length (Ba L)::R) w:=H
 refine Zc 11 rfl ?_;replace H:=(H.nilg 55 2).l3
 refine Zc 5 rfl ?_;refine AD (σ:=Nat×Value) (fun ⟨i,u⟩=>[(10,Iv_ (i:Int)),(9,u),(0,Pt_ pm),(1,Iv_ fr),(2,Iv_ tt),(3,Iv_ mo),(8,.slice none 0 0)])
   (fun ⟨i,u⟩ w=>Sep z (grow 55 2 u ((AT mo.toNat [] (AZ fr tt (L.take i))).length) (Ba (AT mo.toNat [] (AZ fr tt (L.take i))))::blk pm [.slice ao L.length oc] 76::grow 55 2 (.slice ao L.length oc) L.length (Ba L)::R) w∧(i≤L.length)) (fun ⟨i,u⟩=>L.length - i) ⟨0,.slice none 0 0⟩
   (fun _ hF=>(hF.co rfl (by go_num) (hF.co rfl (by go_num) (hF.all rfl)))) ⟨(by simpa [AT,AZ,Ba] using H),by omega⟩ ?_
 clear H;rintro ⟨i,u⟩ w ⟨H',hI⟩;dsimp only at hI H' ⊢
 have H:=H'.l3;have su:=H.says 0 rfl (fun h q=>q.slc)
 have hi:=hI;clear hI
 refine Z2 12 [0,1,0,0] H rfl (Af rfl (fun h1=> ?_) (fun h1=> ?_))
 ·refine Zc 5 rfl ?_;obtain ⟨e,he⟩:∃ e,L[i]? =some e:=⟨_,List.getElem?_eq_getElem (by omega)⟩;have hat0:=(H.rd 2 rfl (fun h q=>q.rd)).at (CC he).1
  have hat1:=(H.rd 2 rfl (fun h q=>q.rd)).at (CC he).2
  have htk:L.take (i+1)=L.take i++[e]:=by rw[List.take_add_one,he];rfl
  refine Zc 2 rfl (Ab rfl (CR rfl (sz:=2) (by kernel_rfl) rfl su) (Z0 3 [0] rfl (Al 24 rfl (fun h2=> ?_) (fun h2=> ?_))))
  ·refine Z2 5 [0,1,0] H rfl (Ab rfl (Am rfl (z:=2) (j:=i) (r:=i * 2) (by kernel_rfl) rfl rfl rfl (by omega) hat0 (by omega)) (Ab rfl (FA rfl (k:=0) (r:=i * 2) (by kernel_rfl) rfl hat0 rfl) (Ab rfl (Ay rfl rfl (by kernel_rfl) (Au hat0)) (Z0 4 [0] rfl (Al 36 rfl (fun h3=> ?_) (fun h3=> ?_))))))
   ·refine Z2 5 [0,1,0] H rfl (Ab rfl (Am rfl (z:=2) (j:=i) (r:=i * 2) (by kernel_rfl) rfl rfl rfl (by omega) hat0 (by omega)) (Ab rfl (FA rfl (k:=0) (r:=i * 2) (by kernel_rfl) rfl hat0 rfl) (Ab rfl (Ay rfl rfl (by kernel_rfl) (Au hat0)) (Z0 5 [0] rfl (Af rfl (fun h4=> ?_) (fun h4=> ?_))))))
    ·refine Z2 7 [0,1,0] H rfl (Ab rfl (Am rfl (z:=2) (j:=i) (r:=i * 2) (by kernel_rfl) rfl rfl rfl (by omega) hat0 (by omega)) (Ab rfl (Cx rfl rfl (vs:=[Iv_ e.1,Iv_ (e.2:Int)]) (by kernel_rfl) (by simp) (Au (fun k u hk=>by rcases k with _|_|k<;>simp at hk<;>subst hk<;>assumption))) (AJ rfl (AC H rfl (by kernel_rfl) AU rfl (by decide) (by decide) (out:=[Iv_ e.1,Iv_ (e.2:Int)]) (by kernel_rfl)) ?_)));rintro _ w ⟨b1,rfl,H⟩;replace H:=H.l4;refine AJ rfl (AX 1 H rfl rfl (by kernel_rfl) AU rfl rfl (H.rd 0 rfl (fun h q=>q.rd (by omega) (by omega) (by simp) rfl)) (by simp[Value.oneCell']) (by have:=JH mo.toNat [] (AZ fr tt (L.take i));have:=JI fr tt (L.take i);rw[List.length_take] at this;simp only[List.length_nil] at *;omega)) ?_;rintro v2 w H';have H':Sep z (blk b1 [Iv_ e.1,Iv_ (e.2:Int)] 55::grow 55 2 v2 ((AT mo.toNat [] (AZ fr tt (L.take i))).length+1) (Ba (AT mo.toNat [] (AZ fr tt (L.take i)))++[Iv_ e.1,Iv_ (e.2:Int)])::blk pm [.slice ao L.length oc] 76::grow 55 2 (.slice ao L.length oc) L.length (Ba L)::R) w:=H'
     have ev2:(Ba (AT mo.toNat [] (AZ fr tt (L.take i)))++[Iv_ e.1,Iv_ (e.2:Int)]:List Value)=Ba (AT mo.toNat [] (AZ fr tt (L.take (i+1)))):=(by rw[htk,F5 (by omega) ⟨by omega,by omega⟩,GB];rfl)
     rw[ev2] at H';rw[show ((AT mo.toNat [] (AZ fr tt (L.take i))).length+1:Nat)=(AT mo.toNat [] (AZ fr tt (L.take (i+1)))).length from (by rw[htk,F5 (by omega) ⟨by omega,by omega⟩,List.length_append];rfl)] at H';have H:=H'.l4;have sv2:=H.says 1 rfl (fun h q=>q.slc)
     refine Z1 9 [] [(i:Int)+1] rfl (by omega) ?_;replace H:=H.d;refine gf ?_;intro _ hF;refine ⟨⟨i+1,v2⟩,(hF.co rfl (by go_num) (hF.all rfl)),⟨H,?_⟩,?_⟩
     ·omega
     ·(dsimp only;omega)
    ·refine Z1 8 [] [(i:Int)+1] rfl (by omega) (gf ?_);intro _ hF;refine ⟨⟨i+1,u⟩,(hF.co rfl (by go_num) (hF.all rfl)),⟨(by rw[show (AT mo.toNat [] (AZ fr tt (L.take (i+1))))=(AT mo.toNat [] (AZ fr tt (L.take i))) from by rw[htk];exact CY (by first|exact .inl (by omega)|exact .inr (fun x hx=>by simp at hx;subst hx;omega))];exact H),?_⟩,?_⟩
     ·omega
     ·(dsimp only;omega)
   ·refine Z1 22 [] [(i:Int)+1] rfl (by omega) (gf ?_);intro _ hF;refine ⟨⟨i+1,u⟩,(hF.co rfl (by go_num) (hF.all rfl)),⟨(by rw[show (AT mo.toNat [] (AZ fr tt (L.take (i+1))))=(AT mo.toNat [] (AZ fr tt (L.take i))) from by rw[htk];exact CY (by first|exact .inl (by omega)|exact .inr (fun x hx=>by simp at hx;subst hx;omega))];exact H),?_⟩,?_⟩
    ·omega
    ·(dsimp only;omega)
  ·refine Z1 34 [] [(i:Int)+1] rfl (by omega) (gf ?_);intro _ hF;refine ⟨⟨i+1,u⟩,(hF.co rfl (by go_num) (hF.all rfl)),⟨(by rw[show (AT mo.toNat [] (AZ fr tt (L.take (i+1))))=(AT mo.toNat [] (AZ fr tt (L.take i))) from by rw[htk];exact CY (by first|exact .inl (by omega)|exact .inr (fun x hx=>by simp at hx;subst hx;omega))];exact H),?_⟩,?_⟩
   ·omega
   ·(dsimp only;omega)
 ·refine Zc 2 rfl (gx (Zc 9 rfl (Zr rfl ?_)));rw[show L.take i=L from List.take_of_length_le (by omega)] at H;exact ⟨_,⟨_,rfl,rfl⟩,(H.pick 3 [1,2,0] rfl).toMp⟩
theorem Zq (A B:Ae) (u w_:Value) (X:List E) (hA:∀ h,A h→rdH 2 u X.length (Ba X) h) (hB:∀ h,B h→rdH 2 w_ X.length (Ba X) h):Cn prog 12 [u,w_] [A,B] (fun v Γ=>v= .bool true∧Γ=[A,B]):=by
 intro z R w H;replace H:=H.l2;obtain ⟨ua,uc,rfl⟩:=H.says 0 rfl (fun h q=>(hA h q).slc);have hcap:=H.says 0 rfl (fun h q=>(hA h q).slcapZ)
 obtain ⟨wa,wc,rfl⟩:=H.says 1 rfl (fun h q=>(hB h q).slc);refine Ad func12 rfl ntmps12 rfl (Z0 15 [0] rfl (Af rfl (fun h1=> ?_) (fun h1=> ?_)))
 ·(exfalso;omega)
 ·refine Zc 9 rfl ?_;refine AD (σ:=Nat) (fun i=>[(5,Iv_ (i:Int)),(0,.slice ua X.length uc),(1,.slice wa X.length wc)])
    (fun i w=>Sep z (A::B::R) w∧(i≤X.length)) (fun i=>X.length - i) 0
    (fun _ hF=>(hF.co rfl (by go_num) (hF.all rfl))) ⟨H,Nat.zero_le _⟩ ?_
  clear H;rintro i w ⟨H',hI⟩;have H:=H'.l2;have hil:=hI;clear hI
  refine Z0 9 [0] rfl (Af rfl (fun h2=> ?_) (fun h2=> ?_))
  ·refine Zc 5 rfl ?_;obtain ⟨e,he⟩:∃ e,X[i]? =some e:=⟨_,List.getElem?_eq_getElem (by omega)⟩;have hu0:=(H.rd 0 rfl hA).at (CC he).1
   have hm0:=(H.rd 1 rfl hB).at (CC he).1
   refine Bg (Sep z _) (by kernel_rfl) (by kernel_rfl) H.drew (BX 2 [] rfl (by kernel_rfl) (A3 rfl rfl rfl (Am rfl (z:=2) (j:=i) (r:=i * 2) (by kernel_rfl) rfl rfl rfl (by omega) hu0 (by omega)) (A3 rfl rfl rfl (Cx rfl rfl (vs:=[Iv_ e.1,Iv_ (e.2:Int)]) (by kernel_rfl) (by simp) (fun _ hx' k u hk=>by rcases k with _|_|k<;>simp at hk<;>subst hk<;>first|exact (hx'.rd 0 rfl hA).at (CC he).1|exact (hx'.rd 0 rfl hA).at (CC he).2)) (BX 2 [] rfl (by kernel_rfl) (A3 rfl rfl rfl (Am rfl (z:=2) (j:=i) (r:=i * 2) (by kernel_rfl) rfl rfl rfl (by omega) hm0 (by omega)) (A3 rfl rfl rfl (Cx rfl rfl (vs:=[Iv_ e.1,Iv_ (e.2:Int)]) (by kernel_rfl) (by simp) (fun _ hx' k u hk=>by rcases k with _|_|k<;>simp at hk<;>subst hk<;>first|exact (hx'.rd 1 rfl hB).at (CC he).1|exact (hx'.rd 1 rfl hB).at (CC he).2)) (A3 rfl rfl rfl (Q4 (cs:= #[Iv_ e.1,Iv_ (e.2:Int)]) rfl (by kernel_rfl) (by kernel_rfl) (by kernel_rfl) rfl rfl) (Bq (fun w H'=> ?_)))))))));have H:=H'.l2;refine gn (Z1 10 [] [(i:Int)+1] rfl (by omega) (gf ?_));intro _ hF;refine ⟨(i+1),(hF.co rfl (by go_num) (hF.all rfl)),⟨H,?_⟩,?_⟩
   ·omega
   ·omega
  ·refine Zc 2 rfl (gx (Zc 8 rfl (Zr rfl ?_)));exact ⟨_,⟨rfl,rfl⟩,H.pick 2 [0,1] rfl⟩
section
open Go.RowKit
variable {Tb:Ae}
theorem TL {L:List E} (h:Bp 0 1048576 L) (hl:L.length≤1000):AT (1000:Int).toNat [] (AZ 0 1048576 L)=L:=by
 rw[OE h];unfold AT;rw[List.nil_append,List.take_of_length_le (by simpa using hl)]
theorem Pv (pm pp mb n:Nat) (o:TB) (ra:Nat) (L:List E) (hR:Root o.N ra L) (hl:L.length≤1000):Cn prog 25 [Pt_ pp,Iv_ (ra:Int),Pt_ pm] [mpA pm L,trA Tb pp mb n o none] (fun v Γ=>v= .bool true∧Γ=[mpA pm L,trA Tb pp mb n o none]):=by
 intro z R w H;replace H:=H.l2;refine Ad func25 rfl ntmps25 rfl (Zc 9 rfl (Ao rfl (call11 _) (Ro _ _ _ o ra L _ _ _ hR (by omega)) H.f1 ?_));rintro _ w _ ⟨us,rfl,rfl⟩ H;replace H:=H.l3;have sus:=H.says 1 rfl (fun h q=>q.rd.slc)
 refine Zc 8 rfl ?_;rw[TL hR.srt.2 hl] at H sus;have H:Sep z (trA Tb pp mb n o none::grow 55 2 us L.length (Ba L)::mpA pm L::R) w:=H
 obtain ⟨v_,H⟩:=(H.pick 3 [2,0,1] rfl).mp;replace H:=H.l4;obtain ⟨ao,oc,rfl⟩:=H.says 1 rfl (fun h q=>q.rd.slc);have hcp_ao:=H.says 1 rfl (fun h q=>q.rd.slcapZ)
 have H:Sep z (blk pm [.slice ao L.length oc] 76::grow 55 2 (.slice ao L.length oc) L.length (Ba L)::trA Tb pp mb n o none::grow 55 2 us L.length (Ba L)::R) w:=H
 refine Z2 6 [0,0,0] H rfl (z_E_ rfl (call12 _) (Zq _ _ _ _ L (fun h q=>q.rd) (fun h q=>q.rd)) H.f1.f3 ?_);intro w H;refine Z0 14 [3] rfl (Zr rfl ?_);exact ⟨_,⟨rfl,rfl⟩,((H.pick 4 [2,1,3] rfl).toMp)⟩
theorem Kk (pp mb n:Nat) (o:TB) (s:TS×List Nat):Cn prog 41 [Pt_ pp] [trA Tb pp mb n o (some s)] (fun v Γ=>v=Iv_ 0∧Γ=[trA Tb pp mb n o (some s)]):=by
 intro z R w H;replace H:=H.l1;refine Ad func41 rfl ntmps41 rfl (Zc 19 rfl (z_E_ rfl (call81 _) (Ke pp mb n o _) H ?_));intro w H;replace H:=H.l1;refine AE 6 (v:= .bool true) rfl rfl (Zc 12 rfl (Zr rfl ?_));exact ⟨_,⟨rfl,rfl⟩,H⟩
theorem TM (pp mb n:Nat) (o:TB):Cn prog 41 [Pt_ pp] [trA Tb pp mb n o none] (fun v Γ=>v=Iv_ 18∧Γ=[trA Tb pp mb n o none]):=by
 intro z R w H;replace H:=H.l1;refine Ad func41 rfl ntmps41 rfl (Zc 19 rfl (z_E_ rfl (call81 _) (Ke pp mb n o _) H ?_));intro w H;replace H:=H.l1;refine AE 6 (v:= .bool false) rfl rfl (Zc 10 rfl (Zr rfl ?_));exact ⟨_,⟨rfl,rfl⟩,H⟩
theorem WF (pp mb n:Nat) (o:TB) (s:Value):Cn prog 22 [Pt_ pp,s] [trA Tb pp mb n o none] (fun v Γ=>v= .tuple #[.slice none 0 0,Iv_ 18]∧Γ=[trA Tb pp mb n o none]):=by
 intro z R w H;replace H:=H.l1;refine Ad func22 rfl ntmps22 rfl (Zc 10 rfl (z_E_ rfl (call41 _) (TM _ _ _ _) H ?_));intro w H;refine Z0 18 [3] rfl (Zr rfl ?_);exact ⟨_,⟨rfl,rfl⟩,H⟩
end
open Go.RowKit
theorem Yy {L:List E} (hs:Srt L) (h:∀ j,j∈kL L↔j∈(([3,9]:List Int).take 80).map fun x=>(pkI x 100:Int)):∃ v1 v2,L=[(3,v1),(9,v2)]:=by
 have e:kL L=[3,9]:=OD (WA hs) (by decide) (fun j=>by rw[h j,show ((([3,9]:List Int).take 80).map fun x=>(pkI x 100:Int))=[3,9] from by decide+kernel])
 match L,e with
 | [(a,x),(b,y)],e=>
  simp[kL] at e
  obtain ⟨rfl,rfl⟩:=e
  exact ⟨x,y,rfl⟩
theorem Uw {n:Nat} (hn:n≤511):Root (F3 n).N 0 []:= .inl ⟨rfl,rfl⟩
set_option maxHeartbeats 2000000 in
theorem TN (Tb:Ae) (hT:GS Tb):Cn prog 14 [] [Tb] (fun v Γ=>v= .bool true∧Γ=[Tb]):=by
 intro z R w H;replace H:=H.l1;refine Ad func14 rfl ntmps14 rfl (Zc 7 rfl (Ao rfl (call9 _) (M8 64 (by omega) Tb hT) H ?_));rintro _ w _ ⟨pp,rfl,rfl⟩ H;refine Zc 16 rfl (AJ rfl (AC H rfl (by kernel_rfl) A4 rfl (by decide) (by decide) (out:=[Iv_ 3,Iv_ 9]) (by kernel_rfl)) ?_);rintro _ w ⟨b1,rfl,H⟩;replace H:=H.l2;refine Ao rfl (call10 _) (OH _ 6 64 (F3 64) _ ([]) 0 [] _ ([3,9]) (fun h q=>⟨q.rd (by omega) (by omega) (by simp) rfl,fun x hx=>by simp at hx;omega⟩) (Uv (by omega)) rfl (Uw (by omega)) (by decide+kernel) (by omega)) H.f1 ?_;rintro _ w _ ⟨pm,ra,L,o2,m2,hG,rfl,rfl⟩ H;refine Zc 20 rfl ?_;obtain ⟨w1,w2,rfl⟩:=Yy hG.I.root.srt.1 hG.k;refine Zc 3 rfl (Ao rfl (call11 _) (Ro _ _ _ o2 ra [(3,w1),(9,w2)] _ _ _ hG.I.root (by simp)) H.f1 ?_);rintro _ w _ ⟨us,rfl,rfl⟩ H;replace H:=H.l4;have sus:=H.says 1 rfl (fun h q=>q.rd.slc)
 refine Zc 12 rfl (z_E_ rfl (call25 _) (Pv _ _ _ _ _ _ ([(3,w1),(9,w2)]:List E) hG.I.root (by simp)) H.f2 ?_);intro w H;refine Zc 7 rfl (AJ rfl (AC H rfl (by kernel_rfl) A4 rfl (by decide) (by decide) (out:=[Iv_ (ra:Int)]) (by kernel_rfl)) ?_);rintro _ w ⟨b2,rfl,H⟩;replace H:=H.l5;refine z_E_ rfl (call22 _) (WF _ _ _ _ _) H.f2 ?_;intro w H;refine Zc 8 rfl ?_;rw[show AT (5:Int).toNat [] (AZ 4 100 [(3,w1),(9,w2)])=[(9,w2)] from by simp[AT,AZ]] at H sus;obtain ⟨ua,uc,rfl⟩:=sus;have hu0:=(H.rd 3 rfl (fun h q=>q.rd)).at (CC (L:=[(9,w2)]) (j:=0) rfl).1
 refine Z0 10 [3,3] rfl (Ab rfl (Am rfl (z:=2) (j:=0) (r:=0) (by kernel_rfl) rfl rfl rfl (by simp) hu0 (by omega)) (Ab rfl (FA rfl (k:=0) (r:=0) (by kernel_rfl) rfl hu0 rfl) (Ab rfl (Ay rfl rfl (by kernel_rfl) (Au hu0)) (Z0 13 [3,3] rfl (Zr rfl ?_)))));exact ⟨_,⟨rfl,rfl⟩,((H.pick 5 [0] rfl).trTab).2⟩
section
open Go.ChangeShapes Go.WideShapes Go.ChangeAt Go.RowKit Go.Joins
theorem own:ownKnob prog.godebug=none:=by kernel_rfl
theorem OI:laidOutB prog=true:=by kernel_rfl
theorem int_cells:prog.cellsOf 3=1:=by kernel_rfl
theorem Nf {H:Type} {enc:TypeId×Value→H} {W:World} {fuel:Nat} {v:Value} {d:DataW H} {p:List MemPlace} (h:DataW.trod enc prog W 0 (fun _=>true) true fuel 22 [v]=some (d,p)):∃ xs:List Int,Rd 1 v xs.length (xs.map (Value.int .i64)) W∧xs.length≤Rows.uptoBulk d∧∀ x∈xs,(Lit.int .i64 x).wf=true:=by
 have hall:∀ (l:List Int),l.length≤Rows.uptoBulkAll (lits (H:=H) .i64 l):=fun l=>by
  induction l with
  | nil=>simp
  | cons x l ih=>simp only[lits,List.map_cons,Rows.uptoBulkAll,Rows.uptoBulk,List.length_cons] at ih ⊢;omega
 rcases open_ints underlying22 underlying3 int_cells h with ⟨hcs,hx⟩|⟨a,len,cap,zs,hcs,_,hl,hm,hz,hx,hcell,hwf⟩
 ·simp only[List.cons.injEq,and_true] at hcs;subst hcs;exact ⟨[],by simpa using Rd.nil 1 W,by simp,by simp⟩
 ·simp only[List.cons.injEq,and_true] at hcs;subst hcs
  simp only[if_true] at hz
  have hd:d= .slice (lits .i64 (zs.take len)) (lits .i64 (zs.drop len)):=by have:=congrArg Prod.fst hx;simpa using this
  refine ⟨zs.take len,⟨some a,cap,by simp[hz,Nat.min_eq_left hl],by simp[hz,Nat.min_eq_left hl,hl],(by unfold maxLen at hm;omega),by simp,fun j u hj=> ?_⟩,?_,fun x hx=>hwf x (List.mem_of_mem_take hx)⟩
  ·rw[List.getElem?_map] at hj
   obtain ⟨y,hy,rfl⟩:=Option.map_eq_some_iff.1 hj
   have hjl:j<len:=by
    have:=(List.getElem?_eq_some_iff.1 hy).1
    simp at this;omega
   have hy':zs[j]? =some y:=by rw[List.getElem?_take] at hy;simpa [hjl] using hy
   have hc:=hcell j (by omega)
   rw[show zs.getD j 0=y from by simp[List.getD,hy']] at hc
   obtain ⟨b,off,spot⟩:=a
   have hspot:spot=none:=by
    have h0:=hcell 0 (by omega)
    simpa [Addr.add] using World.cell?_spot h0
   subst hspot
   exact ⟨b,off,rfl,by unfold EK;rw[←Go.WideShapes.add_plain];exact hc⟩
  ·rw[hd];have:=hall (zs.take len);simp only[Rows.uptoBulk];omega
def Ll:DataW Unit→List Value
 | .lit (.int k n)=>[.int k n]
 | .agg parts=>flatWs parts
 | _=>[]
where flatWs:List (DataW Unit)→List Value
 | []=>[]
 | d::ds=>Ll d++flatWs ds
def TO:Obj→Obj
 | .cells c t frozen=> .cells (if c.size=32 then (Ll Rows.laid_unicode_utf8_acceptRanges).toArray else if c.size=64 then (Ll Rows.laid_math_bits_deBruijn64tab).toArray else (Ll Rows.laid_unicode_utf8_first).toArray) t frozen
 | o=>o
noncomputable def HF (os:Os):World:=
 { World.holding prog os ⟨#[],#[],[]⟩ with heap:=(((World.holding prog os ⟨#[],#[],[]⟩).heap.modify 0 TO).modify 1 TO).modify 2 TO }
abbrev Zs (x:Int):Prop:= -9223372036854775808≤x∧x≤9223372036854775807
theorem Ux {n:Int} (h:(Lit.int .i64 n).wf=true):Zs n:=by
 simp only[Lit.wf,Bool.and_eq_true,decide_eq_true_eq] at h
 have h1:IntKind.i64.min= -9223372036854775808:=by decide
 have h2:IntKind.i64.max=9223372036854775807:=by decide
 rw[h1,h2] at h
 exact h
theorem Yz:prog.globalNamed "math/bits.deBruijn64tab"=some 0:=by kernel_rfl
theorem TP:(prog.globals[0]?).map (·.type)=some 227:=by kernel_rfl
theorem WG:prog.cellsOf 227=64:=by kernel_rfl
theorem WH:prog.cellsOf 5=1:=by kernel_rfl
def tzL:List Int:=Lib.deBruijn64tab.map Int.ofNat
theorem Lm {W:World} (h:laidMetH prog Rows.rangesScanUptoRow.laid W):Lib.TabIs prog W "math/bits.deBruijn64tab" .u8 tzL:=
 Lib.tabIs_of_head (rest:=[("unicode/utf8.acceptRanges",Rows.laid_unicode_utf8_acceptRanges),("unicode/utf8.first",Rows.laid_unicode_utf8_first)]) Yz TP underlying227 underlying5 WH WG h
theorem Kl {W:World} (h:Lib.TabIs prog W "math/bits.deBruijn64tab" .u8 tzL):∃ t fr,W.heap[0]? =some (.cells (tzL.map fun z=>Value.int .u8 z).toArray t fr):=by
 unfold Lib.TabIs World.var? at h
 rw[Yz] at h
 simp only[Option.bind_some] at h
 cases e:W.heap[0]? with
 | none=>rw[e] at h;cases h
 | some o=>
  rw[e] at h
  cases o<;>simp at h
  subst h;exact ⟨_,_,rfl⟩
def Il (W:World):Ae:=fun h=>∀ k,k<W.heap.size→k≠0→h k=W.heap[k]?
def Ng (W:World):Ae:=fun h=>h 0=W.heap[0]?
theorem YA:(List.range 64).all (fun j=>tzL[j]? == some ((Qg j).toNat:Int))=true:=by decide+kernel
theorem Zt {W:World} (ht:Lib.TabIs prog W "math/bits.deBruijn64tab" .u8 tzL):GS (Ng W):=fun h hh j hj=>by
 obtain ⟨t,fr,e⟩:=Kl ht
 have:=List.all_eq_true.1 YA j (List.mem_range.2 hj)
 have h2:tzL[j]? =some ((Qg j).toNat:Int):=by simpa using this
 exact ⟨_,t,fr,(show h 0=_ from hh).trans e,by simp[h2,u8]⟩
theorem WI {W:World} (ht:Lib.TabIs prog W "math/bits.deBruijn64tab" .u8 tzL):0<W.heap.size:=by
 obtain ⟨t,fr,e⟩:=Kl ht
 rcases Nat.eq_zero_or_pos W.heap.size with q|q
 ·rw[Array.getElem?_eq_none (by omega)] at e;cases e
 ·exact q
theorem Rp {W:World} (ht:Lib.TabIs prog W "math/bits.deBruijn64tab" .u8 tzL) {b o:Nat} {v:Value} (hc:EK b o v W) (hv:∀ x,v≠ .int .u8 x):∀ h,Il W h→celH h b o v:=fun h hb=>by
 have hne:b≠0:=fun e=>by
  subst e
  obtain ⟨t,fr,e⟩:=Kl ht
  unfold EK World.cell? at hc
  rw[e] at hc
  simp at hc
  obtain ⟨z,_,hz⟩:=hc
  exact hv _ hz.symm
 unfold EK World.cell? at hc
 cases hh:W.heap[b]? with
 | none=>rw[hh] at hc;simp at hc
 | some o'=>
  rw[hh] at hc
  cases o' with
  | cells cs ty fr=>
   simp at hc
   have hlt:b<W.heap.size:=by
    rcases Nat.lt_or_ge b W.heap.size with q|q
    ·exact q
    ·rw[Array.getElem?_eq_none q] at hh;cases hh
   exact ⟨cs,ty,fr,(hb b hlt hne).trans hh,hc⟩
  | _=>simp at hc
theorem Nh {sz:Nat} {v:Value} {n:Nat} {xs:List Value} {W:World} (ht:Lib.TabIs prog W "math/bits.deBruijn64tab" .u8 tzL) (r:Rd sz v n xs W) (hx:∀ u∈xs,∀ x,u≠ .int .u8 x):∀ h,Il W h→rdH sz v n xs h:=fun h hb=>by
 obtain ⟨ao,c,e,h1,h2,h3,h4⟩:=r
 exact ⟨ao,c,e,h1,h2,h3,fun j u hj=>by
  obtain ⟨b,p,e',hc⟩:=h4 j u hj
  exact ⟨b,p,e',Rp ht hc (hx u (List.mem_of_getElem? hj)) h hb⟩⟩
theorem OJ {h:Hp} {own:Nat→Nat} {i k:Nat} {o:Obj} (e:h.part own i k=some o):h k=some o:=by
 unfold Hp.part at e
 split at e
 ·exact e
 ·cases e
theorem Cn.run2 {P:Program} {f:FuncId} {args:List Value} {W:World} {u:Value} (h0:0<W.heap.size) (h:Cn P f args [Il W,Ng W] (fun v Γ=>v=u∧Γ=[Il W,Ng W])):Calls P f args.toArray W (Ret fun v W'=>v=u∧Ext No W W'):=by
 have hS:Sep W [Il W,Ng W] W:=⟨rfl,rfl,rfl,fun q=>if q=0 then 1 else 0,fun i A hA=>by
  match i,hA with
  | 0,hA=>cases hA;intro k hk hne;simp[Hp.part,hp,hne]
  | 1,hA=>cases hA;show Hp.part _ _ _ 0=_;simp[Hp.part,hp]⟩
 refine Ret.mono (h W [] W hS) ?_
 rintro v W' ⟨Γ,⟨rfl,rfl⟩,H⟩
 obtain ⟨own,hown⟩:=H.own
 have hb:=hown 0 _ rfl
 have ht:=hown 1 _ rfl
 have hall:∀ k,k<W.heap.size→hp W' k=W.heap[k]? :=fun k hk=>by
  obtain ⟨o,ho⟩:∃ o,W.heap[k]? =some o:=⟨_,Array.getElem?_eq_getElem hk⟩
  rw[ho]
  by_cases q:k=0
  ·subst q;exact OJ ((show _=_ from ht).trans ho)
  ·exact OJ ((hb k hk q).trans ho)
 have H2:Sep W [base W] W':=⟨H.os,H.tape,H.output,fun k=>if k<W.heap.size then 0 else 1,fun i A hA=>by
  match i,hA with
  | 0,hA=>cases hA;intro k hk;unfold Hp.part;rw[if_pos (by simp[hk])];exact hall k hk⟩
 exact ⟨rfl,Sep.done 0 H2 rfl⟩
section
variable {H:Type} {enc:TypeId×Value→H} {P:Program} {w:World} {base:Nat} {spare:Nat→Bool} {held:Bool}
end
section
variable {H:Type} {enc:TypeId×Value→H} {P:Program} {w:World} {base:Nat} {spare:Nat→Bool} {held:Bool}
theorem Zu {t0 t1:TypeId} {args:Array Value} {ds:List (DataW H)} {ps:List MemPlace} (h:DataW.TrodAll enc P w base spare held [t0,t1] args.toList ds ps):
  ∃ v0 v1 d0 d1 p0 p1,args= #[v0,v1]∧ds=[d0,d1]∧ps=p0++p1∧DataW.Trod enc P w base spare held t0 v0 d0 p0∧DataW.Trod enc P w base spare held t1 v1 d1 p1:=by
 obtain ⟨v0,vs0,d0,ds0,p0,q0,hargs,rfl,rfl,hd0,hr0⟩:=trodAll_cons h
 obtain ⟨v1,vs1,d1,ds1,p1,q1,rfl,rfl,rfl,hd1,hr1⟩:=trodAll_cons hr0
 obtain ⟨rfl,rfl,rfl⟩:=trodAll_nil hr1
 exact ⟨v0,v1,d0,d1,p0,p1,by cases args;simp_all,rfl,by simp,hd0,hd1⟩
theorem WJ {t0 t1:TypeId} {v0 v1:Value} {d0 d1:DataW H} {p0 p1:List MemPlace} (h0:DataW.Trod enc P w base spare held t0 v0 d0 p0) (h1:DataW.Trod enc P w base spare held t1 v1 d1 p1):DataW.TrodAll enc P w base spare held [t0,t1] [v0,v1] [d0,d1] (p0++p1):=
 ⟨p0,_,h0,(trodAll_mk1 h1),rfl⟩
end
section
variable {H:Type} {enc:TypeId×Value→H} {P:Program} {w:World} {base:Nat} {spare:Nat→Bool} {held:Bool}
end
end
section
open Go.RowKit
section
variable {P:Program} {o:Oper} {w z:World} {Γ:List Ae} {n:Nat} {ds:List Deferred} {L:List (Nat×Value)} {v u:Value} {x y:Operand}
end
/-! ### counting -/
def YB (N:Hm) (p:Nat):Prop:=∃ d,N p=some (.nd d)
variable {n f:Nat} {N:Hm} {C:Nat→Nat} {R:List Nat}
theorem TInv.kids (I:TInv n f N C R) {q:Nat} {lf:Bool} {es:List E} (hN:N q=some (.nd ⟨lf,es⟩)) {e:E} (he:e∈es):YB N e.2↔lf=false:=by
 obtain ⟨h,lo,hi,m,L,t⟩:=I.hg q _ hN
 obtain ⟨es',h1,_⟩:=Tr.iff.1 t
 rw[hN] at h1
 injection h1 with h1;injection h1 with h1;injection h1 with h1 h2
 rcases t.kid hN (List.mem_map_of_mem he) with ⟨e0,b,hb⟩|⟨h',_,_,_,e0,t'⟩
 ·subst e0
  simp at h1;subst h1
  exact ⟨fun ⟨d,hd⟩=>by rw[hb] at hd;(injection hd with hd;cases hd),fun e=>by cases e⟩
 ·subst e0
  simp at h1;subst h1
  exact ⟨fun _=>rfl,fun _=>t'.node⟩
end
section
open Go.RowKit
section late
variable {P:Program} {ops:Array Oper} {Q:Exit→Act→World→Prop} {S:World→Prop} {E:List Nat}
theorem ready_un {listed:Array Bool} {j:Nat} (hj:j∈Region.ready .any ops listed) (hsz:listed.size=ops.size):listed.getD j false=true→False:=fun h2=>by
 have h0:=(mem_ready.1 hj).1
 obtain ⟨_,oj,hoj,_⟩:=mem_ready.1 hj
 have hb:=(Array.getElem?_eq_some_iff.1 hoj).1
 have hh:j<listed.size:=by omega
 simp[hh] at h2 h0
 rw[h2] at h0;cases h0
theorem K7 {i:Nat} {oi:Oper} {v:Value} (hi:ops[i]? =some oi) {f:Nat} (hsel:∀ (j:Nat) (o:Oper) cs b,ops[j]? =some o→o.op≠ .select cs b)
  (hQ:∀ c a w,Q (.panic c) (a.put oi.dst v) w→Q (.panic c) a w):
  ∀ (fuel:Nat) (listed:Array Bool) (a:Act) (w:World),Dc ops listed→listed.size=ops.size→(∀ j∈E,listed.getD j false=true∨DU ops f j i=true)→
   (∀ j oj,ops[j]? =some oj→j≠i→listed.getD j true=false→(∀ e∈oj.after,Region.binds .any e=true→e.on≠i)→oi.apart ops oj=true)→
   i∈Region.ready .any ops listed→YieldsIf P ops S oi v a→S w→
   DV P ops Q S E fuel (listed.setIfInBounds i true) (a.put oi.dst v) w→DV P ops Q S E (fuel+1) listed a w:=by
 intro fuel
 induction fuel with
 | zero=>
  intro listed a w hd hsz _ _ hr hy hS H
  refine ⟨fun h=>(by rw[h] at hr;cases hr),fun j hj=> ?_⟩
  by_cases hji:j=i
  ·subst hji;exact hy.wpOp hi hS ⟨fun _=>hS,H⟩
  ·have:=ready_mono hj hji
   rw[H.1] at this
   cases this
 | succ fuel ih=>
  intro listed a w hd hsz hE hfree hr hy hS H
  refine ⟨fun h=>(by rw[h] at hr;cases hr),fun j hj=> ?_⟩
  by_cases hji:j=i
  ·subst hji;exact hy.wpOp hi hS ⟨fun _=>hS,H⟩
  ·have h1:=H.2 j (ready_mono hj hji)
   have hjl:E.contains j=false:=by
    cases hc:E.contains j with
    | false=>rfl
    | true=>
     have hm:j∈E:=by simpa using hc
     rcases hE j hm with h|h
     ·exact (ready_un hj hsz h).elim
     ·exact (ready_un hr hsz (ready_waits hd hsz h hj)).elim
   obtain ⟨hjun,oj,hoj,hall⟩:=mem_ready.1 hj
   have hnot:∀ e∈oj.after,Region.binds .any e=true→e.on≠i:=fun e he hb heq=>by
    have h1:=hall e he hb
    rw[heq] at h1
    exact ready_un hr hsz h1
   have h2:=wpOp_putIf hoj (hfree j oj hoj hji hjun hnot) (fun cs b=>hsel i oi cs b hi) (fun cs b=>hsel j oj cs b hoj) hQ hy h1
   have hfree':∀ k ok,ops[k]? =some ok→k≠i→(listed.setIfInBounds j true).getD k true=false→
     (∀ e∈ok.after,Region.binds .any e=true→e.on≠i)→oi.apart ops ok=true:=fun k ok hk hki hun hno=>by
    refine hfree k ok hk hki ?_ hno
    by_cases hjk:j=k
    ·subst hjk;exact hjun
    ·rw[getD_set_ne true hjk] at hun;exact hun
   have hE':∀ k∈E,(listed.setIfInBounds j true).getD k false=true∨DU ops f k i=true:=fun k hk=>by
    by_cases hjk:j=k
    ·subst hjk
     have hm:E.contains j=true:=by simpa using hk
     rw[hm] at hjl;cases hjl
    ·rw[getD_set_ne false hjk];exact hE k hk
   refine wpOp_mono (fun a' w' h3=>⟨fun _=>h3.2.1 hjl,ih (listed.setIfInBounds j true) a' w' (hd.next hj) (by simpa using hsz) hE' hfree' (ready_mono hr (Ne.symm hji)) h3.1 (h3.2.1 hjl) ?_⟩) h2
   rw[Array.setIfInBounds_comm _ _ hji]
   exact h3.2.2
theorem Nx {i:Nat} {oi:Oper} {v:Value} (hi:ops[i]? =some oi) (hEi:E.contains i=true) (hsel:∀ (j:Nat) (o:Oper) cs b,ops[j]? =some o→o.op≠ .select cs b)
  (hQ:∀ c a w,Q (.panic c) (a.put oi.dst v) w→Q (.panic c) a w):
  ∀ (fuel:Nat) (listed:Array Bool) (a:Act) (w:World),Dc ops listed→listed.size=ops.size→
   (∀ j oj,ops[j]? =some oj→j≠i→listed.getD j true=false→(∀ e∈oj.after,Region.binds .any e=true→e.on≠i)→oi.apart ops oj=true)→
   i∈Region.ready .any ops listed→YieldsIf P ops (fun _=>True) oi v a→
   DV P ops Q S E fuel (listed.setIfInBounds i true) (a.put oi.dst v) w→DV P ops Q S E (fuel+1) listed a w:=by
 intro fuel
 induction fuel with
 | zero=>
  intro listed a w hd hsz _ hr hy H
  refine ⟨fun h=>(by rw[h] at hr;cases hr),fun j hj=> ?_⟩
  by_cases hji:j=i
  ·subst hji;exact hy.wpOp hi trivial ⟨fun e=>(by rw[hEi] at e;cases e),H⟩
  ·have:=ready_mono hj hji
   rw[H.1] at this
   cases this
 | succ fuel ih=>
  intro listed a w hd hsz hfree hr hy H
  refine ⟨fun h=>(by rw[h] at hr;cases hr),fun j hj=> ?_⟩
  by_cases hji:j=i
  ·subst hji;exact hy.wpOp hi trivial ⟨fun e=>(by rw[hEi] at e;cases e),H⟩
  ·have h1:=H.2 j (ready_mono hj hji)
   obtain ⟨hjun,oj,hoj,hall⟩:=mem_ready.1 hj
   have hnot:∀ e∈oj.after,Region.binds .any e=true→e.on≠i:=fun e he hb heq=>by
    have h1:=hall e he hb
    rw[heq] at h1
    exact ready_un hr hsz h1
   have h2:=wpOp_putIf hoj (hfree j oj hoj hji hjun hnot) (fun cs b=>hsel i oi cs b hi) (fun cs b=>hsel j oj cs b hoj) hQ hy h1
   have hfree':∀ k ok,ops[k]? =some ok→k≠i→(listed.setIfInBounds j true).getD k true=false→
     (∀ e∈ok.after,Region.binds .any e=true→e.on≠i)→oi.apart ops ok=true:=fun k ok hk hki hun hno=>by
    refine hfree k ok hk hki ?_ hno
    by_cases hjk:j=k
    ·subst hjk;exact hjun
    ·rw[getD_set_ne true hjk] at hun;exact hun
   refine wpOp_mono (fun a' w' h3=>⟨h3.2.1,ih (listed.setIfInBounds j true) a' w' (hd.next hj) (by simpa using hsz) hfree' (ready_mono hr (Ne.symm hji)) h3.1 ?_⟩) h2
   rw[Array.setIfInBounds_comm _ _ hji]
   exact h3.2.2
end late
section late2
variable {P:Program} {ops:List Oper} {N R:Act→World→Prop} {X:Nat→Act→World→Prop} {S:World→Prop} {E:List Nat} {a:Act} {w:World} {fuel:Nat} {listed:Array Bool} {n d i:Nat} {ds:List Deferred} {L:List (Nat×Value)} {v:Value} {o:Oper}
theorem G9 (i:Nat) (hi:ops[i]? =some o) (hE:(E.all fun j=>listed.getD j false || DU ops.toArray ops.length j i)=true) (hs:Region.noSelect ops.toArray=true) (hf:Region.free .any ops.toArray listed i=true) (hr:(Region.ready .any ops.toArray listed).contains i=true)
  (hw:Bk ops L o.guard=true) (hd:o.dst=some d) (hlt:Nat.blt d n=true) (hdo:Aj P S n ds L o v) (hS:S w)
  (K:∀ a',Fr n ds ((d,v)::L) a'→F9 P ops (Qp N X R) S E fuel (listed.setIfInBounds i true) a' w):∀ a,Fr n ds L a→F9 P ops (Qp N X R) S E (fuel+1) listed a w:=fun a hF hdc hsz=>
 have hi':ops.toArray[i]? =some o:=by simpa using hi
 have hr':i∈Region.ready .any ops.toArray listed:=by simpa using hr
 K7 (i:=i) (oi:=o) (v:=v) hi' (Region.noSelect_spec hs) (fun _ _ _ h=>h.elim) fuel listed a w hdc (by simpa using hsz) (fun j hj=>by simpa using (List.all_eq_true.1 hE) j hj) (Region.free_spec hi' hf) hr' (.inl ⟨wantL_ok hF hw,fun w' h=>hdo a hF w' h⟩) hS
  (by rw[hd];exact K _ (hF.put d v hlt) (hdc.next hr') (by simpa using hsz))
theorem Rq (i:Nat) (hi:ops[i]? =some o) (hE:E.contains i=true) (hs:Region.noSelect ops.toArray=true) (hf:Region.free .any ops.toArray listed i=true) (hr:(Region.ready .any ops.toArray listed).contains i=true)
  (hw:Bk ops L o.guard=true) (hd:o.dst=some d) (hlt:Nat.blt d n=true) (hdo:Aj P (fun _=>True) n ds L o v)
  (K:∀ a',Fr n ds ((d,v)::L) a'→F9 P ops (Qp N X R) S E fuel (listed.setIfInBounds i true) a' w):∀ a,Fr n ds L a→F9 P ops (Qp N X R) S E (fuel+1) listed a w:=fun a hF hdc hsz=>
 have hi':ops.toArray[i]? =some o:=by simpa using hi
 have hr':i∈Region.ready .any ops.toArray listed:=by simpa using hr
 Nx (i:=i) (oi:=o) (v:=v) hi' hE (Region.noSelect_spec hs) (fun _ _ _ h=>h.elim) fuel listed a w hdc (by simpa using hsz) (Region.free_spec hi' hf) hr' (.inl ⟨wantL_ok hF hw,fun w' h=>hdo a hF w' h⟩)
  (by rw[hd];exact K _ (hF.put d v hlt) (hdc.next hr') (by simpa using hsz))
end late2
section
variable {P:Program} {C:World→Prop} {o:Oper} {n:Nat} {ds:List Deferred} {L:List (Nat×Value)} {x y:Operand}
theorem KY {t:TypeId} {hi mx:Operand} {b off l c q sz:Nat} {k2 k3:IntKind} {i2 i3:Int} (ho:o.op= .slice t x none (some hi) (some mx)) (ht:Cj P t=some sz) (hx:ev L x=some (.slice (some ⟨b,off,none⟩) l c))
  (hhi:ev L hi=some (.int k2 i2)) (hmx:ev L mx=some (.int k3 i3)) (e2:i2=(q:Int)) (e3:i3=(q:Int)) (hqc:q≤c):Aj P C n ds L o (.slice (some ⟨b,off,none⟩) q q):=fun a hF w _=>by
 obtain ⟨e,i0,ht,hi0,hz⟩:=Du ht
 subst e2;subst e3
 have g2:(0:Int)≤(q:Int)∧(q:Int)≤(c:Int):=by omega
 have g3:(0:Int)≤(q:Int)∧(q:Int)≤(q:Int):=by omega
 have key:((⟨b,off,none⟩:Addr).add 0)=⟨b,off,none⟩:=rfl
 simp only[execOp,ho,Option.map_some,Option.map_none,hF.ev hx,hF.ev hhi,hF.ev hmx]
 simp[Instr.sliceAt,Instr.slice,run_underlying ht,Instr.sliceBounds,Instr.sliceBound,asIntOf,g2,g3,sizeOf,typeInfo,hi0,hz,hqc,go_sem,key]
end
def Bt (Q:List Nat):List Value:=Q.map fun (r:Nat)=>Value.int .i64 (r:Int)
theorem Km (Q:List Nat):(Bt Q).length=Q.length:=by simp[Bt]
theorem YC (Q:List Nat) (r:Nat) (rest:List Value):(Bt (Q++[r])++rest)[Q.length]? =some (Iv_ (r:Int)):=by
 rw[List.getElem?_append_left (by simp[Bt])];simp[Bt]
theorem WK (Q:List Nat) (r c:Nat) (rest:List Value):(Bt (Q++[r])++rest).take Q.length++[Iv_ (c:Int)]++(Bt (Q++[r])++rest).drop (Q.length+1)=Bt (Q++[c])++rest:=by
 rw[List.take_append_of_le_length (by simp[Bt]),List.drop_append_of_le_length (by simp[Bt])]
 simp[Bt]
theorem TQ (Q:List Nat) (c:Nat):Bt Q++[Iv_ (c:Int)]=Bt (Q++[c]):=by simp[Bt]
theorem WL (Q:List Nat):∀ c∈Bt Q,c.oneCell'=true:=fun c hc=>by
 obtain ⟨r,_,rfl⟩:=List.mem_map.1 hc;rfl
theorem WM {es:List E} {i:Nat} {e:E} (he:es[i]? =some e):es.drop i=e::es.drop (i+1):=by
 obtain ⟨hi,rfl⟩:=List.getElem?_eq_some_iff.1 he
 exact List.drop_eq_getElem_cons hi
def Ix (v:Value) (xs:List Value):Ae:=fun h=>rdH 1 v xs.length xs h
abbrev PL:=List (Nat×Nat)
abbrev pgs (P:PL):List Nat:=P.map Prod.fst
theorem Uy (c:Nat) (X Q:List Nat):(c::(X++Q)).Perm (X++[c]++Q):=by
 rw[show X++[c]++Q=X++c::Q from by simp];exact List.perm_middle.symm
theorem Zv (r c:Nat) (X Q:List Nat):(r::c::(X++Q)).Perm (X++[r]++[c]++Q):=by
 rw[show X++[r]++[c]++Q=X++r::(c::Q) from by simp]
 exact ((List.perm_middle (l₁:=X) (l₂:=Q) (a:=c)).symm.cons r).trans List.perm_middle.symm
def Stk (N:Hm) (B:Nat) (P:PL):Prop:=∀ (j:Nat) x,P[j]? =some x→j+x.2≤B∧∃ lo hi m L,Tr N x.2 x.1 lo hi m L
def Cz (N:Hm) (P:PL):Nat:=(P.map fun x=>stp N x.2 x.1).sum
theorem DF (N:Hm) (P Y:PL):Cz N (P++Y)=Cz N P+Cz N Y:=by simp[Cz]
theorem Stk.init {N:Hm} {B:Nat} {P Y:PL} (h:Stk N B (P++Y)):Stk N B P:=fun j x hx=>h j x (by rw[List.getElem?_append_left (List.getElem?_eq_some_iff.1 hx).1];exact hx)
theorem Stk.snoc {N:Hm} {B:Nat} {P:PL} {x:Nat×Nat} (h:Stk N B P) (h1:P.length+x.2≤B) (h2:∃ lo hi m L,Tr N x.2 x.1 lo hi m L):Stk N B (P++[x]):=fun j y hy=>by
 rcases Nat.lt_or_ge j P.length with q|q
 ·rw[List.getElem?_append_left q] at hy;exact h j y hy
 ·rw[List.getElem?_append_right q] at hy
  have hj:j=P.length:=by
   have:=(List.getElem?_eq_some_iff.1 hy).1
   simp at this;omega
  subst hj
  simp at hy;subst hy
  exact ⟨h1,h2⟩
theorem Stk.last {N:Hm} {B:Nat} {P:PL} {x:Nat×Nat} (h:Stk N B (P++[x])):P.length+x.2≤B∧∃ lo hi m L,Tr N x.2 x.1 lo hi m L:=h P.length x (by simp)
theorem Stk.len {N:Hm} {B:Nat} {P:PL} (h:Stk N B P):P.length≤B+1:=by
 rcases List.eq_nil_or_concat P with rfl|⟨Y,x,rfl⟩
 ·simp
 ·rw[List.concat_eq_append] at h ⊢
  have:=h.last.1
  simp;omega
theorem Stk.keep {N N':Hm} {B r:Nat} {P:PL} (h:Stk N B P) (hk:∀ q d,q≠r→N q=some (.nd d)→N' q=some (.nd d)) (hno:∀ q d,N q=some (.nd d)→r∉vals d.es) (hr:r∉pgs P) (hT:∀ c∈pgs P,∀ h lo hi m L,Tr N h c lo hi m L→Tr N' h c lo hi m L):Stk N' B P∧Cz N' P=Cz N P:=by
 refine ⟨fun j x hx=> ?_,?_⟩
 ·obtain ⟨h1,lo,hi,m,L,t⟩:=h j x hx
  exact ⟨h1,lo,hi,m,L,hT x.1 (List.mem_map_of_mem (List.mem_of_getElem? hx)) _ _ _ _ _ t⟩
 ·unfold Cz
  congr 1
  refine List.map_congr_left fun x hx=> ?_
  obtain ⟨j,hj⟩:=List.getElem?_of_mem hx
  obtain ⟨_,lo,hi,m,L,t⟩:=h j x hj
  exact Tr.stp_eq hk hno (fun e=>hr (by rw[←e];exact List.mem_map_of_mem hx)) t
structure FeR (t t2:TS) (P P2:PL) (Q:List Nat) (B:Nat):Prop where
 s:Stk t2.N B P2
 n:Cz t2.N P2+1≤Cz t.N P
 q:∀ c∈Q,∀ h lo hi m L,Tr t.N h c lo hi m L→Tr t2.N h c lo hi m L
 c:∃ X:List Nat,X.length≤9∧∀ p,p∉X→t2.C p=t.C p
 k:t2.k≤t.k+1
section
variable {n f:Nat} {t t2 ts:TS} {P:PL} {Q:List Nat} {B r h:Nat} {es:List E}
theorem YD (hS:Stk t.N B (P++[(r,h)])):FeR t { t with C:=fup t.C r (t.C r - 1) } (P++[(r,h)]) P Q B:=by
 obtain ⟨_,lo,hi,m,L,tr⟩:=hS.last
 have:1≤stp t.N h r:=tr.stp_pos
 exact ⟨hS.init,by rw[DF];show Cz t.N P+1≤Cz t.N P+(stp t.N h r+0);omega,fun _ _ _ _ _ _ _ x=>x,⟨[r],by simp,fun p hp=>AQ _ _ (by simpa using hp)⟩,Nat.le_succ _⟩
theorem GC (I:TInv n f t.N t.C (r::(pgs P++Q))) (h1:t.C r=1):(∀ q d,t.N q=some (.nd d)→r∉vals d.es)∧r∉pgs P∧r∉Q:=by
 have:=DD I h1
 simp only[List.mem_append,not_or] at this
 exact ⟨fun q d hq=>I.noref (by simp[h1]) hq,this.1,this.2⟩
structure LfI (t ts:TS) (r:Nat) (es:List E) (i:Nat) (R:List Nat):Prop where
 nd:∀ q d,q≠r→t.N q=some (.nd d)→ts.N q=some (.nd d)
 fr:∀ c∈R,∀ h lo hi m L,Tr t.N h c lo hi m L→Tr ts.N h c lo hi m L
 no:∀ p∈vals es,∀ d,ts.N p≠some (.nd d)
 r0:ts.N r=none
 rv:r∉vals es
 c:∀ p,p∉vals (es.take i)→ts.C p=t.C p
 k:ts.k≤t.k
theorem LfI.start (I:TInv n f t.N t.C (r::(pgs P++Q))) (h1:t.C r=1) (hN:t.N r=some (.nd ⟨true,es⟩)):LfI t { t with N:=fup t.N r none } r es 0 (pgs P++Q):=by
 obtain ⟨hno,hp,hq⟩:=GC I h1
 have hR:r∉pgs P++Q:=DD I h1
 refine ⟨fun q d hq hd=>by show fup t.N r none q=_;rw[AQ _ _ hq];exact hd,fun c hc h lo hi m L x=>x.fup hno (fun e=>hR (by rw[←e];exact hc)),fun p hp d=> ?_,Be _ _ _,hno r _ hN,fun p _=>rfl,Nat.le_refl _⟩
 obtain ⟨e,he,rfl⟩:=List.mem_map.1 hp
 have:¬ YB t.N e.2:=fun q=>by have:=(I.kids hN he).1 q;cases this
 show fup t.N r none e.2≠_
 rw[AQ _ _ (fun q=>hno r _ hN (by rw[←q];exact hp))]
 exact fun q=>this ⟨d,q⟩
theorem LfI.step {i:Nat} {e:E} {R R':List Nat} (x:LfI t ts r es i R) (he:es[i]? =some e) (hS:St ts t2 R' 0 0) (hR:∀ c∈R,c∈R') (h1:∀ q,q≠e.2→t2.N q=ts.N q∧t2.C q=ts.C q) (h2:t2.N e.2=ts.N e.2∨t2.N e.2=none):LfI t t2 r es (i+1) R:=by
 have hem:e.2∈vals es:=List.mem_map_of_mem (List.mem_of_getElem? he)
 have hre:r≠e.2:=fun q=>x.rv (by rw[q];exact hem)
 refine ⟨fun q d hq hd=> ?_,fun c hc h lo hi m L y=>hS.fr c (hR c hc) _ _ _ _ _ (x.fr c hc _ _ _ _ _ y),fun p hp d=> ?_,by rw[(h1 r hre).1];exact x.r0,x.rv,fun p hp=> ?_,Nat.le_trans hS.k x.k⟩
 ·have:=x.nd q d hq hd
  rw[(h1 q (fun e'=>x.no _ hem d (by rw[←e'];exact this))).1];exact this
 ·by_cases e':p=e.2
  ·subst e'
   rcases h2 with h2|h2
   ·rw[h2];exact x.no _ hem d
   ·rw[h2];simp
  ·rw[(h1 p e').1];exact x.no p hp d
 ·rw[List.take_add_one,he] at hp
  simp only[vals,List.map_append,List.mem_append,not_or] at hp
  rw[(h1 p (fun e'=>hp.2 (by simp[e']))).2]
  exact x.c p hp.1
theorem WN (I:TInv n f t.N t.C (r::(pgs P++Q))) (h1:t.C r=1) (hN:t.N r=some (.nd ⟨true,es⟩)) (hS:Stk t.N B (P++[(r,h)])) (x:LfI t ts r es es.length (pgs P++Q)) (h2:∀ q,q≠r→t2.N q=ts.N q∧t2.C q=ts.C q) (hSt:St ts t2 (pgs P++Q) 0 0):FeR t t2 (P++[(r,h)]) P Q B:=by
 obtain ⟨hno,hp,hq⟩:=GC I h1
 obtain ⟨_,lo,hi,m,L,tr⟩:=hS.last
 have hfr:∀ c∈pgs P++Q,∀ h lo hi m L,Tr t.N h c lo hi m L→Tr t2.N h c lo hi m L:=fun c hc h lo hi m L y=>hSt.fr c hc _ _ _ _ _ (x.fr c hc _ _ _ _ _ y)
 obtain ⟨k1,k2⟩:=hS.init.keep (N':=t2.N) (r:=r) (fun q d hq hd=>by rw[(h2 q hq).1];exact x.nd q d hq hd) hno hp (fun c hc=>hfr c (List.mem_append_left _ hc))
 have:1≤stp t.N h r:=tr.stp_pos
 refine ⟨k1,by rw[k2,DF];show Cz t.N P+1≤Cz t.N P+(stp t.N h r+0);omega,fun c hc=>hfr c (List.mem_append_right _ hc),⟨r::vals es,?_,fun p hp=> ?_⟩,by have:=hSt.k;have:=x.k;omega⟩
 ·have:=(I.nds r _ hN).1.len;simp[vals];exact this
 ·simp only[List.mem_cons,not_or] at hp
  rw[(h2 p hp.1).2]
  exact x.c p (by rw[List.take_length];exact hp.2)
theorem IY {N:Hm} {lf:Bool} (hN:N r=some (.nd ⟨lf,es⟩)):stp N (h+1) r=(es.map fun e=>1+stp N h e.2).sum:=by simp only[stp,hN]
theorem Tr.succ {N:Hm} {lo hi:Int} {m:Nat} {L:List E} (tr:Tr N h r lo hi m L) (hN:N r=some (.nd ⟨false,es⟩)):∃ h',h=h'+1:=by
 obtain ⟨es',h2,_⟩:=Tr.iff.1 tr
 rw[hN] at h2
 injection h2 with h2;injection h2 with h2;injection h2 with h2 _
 cases h with
 | zero=>simp at h2
 | succ h=>exact ⟨h,rfl⟩
theorem YE {e:E} (I:TInv n f t.N t.C (r::(pgs P++Q))) (h1:t.C r=1) (hN:t.N r=some (.nd ⟨false,[e]⟩)) (hS:Stk t.N B (P++[(r,h+1)])) (h2:∀ q,q≠r→t2.N q=fup t.N r none q∧t2.C q=t.C q) (hSt:St { t with N:=fup t.N r none } t2 (e.2::(pgs P++Q)) 0 0):FeR t t2 (P++[(r,h+1)]) (P++[(e.2,h)]) Q B:=by
 obtain ⟨hno,hp,hq⟩:=GC I h1
 obtain ⟨hB,lo,hi,m,L,tr⟩:=hS.last
 dsimp only at hB
 have hR:r∉pgs P++Q:=DD I h1
 have her:e.2≠r:=fun q=>hno r _ hN (by rw[←q];simp[vals])
 have hfr:∀ c∈pgs P++Q,∀ h lo hi m L,Tr t.N h c lo hi m L→Tr t2.N h c lo hi m L:=fun c hc h lo hi m L y=>hSt.fr c (List.mem_cons_of_mem _ hc) _ _ _ _ _ (y.fup hno (fun e=>hR (by rw[←e];exact hc)))
 have hnd:∀ q d,q≠r→t.N q=some (.nd d)→t2.N q=some (.nd d):=fun q d hq hd=>by rw[(h2 q hq).1,AQ _ _ hq];exact hd
 obtain ⟨k1,k2⟩:=hS.init.keep (N':=t2.N) (r:=r) hnd hno hp (fun c hc=>hfr c (List.mem_append_left _ hc))
 rcases tr.kid hN (p:=e.2) (by simp[vals]) with ⟨e0,_⟩|⟨h',lo',hi',L',e0,tc⟩
 ·omega
 cases e0
 refine ⟨k1.snoc (by dsimp only;omega) ⟨_,_,_,_,hSt.fr e.2 (by simp) _ _ _ _ _ (tc.fup hno her)⟩,?_,fun c hc=>hfr c (List.mem_append_right _ hc),⟨[r],by simp,fun p hp=>(h2 p (by simpa using hp)).2⟩,by have:=hSt.k;exact Nat.le_trans this (Nat.le_succ _)⟩
 rw[DF,DF,k2]
 show Cz t.N P+(stp t2.N h e.2+0)+1≤Cz t.N P+(stp t.N (h+1) r+0)
 rw[IY hN,Tr.stp_eq hnd hno her tc]
 simp;omega
theorem YF {e:E} (I:TInv n f t.N t.C (r::(pgs P++Q))) (h1:t.C r=1) (hN:t.N r=some (.nd ⟨false,es++[e]⟩)) (he:es≠[]) (hS:Stk t.N B (P++[(r,h+1)])):
  ∃ lo hi L,(Nd.mk false es).Ok∧(vals es).Nodup∧Bd (fup t.N r none) (h+1) es hi L∧Bp lo hi es:=by
 obtain ⟨hno,hp,hq⟩:=GC I h1
 obtain ⟨hB,lo,hi,m,L,tr⟩:=hS.last
 obtain ⟨es',g1,g2,g3,g4,g5⟩:=Tr.iff.1 tr
 rw[hN] at g1
 injection g1 with g1;injection g1 with g1;injection g1 with _ g1
 subst g1
 obtain ⟨L1,L2,_,b1,_⟩:=Bd.app.1 g5
 obtain ⟨s1,s2,s3⟩:=Srt.app.1 g4.srt
 have hv:=hno r _ hN
 have hd:=(I.nds r _ hN).2.1
 simp only[vals,List.map_append] at hv hd
 refine ⟨lo,e.1,L1,⟨s1,by have:=g4.len;simp at this ⊢;omega,fun x hx=>g4.key x (List.mem_append_left _ hx),fun _=>he⟩,(List.nodup_append.1 hd).1,b1.fup hno (fun q=>hv (List.mem_append_left _ q)),fun x hx=>⟨(g3 x (List.mem_append_left _ hx)).1,s3 x hx e (by simp)⟩⟩
theorem WO {e:E} {k:Nat} (I:TInv n f t.N t.C (r::(pgs P++Q))) (h1:t.C r=1) (hN:t.N r=some (.nd ⟨false,es++[e]⟩)) (hS:Stk t.N B (P++[(r,h+1)])) (hT:∃ lo hi m L,Tr (fup (fup t.N r none) r (some (.nd ⟨false,es⟩))) (h+1) r lo hi m L) (hk:k≤t.k+1):
  FeR t ⟨fup (fup t.N r none) r (some (.nd ⟨false,es⟩)),t.C,t.F,k⟩ (P++[(r,h+1)]) (P++[(r,h+1)]++[(e.2,h)]) Q B:=by
 obtain ⟨hno,hp,hq⟩:=GC I h1
 obtain ⟨hB,lo,hi,m,L,tr⟩:=hS.last
 dsimp only at hB
 have hR:r∉pgs P++Q:=DD I h1
 have hmem:∀ x∈es++[e],x.2≠r:=fun x hx q=>hno r _ hN (by rw[←q];exact List.mem_map_of_mem hx)
 have her:e.2≠r:=hmem e (by simp)
 have hff:fup (fup t.N r none) r (some (.nd ⟨false,es⟩))=fup t.N r (some (.nd ⟨false,es⟩)):=by funext q;unfold fup;split<;>rfl
 rw[hff] at hT ⊢
 have hfr:∀ c,c≠r→∀ h lo hi m L,Tr t.N h c lo hi m L→Tr (fup t.N r (some (.nd ⟨false,es⟩))) h c lo hi m L:=fun c hc h lo hi m L y=>y.fup hno hc
 have hnd:∀ q d,q≠r→t.N q=some (.nd d)→fup t.N r (some (.nd ⟨false,es⟩)) q=some (.nd d):=fun q d hq hd=>by rw[AQ _ _ hq];exact hd
 obtain ⟨k1,k2⟩:=hS.init.keep (N':=fup t.N r (some (.nd ⟨false,es⟩))) (r:=r) hnd hno hp (fun c hc=>hfr c (fun q=>hp (by rw[←q];exact hc)))
 have hkid:∀ x∈es++[e],∃ lo hi L,Tr t.N h x.2 lo hi 4 L:=fun x hx=>by
  rcases tr.kid hN (p:=x.2) (List.mem_map_of_mem hx) with ⟨e0,_⟩|⟨h',lo',hi',L',e0,tc⟩
  ·omega
  ·cases e0;exact ⟨_,_,_,tc⟩
 obtain ⟨lo',hi',L',tc⟩:=hkid e (by simp)
 refine ⟨(k1.snoc (x:=(r,h+1)) hB hT).snoc (by simp;omega) ⟨_,_,_,_,hfr _ her _ _ _ _ _ tc⟩,?_,fun c hc=>hfr c (fun q'=>hq (by rw[←q'];exact hc)),⟨[],by simp,fun p _=>rfl⟩,hk⟩
 rw[DF,DF,DF,k2]
 show Cz t.N P+(stp (fup t.N r (some (.nd ⟨false,es⟩))) (h+1) r+0)+(stp (fup t.N r (some (.nd ⟨false,es⟩))) h e.2+0)+1≤Cz t.N P+(stp t.N (h+1) r+0)
 rw[IY (Be _ _ _),IY hN,Tr.stp_eq hnd hno her tc,List.map_append,List.sum_append]
 have:(es.map fun x=>1+stp (fup t.N r (some (.nd ⟨false,es⟩))) h x.2)=es.map fun x=>1+stp t.N h x.2:=List.map_congr_left fun x hx=>by
  obtain ⟨_,_,_,tx⟩:=hkid x (List.mem_append_left _ hx)
  rw[Tr.stp_eq hnd hno (hmem x (List.mem_append_left _ hx)) tx]
 rw[this]
 simp;omega
end
theorem Kn {F:Nat→Bool} :∀ {n:Nat} {X:List Nat},(∀ p,p<n→F p=true→p∈X)→cnt F 0 n≤X.length
 | 0,_,_=>Nat.zero_le _
 | n+1,X,h=>by
  simp only[cnt,Nat.zero_add]
  cases e:F n with
  | false=>
   have:=Kn (n:=n) (X:=X) (fun p hp=>h p (by omega))
   simp;omega
  | true=>
   have hn:=h n (by omega) e
   have:=Kn (n:=n) (X:=X.erase n) (fun p hp hF=>(List.mem_erase_of_ne (by omega)).2 (h p (by omega) hF))
   rw[List.length_erase_of_mem hn] at this
   have:=List.length_pos_of_mem hn
   simp;omega
end
open Go.RowKit
theorem TR (b off k sc:Nat) (Z:List Nat) (A:Ae) (hA:∀ h,A h→rdH 1 (.slice (some ⟨b,off,none⟩) k sc) k (Bt Z) h) (hn:0<k∧k≤1073741824):Cn prog 51 [.slice (some ⟨b,off,none⟩) k sc] [A] (fun v Γ=>∃ v1,v=v1∧Γ=[grow 3 1 v1 k (Bt Z),A]):=by
 intro z R w H;replace H:=H.l1;refine Ad func51 rfl ntmps51 rfl (Zc 9 rfl (Ab rfl (IA rfl (by kernel_rfl) rfl rfl) (Zc 7 rfl (AJ rfl (Fg H rfl (by kernel_rfl) A4) ?_))));rintro _ w ⟨b1,rfl,H⟩;replace H:=H.l2;refine Zc 1 rfl ?_;replace H:=(H.mono 0 (B:=grow 3 1 (.slice (some ⟨b1,0,none⟩) 0 0) 0 []) rfl (fun h q=>q.grow (by omega) (by omega) (by simp) rfl)).l2
 refine AJ rfl (AX 0 H rfl rfl (by kernel_rfl) A4 rfl rfl (H.rd 1 rfl hA) (WL _) (by omega)) ?_;rintro v2 w H';have ev2:([]++Bt Z:List Value)=Bt Z:=by simp
 rw[ev2] at H';rw[show (0+k:Nat)=k from by omega] at H';have H:=H'.l2;have sv2:=H.says 0 rfl (fun h q=>q.slc)
 refine Zc 4 rfl (Zr rfl ?_);exact ⟨_,⟨_,rfl,rfl⟩,H⟩
section
open Go.RowKit
variable {Tb:Ae}
set_option maxHeartbeats 4000000 in
theorem YG (pp mb n:Nat) (o:TB) (t:TS) (P:PL) (r h:Nat) (Q:List Nat) (B:Nat) (s:Value) (A:Ae) (hA0:∀ h,A h→rdH 1 s (P.length+1) (Bt (pgs P++[r])) h) (hS:Stk t.N B (P++[(r,h)])) (hB:B≤7) (hnd:YB t.N r) (hkt:t.k<10):Cn prog 22 [Pt_ pp,s] [trA Tb pp mb n o (some (t,r::(pgs P++Q))),A] (fun v Γ=>∃ (u:Value) (t2:TS) (P2:PL),FeR t t2 (P++[(r,h)]) P2 Q B∧v= .tuple #[u,Iv_ 0]∧Γ=[trA Tb pp mb n o (some (t2,pgs P2++Q)),Ix u (Bt (pgs P2)),A]):=by
 intro z R w H;replace H:=H.l2;obtain ⟨sa,sc,rfl⟩:=H.says 1 rfl (fun h q=>(hA0 h q).slc);obtain ⟨x0,hx0⟩:∃ x0,(Bt (pgs P++[r]))[0]? =some x0:=⟨_,List.getElem?_eq_getElem (by simp[Bt])⟩;obtain ⟨sb,so,rfl,_⟩:=(H.rd 1 rfl hA0).at hx0;have hA:=hA0
 have K:=H.says 0 rfl (fun h a=>trA.k a)
 have hn:=K.hn
 have I:TInv n (manyN n+1) t.N t.C (r::(pgs P++Q)):=K.i
 have hpl:(pgs P).length=P.length:=by simp
 have hln:=hS.len
 rw[List.length_append] at hln;simp only[List.length_cons,List.length_nil] at hln
 obtain ⟨⟨lf,es⟩,hN⟩:=hnd;refine Ad func22 rfl ntmps22 rfl (Zc 10 rfl (z_E_ rfl (call41 _) (Kk _ _ _ _ _) H ?_));intro w H;refine Z0 20 [4,0] rfl (Af rfl (fun h1=> ?_) (fun h1=> ?_))
 ·(exfalso;omega)
 ·refine Z0 10 [0] rfl (Af rfl (fun h2=> ?_) (fun h2=> ?_))
  ·(exfalso;omega)
  ·refine Zc 5 rfl (Ao rfl (call51 _) (TR _ _ _ _ (pgs P++[r]) A hA (by omega)) H.f1 ?_);rintro _ w _ ⟨v1,rfl,rfl⟩ H;refine Zc 4 rfl ?_;obtain ⟨gb,cap,rest,rfl,c1,c2,c3,H⟩:=H.ungrow 0 rfl (by omega);replace H:=H.l3;refine Z1 8 [] [((P.length+1:Nat):Int) - 1] rfl (by omega) (AE 8 (v:=Iv_ (P.length:Int)) rfl (congrArg Iv_ (by omega)) (Z1 4 [1,P.length,P.length] [] rfl (by omega) (Ab rfl (AO rfl rfl (by kernel_rfl) (Au (H.cel 0 rfl P.length (by have:=YC (pgs P) r rest;rwa[hpl] at this)))) (Zc 5 rfl ?_))));have hC1:1≤t.C r:=K.i.pos (p:=r) (by simp[B8])
   refine Zc 3 rfl (z_E_ rfl (call39 _) (Fx pp mb n o _ r (I.rin r (by simp)).2) H.f2 ?_);intro w H;replace H:=H.l3;refine AE 41 (v:=Iv_ (t.C r:Int)) rfl rfl (Z0 3 [0] rfl (Af rfl (fun h3=> ?_) (fun h3=> ?_)))
   ·refine Zc 1 rfl ?_;replace H:=H.f1;refine AI (Sep z (blk gb (Bt (pgs P++[r])++rest) 3::R)) 9 rfl (by kernel_rfl) (Bc H fun w H'=> ?_)
    have H:=H'.l3;refine AW [0,1,2] [] [] (by exact (H.pick 3 [0] rfl)) rfl (by kernel_rfl) rfl (BD 3 rfl (by kernel_rfl) (by kernel_rfl) (by kernel_rfl) rfl rfl rfl (KY rfl (sz:=1) (q:=P.length) (by kernel_rfl) rfl rfl rfl rfl rfl (by omega)) (H.pick 3 [0] rfl) (AW [4,5] [] [] (by exact (H.pick 3 [0] rfl)) rfl (by kernel_rfl) rfl (Az [6] (by kernel_rfl) (by simp) (Aw (BQ rfl rfl rfl rfl rfl rfl (fun w=>call52 _ w) (Kf pp mb n o t (pgs P++Q) r (by omega)) H.f1 rfl ?_)))));rintro _ w _ ⟨rfl,rfl⟩ H;replace H:=H.l3;refine Av (H.pick 3 [1] rfl) (AW [7,8] [] [] (by exact (H.pick 3 [1] rfl)) rfl (by kernel_rfl) rfl (a_done (by kernel_rfl) (gn (Zc 2 rfl (Zr rfl ?_)))));have H':=H.mono 1 (B:=Ix (.slice (some ⟨gb,0,none⟩) P.length P.length) (Bt (pgs P))) rfl (fun h b=>by have:=b.rd (off:=0) (l:=(Bt (pgs P)).length) (c:=P.length) (sz:=1) (xs:=Bt (pgs P)) (by simp[Bt]) (by omega) (by simp[Bt]) (by simp[Bt]);unfold Ix;simpa [Bt] using this)
    exact ⟨_,⟨.slice (some ⟨gb,0,none⟩) P.length P.length,_,_,YD hS,rfl,rfl⟩,((H'.pick 3 [0,1,2] rfl).mono 0 rfl (fun h q=>q.perm (List.Perm.refl _))).mono 1 rfl (fun h q=>by simpa using q)⟩
   ·refine Zc 3 rfl ?_;have h1C:t.C r=1:=by omega
    have hck:CkN lf (kL es) (vL es):=I.vok (by omega) hn.2 hN
    have hok:=(I.nds r _ hN).1
    have hes8:es.length≤8:=hok.len
    obtain ⟨hPB,lo,hi,m_,L_,tr⟩:=hS.last;refine Zc 3 rfl (Ao rfl (call50 _) (EI pp mb n o (some (t,r::(pgs P++Q))) r lf es hN) H ?_);rintro _ w _ ⟨nk,nv,rfl,rfl⟩ H;replace H:=H.l5;have snk:=H.says 0 rfl (fun h q=>q.slc)
    obtain ⟨ka,kc,rfl⟩:=snk;have snv:=H.says 1 rfl (fun h q=>q.slc)
    obtain ⟨va,vc,rfl⟩:=snv;refine Za 3 [] H rfl ?_;intro b1 w H;refine Z4 21 [0,4,0,0,0] H rfl ?_;intro w H;refine E7 rfl (fun h4=> ?_) (fun h4=> ?_)
    ·refine Zc 2 rfl ?_;have hlf:lf=true:=by assumption
     subst hlf;replace H:=(H.mono 3 (B:=trA Tb pp mb n o (some (({ t with N:=fup t.N r none } :TS),r::(vals es++(pgs P++Q))))) rfl (fun h q=>q.opens h1C hN)).l6
     refine Z2 8 [2,0,0] H rfl ?_;refine AD (σ:=Nat×TS) (fun ⟨i,ts⟩=>[(64,Iv_ (i:Int)),(0,Pt_ pp),(7,.slice (some ⟨gb,0,none⟩) (P.length+1) cap),(8,Iv_ (P.length:Int)),(9,Iv_ (r:Int)),(10,Pt_ b1),(11,Iv_ 0),(62,.slice va ((vL es).length) vc),(63,Iv_ (((vL es).length:Nat):Int))])
       (fun ⟨i,ts⟩ w=>Sep z (blk b1 [.bool true,.slice ka ((kL es).length) kc,.slice va ((vL es).length) vc] 92::grow 3 1 (.slice ka ((kL es).length) kc) ((kL es).length) ((kL es).map Iv_)::grow 3 1 (.slice va ((vL es).length) vc) ((vL es).length) ((vL es).map Iv_)::trA Tb pp mb n o (some (ts,r::(vals (es.drop i)++(pgs P++Q))))::blk gb (Bt (pgs P++[r])++rest) 3::A::R) w∧(i≤es.length∧LfI t ts r es i (pgs P++Q))) (fun ⟨i,ts⟩=>es.length - i) ⟨0,({ t with N:=fup t.N r none } :TS)⟩
       (fun _ hF=>(hF.co rfl (by go_num) (hF.all rfl))) ⟨H,⟨Nat.zero_le _,LfI.start I h1C hN⟩⟩ ?_
     clear H;rintro ⟨i,ts⟩ w ⟨H',hI⟩;dsimp only at hI H' ⊢
     have H:=H'.l6;obtain ⟨hil0,hx⟩:=hI;refine Z0 6 [0] rfl (Af rfl (fun h5=> ?_) (fun h5=> ?_))
     ·refine Zc 5 rfl ?_;obtain ⟨e,he⟩:∃ e,es[i]? =some e:=⟨_,List.getElem?_eq_getElem (by simp only[List.length_map] at *;omega)⟩;have hva:=(H.rd 2 rfl (fun h q=>q.rd)).at (j:=i) (u:=Iv_ (e.2:Int)) (by simp[vL,he])
      have hem:e.2∈vals es:=List.mem_map_of_mem (List.mem_of_getElem? he)
      refine Zc 1 rfl (Ab rfl (Am rfl (z:=1) (j:=i) (r:=i) (by kernel_rfl) rfl rfl rfl (by simp only[List.length_map] at *;omega) hva (by omega)) (Ab rfl (Ay rfl rfl (by kernel_rfl) (Au hva)) (Zc 4 rfl ?_)));replace H:=(H.mono 3 (B:=trA Tb pp mb n o (some (ts,e.2::(r::(vals (es.drop (i+1))++(pgs P++Q)))))) rfl (fun h q=>by rw[WM he] at q;exact q.perm (List.Perm.swap _ _ _))).l6
      refine Zc 3 rfl (Ao rfl (call52 _) (DE pp mb n o ts (r::(vals (es.drop (i+1))++(pgs P++Q))) e.2 (hx.no e.2 hem)) H.f3 ?_);rintro _ w _ ⟨t3,⟨hSt,hq1,hq2,hq3,hq4⟩,rfl,rfl⟩ H;refine Z1 17 [4] [(i:Int)+1] rfl (by omega) ?_;replace H:=H.f5.f5.f2.f5.f5.f5;refine gf ?_;intro _ hF;refine ⟨⟨i+1,t3⟩,(hF.co rfl (by go_num) (hF.all rfl)),⟨H,?_⟩,?_⟩
      ·exact ⟨by show i+1≤es.length;simp only[List.length_map] at *;omega,hx.step he hSt (fun c hc=>List.mem_cons_of_mem _ (List.mem_append_right _ hc)) hq1 hq3⟩
      ·(dsimp only;simp only[List.length_map] at *;omega)
     ·refine Zc 2 rfl (gx (Zc 3 rfl ?_));obtain rfl:i=es.length:=by simp only[List.length_map] at *;omega
      replace H:=(H.mono 3 (B:=trA Tb pp mb n o (some (ts,r::(pgs P++Q)))) rfl (fun h q=>by rw[List.drop_length] at q;exact q)).l6
      replace H:=H.f4;refine AI (Sep z (blk gb (Bt (pgs P++[r])++rest) 3::R)) 9 rfl (by kernel_rfl) (Bc H fun w H'=> ?_)
      have H:=H'.l6;refine AW [0,1,2] [] [] (by exact (H.pick 6 [0] rfl)) rfl (by kernel_rfl) rfl (BD 3 rfl (by kernel_rfl) (by kernel_rfl) (by kernel_rfl) rfl rfl rfl (KY rfl (sz:=1) (q:=P.length) (by kernel_rfl) rfl rfl rfl rfl rfl (by omega)) (H.pick 6 [0] rfl) (AW [4,5] [] [] (by exact (H.pick 6 [0] rfl)) rfl (by kernel_rfl) rfl (Az [6] (by kernel_rfl) (by simp) (Aw (BQ rfl rfl rfl rfl rfl rfl (fun w=>call52 _ w) (DE pp mb n o ts (pgs P++Q) r (fun d=>by rw[hx.r0];simp)) H.f4 rfl ?_)))));rintro _ w _ ⟨t3,⟨hSt,hq1,hq2,hq3,hq4⟩,rfl,rfl⟩ H;replace H:=H.l6;refine Av (H.pick 6 [1] rfl) (AW [7,8] [] [] (by exact (H.pick 6 [1] rfl)) rfl (by kernel_rfl) rfl (a_done (by kernel_rfl) (gn (Zc 2 rfl (Zr rfl ?_)))));have H':=H.mono 1 (B:=Ix (.slice (some ⟨gb,0,none⟩) P.length P.length) (Bt (pgs P))) rfl (fun h b=>by have:=b.rd (off:=0) (l:=(Bt (pgs P)).length) (c:=P.length) (sz:=1) (xs:=Bt (pgs P)) (by simp[Bt]) (by omega) (by simp[Bt]) (by simp[Bt]);unfold Ix;simpa [Bt] using this)
      exact ⟨_,⟨.slice (some ⟨gb,0,none⟩) P.length P.length,_,_,WN I h1C hN hS hx hq1 hSt,rfl,rfl⟩,((H'.pick 6 [0,1,5] rfl).mono 0 rfl (fun h q=>q.perm (List.Perm.refl _))).mono 1 rfl (fun h q=>by simpa using q)⟩
    ·refine Zc 3 rfl ?_;have hlf:lf=false:=by cases lf<;>simp_all
     subst hlf;obtain ⟨g_,rfl⟩:=tr.succ hN;obtain ⟨el,e,rfl⟩:∃ el e,es=el++[e]:=by rcases List.eq_nil_or_concat es with q|⟨el,e,q⟩;exact absurd q (hok.ne rfl);exact ⟨el,e,by rw[q,List.concat_eq_append]⟩
     have hel:(kL (el++[e])).length=el.length+1:=by simp
     have hell:(el++[e]).length=el.length+1:=by simp
     have hvl:(vL (el++[e])).length=el.length+1:=by simp
     refine Z3 9 [1,0,0] [(((kL (el++[e])).length:Nat):Int) - 1] H rfl (by omega) (AE 15 (v:=Iv_ (el.length:Int)) rfl (congrArg Iv_ (by rw[hel];omega)) ?_);have hva:=(H.rd 2 rfl (fun h q=>q.rd)).at (j:=el.length) (u:=Iv_ (e.2:Int)) (by simp[vL])
     refine Z2 4 [2,0,0] H rfl (Ab rfl (Am rfl (z:=1) (j:=el.length) (r:=el.length) (by kernel_rfl) rfl rfl rfl (by omega) hva (by omega)) (Ab rfl (Ay rfl rfl (by kernel_rfl) (Au hva)) (Z0 10 [0] rfl (Af rfl (fun h6=> ?_) (fun h6=> ?_)))))
     ·refine Z1 6 [1,P.length,P.length] [] rfl (by omega) ?_;skip
      refine Ax rfl rfl (Ai 4 H rfl rfl rfl rfl (vs:=[Iv_ (e.2:Int)]) rfl (Ac rfl Ar) (by kernel_rfl) (by simp only[List.length_append,Km,List.length_map,List.length_cons,List.length_nil];omega) (out:=Bt (pgs P++[e.2])++rest) (by have:=WK (pgs P) r e.2 rest;rwa[hpl] at this)) ?_;rintro w H;replace H:=H.l6;refine Zc 3 rfl ?_;obtain rfl:el=[]:=List.length_eq_zero_iff.1 (by omega);replace H:=(H.mono 3 (B:=trA Tb pp mb n o (some (({ t with N:=fup t.N r none } :TS),r::(e.2::(pgs P++Q))))) rfl (fun h q=>q.opens h1C hN)).l6
      refine Zc 4 rfl (Ao rfl (call52 _) (DE pp mb n o ({ t with N:=fup t.N r none } :TS) (e.2::(pgs P++Q)) r (fun d=>by rw[show (({ t with N:=fup t.N r none } :TS)).N r=none from Be _ _ _];simp)) H.f3 ?_);rintro _ w _ ⟨t3,⟨hSt,hq1,hq2,hq3,hq4⟩,rfl,rfl⟩ H;refine Zc 5 rfl (Zr rfl ?_);have H':=H.mono 4 (B:=Ix (.slice (some ⟨gb,0,none⟩) (P.length+1) cap) (Bt (pgs P++[e.2]))) rfl (fun h b=>by have:=b.rd (off:=0) (l:=(Bt (pgs P++[e.2])).length) (c:=cap) (sz:=1) (xs:=Bt (pgs P++[e.2])) (by simp[Bt];omega) (by omega) (by simp[Bt]) (by rw[List.drop_zero,Nat.mul_one];exact List.take_left' rfl);unfold Ix;simpa [Bt] using this)
      exact ⟨_,⟨.slice (some ⟨gb,0,none⟩) (P.length+1) cap,_,_,YE I h1C hN hS hq1 hSt,rfl,rfl⟩,((H'.pick 6 [0,4,5] rfl).mono 0 rfl (fun h q=>q.perm (by rw[show pgs (P++[(e.2,g_)])=pgs P++[e.2] from by simp];exact Uy e.2 (pgs P) Q))).mono 1 rfl (fun h q=>by simpa using q)⟩
     ·refine Zc 3 rfl ?_;have hcapka:=H.says 1 rfl (fun h q=>q.rd.slcapZ)
      have hcapva:=H.says 2 rfl (fun h q=>q.rd.slcapZ)
      refine ME (Sep z (blk b1 [.bool false,.slice ka ((kL (el++[e])).length) kc,.slice va ((vL (el++[e])).length) vc] 92::R)) [6,7,9,10,11] 12 rfl (by kernel_rfl) (Bc H fun w H'=> ?_)
      have H:=H'.l6;refine Rq 6 rfl (by kernel_rfl) (by kernel_rfl) (by kernel_rfl) (by kernel_rfl) rfl rfl rfl (Ci rfl rfl) (G9 4 rfl (by kernel_rfl) (by kernel_rfl) (by kernel_rfl) (by kernel_rfl) rfl rfl rfl (Cf rfl (k:=2) (r:=2) (by kernel_rfl) rfl rfl) (H.pick 6 [0] rfl) (G9 5 rfl (by kernel_rfl) (by kernel_rfl) (by kernel_rfl) (by kernel_rfl) rfl rfl rfl (AO rfl rfl (by kernel_rfl) (fun _ hx=>hx.cel 0 rfl 2 rfl)) (H.pick 6 [0] rfl) (Rq 7 rfl (by kernel_rfl) (by kernel_rfl) (by kernel_rfl) (by kernel_rfl) rfl rfl rfl (G4 (p:=0) (q:=el.length) (l':=el.length) (c':=vc) rfl (by kernel_rfl) rfl (.inl ⟨rfl,rfl⟩) (.inr ⟨_,_,_,rfl,rfl,rfl⟩) (by omega) (by omega) rfl rfl) (G9 0 rfl (by kernel_rfl) (by kernel_rfl) (by kernel_rfl) (by kernel_rfl) rfl rfl rfl (Cf rfl (k:=1) (r:=1) (by kernel_rfl) rfl rfl) (H.pick 6 [0] rfl) (G9 1 rfl (by kernel_rfl) (by kernel_rfl) (by kernel_rfl) (by kernel_rfl) rfl rfl rfl (AO rfl rfl (by kernel_rfl) (fun _ hx=>hx.cel 0 rfl 1 rfl)) (H.pick 6 [0] rfl) (G9 2 rfl (by kernel_rfl) (by kernel_rfl) (by kernel_rfl) (by kernel_rfl) rfl rfl rfl (Ci rfl rfl) (H.pick 6 [0] rfl) (G9 3 rfl (by kernel_rfl) (by kernel_rfl) (by kernel_rfl) (by kernel_rfl) rfl rfl rfl (G4 (p:=0) (q:=el.length) (l':=el.length) (c':=kc) rfl (by kernel_rfl) rfl (.inl ⟨rfl,rfl⟩) (.inr ⟨_,_,_,rfl,rfl,rfl⟩) (by omega) (by omega) rfl rfl) (H.pick 6 [0] rfl) (G9 8 rfl (by kernel_rfl) (by kernel_rfl) (by kernel_rfl) (by kernel_rfl) rfl rfl rfl (Cf rfl (k:=1) (r:=1) (by kernel_rfl) rfl rfl) (H.pick 6 [0] rfl) (Ch [9] (by kernel_rfl) (by simp) (Aw (Bh rfl rfl rfl (JL 0 H rfl rfl rfl rfl rfl rfl (by kernel_rfl)) ?_)))))))))))
      rintro w H;replace H:=H.l6;refine Br (fun h=>absurd h (by decide)) (Ch [10] (by kernel_rfl) (by simp) (Aw (OQ rfl rfl rfl rfl (Cf rfl (k:=2) (r:=2) (by kernel_rfl) rfl rfl) (Br (fun h=>absurd h (by decide)) (Ch [11] (by kernel_rfl) (by simp) (Aw (Bh rfl rfl rfl (IB 0 H rfl rfl rfl rfl rfl rfl (by kernel_rfl)) ?_)))))));rintro w H;replace H:=H.l6;refine Br (fun h=>absurd h (by decide)) (Jx (by kernel_rfl) (gn (Zc 2 rfl ?_)));replace H:=(H.mono 3 (B:=trA Tb pp mb n o (some (({ t with N:=fup t.N r none } :TS),r::(vals el++(e.2::(pgs P++Q)))))) rfl (fun h q=>by have:=q.opens h1C hN;simpa [vals] using this)).l6
      have hel0:el≠[]:=fun q=>by subst q;simp at *
      obtain ⟨lo2,hi2,L2,hoke,hdup,hBd,hrg⟩:=YF I h1C hN hel0 hS;have I2:TInv n (manyN n+1) (fup t.N r none) t.C (r::(vals el++(e.2::(pgs P++Q)))):=H.says 3 rfl (fun h a=>(trA.k a).i)
      obtain ⟨hS1,hS2,hS3,hS4⟩:=MY (t:=({ t with N:=fup t.N r none } :TS)) I2 h1C (Be _ _ _) hoke hdup hBd rfl hrg (Nat.le_refl _);have hck2:CkN false (kL el) (vL el):=CkN.of hoke (fun v hv=>by have:=I2.rin v (by simp[hv]);omega)
      refine Z2 2 [0,3] H rfl (Ao rfl (call53 _) (If false _ _ (kL el) (vL el) _ _ (fun h q=>by have:=q.rd.cutA (p:=0) (m:=(kL el).length) (by simp) (by omega);simpa using this) (fun h q=>by have:=q.rd.cutA (p:=0) (m:=(vL el).length) (by simp) (by omega);simpa using this) hck2) H.f2.f2 ?_);rintro _ w _ ⟨pw,rfl,rfl⟩ H;refine Za 3 [] H rfl ?_;intro b2 w H;refine Z4 20 [0,4,0,2] H rfl ?_;intro w H;refine Ao rfl (call54 _) (Ot pp mb n o ({ t with N:=fup t.N r none } :TS) _ (r::(e.2::(pgs P++Q))) r (DO ⟨false,el⟩) (Gz hoke.len) _ _ (fun h q=>q.rd (by omega) (by omega) (G6 (by simp) (by simpa using hoke.len)) (Ie (by simp) (by simpa using hoke.len))) (by show t.k<40;omega) (.nd ⟨false,el⟩) rfl ⟨by have:=I.rin r (by simp);omega,(I.rin r (by simp)).2⟩ (by show t.C r≠0;omega) hS1) H.f1.f5 ?_;rintro _ w _ ⟨k2,hk2,rfl,rfl⟩ H;refine Z0 13 [4] rfl ?_;have H':Sep z (trA Tb pp mb n o (some (⟨fup (fup t.N r none) r (some (.nd ⟨false,el⟩)),t.C,t.F,k2⟩,r::(e.2::(pgs P++Q))))::blk pw (AN (AK (EF false (kL el) (vL el))) ((2+6 * (kL el).length:Nat):Int)) 177::blk b2 [Iv_ 3,.slice (some ⟨pw,0,none⟩) 240 240] 62::grow 3 1 (.slice ka ((kL (el++[e])).length) kc) ((kL (el++[e])).length) ((kL (el++[e])).map Iv_)::grow 3 1 (.slice va ((vL (el++[e])).length) vc) ((vL (el++[e])).length) ((vL (el++[e])).map Iv_)::blk b1 [.bool false,.slice (cutA ka kc 0) el.length kc,.slice (cutA va vc 0) el.length vc] 92::grow 3 1 (.slice (some ⟨gb,0,none⟩) (P.length+1) cap) (P.length+1) (Bt (pgs P++[r]))::A::R) w:=H.mono 6 rfl (fun h b=>blk.grow b (by omega) (by omega) (by simp only[List.length_append,Km,List.length_map,List.length_cons,List.length_nil];omega) (by rw[Nat.mul_one,List.take_left' (by simp[Bt])]))
      have H:=H'.l8;refine Zc 3 rfl (AJ rfl (AC H rfl (by kernel_rfl) A4 rfl (by decide) (by decide) (out:=[Iv_ (e.2:Int)]) (by kernel_rfl)) ?_);rintro _ w ⟨b3,rfl,H⟩;replace H:=H.l9;refine AJ rfl (AX 7 H rfl rfl (by kernel_rfl) A4 rfl rfl (H.rd 0 rfl (fun h q=>q.rd (by omega) (by omega) (by simp) rfl)) (by simp[Value.oneCell']) (by omega)) ?_;rintro v4 w H';have H':Sep z (blk b3 [Iv_ (e.2:Int)] 3::trA Tb pp mb n o (some (⟨fup (fup t.N r none) r (some (.nd ⟨false,el⟩)),t.C,t.F,k2⟩,r::(e.2::(pgs P++Q))))::blk pw (AN (AK (EF false (kL el) (vL el))) ((2+6 * (kL el).length:Nat):Int)) 177::blk b2 [Iv_ 3,.slice (some ⟨pw,0,none⟩) 240 240] 62::grow 3 1 (.slice ka ((kL (el++[e])).length) kc) ((kL (el++[e])).length) ((kL (el++[e])).map Iv_)::grow 3 1 (.slice va ((vL (el++[e])).length) vc) ((vL (el++[e])).length) ((vL (el++[e])).map Iv_)::blk b1 [.bool false,.slice (cutA ka kc 0) el.length kc,.slice (cutA va vc 0) el.length vc] 92::grow 3 1 v4 ((P.length+1)+1) (Bt (pgs P++[r])++[Iv_ (e.2:Int)])::A::R) w:=H'
      have ev4:(Bt (pgs P++[r])++[Iv_ (e.2:Int)]:List Value)=Bt (pgs P++[r]++[e.2]):=(TQ _ _)
      rw[ev4] at H';have H:=H'.l9;have sv4:=H.says 7 rfl (fun h q=>q.slc)
      refine Zc 5 rfl (Zr rfl ?_);have H':=H.mono 7 (B:=Ix v4 (Bt (pgs P++[r]++[e.2]))) rfl (fun h q=>by have:=q.rd;unfold Ix;rw[Km];simpa using this)
      exact ⟨_,⟨v4,_,_,WO I h1C hN hS ⟨_,_,_,_,hS2⟩ hk2,rfl,rfl⟩,((H'.pick 9 [1,7,8] rfl).mono 0 rfl (fun h q=>trA.perm (R':=pgs (P++[(r,g_+1)]++[(e.2,g_)])++Q) (by rw[show pgs (P++[(r,g_+1)]++[(e.2,g_)])=pgs P++[r]++[e.2] from by simp];exact Zv r e.2 (pgs P) Q) q)).mono 1 rfl (fun h q=>by simpa using q)⟩
end
end Go.Proofs.YtickmpiipomncaaGreatDoor
