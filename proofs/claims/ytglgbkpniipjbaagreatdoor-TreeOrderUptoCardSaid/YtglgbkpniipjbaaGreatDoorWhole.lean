/-
  In whatever order keys come, the tree has the same. No condition.
-/
import Derived.Test.YtglgbkpniipjbaaGreatDoorPart5
import Derived.Test.YtglgbkpniipjbaaGreatDoorCards
import Derived.Test.YtglgbkpniipjbaaGreatDoorTie
import Derived.WalkKit
import Derived.WalkSpells
import Derived.Deep.Quiet
import Derived.KernelRfl
import Derived.IntWalk
import Derived.Maps.AppendAt
import Derived.Laws.AppendOwnNone
import Derived.Laws.CopyRow
import Derived.StillTail
import Derived.Deep.RegionHeld
import Derived.Laws.IdiomStrings
import Derived.Laws.BytesArg
import Derived.Laws.OwnMore
import Derived.Lib.Strings
import Derived.ArgAppend
import Derived.Test.YtglgbkpniipjbaaGreatDoorRows
import Derived.RangeFuncLeaves
import Derived.RangeFuncRecord
import Derived.RangeFuncCalls
import Derived.RangeFuncSeq
import Derived.OrdersIn
import Derived.TacticsIn
import Derived.Laws.IdiomRangeMap
import Derived.Defers
import Derived.Laws.LoneSync
import Derived.LoopN
import Derived.Lib.TrailingZeros
import Derived.Test.YtglgbkpniipjbaaGreatDoorProg
import Derived.Shelf.Sort.Plain
import Derived.Shelf.Slices.In.SortNone
import Derived.DataReads
import Derived.ProofKit
import Derived.OpenShut
import Derived.Lib.SmallJoins
import Derived.Deep.DeepHandedRow
import Derived.Lib.LaidTab
set_option maxRecDepth 100000
set_option linter.unusedSimpArgs false
set_option linter.unusedVariables false
open Go.Proofs.Tryz
namespace Go.Proofs.YtglgbkpniipjbaaGreatDoor
section
open Go.RowKit
variable {Tb:Ae}
def OtE.ins (e:OtE):OtE:=⟨e.k,false,e.f⟩
theorem M8 {es:List OtE} {i:Nat} {e:OtE} (he:es[i]? =some e):(BE ((es.take i).map OtE.ins)++[.int .i64 e.k,.bool false,.int .i64 e.f]:List Value)=BE ((es.take (i+1)).map OtE.ins):=by
 rw[List.take_add_one,he,List.map_append];simp[BE,OtE.cells,OtE.ins]
theorem OB {es:List OtE} {j:Nat} (x:OtE) (h:j<es.length):(BE es).take (j * 3)++[.int .i64 x.k,.bool x.d,.int .i64 x.f]++(BE es).drop (j * 3+3)=BE (es.set j x):=by
 induction es generalizing j with
 | nil=>simp at h
 | cons e es ih=>
  have e1:BE (e::es)= .int .i64 e.k:: .bool e.d:: .int .i64 e.f::BE es:=rfl
  cases j with
  | zero=>rw[e1];rfl
  | succ j=>
   have:=ih (j:=j) (by simpa using h)
   rw[e1,show (j+1) * 3=j * 3+1+1+1 by omega,show j * 3+1+1+1+3=j * 3+3+1+1+1 by omega]
   simp only[List.take_succ_cons,List.drop_succ_cons,List.cons_append,List.set_cons_succ]
   rw[this];rfl
def ZF (v:Value) (ts:List Int) (A:Ae):Prop:=∀ h,A h→rdH 1 v ts.length (ts.map (Value.int .i64)) h∧∀ x∈ts,-9223372036854775808≤x∧x≤9223372036854775807
def Kys (os:List OtE) (L:List E):Prop:=L.length≤os.length∧∀ j,j∈kL L↔j∈os.map fun e=>Cz e.k
theorem Kys.nil:Kys [] []:=⟨Nat.le_refl _,fun j=>by simp[kL]⟩
theorem DoR.key {o o2:TB} {a a2 b mb m2 i:Nat} {L L2 M:List E} {Q:List Nat} {e:OtE} {os:List OtE} (hD:DoR 400 o o2 a a2 L L2 Q e.k e.d mb m2) (hI:LwI 400 o a L Q) (hQ:Q=BH b) (hb:Root o.N b M) (K:TrK 400 o none) (hd:e.d=false) (hM:M.length≤100) (hi:i<100) (he:os[i]? =some e) (hk:Kys (os.take i) L):Kys (os.take (i+1)) L2:=by
 have hr:=hI.room hQ hb K
 have e4:manyN 400=4:=rfl
 have hl:=hk.1
 rw[List.length_take] at hl
 rcases hD.d with ⟨q,_⟩|⟨q,_⟩|⟨_,val,rfl⟩
 ·exfalso;omega
 ·rw[hd] at q;cases q
 ·obtain ⟨p1,p2⟩:=Q6 (k:=Cz e.k) (v:=val) hI.root.srt.1
  have hil:=(List.getElem?_eq_some_iff.1 he).1
  refine ⟨by rw[List.length_take];omega,fun j=> ?_⟩
  rw[p2 j,hk.2 j,List.take_add_one,he,List.map_append,List.mem_append];simp
theorem LwI.swap {n:Nat} {o:TB} {a:Nat} {L:List E} (h:LwI n o a L []):LwI n o 0 [] (BH a):=
 ⟨h.n,by unfold BH;split<;>simp,.inl ⟨rfl,rfl⟩,by simp[vals],by rw[h.r];simp[BH]⟩
theorem GC {A:List Int} {j:Nat} {x:Int} (h:A[j]? =some x):(A.map (Value.int .i64))[j]? =some (.int .i64 x):=by simp[h]
theorem Wr {A:List Int} (h:A.Pairwise (· < ·)) {i j:Nat} {a b:Int} (ha:A[i]? =some a) (hb:A[j]? =some b) (hij:i<j):a<b:=by
 obtain ⟨h1,rfl⟩:=List.getElem?_eq_some_iff.1 ha
 obtain ⟨h2,rfl⟩:=List.getElem?_eq_some_iff.1 hb
 exact List.pairwise_iff_getElem.1 h i j h1 h2 hij
set_option maxHeartbeats 4000000 in
theorem Np (A Tb:Ae) (hT:GS Tb) (v:Value) (es:List OtE) (hes:es.length≤1048576) (hA:ZE v es A) (vt:Value) (ts:List Int) (hB:ZF vt ts A):Cn prog 5 [v,vt] [A,Tb] (fun v Γ=>v= .bool true∧Γ=[A,Tb]):=by
 intro z R w H;replace H:=H.l2;obtain ⟨ao,oc,rfl⟩:=H.says 0 rfl (fun h q=>(hA h q).1.slc);obtain ⟨bo,bc,rfl⟩:=H.says 0 rfl (fun h q=>(hB h q).1.slc);refine Ad func5 rfl ntmps5 rfl (Zc 7 rfl (z_C rfl (call10 _) (MU 400 (by omega) Tb hT) H.f1 ?_));rintro _ w _ ⟨pp,rfl,rfl⟩ H;refine Zc 25 rfl ?_;replace H:=(H.nilg 35 3).l3
 replace H:=(H.nilg 35 3).l4
 refine Zc 5 rfl ?_;refine AF (σ:=Nat×Value×Value) (fun ⟨i,ux,uy⟩=>[(8,.int .i64 (i:Int)),(6,ux),(7,uy),(0,.slice ao es.length oc),(1,.slice bo ts.length bc),(4,.bool false),(5,.pointer (some ⟨pp,0,none⟩))])
   (fun ⟨i,ux,uy⟩ w=>Sep z (grow 35 3 ux i (BE ((es.take i).map OtE.ins))::grow 35 3 uy i (BE ((es.take i).map OtE.ins))::trA Tb pp 6 400 (Ep 400) none::A::R) w∧(i≤es.length)) (fun ⟨i,ux,uy⟩=>es.length - i) ⟨0,.slice none 0 0,.slice none 0 0⟩
   (fun _ hF=>(hF.co rfl (by go_num) (hF.co rfl (by go_num) (hF.co rfl (by go_num) (hF.all rfl))))) ⟨H,Nat.zero_le _⟩ ?_
 clear H;rintro ⟨i,ux,uy⟩ w ⟨H',hI⟩;dsimp only at hI H' ⊢
 have H:=H'.l4;clear H';have sux:=H.says 0 rfl (fun h q=>q.slc)
 have suy:=H.says 1 rfl (fun h q=>q.slc)
 have hil:=hI;clear hI
 refine Z0 9 [0] rfl (Af rfl (fun h1=> ?_) (fun h1=> ?_))
 ·refine Zc 5 rfl ?_;obtain ⟨e,he⟩:∃ e,es[i]? =some e:=⟨_,List.getElem?_eq_getElem (by omega)⟩;have hek:=H.says 3 rfl (fun h q=>(hA h q).2 e (List.mem_of_getElem? he))
  have hat:=(H.rd 3 rfl (fun h q=>(hA h q).1)).at (C5 he 0 _ rfl)
  replace H:=H.f3;refine AG (Sep z (A::R)) 13 rfl (by kernel_rfl) (fun w' x' _=> ?_);have H':=H.ext0 x';clear x' H;revert H';generalize w'=w;intro H'
  have H:=H'.l4;clear H';refine AR [0,1] [] [] (by exact (H.pick 4 [0] rfl)) rfl (by kernel_rfl) rfl (BB 2 rfl (by kernel_rfl) (by kernel_rfl) (by kernel_rfl) rfl rfl rfl (Am rfl (z:=3) (j:=i) (r:=i * 3) (by kernel_rfl) rfl rfl rfl (by omega) hat (by omega)) (H.pick 4 [0] rfl) (BB 3 rfl (by kernel_rfl) (by kernel_rfl) (by kernel_rfl) rfl rfl rfl (EL rfl (k:=0) (r:=i * 3) (by kernel_rfl) rfl hat rfl) (H.pick 4 [0] rfl) (BB 4 rfl (by kernel_rfl) (by kernel_rfl) (by kernel_rfl) rfl rfl rfl (AE rfl rfl (by kernel_rfl) (fun _ hx'=>(hx'.rd 0 rfl (fun h q=>(hA h q).1)).at (C5 he 0 _ rfl))) (H.pick 4 [0] rfl) (AR [5,6] [] [] (by exact (H.pick 4 [0] rfl)) rfl (by kernel_rfl) rfl (BB 7 rfl (by kernel_rfl) (by kernel_rfl) (by kernel_rfl) rfl rfl rfl (Am rfl (z:=3) (j:=i) (r:=i * 3) (by kernel_rfl) rfl rfl rfl (by omega) hat (by omega)) (H.pick 4 [0] rfl) (BB 8 rfl (by kernel_rfl) (by kernel_rfl) (by kernel_rfl) rfl rfl rfl (EL rfl (k:=2) (r:=i * 3+2) (by kernel_rfl) rfl hat rfl) (H.pick 4 [0] rfl) (BB 9 rfl (by kernel_rfl) (by kernel_rfl) (by kernel_rfl) rfl rfl rfl (AE rfl rfl (by kernel_rfl) (fun _ hx'=>(hx'.rd 0 rfl (fun h q=>(hA h q).1)).at (C5 he 2 _ rfl))) (H.pick 4 [0] rfl) (AR [10] [] [] (by exact (H.pick 4 [0] rfl)) rfl (by kernel_rfl) rfl (AA [11] (by kernel_rfl) (by simp) (Aw (B9 rfl rfl rfl rfl (BI (P:=prog) H rfl (zs:=[.int .i64 0,.bool false,.int .i64 0]) (by kernel_rfl)) ?_)))))))))));rintro _ w ⟨b1,rfl,H⟩;replace H:=H.l5;refine Ap (H.pick 5 [1] rfl) (AA [12] (by kernel_rfl) (by simp) (Aw (Bb rfl rfl rfl (Ai 0 H rfl rfl rfl rfl (vs:=[.int .i64 e.k,.bool false,.int .i64 e.f]) rfl (by simp[u8,u32,Value.oneCell']) (by kernel_rfl) (by simp) (out:=[.int .i64 e.k,.bool false,.int .i64 e.f]) rfl) ?_)))
  rintro w H;replace H:=H.l5;refine Ap (H.pick 5 [1] rfl) (a_done (by kernel_rfl) (gn (Z2 5 [0,3] H rfl (AK rfl (AH H rfl (by kernel_rfl) Cb rfl (by decide) (by decide) (out:=[.int .i64 e.k,.bool false,.int .i64 e.f]) (by kernel_rfl)) ?_))));rintro _ w ⟨b2,rfl,H⟩;replace H:=H.l6;refine AK rfl (AV 3 H rfl rfl (by kernel_rfl) Cb rfl rfl (H.rd 0 rfl (fun h q=>q.rd (by omega) (by omega) (by simp) rfl)) (by simp[Value.oneCell']) (by omega)) ?_;rintro v3 w H';have H':Sep z (blk b2 [.int .i64 e.k,.bool false,.int .i64 e.f] 35::blk b1 [.int .i64 e.k,.bool false,.int .i64 e.f] 35::A::grow 35 3 v3 (i+1) (BE ((es.take i).map OtE.ins)++[.int .i64 e.k,.bool false,.int .i64 e.f])::grow 35 3 uy i (BE ((es.take i).map OtE.ins))::trA Tb pp 6 400 (Ep 400) none::R) w:=H'
  have ev3:(BE ((es.take i).map OtE.ins)++[.int .i64 e.k,.bool false,.int .i64 e.f]:List Value)=BE ((es.take (i+1)).map OtE.ins):=(M8 he)
  rw[ev3] at H';have H:=H'.l6;clear H';have sv3:=H.says 3 rfl (fun h q=>q.slc)
  refine Z2 6 [1,3] H rfl (AK rfl (AH H rfl (by kernel_rfl) Cb rfl (by decide) (by decide) (out:=[.int .i64 e.k,.bool false,.int .i64 e.f]) (by kernel_rfl)) ?_);rintro _ w ⟨b4,rfl,H⟩;replace H:=H.l7;refine AK rfl (AV 5 H rfl rfl (by kernel_rfl) Cb rfl rfl (H.rd 0 rfl (fun h q=>q.rd (by omega) (by omega) (by simp) rfl)) (by simp[Value.oneCell']) (by omega)) ?_;rintro v5 w H';have H':Sep z (blk b4 [.int .i64 e.k,.bool false,.int .i64 e.f] 35::blk b2 [.int .i64 e.k,.bool false,.int .i64 e.f] 35::blk b1 [.int .i64 e.k,.bool false,.int .i64 e.f] 35::A::grow 35 3 v3 (i+1) (BE ((es.take (i+1)).map OtE.ins))::grow 35 3 v5 (i+1) (BE ((es.take i).map OtE.ins)++[.int .i64 e.k,.bool false,.int .i64 e.f])::trA Tb pp 6 400 (Ep 400) none::R) w:=H'
  have ev5:(BE ((es.take i).map OtE.ins)++[.int .i64 e.k,.bool false,.int .i64 e.f]:List Value)=BE ((es.take (i+1)).map OtE.ins):=(M8 he)
  rw[ev5] at H';have H:=H'.l7;clear H';have sv5:=H.says 5 rfl (fun h q=>q.slc)
  refine Z1 9 [] [(i:Int)+1] rfl (by omega) ?_;replace H:=H.f2.d.f1.d.d.f3.f3.f3;refine gf ?_;intro _ hF;refine ⟨⟨i+1,v3,v5⟩,(hF.co rfl (by go_num) (hF.all rfl)),⟨H,?_⟩,?_⟩
  ·(show i+1≤es.length;omega)
  ·(dsimp only;omega)
 ·refine Zc 2 rfl (gx (Zc 2 rfl ?_));obtain rfl:i=es.length:=by omega
  obtain ⟨own,hown⟩:∃ own,own=(es.take es.length).map OtE.ins:=⟨_,rfl⟩;rw[←hown] at H;have hol:own.length=es.length:=by rw[hown];simp
  have hes0:=H.says 3 rfl (fun h q=>(hA h q).2)
  have hod:∀ e∈own,e.d=false∧ -9223372036854775808≤e.k∧e.k≤9223372036854775807:=fun e he=>by rw[hown,List.take_length] at he;obtain ⟨e0,h0,rfl⟩:=List.mem_map.1 he;exact ⟨rfl,hes0 e0 h0⟩
  obtain ⟨xo,xc,rfl⟩:=sux;obtain ⟨yo,yc,rfl⟩:=suy;refine HK (fun a w=>∃ (os:List OtE),Fr 196 [] [(0,.slice ao es.length oc),(1,.slice bo ts.length bc),(4,.bool false),(5,.pointer (some ⟨pp,0,none⟩)),(6,.slice xo es.length xc),(7,.slice yo es.length yc)] a∧Sep z (grow 35 3 (.slice xo es.length xc) es.length (BE own)::grow 35 3 (.slice yo es.length yc) es.length (BE os)::trA Tb pp 6 400 (Ep 400) none::A::R) w∧(os.length=es.length∧∀ e,e∈os↔e∈own)) ?_ ?_
  ·refine Zc 6 rfl ?_;refine AF (σ:=Nat×List OtE) (fun ⟨j,os⟩=>[(10,.int .i64 (j:Int)),(0,.slice ao es.length oc),(1,.slice bo ts.length bc),(4,.bool false),(5,.pointer (some ⟨pp,0,none⟩)),(6,.slice xo es.length xc),(7,.slice yo es.length yc)])
     (fun ⟨j,os⟩ w=>Sep z (grow 35 3 (.slice xo es.length xc) es.length (BE own)::grow 35 3 (.slice yo es.length yc) es.length (BE os)::trA Tb pp 6 400 (Ep 400) none::A::R) w∧(os.length=es.length∧∀ e,e∈os↔e∈own)) (fun ⟨j,os⟩=>es.length - j) ⟨0,own⟩
     (fun _ hF=>(hF.co rfl (by go_num) (hF.all rfl))) ⟨H,⟨hol,fun e=>Iff.rfl⟩⟩ ?_
   clear H;rintro ⟨j,os⟩ w ⟨H',hI⟩;dsimp only at hI H' ⊢
   have H:=H'.l4;clear H';obtain ⟨hosl,hosm⟩:=hI;refine Z0 8 [0] rfl (Ak 56 rfl (fun h2=> ?_) (fun h2=> ?_))
   ·refine Z0 7 [0] rfl (Af rfl (fun h3=> ?_) (fun h3=> ?_))
    ·refine Zc 5 rfl ?_;obtain ⟨x,hx⟩:∃ x,ts[j]? =some x:=⟨_,List.getElem?_eq_getElem (by omega)⟩;have hxb:=H.says 3 rfl (fun h q=>(hB h q).2 x (List.mem_of_getElem? hx))
     have hbt:=(H.rd 3 rfl (fun h q=>(hB h q).1)).at (j:=j) (u:= .int .i64 x) (by simp[hx])
     refine Zc 3 rfl (Ab rfl (Am rfl (z:=1) (j:=j) (r:=j) (by kernel_rfl) rfl rfl rfl (by omega) hbt (by omega)) (Ab rfl (AE rfl rfl (by kernel_rfl) (Av hbt)) (Zc 2 rfl (z_C rfl (call11 _) (Ki _ es.length hxb (by omega)) H ?_))));rintro _ w _ ⟨rfl,rfl⟩ H;refine Zc 4 rfl ?_;have hkx:=Q0 x (N:=es.length) (by omega)
     obtain ⟨ex,hex⟩:∃ ex,os[j]? =some ex:=⟨_,List.getElem?_eq_getElem (by omega)⟩;obtain ⟨ey,hey⟩:∃ ey,os[pkI x es.length]? =some ey:=⟨_,List.getElem?_eq_getElem (by omega)⟩;have huy:=(H.rd 1 rfl (fun h q=>q.rd)).at (C5 hex 0 _ rfl)
     refine Zc 3 rfl (Ab rfl (Am rfl (z:=3) (j:=j) (r:=j * 3) (by kernel_rfl) rfl rfl rfl (by omega) huy (by omega)) (Ab rfl (Ci rfl rfl (vs:=[.int .i64 ex.k,.bool ex.d,.int .i64 ex.f]) (by kernel_rfl) (by simp) (Av (fun k u hk=>(H.rd 1 rfl (fun h q=>q.rd)).at (C5 hex k u hk)))) (Za 0 [] H rfl ?_)));intro b6 w H;refine Z4 9 [0] H rfl ?_;intro w H;refine Ab rfl (Am rfl (z:=3) (j:=(pkI x es.length)) (r:=(pkI x es.length) * 3) (by kernel_rfl) rfl rfl rfl (by omega) huy (by omega)) (Ab rfl (Ci rfl rfl (vs:=[.int .i64 ey.k,.bool ey.d,.int .i64 ey.f]) (by kernel_rfl) (by simp) (Av (fun k u hk=>(H.rd 2 rfl (fun h q=>q.rd)).at (C5 hey k u hk)))) (Ab rfl (Am rfl (z:=3) (j:=j) (r:=j * 3) (by kernel_rfl) rfl rfl rfl (by omega) huy (by omega)) (Ax rfl rfl (M7 2 H rfl rfl rfl rfl rfl rfl (j:=j) (vs:=[.int .i64 ey.k,.bool ey.d,.int .i64 ey.f]) (by simp[Value.oneCell']) (by kernel_rfl) rfl (by first|omega|(simp only[List.length_set];omega)) (out:=BE (os.set j ey)) (OB ey (by first|omega|(simp only[List.length_set];omega)))) ?_)));rintro w H;replace H:=H.l5;refine Z2 6 [0,3] H rfl (Ab rfl (Am rfl (z:=3) (j:=(pkI x es.length)) (r:=(pkI x es.length) * 3) (by kernel_rfl) rfl rfl rfl (by omega) huy (by omega)) (Ax rfl rfl (M7 2 H rfl rfl rfl rfl rfl rfl (j:=(pkI x es.length)) (vs:=[.int .i64 ex.k,.bool ex.d,.int .i64 ex.f]) (by simp[Value.oneCell']) (by kernel_rfl) rfl (by first|omega|(simp only[List.length_set];omega)) (out:=BE ((os.set j ey).set (pkI x es.length) ex)) (OB ex (by first|omega|(simp only[List.length_set];omega)))) ?_))
     rintro w H;replace H:=H.l5;refine Z1 8 [] [(j:Int)+1] rfl (by omega) ?_;replace H:=H.d;refine gf ?_;intro _ hF;refine ⟨⟨j+1,(os.set j ey).set (pkI x es.length) ex⟩,(hF.co rfl (by go_num) (hF.all rfl)),⟨H,?_⟩,?_⟩
     ·exact ⟨by simp only[List.length_set];exact hosl,fun e=>(Tx hex hey e).trans (hosm e)⟩
     ·(dsimp only;omega)
    ·refine Zc 2 rfl (gx (Zc 1 rfl ?_));exact gf fun _ hF=>⟨os,(hF.all rfl),H,⟨hosl,hosm⟩⟩
   ·refine Zc 10 rfl (gx (Zc 1 rfl ?_));exact gf fun _ hF=>⟨os,(hF.all rfl),H,⟨hosl,hosm⟩⟩
  rintro a w ⟨os,hF,H,hI⟩;revert a;obtain ⟨hosl,hosm⟩:=hI;refine Za 4 [] H rfl ?_;intro b7 w H;refine Za 1 [] H rfl ?_;intro b8 w H;refine Za 7 [] H rfl ?_;intro b9 w H;refine Za 1 [] H rfl ?_;intro b10 w H;refine Zc 3 rfl ?_;replace H:=(H.nilg 87 2).l9
  have H':Sep z (mpA b7 ([])::blk b10 [.pointer (some ⟨pp,0,none⟩),.int .i64 0,.pointer (some ⟨b9,0,none⟩)] 32::blk b9 [.slice none 0 0] 30::blk b8 [.pointer (some ⟨pp,0,none⟩),.int .i64 0,.pointer (some ⟨b7,0,none⟩)] 32::grow 35 3 (.slice xo es.length xc) es.length (BE own)::grow 35 3 (.slice yo es.length yc) es.length (BE os)::trA Tb pp 6 400 (Ep 400) none::A::R) w:=(H.pick 9 [4,0,1,2,3,5,6,7,8] rfl).toMp (L:=[])
  have H:=H'.l8;clear H';replace H:=(H.nilg 87 2).l9
  have H':Sep z (mpA b9 ([])::mpA b7 ([])::blk b10 [.pointer (some ⟨pp,0,none⟩),.int .i64 0,.pointer (some ⟨b9,0,none⟩)] 32::blk b8 [.pointer (some ⟨pp,0,none⟩),.int .i64 0,.pointer (some ⟨b7,0,none⟩)] 32::grow 35 3 (.slice xo es.length xc) es.length (BE own)::grow 35 3 (.slice yo es.length yc) es.length (BE os)::trA Tb pp 6 400 (Ep 400) none::A::R) w:=(H.pick 9 [3,0,1,2,4,5,6,7,8] rfl).toMp (L:=[])
  have H:=H'.l8;clear H';refine HK (fun a w=>∃ (ra:Nat) (La:List E) (oa:TB) (mA:Nat),Fr 196 [] [(0,.slice ao es.length oc),(5,.pointer (some ⟨pp,0,none⟩)),(6,.slice xo es.length xc),(7,.slice yo es.length yc),(13,.pointer (some ⟨b8,0,none⟩)),(14,.pointer (some ⟨b10,0,none⟩))] a∧Sep z (mpA b9 ([])::mpA b7 La::blk b10 [.pointer (some ⟨pp,0,none⟩),.int .i64 0,.pointer (some ⟨b9,0,none⟩)] 32::blk b8 [.pointer (some ⟨pp,0,none⟩),.int .i64 (ra:Int),.pointer (some ⟨b7,0,none⟩)] 32::grow 35 3 (.slice xo es.length xc) es.length (BE own)::grow 35 3 (.slice yo es.length yc) es.length (BE os)::trA Tb pp mA 400 oa none::A::R) w∧(mA≤6+2 * es.length∧LwI 400 oa ra La []∧(own.length≤100→Kys own La))) ?_ ?_
  ·refine Zc 6 rfl ?_;refine AF (σ:=Nat×Nat×List E×TB×Nat) (fun ⟨i,ra,La,o,mb⟩=>[(15,.int .i64 (i:Int)),(0,.slice ao es.length oc),(5,.pointer (some ⟨pp,0,none⟩)),(6,.slice xo es.length xc),(7,.slice yo es.length yc),(13,.pointer (some ⟨b8,0,none⟩)),(14,.pointer (some ⟨b10,0,none⟩))])
     (fun ⟨i,ra,La,o,mb⟩ w=>Sep z (mpA b9 ([])::mpA b7 La::blk b10 [.pointer (some ⟨pp,0,none⟩),.int .i64 0,.pointer (some ⟨b9,0,none⟩)] 32::blk b8 [.pointer (some ⟨pp,0,none⟩),.int .i64 (ra:Int),.pointer (some ⟨b7,0,none⟩)] 32::grow 35 3 (.slice xo es.length xc) es.length (BE own)::grow 35 3 (.slice yo es.length yc) es.length (BE os)::trA Tb pp mb 400 o none::A::R) w∧(i≤es.length∧mb≤6+2 * i∧LwI 400 o ra La []∧(own.length≤100→Kys (own.take i) La))) (fun ⟨i,ra,La,o,mb⟩=>es.length - i) ⟨0,0,[],Ep 400,6⟩
     (fun _ hF=>(hF.co rfl (by go_num) (hF.all rfl))) ⟨H,⟨Nat.zero_le _,by omega,T7 (by omega),fun _=>Kys.nil⟩⟩ ?_
   clear H;rintro ⟨i,ra,La,o,mb⟩ w ⟨H',hI⟩;dsimp only at hI H' ⊢
   have H:=H'.l8;clear H';obtain ⟨hil,hmb,hW,hX⟩:=hI;refine Z0 8 [0] rfl (Ak 100 rfl (fun h4=> ?_) (fun h4=> ?_))
   ·refine Z0 5 [0] rfl (Af rfl (fun h5=> ?_) (fun h5=> ?_))
    ·refine Zc 5 rfl ?_;obtain ⟨e,he⟩:∃ e,own[i]? =some e:=⟨_,List.getElem?_eq_getElem (by omega)⟩;have hed:=hod e (List.mem_of_getElem? he)
     have hux:=(H.rd 4 rfl (fun h q=>q.rd)).at (C5 he 0 _ rfl)
     have K3:=H.says 6 rfl (fun h a=>trA.k a)
     refine Zc 4 rfl (Ab rfl (Am rfl (z:=3) (j:=i) (r:=i * 3) (by kernel_rfl) rfl rfl rfl (by omega) hux (by omega)) (Ab rfl (Ci rfl rfl (vs:=[.int .i64 e.k,.bool e.d,.int .i64 e.f]) (by kernel_rfl) (by simp) (Av (fun k u hk=>(H.rd 4 rfl (fun h q=>q.rd)).at (C5 he k u hk)))) (z_C rfl (call12 _) (JD _ _ _ mb 400 o ra La [] e.k e.d e.f hW (by omega) (by omega)) H.f6.f2.f4 ?_)));rintro _ w _ ⟨a1,L1,o1,m1,hD1,rfl,rfl⟩ H;replace H:=H.l8;have hky:own.length≤100→Kys (own.take (i+1)) L1:=fun q=>hD1.key hW (b:=0) (by simp[BH]) (.inl ⟨rfl,rfl⟩) K3 hed.1 (by simp) (by omega) he (hX q)
     refine Z1 18 [] [(i:Int)+1] rfl (by omega) ?_;replace H:=H.f7.f3.f7.f7.f4.f7.f6.f7;refine gf ?_;intro _ hF;refine ⟨⟨i+1,a1,L1,o1,m1⟩,(hF.co rfl (by go_num) (hF.all rfl)),⟨H,?_⟩,?_⟩
     ·exact ⟨by show i+1≤es.length;omega,by have:=hD1.m;show m1≤6+2 * (i+1);omega,hD1.I,hky⟩
     ·(dsimp only;omega)
    ·refine Zc 2 rfl (gx (Zc 1 rfl ?_));exact gf fun _ hF=>⟨ra,La,o,mb,(hF.all rfl),H,⟨by omega,hW,fun q=>by rw[←show own.take i=own from List.take_of_length_le (by omega)];exact hX q⟩⟩
   ·refine Zc 8 rfl (gx (Zc 1 rfl ?_));exact gf fun _ hF=>⟨ra,La,o,mb,(hF.all rfl),H,⟨by omega,hW,fun q=>by rw[←show own.take i=own from List.take_of_length_le (by omega)];exact hX q⟩⟩
  rintro a w ⟨ra,La,oa,mA,hF,H,hI⟩;revert a;obtain ⟨hma,hWa,hKa⟩:=hI;refine HK (fun a w=>∃ (rb:Nat) (M:List E) (o:TB) (mb:Nat),Fr 196 [] [(0,.slice ao es.length oc),(5,.pointer (some ⟨pp,0,none⟩)),(7,.slice yo es.length yc),(13,.pointer (some ⟨b8,0,none⟩)),(14,.pointer (some ⟨b10,0,none⟩))] a∧Sep z (mpA b9 M::mpA b7 La::blk b10 [.pointer (some ⟨pp,0,none⟩),.int .i64 (rb:Int),.pointer (some ⟨b9,0,none⟩)] 32::blk b8 [.pointer (some ⟨pp,0,none⟩),.int .i64 (ra:Int),.pointer (some ⟨b7,0,none⟩)] 32::grow 35 3 (.slice xo es.length xc) es.length (BE own)::grow 35 3 (.slice yo es.length yc) es.length (BE os)::trA Tb pp mb 400 o none::A::R) w∧(LwI 400 o rb M (BH ra)∧Root o.N ra La∧(own.length≤100→Kys os M))) ?_ ?_
  ·refine Zc 6 rfl ?_;refine AF (σ:=Nat×Nat×List E×TB×Nat) (fun ⟨i,rb,M,o,mb⟩=>[(17,.int .i64 (i:Int)),(0,.slice ao es.length oc),(5,.pointer (some ⟨pp,0,none⟩)),(7,.slice yo es.length yc),(13,.pointer (some ⟨b8,0,none⟩)),(14,.pointer (some ⟨b10,0,none⟩))])
     (fun ⟨i,rb,M,o,mb⟩ w=>Sep z (mpA b9 M::mpA b7 La::blk b10 [.pointer (some ⟨pp,0,none⟩),.int .i64 (rb:Int),.pointer (some ⟨b9,0,none⟩)] 32::blk b8 [.pointer (some ⟨pp,0,none⟩),.int .i64 (ra:Int),.pointer (some ⟨b7,0,none⟩)] 32::grow 35 3 (.slice xo es.length xc) es.length (BE own)::grow 35 3 (.slice yo es.length yc) es.length (BE os)::trA Tb pp mb 400 o none::A::R) w∧(i≤es.length∧mb≤mA+2 * i∧LwI 400 o rb M (BH ra)∧Root o.N ra La∧(own.length≤100→Kys (os.take i) M))) (fun ⟨i,rb,M,o,mb⟩=>es.length - i) ⟨0,0,[],oa,mA⟩
     (fun _ hF=>(hF.co rfl (by go_num) (hF.all rfl))) ⟨H,⟨Nat.zero_le _,by omega,hWa.swap,hWa.root,fun _=>Kys.nil⟩⟩ ?_
   clear H;rintro ⟨i,rb,M,o,mb⟩ w ⟨H',hI⟩;dsimp only at hI H' ⊢
   have H:=H'.l8;clear H';obtain ⟨hil,hmb,hW,hRa,hX⟩:=hI;refine Z0 8 [0] rfl (Ak 118 rfl (fun h6=> ?_) (fun h6=> ?_))
   ·refine Z0 5 [0] rfl (Af rfl (fun h7=> ?_) (fun h7=> ?_))
    ·refine Zc 5 rfl ?_;obtain ⟨e,he⟩:∃ e,os[i]? =some e:=⟨_,List.getElem?_eq_getElem (by omega)⟩;have hed:=hod e ((hosm e).1 (List.mem_of_getElem? he))
     have huy:=(H.rd 5 rfl (fun h q=>q.rd)).at (C5 he 0 _ rfl)
     have K3:=H.says 6 rfl (fun h a=>trA.k a)
     refine Zc 4 rfl (Ab rfl (Am rfl (z:=3) (j:=i) (r:=i * 3) (by kernel_rfl) rfl rfl rfl (by omega) huy (by omega)) (Ab rfl (Ci rfl rfl (vs:=[.int .i64 e.k,.bool e.d,.int .i64 e.f]) (by kernel_rfl) (by simp) (Av (fun k u hk=>(H.rd 5 rfl (fun h q=>q.rd)).at (C5 he k u hk)))) (z_C rfl (call12 _) (JD _ _ _ mb 400 o rb M (BH ra) e.k e.d e.f hW (by omega) (by omega)) H.f6.f1.f3 ?_)));rintro _ w _ ⟨a1,L1,o1,m1,hD1,rfl,rfl⟩ H;replace H:=H.l8;have hky:own.length≤100→Kys (os.take (i+1)) L1:=fun q=>hD1.key hW rfl hRa K3 hed.1 (by have:=(hKa q).1;omega) (by omega) he (hX q)
     have hRa1:=hD1.kp.root hRa
     refine Z1 18 [] [(i:Int)+1] rfl (by omega) ?_;replace H:=H.f7.f3.f7.f7.f7.f5.f7.f7;refine gf ?_;intro _ hF;refine ⟨⟨i+1,a1,L1,o1,m1⟩,(hF.co rfl (by go_num) (hF.all rfl)),⟨H,?_⟩,?_⟩
     ·exact ⟨by show i+1≤es.length;omega,by have:=hD1.m;show m1≤mA+2 * (i+1);omega,hD1.I,hRa1,hky⟩
     ·(dsimp only;omega)
    ·refine Zc 2 rfl (gx (Zc 1 rfl ?_));exact gf fun _ hF=>⟨rb,M,o,mb,(hF.all rfl),H,⟨hW,hRa,fun q=>by rw[←show os.take i=os from List.take_of_length_le (by omega)];exact hX q⟩⟩
   ·refine Zc 8 rfl (gx (Zc 1 rfl ?_));exact gf fun _ hF=>⟨rb,M,o,mb,(hF.all rfl),H,⟨hW,hRa,fun q=>by rw[←show os.take i=os from List.take_of_length_le (by omega)];exact hX q⟩⟩
  rintro a w ⟨rb,M,o,mb,hF,H,hI⟩;revert a;obtain ⟨hW,hRa,hX⟩:=hI;refine Z0 7 [0] rfl (Ak 135 rfl (fun h8=> ?_) (fun h8=> ?_))
  ·refine Zc 8 rfl ?_;replace H:=(((H.pick 8 [6,7] rfl).trTab).2).l2
   refine Zc 1 rfl (z_C rfl (call16 _) (IX Tb hT) H ?_);rintro _ w _ ⟨rfl,rfl⟩ H;refine Zc 4 rfl (Zr rfl ?_);exact ⟨_,⟨rfl,rfl⟩,H.pick 2 [1,0] rfl⟩
  ·refine Zc 1 rfl (z_C rfl (call22 _) (E7 _ _ _ _ none) H.f6 ?_);rintro _ w _ ⟨rfl,rfl⟩ H;replace H:=H.l8;refine Az 137 (v:= .int .i64 (cnt (frC 400 o.C) 0 1024:Int)) rfl rfl (Z0 4 [0] rfl (Af rfl (fun h9=> ?_) (fun h9=> ?_)))
   ·refine Zc 1 rfl ?_;replace H:=(((H.pick 8 [0,7] rfl).trTab).2).l2
    refine Zc 1 rfl (z_C rfl (call16 _) (IX Tb hT) H ?_);rintro _ w _ ⟨rfl,rfl⟩ H;refine Zc 4 rfl (Zr rfl ?_);exact ⟨_,⟨rfl,rfl⟩,H.pick 2 [1,0] rfl⟩
   ·refine Zc 3 rfl ?_;have hq:own.length≤100:=by omega
    obtain ⟨ka1,ka2⟩:=hKa hq;obtain ⟨kb1,kb2⟩:=hX hq;have hkeq:kL La=kL M:=Oz (Km hRa.srt.1) (Km hW.root.srt.1) (fun j=>by rw[ka2,kb2];simp only[List.mem_map,hosm])
    have hkl:(kL La).length=(kL M).length:=by rw[hkeq]
    have hlk:=M6 La
    refine Z2 6 [1,4,0] H rfl (z_C rfl (call23 _) (OA _ _ _ o ra La hRa (by omega)) H ?_);rintro _ w _ ⟨uk,kc,hkc,rfl,rfl⟩ H;replace H:=H.l9;have suk:=H.says 1 rfl (fun h q=>q.slc)
    refine Z2 14 [1,4,0] H rfl (z_C rfl (call23 _) (OA _ _ _ o rb M hW.root (by omega)) H ?_);rintro _ w _ ⟨um,kd,hkd,rfl,rfl⟩ H;replace H:=H.l10;have sum:=H.says 1 rfl (fun h q=>q.slc)
    refine Zc 11 rfl (Ab rfl (Ds rfl (sz:=1) (by kernel_rfl) rfl suk) (Zc 1 rfl (Ab rfl (Ds rfl (sz:=1) (by kernel_rfl) rfl sum) (Z0 3 [0] rfl (Af rfl (fun h10=> ?_) (fun h10=> ?_))))))
    ·(exfalso;omega)
    ·refine Zc 4 rfl ?_;obtain ⟨uo,uc,rfl⟩:=suk;obtain ⟨mo,mc,rfl⟩:=sum;refine Zc 5 rfl ?_;refine AF (σ:=Nat) (fun q=>[(23,.int .i64 (q:Int)),(19,.slice uo ((kL La).length) uc),(21,.slice mo ((kL M).length) mc)])
       (fun q w=>Sep z (trA Tb pp mb 400 o none::grow 3 1 (.slice mo ((kL M).length) mc) ((kL M).length) ((kL M).map (Value.int .i64))::grow 3 1 (.slice uo ((kL La).length) uc) ((kL La).length) ((kL La).map (Value.int .i64))::mpA b9 M::mpA b7 La::blk b10 [.pointer (some ⟨pp,0,none⟩),.int .i64 (rb:Int),.pointer (some ⟨b9,0,none⟩)] 32::blk b8 [.pointer (some ⟨pp,0,none⟩),.int .i64 (ra:Int),.pointer (some ⟨b7,0,none⟩)] 32::grow 35 3 (.slice xo es.length xc) es.length (BE own)::grow 35 3 (.slice yo es.length yc) es.length (BE os)::A::R) w∧(q≤(kL La).length)) (fun q=>(kL La).length - q) 0
       (fun _ hF=>(hF.co rfl (by go_num) (hF.all rfl))) ⟨H,Nat.zero_le _⟩ ?_
     clear H;rintro q w ⟨H',hI⟩;have H:=H'.l10;clear H';have hql:=hI;clear hI
     refine Z0 9 [0] rfl (Af rfl (fun h11=> ?_) (fun h11=> ?_))
     ·refine Zc 5 rfl ?_;obtain ⟨x,hx⟩:∃ x,(kL La)[q]? =some x:=⟨_,List.getElem?_eq_getElem (by omega)⟩;obtain ⟨y,hy⟩:∃ y,(kL La)[q - 1]? =some y:=⟨_,List.getElem?_eq_getElem (by omega)⟩;have hxm:(kL M)[q]? =some x:=by rw[←hkeq];exact hx
      have hyx:0<q→y<x:=fun q0=>Wr (Km hRa.srt.1) hy hx (by omega)
      have huo:=(H.rd 2 rfl (fun h q=>q.rd)).at (j:=q) (u:= .int .i64 x) (GC hx)
      have hmo:=(H.rd 1 rfl (fun h q=>q.rd)).at (j:=q) (u:= .int .i64 x) (GC hxm)
      refine Ba (Sep z _) (by kernel_rfl) (by kernel_rfl) H.drew (BK 2 [] rfl (by kernel_rfl) (AW rfl rfl rfl (Am rfl (z:=1) (j:=q) (r:=q) (by kernel_rfl) rfl rfl rfl (by omega) huo (by omega)) (AW rfl rfl rfl (AE rfl rfl (by kernel_rfl) (fun _ hx'=>(hx'.rd 2 rfl (fun h q=>q.rd)).at (GC hx))) (BK 2 [] rfl (by kernel_rfl) (AW rfl rfl rfl (Am rfl (z:=1) (j:=q) (r:=q) (by kernel_rfl) rfl rfl rfl (by omega) hmo (by omega)) (AW rfl rfl rfl (AE rfl rfl (by kernel_rfl) (fun _ hx'=>(hx'.rd 1 rfl (fun h q=>q.rd)).at (GC hxm))) (BK 2 [] rfl (by kernel_rfl) (B4 179 rfl (fun h12=> ?_) (fun h12=> ?_)))))))))
      ·exact absurd rfl h12
      ·refine BK 3 [] rfl (by kernel_rfl) (B4 182 rfl (fun h13=> ?_) (fun h13=> ?_))
       ·refine Gk 3 [] [(q:Int) - 1] rfl (by kernel_rfl) (by omega) (AW rfl rfl rfl (Am rfl (z:=1) (j:=(q - 1)) (r:=(q - 1)) (by kernel_rfl) rfl rfl (by omega) (by omega) huo (by omega)) (AW rfl rfl rfl (AE rfl rfl (by kernel_rfl) (fun _ hx'=>(hx'.rd 2 rfl (fun h q=>q.rd)).at (GC hy))) (BK 2 [] rfl (by kernel_rfl) (AW rfl rfl rfl (Am rfl (z:=1) (j:=q) (r:=q) (by kernel_rfl) rfl rfl rfl (by omega) huo (by omega)) (AW rfl rfl rfl (AE rfl rfl (by kernel_rfl) (fun _ hx'=>(hx'.rd 2 rfl (fun h q=>q.rd)).at (GC hx))) (BK 3 [] rfl (by kernel_rfl) (Bk (fun w H'=> ?_))))))));have H:=H'.l10;clear H';refine gn (Zc 1 rfl (Af rfl (fun h14=> ?_) (fun h14=> ?_)))
        ·(exfalso;have:=hyx (by omega);omega)
        ·refine Z1 8 [] [(q:Int)+1] rfl (by omega) (gf ?_);intro _ hF;refine ⟨(q+1),(hF.co rfl (by go_num) (hF.all rfl)),⟨H,?_⟩,?_⟩
         ·omega
         ·omega
       ·refine BK 12 [] rfl (by kernel_rfl) (Bk (fun w H'=> ?_));have H:=H'.l10;clear H';refine gn (Z1 10 [] [(q:Int)+1] rfl (by omega) (gf ?_));intro _ hF;refine ⟨(q+1),(hF.co rfl (by go_num) (hF.all rfl)),⟨H,?_⟩,?_⟩
        ·omega
        ·omega
     ·refine Zc 2 rfl (gx (Zc 3 rfl ?_));replace H:=(((H.pick 10 [0,9] rfl).trTab).2).l2
      refine Zc 1 rfl (z_C rfl (call16 _) (IX Tb hT) H ?_);rintro _ w _ ⟨rfl,rfl⟩ H;refine Zc 4 rfl (Zr rfl ?_);exact ⟨_,⟨rfl,rfl⟩,H.pick 2 [1,0] rfl⟩
end
open Go.ChangeShapes Go.WideShapes Go.ChangeAt Go.RowKit Go.Joins
theorem Ws (os:Os):laidMet prog Rows.treeOrderUptoRow.laid ((HC os).forCall (fun _ _=>0) ⟨#[],#[.slice none 0 0,.slice none 0 0],[]⟩).memory:=
 laidMet_of_run' 8 (by kernel_rfl) (by kernel_rfl)
theorem Q7 (os:Os) {H:Type} (enc:TypeId×Value→H):∃ places,DataW.whole enc prog ((HC os).forCall (fun _ _=>0) ⟨#[],#[.slice none 0 0,.slice none 0 0],[]⟩).memory f5.params.toList Rows.treeOrderSpec.vars false #[Value.slice none 0 0,.slice none 0 0].toList 8=some ([.nil,.nil],[],places):=
 ⟨[],by kernel_rfl⟩
theorem tlo_contract (H:Type) (enc:TypeId×Value→H) (W:World) (base:Nat) (args:Array Value) (ds gs:List (DataW H)) (before:List MemPlace)
  (hval:∀ (j:Nat) t v,f5.params[j]? =some t→args[j]? =some v→Value.okWide prog W .any base t v)
  (hW:DataW.Whole enc prog f5.params.toList Rows.treeOrderSpec.vars false W args.toList ds gs before) (hk:Rows.uptoSmall H (ds++gs)=true) (hL:laidMetH prog Rows.treeOrderUptoRow.laid W):
  Calls prog 5 args W fun e W'=>∃ v,e= .returned v∧Rows.treeOrderSpec.post enc prog f5 false true false false W args v W':=by
 have hW0:=hW
 obtain ⟨p,q,hA0,hV,rfl,_,_⟩:=hW
 have hA:DataW.TrodAll enc prog W 0 (fun _=>true) true f5.params.toList args.toList ds p:=hA0
 rw[params5] at hA hval
 obtain ⟨v0,v1,d0,d1,p0,p1,rfl,rfl,rfl,h0,h1⟩:=YV hA
 obtain ⟨rfl,rfl⟩:=trodVars_none hV
 simp only[List.append_nil] at hW0 hk
 have t0:∀ x∈p0,x.block<W.heap.size:=fun x hx=>by have:=hW0.lt x (by simp[hx]);simpa using this
 have t1:∀ x∈p1,x.block<W.heap.size:=fun x hx=>by have:=hW0.lt x (by simp[hx]);simpa using this
 have hb:Rows.uptoBulkAll [d0,d1]≤1048576:=of_decide_eq_true hk
 simp only[Rows.uptoBulkAll] at hb
 obtain ⟨ao0,l0,c0,rfl⟩:=okWide_slice underlying22 (hval 0 22 v0 rfl rfl)
 obtain ⟨fuel0,hf0⟩:=id h0
 obtain ⟨es0,hr0,hes0,hlen0⟩:=Tv (h:=hf0)
 obtain ⟨ao1,l1,c1,rfl⟩:=okWide_slice underlying48 (hval 1 48 v1 rfl rfl)
 obtain ⟨fuel1,hf1⟩:=id h1
 obtain ⟨pk1,hpk1,hlen1,hwf1⟩:=Tq (h:=hf1)
 refine (Cn.run2 (Wp (JE hL)) (Np (Ih W) (M4 W) (YT (JE hL)) _ es0 (by omega) (fun h hh=>⟨M5 (JE hL) hr0 (YU _) h hh,hes0⟩) _ pk1 (fun h hh=>⟨M5 (JE hL) hpk1 (by simp) h hh,fun x hx=>T8 (hwf1 x hx)⟩))).mono fun e W' hR=> ?_
 obtain ⟨u,rfl,rfl,x⟩:∃ u,e=Ending.returned u∧u= .bool true∧Ext No W W':=by cases e<;>first|exact ⟨_,rfl,hR⟩|exact hR.elim
 exact ⟨_,rfl,_,_,_,[],_,[],hW0,trodAll_mk1 (shut_bool underlying4 true),Wq (Below.trod Ow (by kernel_rfl) (of_decide_eq_true (by kernel_rfl)) h0 x.below t0) (Below.trod Ow (by kernel_rfl) (of_decide_eq_true (by kernel_rfl)) h1 x.below t1),rfl,x.below.frame _,fun h=>by cases h⟩
theorem Po (os:Os) (started:os.Started) (H:Type) (enc:TypeId×Value→H) (F:Stop.Interp):
  ReturnsInHanded {} checked os 5 .any ((Rows.OpenSpec.upto Rows.treeOrderSpec).preRow enc prog f5 Rows.treeOrderUptoRow.domain false Rows.treeOrderUptoRow.laid) (((Rows.OpenSpec.upto Rows.treeOrderSpec).at F).post enc prog f5 false true false false):=by
 obtain ⟨places,hx⟩:=Q7 os enc
 refine returnsInHanded_of_row (C:=checked) (s:=Rows.OpenSpec.upto Rows.treeOrderSpec) own started (by kernel_rfl) func5
  (witness_row_at (enc:=enc) (C:=checked) false (HC os) #[.slice none 0 0,.slice none 0 0] rfl (by kernel_rfl) (by kernel_rfl) (by kernel_rfl)
   (OpenSpec.preRow_of_cond 8 hx (by kernel_rfl) (fun k hk=>by cases hk;kernel_rfl) (by kernel_rfl) (Ws os))) ?_
 intro W base args ds gs before hval hW _ hcond _ hL _ _
 exact tlo_contract H enc W base args ds gs before hval hW (hcond _ rfl) hL
theorem tlo_said:Rows.TreeOrderUptoSaid:=
 OpenClaim.holds_of_cond 5 f5 rfl rfl rfl rfl rfl rfl rfl ⟨rfl,rfl,rfl,rfl,rfl⟩ rfl rfl rfl rfl rfl (by kernel_rfl) func5 (by kernel_rfl)
  (of_decide_eq_true (by kernel_rfl)) (by unfold Func.isWrapper;first|(rw[if_pos (by decide+kernel)];kernel_rfl)|(rw[if_neg (by decide+kernel)];exact ⟨rfl,rfl⟩))
  (fun os started H enc _ F=>by rw[OpenClaim.pre_eq_preRow];exact Po os started H enc F)
theorem Q8 (f:FuncId) (fn:Func) (hf:Tryz.pinned.checked.prog.funcNamed "polder/polderlaw12.TreeOrder"=some f) (hfn:Tryz.pinned.checked.prog.funcs[f]? =some fn):
  false=Tryz.pinned.checked.prog.looks []∧∀ (j:Nat) t,fn.params[j]? =some t→Tryz.pinned.checked.prog.wantsStandIn t=false:=by
 obtain rfl:f=5:=Option.some.inj ((show prog.funcNamed "polder/polderlaw12.TreeOrder"=some 5 by kernel_rfl).symm.trans hf) |>.symm
 obtain rfl:fn=f5:=(Option.some.inj (func5.symm.trans hfn)).symm
 refine ⟨by kernel_rfl,fun j t ht=> ?_⟩
 rw[params5] at ht
 have hm:=Array.mem_of_getElem? ht
 simp at hm
 rcases hm with rfl|rfl<;>first|exact (show prog.wantsStandIn 22=false by kernel_rfl)|exact (show prog.wantsStandIn 48=false by kernel_rfl)
theorem treeOrder_holds:Rows.TreeOrderUptoCardSaid:=
 Claim7.holds_tied_plain_at .later [] _ _ _ _ tlo_said (fun _ h=>by cases h) (by kernel_rfl) (fun _ h=>by cases h) treeOrderUpto_row_tie rfl ⟨rfl,rfl⟩ (by kernel_rfl) rfl Q8 (by kernel_rfl)
end Go.Proofs.YtglgbkpniipjbaaGreatDoor
