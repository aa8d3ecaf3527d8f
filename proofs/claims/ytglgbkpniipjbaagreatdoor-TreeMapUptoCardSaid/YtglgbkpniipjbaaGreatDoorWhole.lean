/-
  For every input the law TreeMap answers true: a tree of the pool is a map. No condition.
-/
import Derived.Test.YtglgbkpniipjbaaGreatDoorPart5
import Derived.Test.YtglgbkpniipjbaaGreatDoorCards
import Derived.Test.YtglgbkpniipjbaaGreatDoorTie
import Derived.WalkKit
import Derived.WalkSpells
import Derived.Deep.Quiet
import Derived.KernelRfl
import Derived.IntWalk
import Derived.Maps.AppendAt
import Derived.Laws.AppendOwnNone
import Derived.Laws.CopyRow
import Derived.StillTail
import Derived.Deep.RegionHeld
import Derived.Laws.IdiomStrings
import Derived.Laws.BytesArg
import Derived.Laws.OwnMore
import Derived.Lib.Strings
import Derived.ArgAppend
import Derived.Test.YtglgbkpniipjbaaGreatDoorRows
import Derived.RangeFuncLeaves
import Derived.RangeFuncRecord
import Derived.RangeFuncCalls
import Derived.RangeFuncSeq
import Derived.OrdersIn
import Derived.TacticsIn
import Derived.Laws.IdiomRangeMap
import Derived.Defers
import Derived.Laws.LoneSync
import Derived.LoopN
import Derived.Lib.TrailingZeros
import Derived.Test.YtglgbkpniipjbaaGreatDoorProg
import Derived.Shelf.Sort.Plain
import Derived.Shelf.Slices.In.SortNone
import Derived.DataReads
import Derived.ProofKit
import Derived.OpenShut
import Derived.Lib.SmallJoins
import Derived.Deep.DeepHandedRow
import Derived.Lib.LaidTab
set_option maxRecDepth 100000
set_option linter.unusedSimpArgs false
set_option linter.unusedVariables false
open Go.Proofs.Tryz
namespace Go.Proofs.YtglgbkpniipjbaaGreatDoor
section
open Go.RowKit
variable {Tb:Ae}
theorem Ym {P:Nat→Int→Int→List E→Prop} {es:List E} {i:Nat} {e:E} {hi:Int} {L2:List E} (he:es[i]? =some e) (h:Sq P (es.drop i) hi L2):∃ Lc L3,L2=Lc++L3∧P e.2 e.1 (nx (es.drop (i+1)) hi) Lc∧Sq P (es.drop (i+1)) hi L3:=by
 obtain ⟨hi',rfl⟩:=List.getElem?_eq_some_iff.1 he
 rw[List.drop_eq_getElem_cons hi'] at h
 exact h
theorem Yn {es:List E} {i:Nat} (hi:Int) (h:i+1<es.length):((kL es).map (Value.int .i64))[i+1]? =some (.int .i64 (nx (es.drop (i+1)) hi)):=by
 rw[List.drop_eq_getElem_cons h]
 simp[kL,nx,List.getElem?_eq_getElem h]
theorem N7 {es:List E} {i:Nat} {e:E} (l:List E) (he:es[i]? =some e):l++es.take (i+1)=l++es.take i++[e]:=by
 rw[List.take_add_one,he,←List.append_assoc];rfl
theorem N9 (k y:Int):Cn prog 130 [.int .i64 k,.int .i64 y] [] (fun v Γ=>v= .bool (decide ((0≤k∧k<1048576)∧1≤y∧y<1024))∧Γ=[]):=by
 intro z R w H;replace H:=H.l0;refine Ad func130 rfl ntmps130 rfl (Z0 10 [0] rfl (Al 7 rfl (fun h1=> ?_) (fun h1=> ?_)))
 ·refine Z0 4 [0] rfl (Al 11 rfl (fun h2=> ?_) (fun h2=> ?_))
  ·refine Z0 4 [0] rfl (Al 15 rfl (fun h3=> ?_) (fun h3=> ?_))
   ·refine Z0 7 [0] rfl (Zr rfl ?_);exact ⟨_,⟨congrArg Value.bool (by first|(rw[Bool.eq_iff_iff];simp<;>omega)|(simp<;>omega)),rfl⟩,H⟩
   ·refine Zc 7 rfl (Zr rfl ?_);exact ⟨_,⟨congrArg Value.bool (by first|(rw[Bool.eq_iff_iff];simp<;>omega)|(simp<;>omega)),rfl⟩,H⟩
  ·refine Zc 11 rfl (Zr rfl ?_);exact ⟨_,⟨congrArg Value.bool (by first|(rw[Bool.eq_iff_iff];simp<;>omega)|(simp<;>omega)),rfl⟩,H⟩
 ·refine Zc 15 rfl (Zr rfl ?_);exact ⟨_,⟨congrArg Value.bool (by first|(rw[Bool.eq_iff_iff];simp<;>omega)|(simp<;>omega)),rfl⟩,H⟩
theorem QC (lf:Bool) (kv vv:Value) (ks vs:List Int) (A B:Ae) (hA:∀ h,A h→rdH 1 kv ks.length (ks.map (Value.int .i64)) h) (hB:∀ h,B h→rdH 1 vv vs.length (vs.map (Value.int .i64)) h) (hck:CkN lf ks vs):Cn prog 85 [.agg #[.bool lf,kv,vv]] [A,B] (fun v Γ=>v= .bool true∧Γ=[A,B]):=by
 intro z R w H;replace H:=H.l2;obtain ⟨ka,kc,rfl⟩:=H.says 0 rfl (fun h q=>(hA h q).slc);obtain ⟨va,vc,rfl⟩:=H.says 1 rfl (fun h q=>(hB h q).slc);have hclk:=H.says 0 rfl (fun h q=>(hA h q).slcap)
 have hclv:=H.says 1 rfl (fun h q=>(hB h q).slcap)
 have hlen:=hck.len;have hl8:=hck.l8;have hne:=hck.ne
 refine Ad func85 rfl ntmps85 rfl (Za 2 [] H rfl ?_);intro b1 w H;refine Z2 14 [1,0,0,2,0,0,0] H rfl (Al 12 rfl (fun h1=> ?_) (fun h1=> ?_))
 ·(exfalso;omega)
 ·refine Z2 6 [1,0,0,0] H rfl (Al 18 rfl (fun h2=> ?_) (fun h2=> ?_))
  ·(exfalso;omega)
  ·refine Z2 4 [0,0,0] H rfl (Fu 22 rfl (fun h3=> ?_) (fun h3=> ?_))
   ·refine Z2 8 [1,0,0,0] H rfl (Af rfl (fun h4=> ?_) (fun h4=> ?_))
    ·(exfalso;rcases hne with q|q<;>simp_all)
    ·refine Zc 9 rfl ?_;refine AM (σ:=Nat) (fun i=>[(3,.int .i64 (i:Int)),(1,.pointer (some ⟨b1,0,none⟩))])
       (fun i w=>Sep z (blk b1 [.bool lf,.slice ka ks.length kc,.slice va vs.length vc] 54::A::B::R) w∧(i≤ks.length)) (fun i=>ks.length - i) 0
       (fun _ hF=>(hF.co rfl (by go_num) (hF.all rfl))) ⟨H,Nat.zero_le _⟩ ?_
     clear H;rintro i w ⟨H',hI⟩;have H:=H'.l3;clear H';have hin:=hI;clear hI
     refine Z2 10 [1,0,0,0] H rfl (Af rfl (fun h5=> ?_) (fun h5=> ?_))
     ·obtain ⟨x,hx⟩:∃ x,ks[i]? =some x:=⟨_,List.getElem?_eq_getElem (by omega)⟩;obtain ⟨y,hy⟩:∃ y,vs[i]? =some y:=⟨_,List.getElem?_eq_getElem (by omega)⟩;have hxk:=hck.k x (List.mem_of_getElem? hx)
      have hyv:=hck.v y (List.mem_of_getElem? hy)
      refine Zc 5 rfl ?_;have hka:=(H.rd 1 rfl hA).at (j:=i) (u:= .int .i64 x) (by simp[hx])
      have hva:=(H.rd 2 rfl hB).at (j:=i) (u:= .int .i64 y) (by simp[hy])
      refine Ba (Sep z _) (by kernel_rfl) (by kernel_rfl) H.drew (B9 3 [1,0] (fun _ hx=>(AG (hx.blk 0 rfl) Ak)) rfl (by kernel_rfl) rfl (Az rfl rfl rfl (Ap rfl (z:=1) (j:=i) (r:=i) (by kernel_rfl) rfl rfl rfl (by omega) hka (by omega)) (Az rfl rfl rfl (AC rfl rfl (by kernel_rfl) (fun _ hx'=>(hx'.rd 1 rfl hA).at (j:=i) (u:= .int .i64 x) (by simp[hx]))) (B9 3 [2,0] (fun _ hx=>(AG (hx.blk 0 rfl) Ak)) rfl (by kernel_rfl) rfl (Az rfl rfl rfl (Ap rfl (z:=1) (j:=i) (r:=i) (by kernel_rfl) rfl rfl rfl (by omega) hva (by omega)) (Az rfl rfl rfl (AC rfl rfl (by kernel_rfl) (fun _ hx'=>(hx'.rd 2 rfl hB).at (j:=i) (u:= .int .i64 y) (by simp[hy]))) (Cg rfl rfl rfl rfl rfl (fun w=>call130 _ w) (v:= .bool (decide ((0≤x∧x<1048576)∧1≤y∧y<1024))) (cq (N9 _ _) (by rintro _ _ ⟨rfl,rfl⟩;exact ⟨rfl,rfl⟩) 0 [] [] rfl rfl rfl rfl) (A6 1 [] rfl (by kernel_rfl) (Bi (fun w H'=> ?_))))))))));have H:=H'.l3;clear H';refine gn (Zc 2 rfl (Ba (Sep z _) (by kernel_rfl) (by kernel_rfl) H.drew (A6 1 [] rfl (by kernel_rfl) (Az rfl rfl rfl (AS rfl rfl) (A6 1 [] rfl (by kernel_rfl) (BX 49 rfl (fun h6=> ?_) (fun h6=> ?_)))))))
      ·(exfalso;omega)
      ·refine A6 3 [] rfl (by kernel_rfl) (BX 52 rfl (fun h7=> ?_) (fun h7=> ?_))
       ·obtain ⟨x0,hx0⟩:∃ x0,ks[i - 1]? =some x0:=⟨_,List.getElem?_eq_getElem (by omega)⟩;have hx0x:=hck.s (i - 1) x0 x hx0 (by rw[show i - 1+1=i by omega];exact hx)
        refine B9 3 [1,0] (fun _ hx=>(AG (hx.blk 0 rfl) Ak)) rfl (by kernel_rfl) rfl (Az rfl rfl rfl (Ap rfl (z:=1) (j:=i) (r:=i) (by kernel_rfl) rfl rfl rfl (by omega) hka (by omega)) (Az rfl rfl rfl (AC rfl rfl (by kernel_rfl) (fun _ hx'=>(hx'.rd 1 rfl hA).at (j:=i) (u:= .int .i64 x) (by simp[hx]))) (B9 3 [1,0] (fun _ hx=>(AG (hx.blk 0 rfl) Ak)) rfl (by kernel_rfl) rfl (Az rfl rfl rfl (BM rfl rfl rfl (r:=(i:Int) - 1) (by omega) (by omega)) (Az rfl rfl rfl (Ap rfl (z:=1) (j:=(i - 1)) (r:=(i - 1)) (by kernel_rfl) rfl rfl (by omega) (by omega) hka (by omega)) (Az rfl rfl rfl (AC rfl rfl (by kernel_rfl) (fun _ hx'=>(hx'.rd 1 rfl hA).at (j:=i - 1) (u:= .int .i64 x0) (by simp[hx0]))) (A6 3 [] rfl (by kernel_rfl) (Bi (fun w H'=> ?_)))))))));have H:=H'.l3;clear H';refine gn (Zc 1 rfl (Af rfl (fun h8=> ?_) (fun h8=> ?_)))
        ·(exfalso;omega)
        ·refine Z1 8 [] [(i:Int)+1] rfl (by omega) (gf ?_);intro _ hF;refine ⟨(i+1),(hF.co rfl (by go_num) (hF.all rfl)),⟨H,?_⟩,?_⟩
         ·omega
         ·omega
       ·refine A6 14 [] rfl (by kernel_rfl) (Bi (fun w H'=> ?_));have H:=H'.l3;clear H';refine gn (Z1 10 [] [(i:Int)+1] rfl (by omega) (gf ?_));intro _ hF;refine ⟨(i+1),(hF.co rfl (by go_num) (hF.all rfl)),⟨H,?_⟩,?_⟩
        ·omega
        ·omega
     ·refine Zc 2 rfl (gx (Zc 8 rfl (Zr rfl ?_)));exact ⟨_,⟨rfl,rfl⟩,H.perm 3 [1,2] rfl rfl⟩
   ·refine Zc 18 rfl ?_;refine AM (σ:=Nat) (fun i=>[(3,.int .i64 (i:Int)),(1,.pointer (some ⟨b1,0,none⟩))])
      (fun i w=>Sep z (blk b1 [.bool lf,.slice ka ks.length kc,.slice va vs.length vc] 54::A::B::R) w∧(i≤ks.length)) (fun i=>ks.length - i) 0
      (fun _ hF=>(hF.co rfl (by go_num) (hF.all rfl))) ⟨H,Nat.zero_le _⟩ ?_
    clear H;rintro i w ⟨H',hI⟩;have H:=H'.l3;clear H';have hin:=hI;clear hI
    refine Z2 10 [1,0,0,0] H rfl (Af rfl (fun h9=> ?_) (fun h9=> ?_))
    ·obtain ⟨x,hx⟩:∃ x,ks[i]? =some x:=⟨_,List.getElem?_eq_getElem (by omega)⟩;obtain ⟨y,hy⟩:∃ y,vs[i]? =some y:=⟨_,List.getElem?_eq_getElem (by omega)⟩;have hxk:=hck.k x (List.mem_of_getElem? hx)
     have hyv:=hck.v y (List.mem_of_getElem? hy)
     refine Zc 5 rfl ?_;have hka:=(H.rd 1 rfl hA).at (j:=i) (u:= .int .i64 x) (by simp[hx])
     have hva:=(H.rd 2 rfl hB).at (j:=i) (u:= .int .i64 y) (by simp[hy])
     refine Ba (Sep z _) (by kernel_rfl) (by kernel_rfl) H.drew (B9 3 [1,0] (fun _ hx=>(AG (hx.blk 0 rfl) Ak)) rfl (by kernel_rfl) rfl (Az rfl rfl rfl (Ap rfl (z:=1) (j:=i) (r:=i) (by kernel_rfl) rfl rfl rfl (by omega) hka (by omega)) (Az rfl rfl rfl (AC rfl rfl (by kernel_rfl) (fun _ hx'=>(hx'.rd 1 rfl hA).at (j:=i) (u:= .int .i64 x) (by simp[hx]))) (B9 3 [2,0] (fun _ hx=>(AG (hx.blk 0 rfl) Ak)) rfl (by kernel_rfl) rfl (Az rfl rfl rfl (Ap rfl (z:=1) (j:=i) (r:=i) (by kernel_rfl) rfl rfl rfl (by omega) hva (by omega)) (Az rfl rfl rfl (AC rfl rfl (by kernel_rfl) (fun _ hx'=>(hx'.rd 2 rfl hB).at (j:=i) (u:= .int .i64 y) (by simp[hy]))) (Cg rfl rfl rfl rfl rfl (fun w=>call130 _ w) (v:= .bool (decide ((0≤x∧x<1048576)∧1≤y∧y<1024))) (cq (N9 _ _) (by rintro _ _ ⟨rfl,rfl⟩;exact ⟨rfl,rfl⟩) 0 [] [] rfl rfl rfl rfl) (A6 1 [] rfl (by kernel_rfl) (Bi (fun w H'=> ?_))))))))));have H:=H'.l3;clear H';refine gn (Zc 2 rfl (Ba (Sep z _) (by kernel_rfl) (by kernel_rfl) H.drew (A6 1 [] rfl (by kernel_rfl) (Az rfl rfl rfl (AS rfl rfl) (A6 1 [] rfl (by kernel_rfl) (BX 49 rfl (fun h10=> ?_) (fun h10=> ?_)))))))
     ·(exfalso;omega)
     ·refine A6 3 [] rfl (by kernel_rfl) (BX 52 rfl (fun h11=> ?_) (fun h11=> ?_))
      ·obtain ⟨x0,hx0⟩:∃ x0,ks[i - 1]? =some x0:=⟨_,List.getElem?_eq_getElem (by omega)⟩;have hx0x:=hck.s (i - 1) x0 x hx0 (by rw[show i - 1+1=i by omega];exact hx)
       refine B9 3 [1,0] (fun _ hx=>(AG (hx.blk 0 rfl) Ak)) rfl (by kernel_rfl) rfl (Az rfl rfl rfl (Ap rfl (z:=1) (j:=i) (r:=i) (by kernel_rfl) rfl rfl rfl (by omega) hka (by omega)) (Az rfl rfl rfl (AC rfl rfl (by kernel_rfl) (fun _ hx'=>(hx'.rd 1 rfl hA).at (j:=i) (u:= .int .i64 x) (by simp[hx]))) (B9 3 [1,0] (fun _ hx=>(AG (hx.blk 0 rfl) Ak)) rfl (by kernel_rfl) rfl (Az rfl rfl rfl (BM rfl rfl rfl (r:=(i:Int) - 1) (by omega) (by omega)) (Az rfl rfl rfl (Ap rfl (z:=1) (j:=(i - 1)) (r:=(i - 1)) (by kernel_rfl) rfl rfl (by omega) (by omega) hka (by omega)) (Az rfl rfl rfl (AC rfl rfl (by kernel_rfl) (fun _ hx'=>(hx'.rd 1 rfl hA).at (j:=i - 1) (u:= .int .i64 x0) (by simp[hx0]))) (A6 3 [] rfl (by kernel_rfl) (Bi (fun w H'=> ?_)))))))));have H:=H'.l3;clear H';refine gn (Zc 1 rfl (Af rfl (fun h12=> ?_) (fun h12=> ?_)))
       ·(exfalso;omega)
       ·refine Z1 8 [] [(i:Int)+1] rfl (by omega) (gf ?_);intro _ hF;refine ⟨(i+1),(hF.co rfl (by go_num) (hF.all rfl)),⟨H,?_⟩,?_⟩
        ·omega
        ·omega
      ·refine A6 14 [] rfl (by kernel_rfl) (Bi (fun w H'=> ?_));have H:=H'.l3;clear H';refine gn (Z1 10 [] [(i:Int)+1] rfl (by omega) (gf ?_));intro _ hF;refine ⟨(i+1),(hF.co rfl (by go_num) (hF.all rfl)),⟨H,?_⟩,?_⟩
       ·omega
       ·omega
    ·refine Zc 2 rfl (gx (Zc 8 rfl (Zr rfl ?_)));exact ⟨_,⟨rfl,rfl⟩,H.perm 3 [1,2] rfl rfl⟩
set_option maxHeartbeats 2000000 in
theorem XI (pp mb n:Nat) (o:TB) (ra:Nat) (rt:Bool) (lo hi:Int) (m:Nat) (L l:List E) (dp:Nat) (u:Value) (hT:Tr o.N 0 ra lo hi m L) (hm:(if rt then (if 0=0 then 1 else 2) else 4)≤m) (hdp:dp+0≤8) (hll:l.length+L.length≤1048576):Cn prog 42 [.pointer (some ⟨pp,0,none⟩),.int .i64 (ra:Int),.bool rt,.int .i64 lo,.int .i64 hi,.int .i64 (dp:Int),u] [trA Tb pp mb n o none,grow 87 2 u l.length (Bj l)] (fun v Γ=>∃ u2:Value,v= .tuple #[.int .i64 (((0:Nat):Int)+1),u2]∧Γ=[trA Tb pp mb n o none,grow 87 2 u2 (l++L).length (Bj (l++L))]):=by
 intro z R w H;replace H:=H.l2;have su:=H.says 1 rfl (fun h q=>q.slc)
 have K:=H.says 0 rfl (fun h a=>trA.k a)
 have hn:=K.hn
 obtain ⟨es,hN,hme,hrg,hok,hLe,hdt⟩:=hT;obtain rfl:es=L:=hLe.symm;have hck:CkN true (kL es) (vL es):=K.i.vok (by omega) hn.2 hN
 have hes8:es.length≤8:=hok.len
 have hr1:rt=true→1≤es.length:=fun q=>by rw[if_pos q,if_pos rfl] at hm;omega
 have hr4:rt=false→4≤es.length:=fun q=>by rw[if_neg (by rw[q];decide)] at hm;omega
 refine Ad func42 rfl ntmps42 rfl (Zc 10 rfl (z_C rfl (call24 _) (Gw pp mb n o none ra true es hN) H ?_));rintro _ w _ ⟨nk,nv,rfl,rfl⟩ H;replace H:=H.l4;have snk:=H.says 0 rfl (fun h q=>q.slc)
 obtain ⟨ka,kc,rfl⟩:=snk;have snv:=H.says 1 rfl (fun h q=>q.slc)
 obtain ⟨va,vc,rfl⟩:=snv;refine Za 3 [] H rfl ?_;intro b1 w H;refine Z4 7 [0,0,3] H rfl ?_;intro w H;refine z_C rfl (call85 _) (QC _ _ _ (kL es) (vL es) _ _ (fun h q=>q.rd) (fun h q=>q.rd) hck) H.f2.f2 ?_;rintro _ w _ ⟨rfl,rfl⟩ H;refine Z0 18 [4,0] rfl (Af rfl (fun h1=> ?_) (fun h1=> ?_))
 ·(exfalso;omega)
 ·refine Zc 7 rfl (GJ (fun a w=>∃ (ls:Int),Fr 140 [] [(19,.int .i64 ls),(0,.pointer (some ⟨pp,0,none⟩)),(1,.int .i64 (ra:Int)),(2,.bool rt),(3,.int .i64 lo),(4,.int .i64 hi),(5,.int .i64 (dp:Int)),(6,u),(14,.int .i64 0),(15,.slice none 0 0),(16,.pointer (some ⟨b1,0,none⟩)),(17,.int .i64 0),(18,.bool true),(24,.tuple #[.agg #[.bool true,.slice ka ((kL es).length) kc,.slice va ((vL es).length) vc],.int .i64 0]),(25,.pointer (some ⟨pp,0,none⟩)),(26,.int .i64 (ra:Int)),(27,.tuple #[.agg #[.bool true,.slice ka ((kL es).length) kc,.slice va ((vL es).length) vc],.int .i64 0]),(28,.agg #[.bool true,.slice ka ((kL es).length) kc,.slice va ((vL es).length) vc]),(29,.int .i64 0),(30,.agg #[.bool true,.slice ka ((kL es).length) kc,.slice va ((vL es).length) vc]),(31,.bool true),(32,.int .i64 0),(33,.bool false),(34,.bool false),(35,.bool true),(36,.bool false),(37,.bool false),(38,.bool false),(39,.int .i64 (dp:Int)),(40,.bool (decide ((8:Int)<(dp:Int)))),(41,.bool (decide ((8:Int)<(dp:Int))))] a∧Sep z (grow 3 1 (.slice ka ((kL es).length) kc) ((kL es).length) ((kL es).map (Value.int .i64))::grow 3 1 (.slice va ((vL es).length) vc) ((vL es).length) ((vL es).map (Value.int .i64))::blk b1 [.bool true,.slice ka ((kL es).length) kc,.slice va ((vL es).length) vc] 54::trA Tb pp mb n o none::grow 87 2 u l.length (Bj l)::R) w∧(ls≤(es.length:Int))) ?_ ?_)
  ·refine Zc 5 rfl (Eu rfl (fun h2=> ?_) (fun h2=> ?_))
   ·refine Z2 15 [0,2,0] H rfl ?_;exact gf fun _ hF=>⟨1,(hF.all rfl),H,(by first|(have q:=hr1 (by assumption);omega)|(have q:=hr4 (by assumption);omega))⟩
   ·refine Zc 1 rfl ?_;exact gf fun _ hF=>⟨4,(hF.all rfl),H,(by first|(have q:=hr1 (by assumption);omega)|(have q:=hr4 (by assumption);omega))⟩
  rintro a w ⟨ls,hF,H,hI⟩;revert a;refine Z2 10 [1,2,0,0] H rfl (Af rfl (fun h3=> ?_) (fun h3=> ?_))
  ·(exfalso;simp only[List.length_map] at *;omega)
  ·refine Zc 14 rfl ?_;refine AM (σ:=Nat×Value) (fun ⟨i,u⟩=>[(21,.int .i64 (i:Int)),(20,.int .i64 0),(6,u),(0,.pointer (some ⟨pp,0,none⟩)),(3,.int .i64 lo),(4,.int .i64 hi),(5,.int .i64 (dp:Int)),(16,.pointer (some ⟨b1,0,none⟩))])
     (fun ⟨i,u⟩ w=>Sep z (grow 3 1 (.slice ka ((kL es).length) kc) ((kL es).length) ((kL es).map (Value.int .i64))::grow 3 1 (.slice va ((vL es).length) vc) ((vL es).length) ((vL es).map (Value.int .i64))::blk b1 [.bool true,.slice ka ((kL es).length) kc,.slice va ((vL es).length) vc] 54::trA Tb pp mb n o none::grow 87 2 u ((l++es.take i).length) (Bj (l++es.take i))::R) w∧(i≤es.length)) (fun ⟨i,u⟩=>es.length - i) ⟨0,u⟩
     (fun _ hF=>(hF.co rfl (by go_num) (hF.all rfl))) ⟨(by simpa using H),Nat.zero_le _⟩ ?_
   clear H;rintro ⟨i,u⟩ w ⟨H',hI⟩;dsimp only at hI H' ⊢
   have H:=H'.l5;clear H';have su:=H.says 4 rfl (fun h q=>q.slc)
   have hil0:=hI;clear hI
   have hkl:(kL es).length=es.length:=by simp
   have hvl:(vL es).length=es.length:=by simp
   refine Z2 10 [1,2,0,0] H rfl (Af rfl (fun h4=> ?_) (fun h4=> ?_))
   ·refine Zc 6 rfl ?_;have hil:i<es.length:=by simp only[List.length_map] at *;omega
    obtain ⟨e,he⟩:∃ e,es[i]? =some e:=⟨_,List.getElem?_eq_getElem hil⟩;have hem:=List.mem_of_getElem? he
    have her:=hrg e hem
    have hka:=(H.rd 0 rfl (fun h q=>q.rd)).at (j:=i) (u:= .int .i64 e.1) (by simp[kL,he])
    have hva:=(H.rd 1 rfl (fun h q=>q.rd)).at (j:=i) (u:= .int .i64 (e.2:Int)) (by simp[vL,he])
    refine Z2 4 [1,2,0] H rfl (Ab rfl (Ap rfl (z:=1) (j:=i) (r:=i) (by kernel_rfl) rfl rfl rfl (by omega) hka (by omega)) (Ab rfl (AC rfl rfl (by kernel_rfl) (Ay hka)) (Z0 3 [0] rfl (Al 66 rfl (fun h5=> ?_) (fun h5=> ?_)))))
    ·(exfalso;omega)
    ·refine Z2 3 [1,2,0] H rfl (Ab rfl (Ap rfl (z:=1) (j:=i) (r:=i) (by kernel_rfl) rfl rfl rfl (by omega) hka (by omega)) (Ab rfl (AC rfl rfl (by kernel_rfl) (Ay hka)) (Z0 5 [0] rfl (Af rfl (fun h6=> ?_) (fun h6=> ?_)))))
     ·(exfalso;omega)
     ·refine Z2 11 [0,2,0] H rfl ?_;replace H:=H.f1.f1.f2;refine AN (Sep z (blk b1 [.bool true,.slice ka ((kL es).length) kc,.slice va ((vL es).length) vc] 54::grow 3 1 (.slice ka ((kL es).length) kc) ((kL es).length) ((kL es).map (Value.int .i64))::grow 3 1 (.slice va ((vL es).length) vc) ((vL es).length) ((vL es).map (Value.int .i64))::R)) 15 rfl (by kernel_rfl) (fun w' x' _=> ?_);have H':=H.ext0 x';clear x' H;revert H';generalize w'=w;intro H'
      have H:=H'.l5;clear H';refine AO [0,1,2,3] [1,0] (fun _ hx=>(AG (hx.blk 0 rfl) Ak)) (by exact (H.pick 5 [0,1,2] rfl)) rfl (by kernel_rfl) rfl rfl (AL 4 rfl (by kernel_rfl) (by kernel_rfl) (by kernel_rfl) rfl rfl rfl (Ap rfl (z:=1) (j:=i) (r:=i) (by kernel_rfl) rfl rfl rfl (by omega) hka (by omega)) (H.pick 5 [0,1,2] rfl) (AL 5 rfl (by kernel_rfl) (by kernel_rfl) (by kernel_rfl) rfl rfl rfl (AC rfl rfl (by kernel_rfl) (fun _ hx'=>(hx'.rd 1 rfl (fun h q=>q.rd)).at (j:=i) (u:= .int .i64 e.1) (by simp[kL,he]))) (H.pick 5 [0,1,2] rfl) (AO [6,7,8] [2,0] (fun _ hx=>(AG (hx.blk 0 rfl) Ak)) (by exact (H.pick 5 [0,1,2] rfl)) rfl (by kernel_rfl) rfl rfl (AL 9 rfl (by kernel_rfl) (by kernel_rfl) (by kernel_rfl) rfl rfl rfl (Ap rfl (z:=1) (j:=i) (r:=i) (by kernel_rfl) rfl rfl rfl (by omega) hva (by omega)) (H.pick 5 [0,1,2] rfl) (AL 10 rfl (by kernel_rfl) (by kernel_rfl) (by kernel_rfl) rfl rfl rfl (AC rfl rfl (by kernel_rfl) (fun _ hx'=>(hx'.rd 2 rfl (fun h q=>q.rd)).at (j:=i) (u:= .int .i64 (e.2:Int)) (by simp[vL,he]))) (H.pick 5 [0,1,2] rfl) (AL 11 rfl (by kernel_rfl) (by kernel_rfl) (by kernel_rfl) rfl rfl rfl (Aq rfl rfl (out:=[.int .i64 e.1,.int .i64 (e.2:Int)]) (by kernel_rfl)) (H.pick 5 [0,1,2] rfl) (AE [12] (by kernel_rfl) (by simp) (AB (B6 rfl rfl rfl rfl (AP H rfl (by kernel_rfl) (Elt.mk (P:=prog) (e:=87) (z:= .agg #[.int .i64 0,.int .i64 0]) (sz:=2) (by_:=16) (by kernel_rfl) rfl (by omega) (by omega)) rfl (by decide) (by decide) (out:=[.int .i64 e.1,.int .i64 (e.2:Int)]) (by kernel_rfl)) ?_)))))))))
      rintro _ w ⟨b2,rfl,H⟩;replace H:=H.l6;refine Av (H.pick 6 [1,2,3] rfl) (AE [13] (by kernel_rfl) (by simp) (AB (B6 rfl rfl rfl rfl (A8 5 H rfl rfl (by kernel_rfl) (Elt.mk (P:=prog) (e:=87) (z:= .agg #[.int .i64 0,.int .i64 0]) (sz:=2) (by_:=16) (by kernel_rfl) rfl (by omega) (by omega)) rfl rfl (H.rd 0 rfl (fun h q=>q.rd (by omega) (by omega) (by simp) rfl)) (by simp[Value.oneCell']) (by simp only[List.length_append,List.length_take];omega)) ?_)));rintro v3 w H';have H':Sep z (blk b2 [.int .i64 e.1,.int .i64 (e.2:Int)] 87::blk b1 [.bool true,.slice ka ((kL es).length) kc,.slice va ((vL es).length) vc] 54::grow 3 1 (.slice ka ((kL es).length) kc) ((kL es).length) ((kL es).map (Value.int .i64))::grow 3 1 (.slice va ((vL es).length) vc) ((vL es).length) ((vL es).map (Value.int .i64))::trA Tb pp mb n o none::grow 87 2 v3 ((l++es.take i).length+1) (Bj (l++es.take i)++[.int .i64 e.1,.int .i64 (e.2:Int)])::R) w:=H'
      have ev3:(Bj (l++es.take i)++[.int .i64 e.1,.int .i64 (e.2:Int)]:List Value)=Bj (l++es.take (i+1)):=(by rw[N7 l he];exact (HY _ [e]).symm)
      rw[ev3] at H';rw[show ((l++es.take i).length+1:Nat)=(l++es.take (i+1)).length from (by rw[N7 l he];exact (List.length_append (bs:=[e])).symm)] at H';have H:=H'.l6;clear H';have sv3:=H.says 5 rfl (fun h q=>q.slc)
      refine Av (H.pick 6 [1,2,3] rfl) (AO [14] [] (fun _ _=>Ak) (by exact (H.pick 6 [1,2,3] rfl)) rfl (by kernel_rfl) rfl rfl (a_done (by kernel_rfl) (gn (Z1 10 [] [(i:Int)+1] rfl (by omega) ?_))));replace H:=H.d.f4.f4.f2.f4.f4;refine gf ?_;intro _ hF;refine ⟨⟨i+1,v3⟩,(hF.co rfl (by go_num) (hF.all rfl)),⟨H,?_⟩,?_⟩
      ·show i+1≤es.length;omega
      ·(dsimp only;omega)
   ·refine Zc 2 rfl (gx (Z1 12 [] [1] rfl (by omega) (Zr rfl ?_)));obtain rfl:i=es.length:=by simp only[List.length_map] at *;omega
    rw[List.take_length] at H;exact ⟨_,⟨u,rfl,rfl⟩,H.pick 5 [3,4] rfl⟩
set_option maxHeartbeats 2000000 in
theorem XJ (pp mb n:Nat) (o:TB) (h:Nat) (ih:∀ (ra:Nat) (rt:Bool) (lo hi:Int) (m:Nat) (L l:List E) (dp:Nat) (u:Value),Tr o.N h ra lo hi m L→(if rt then (if h=0 then 1 else 2) else 4)≤m→dp+h≤8→l.length+L.length≤1048576→Cn prog 42 [.pointer (some ⟨pp,0,none⟩),.int .i64 (ra:Int),.bool rt,.int .i64 lo,.int .i64 hi,.int .i64 (dp:Int),u] [trA Tb pp mb n o none,grow 87 2 u l.length (Bj l)] (fun v Γ=>∃ u2:Value,v= .tuple #[.int .i64 (((h:Nat):Int)+1),u2]∧Γ=[trA Tb pp mb n o none,grow 87 2 u2 (l++L).length (Bj (l++L))])) (ra:Nat) (rt:Bool) (lo hi:Int) (m:Nat) (L l:List E) (dp:Nat) (u:Value) (hT:Tr o.N (h+1) ra lo hi m L) (hm:(if rt then (if (h+1)=0 then 1 else 2) else 4)≤m) (hdp:dp+(h+1)≤8) (hll:l.length+L.length≤1048576):Cn prog 42 [.pointer (some ⟨pp,0,none⟩),.int .i64 (ra:Int),.bool rt,.int .i64 lo,.int .i64 hi,.int .i64 (dp:Int),u] [trA Tb pp mb n o none,grow 87 2 u l.length (Bj l)] (fun v Γ=>∃ u2:Value,v= .tuple #[.int .i64 (((h+1:Nat):Int)+1),u2]∧Γ=[trA Tb pp mb n o none,grow 87 2 u2 (l++L).length (Bj (l++L))]):=by
 intro z R w H;replace H:=H.l2;have su:=H.says 1 rfl (fun h q=>q.slc)
 have K:=H.says 0 rfl (fun h a=>trA.k a)
 have hn:=K.hn
 obtain ⟨es,hN,hme,hrg,hok,hsq⟩:=hT;have hck:CkN false (kL es) (vL es):=K.i.vok (by omega) hn.2 hN
 have hes8:es.length≤8:=hok.len
 have hr1:rt=true→2≤es.length:=fun q=>by rw[if_pos q,if_neg (by omega)] at hm;omega
 have hr4:rt=false→4≤es.length:=fun q=>by rw[if_neg (by rw[q];decide)] at hm;omega
 have hpos:0<es.length:=by rcases Bool.eq_false_or_eq_true rt with q|q;have:=hr1 q;omega;have:=hr4 q;omega
 refine Ad func42 rfl ntmps42 rfl (Zc 10 rfl (z_C rfl (call24 _) (Gw pp mb n o none ra false es hN) H ?_));rintro _ w _ ⟨nk,nv,rfl,rfl⟩ H;replace H:=H.l4;have snk:=H.says 0 rfl (fun h q=>q.slc)
 obtain ⟨ka,kc,rfl⟩:=snk;have snv:=H.says 1 rfl (fun h q=>q.slc)
 obtain ⟨va,vc,rfl⟩:=snv;refine Za 3 [] H rfl ?_;intro b1 w H;refine Z4 7 [0,0,3] H rfl ?_;intro w H;refine z_C rfl (call85 _) (QC _ _ _ (kL es) (vL es) _ _ (fun h q=>q.rd) (fun h q=>q.rd) hck) H.f2.f2 ?_;rintro _ w _ ⟨rfl,rfl⟩ H;refine Z0 18 [4,0] rfl (Af rfl (fun h1=> ?_) (fun h1=> ?_))
 ·(exfalso;omega)
 ·refine Zc 7 rfl (GJ (fun a w=>∃ (ls:Int),Fr 140 [] [(19,.int .i64 ls),(0,.pointer (some ⟨pp,0,none⟩)),(1,.int .i64 (ra:Int)),(2,.bool rt),(3,.int .i64 lo),(4,.int .i64 hi),(5,.int .i64 (dp:Int)),(6,u),(14,.int .i64 0),(15,.slice none 0 0),(16,.pointer (some ⟨b1,0,none⟩)),(17,.int .i64 0),(18,.bool true),(24,.tuple #[.agg #[.bool false,.slice ka ((kL es).length) kc,.slice va ((vL es).length) vc],.int .i64 0]),(25,.pointer (some ⟨pp,0,none⟩)),(26,.int .i64 (ra:Int)),(27,.tuple #[.agg #[.bool false,.slice ka ((kL es).length) kc,.slice va ((vL es).length) vc],.int .i64 0]),(28,.agg #[.bool false,.slice ka ((kL es).length) kc,.slice va ((vL es).length) vc]),(29,.int .i64 0),(30,.agg #[.bool false,.slice ka ((kL es).length) kc,.slice va ((vL es).length) vc]),(31,.bool true),(32,.int .i64 0),(33,.bool false),(34,.bool false),(35,.bool true),(36,.bool false),(37,.bool false),(38,.bool false),(39,.int .i64 (dp:Int)),(40,.bool (decide ((8:Int)<(dp:Int)))),(41,.bool (decide ((8:Int)<(dp:Int))))] a∧Sep z (grow 3 1 (.slice ka ((kL es).length) kc) ((kL es).length) ((kL es).map (Value.int .i64))::grow 3 1 (.slice va ((vL es).length) vc) ((vL es).length) ((vL es).map (Value.int .i64))::blk b1 [.bool false,.slice ka ((kL es).length) kc,.slice va ((vL es).length) vc] 54::trA Tb pp mb n o none::grow 87 2 u l.length (Bj l)::R) w∧(ls≤(es.length:Int))) ?_ ?_)
  ·refine Zc 5 rfl (Eu rfl (fun h2=> ?_) (fun h2=> ?_))
   ·refine Z2 13 [0,2,0] H rfl ?_;exact gf fun _ hF=>⟨2,(hF.all rfl),H,(by first|(have q:=hr1 (by assumption);omega)|(have q:=hr4 (by assumption);omega))⟩
   ·refine Zc 1 rfl ?_;exact gf fun _ hF=>⟨4,(hF.all rfl),H,(by first|(have q:=hr1 (by assumption);omega)|(have q:=hr4 (by assumption);omega))⟩
  rintro a w ⟨ls,hF,H,hI⟩;revert a;refine Z2 10 [1,2,0,0] H rfl (Af rfl (fun h3=> ?_) (fun h3=> ?_))
  ·(exfalso;simp only[List.length_map] at *;omega)
  ·refine Zc 14 rfl ?_;refine AM (σ:=Nat×Value×List E×List E) (fun ⟨i,u,L0,L2⟩=>[(21,.int .i64 (i:Int)),(20,.int .i64 (if i=0 then 0 else (h:Int)+1)),(6,u),(0,.pointer (some ⟨pp,0,none⟩)),(3,.int .i64 lo),(4,.int .i64 hi),(5,.int .i64 (dp:Int)),(16,.pointer (some ⟨b1,0,none⟩))])
     (fun ⟨i,u,L0,L2⟩ w=>Sep z (grow 3 1 (.slice ka ((kL es).length) kc) ((kL es).length) ((kL es).map (Value.int .i64))::grow 3 1 (.slice va ((vL es).length) vc) ((vL es).length) ((vL es).map (Value.int .i64))::blk b1 [.bool false,.slice ka ((kL es).length) kc,.slice va ((vL es).length) vc] 54::trA Tb pp mb n o none::grow 87 2 u ((l++L0).length) (Bj (l++L0))::R) w∧(i≤es.length∧L=L0++L2∧Sq (fun c a b L=>Tr o.N h c a b 4 L) (es.drop i) hi L2)) (fun ⟨i,u,L0,L2⟩=>es.length - i) ⟨0,u,[],L⟩
     (fun _ hF=>(hF.co rfl (by go_num) (hF.co rfl (congrArg (Value.int .i64) (by simp)) (hF.all rfl)))) ⟨(by simpa using H),⟨Nat.zero_le _,rfl,hsq⟩⟩ ?_
   clear H;rintro ⟨i,u,L0,L2⟩ w ⟨H',hI⟩;dsimp only at hI H' ⊢
   have H:=H'.l5;clear H';have su:=H.says 4 rfl (fun h q=>q.slc)
   obtain ⟨hil0,hLe,hsi⟩:=hI;have hkl:(kL es).length=es.length:=by simp
   have hvl:(vL es).length=es.length:=by simp
   refine Z2 10 [1,2,0,0] H rfl (Af rfl (fun h4=> ?_) (fun h4=> ?_))
   ·refine Zc 6 rfl ?_;have hil:i<es.length:=by simp only[List.length_map] at *;omega
    obtain ⟨e,he⟩:∃ e,es[i]? =some e:=⟨_,List.getElem?_eq_getElem hil⟩;have hem:=List.mem_of_getElem? he
    have her:=hrg e hem
    have hka:=(H.rd 0 rfl (fun h q=>q.rd)).at (j:=i) (u:= .int .i64 e.1) (by simp[kL,he])
    have hva:=(H.rd 1 rfl (fun h q=>q.rd)).at (j:=i) (u:= .int .i64 (e.2:Int)) (by simp[vL,he])
    obtain ⟨Lc,L3,hL2,hTc,hs3⟩:=Ym he hsi;refine Z2 4 [1,2,0] H rfl (Ab rfl (Ap rfl (z:=1) (j:=i) (r:=i) (by kernel_rfl) rfl rfl rfl (by omega) hka (by omega)) (Ab rfl (AC rfl rfl (by kernel_rfl) (Ay hka)) (Z0 3 [0] rfl (Al 66 rfl (fun h5=> ?_) (fun h5=> ?_)))))
    ·(exfalso;omega)
    ·refine Z2 3 [1,2,0] H rfl (Ab rfl (Ap rfl (z:=1) (j:=i) (r:=i) (by kernel_rfl) rfl rfl rfl (by omega) hka (by omega)) (Ab rfl (AC rfl rfl (by kernel_rfl) (Ay hka)) (Z0 5 [0] rfl (Af rfl (fun h6=> ?_) (fun h6=> ?_)))))
     ·(exfalso;omega)
     ·refine Z2 18 [0,2,0] H rfl (GJ (fun a w=>Fr 140 [] [(22,.int .i64 (nx (es.drop (i+1)) hi)),(0,.pointer (some ⟨pp,0,none⟩)),(3,.int .i64 lo),(4,.int .i64 hi),(5,.int .i64 (dp:Int)),(6,u),(16,.pointer (some ⟨b1,0,none⟩)),(20,.int .i64 (if i=0 then 0 else (h:Int)+1)),(21,.int .i64 (i:Int)),(52,.int .i64 (i:Int)),(53,.pointer (some ⟨b1,1,none⟩)),(54,.slice ka ((kL es).length) kc),(55,.int .i64 (((kL es).length:Nat):Int)),(56,.bool (decide ((i:Int)<(((kL es).length:Nat):Int)))),(59,.pointer (some ⟨b1,1,none⟩)),(60,.slice ka ((kL es).length) kc),(61,.int .i64 (i:Int)),(62,F2 ka i),(63,.int .i64 e.1),(64,.int .i64 lo),(65,.bool (decide ((e.1:Int)<lo))),(66,.bool false),(67,.pointer (some ⟨b1,1,none⟩)),(68,.slice ka ((kL es).length) kc),(69,.int .i64 (i:Int)),(70,F2 ka i),(71,.int .i64 e.1),(72,.int .i64 hi),(73,.bool (decide ((hi:Int)≤e.1))),(74,.bool (decide ((hi:Int)≤e.1))),(76,.pointer (some ⟨b1,0,none⟩)),(77,.bool false),(92,.int .i64 hi)] a∧Sep z (grow 3 1 (.slice ka ((kL es).length) kc) ((kL es).length) ((kL es).map (Value.int .i64))::grow 3 1 (.slice va ((vL es).length) vc) ((vL es).length) ((vL es).map (Value.int .i64))::blk b1 [.bool false,.slice ka ((kL es).length) kc,.slice va ((vL es).length) vc] 54::trA Tb pp mb n o none::grow 87 2 u ((l++L0).length) (Bj (l++L0))::R) w) ?_ ?_)
      ·refine Z3 10 [1,2,0,0] [(i:Int)+1] H rfl (by omega) (Af rfl (fun h7=> ?_) (fun h7=> ?_))
       ·have hnx:=(H.rd 0 rfl (fun h q=>q.rd)).at (j:=i+1) (u:= .int .i64 (nx (es.drop (i+1)) hi)) (Yn hi (by omega))
        refine Z3 5 [1,2,0] [(i:Int)+1] H rfl (by omega) (Ab rfl (Ap rfl (z:=1) (j:=(i+1)) (r:=(i+1)) (by kernel_rfl) rfl rfl (by omega) (by omega) hka (by omega)) (Ab rfl (AC rfl rfl (by kernel_rfl) (Ay hnx)) (Zc 2 rfl ?_)));exact gf fun _ hF=>⟨(hF.all rfl),H⟩
       ·refine Zc 1 rfl ?_;exact gf fun _ hF=>⟨(hF.co rfl (congrArg (Value.int .i64) (by rw[List.drop_of_length_le (by omega)];rfl)) (hF.all rfl)),H⟩
      rintro a w ⟨hF,H⟩;revert a;refine Zc 6 rfl ?_;replace H:=H.f1.f1.f2;refine AN (Sep z (blk b1 [.bool false,.slice ka ((kL es).length) kc,.slice va ((vL es).length) vc] 54::grow 3 1 (.slice ka ((kL es).length) kc) ((kL es).length) ((kL es).map (Value.int .i64))::grow 3 1 (.slice va ((vL es).length) vc) ((vL es).length) ((vL es).map (Value.int .i64))::R)) 21 rfl (by kernel_rfl) (fun w' x' _=> ?_);have H':=H.ext0 x';clear x' H;revert H';generalize w'=w;intro H'
      have H:=H'.l5;clear H';refine AO [0,1,2,3] [2,0] (fun _ hx=>(AG (hx.blk 0 rfl) Ak)) (by exact (H.pick 5 [0,1,2] rfl)) rfl (by kernel_rfl) rfl rfl (AL 4 rfl (by kernel_rfl) (by kernel_rfl) (by kernel_rfl) rfl rfl rfl (Ap rfl (z:=1) (j:=i) (r:=i) (by kernel_rfl) rfl rfl rfl (by omega) hva (by omega)) (H.pick 5 [0,1,2] rfl) (AL 5 rfl (by kernel_rfl) (by kernel_rfl) (by kernel_rfl) rfl rfl rfl (AC rfl rfl (by kernel_rfl) (fun _ hx'=>(hx'.rd 2 rfl (fun h q=>q.rd)).at (j:=i) (u:= .int .i64 (e.2:Int)) (by simp[vL,he]))) (H.pick 5 [0,1,2] rfl) (AO [6,7,8] [1,0] (fun _ hx=>(AG (hx.blk 0 rfl) Ak)) (by exact (H.pick 5 [0,1,2] rfl)) rfl (by kernel_rfl) rfl rfl (AL 9 rfl (by kernel_rfl) (by kernel_rfl) (by kernel_rfl) rfl rfl rfl (Ap rfl (z:=1) (j:=i) (r:=i) (by kernel_rfl) rfl rfl rfl (by omega) hka (by omega)) (H.pick 5 [0,1,2] rfl) (AL 10 rfl (by kernel_rfl) (by kernel_rfl) (by kernel_rfl) rfl rfl rfl (AC rfl rfl (by kernel_rfl) (fun _ hx'=>(hx'.rd 1 rfl (fun h q=>q.rd)).at (j:=i) (u:= .int .i64 e.1) (by simp[kL,he]))) (H.pick 5 [0,1,2] rfl) (AO [11,12] [] (fun _ _=>Ak) (by exact (H.pick 5 [0,1,2] rfl)) rfl (by kernel_rfl) rfl rfl (AL 13 rfl (by kernel_rfl) (by kernel_rfl) (by kernel_rfl) rfl rfl rfl (BF rfl rfl rfl (r:=(dp:Int)+1) (by omega) (by omega)) (H.pick 5 [0,1,2] rfl) (AD 119 (v:= .int .i64 ((dp+1:Nat):Int)) rfl (congrArg (Value.int .i64) (by omega)) (AO [14] [] (fun _ _=>Ak) (by exact (H.pick 5 [0,1,2] rfl)) rfl (by kernel_rfl) rfl rfl (AE [15] (by kernel_rfl) (by simp) (AB (BN rfl rfl rfl rfl rfl rfl (fun w=>call42 _ w) (ih e.2 false e.1 (nx (es.drop (i+1)) hi) 4 Lc (l++L0) (dp+1) u hTc (Nat.le_refl _) (by omega) (by rw[hLe,hL2] at hll;simp only[List.length_append] at hll ⊢;omega)) H.f4.f4 rfl ?_))))))))))))
      rintro _ w _ ⟨u2,rfl,rfl⟩ H;replace H:=H.l5;have su2:=H.says 1 rfl (fun h q=>q.slc)
      refine Av (H.pick 5 [2,3,4] rfl) (AO [16,17,18,19,20] [] (fun _ _=>Ak) (by exact (H.pick 5 [2,3,4] rfl)) rfl (by kernel_rfl) rfl rfl (a_done (by kernel_rfl) (gn (Z0 7 [0] rfl (Al 126 rfl (fun h8=> ?_) (fun h8=> ?_))))))
      ·(exfalso;omega)
      ·refine Z0 3 [0] rfl (Al 129 rfl (fun h9=> ?_) (fun h9=> ?_))
       ·refine Z0 7 [0] rfl (Af rfl (fun h10=> ?_) (fun h10=> ?_))
        ·(exfalso;apply h10;rw[if_neg (by omega)])
        ·refine Z1 13 [] [(i:Int)+1] rfl (by omega) ?_;replace H:=H.f1.f1.f2.f4.f4;refine gf ?_;intro _ hF;refine ⟨⟨i+1,u2,L0++Lc,L3⟩,(hF.co rfl (by go_num) (hF.co rfl (congrArg (Value.int .i64) (by rw[if_neg (by omega)])) (hF.all rfl))),⟨(by rw[←List.append_assoc];exact H),?_⟩,?_⟩
         ·exact ⟨by show i+1≤es.length;omega,by show L=L0++Lc++L3;rw[hLe,hL2,List.append_assoc],hs3⟩
         ·(dsimp only;omega)
       ·refine Z1 21 [] [(i:Int)+1] rfl (by omega) ?_;replace H:=H.f1.f1.f2.f4.f4;refine gf ?_;intro _ hF;refine ⟨⟨i+1,u2,L0++Lc,L3⟩,(hF.co rfl (by go_num) (hF.co rfl (congrArg (Value.int .i64) (by rw[if_neg (by omega)])) (hF.all rfl))),⟨(by rw[←List.append_assoc];exact H),?_⟩,?_⟩
        ·exact ⟨by show i+1≤es.length;omega,by show L=L0++Lc++L3;rw[hLe,hL2,List.append_assoc],hs3⟩
        ·(dsimp only;omega)
   ·refine Zc 2 rfl (gx (Zc 3 rfl ?_));obtain rfl:i=es.length:=by omega
    rw[List.drop_length] at hsi;have hL2:L2=[]:=hsi
    rw[hL2,List.append_nil] at hLe;rw[←hLe] at H;refine AD 20 (v:= .int .i64 ((h:Int)+1)) rfl (congrArg (Value.int .i64) (by rw[if_neg (by omega)])) (Z1 9 [] [(h:Int)+2] rfl (by omega) (Zr rfl ?_));exact ⟨_,⟨u,congrArg (fun q:Int=>Value.tuple #[.int .i64 q,u]) (by omega),rfl⟩,H.pick 5 [3,4] rfl⟩
end
section
open Go.RowKit
variable {Tb:Ae}
theorem Yo (pp mb n:Nat) (o:TB) (h:Nat):∀ (ra:Nat) (rt:Bool) (lo hi:Int) (m:Nat) (L l:List E) (dp:Nat) (u:Value),Tr o.N h ra lo hi m L→(if rt then (if h=0 then 1 else 2) else 4)≤m→dp+h≤8→l.length+L.length≤1048576→Cn prog 42 [.pointer (some ⟨pp,0,none⟩),.int .i64 (ra:Int),.bool rt,.int .i64 lo,.int .i64 hi,.int .i64 (dp:Int),u] [trA Tb pp mb n o none,grow 87 2 u l.length (Bj l)] (fun v Γ=>∃ u2:Value,v= .tuple #[.int .i64 (((h:Nat):Int)+1),u2]∧Γ=[trA Tb pp mb n o none,grow 87 2 u2 (l++L).length (Bj (l++L))]):=by
 induction h with
 | zero=>exact fun ra rt lo hi m L l dp u=>XI pp mb n o ra rt lo hi m L l dp u
 | succ h ih=>exact fun ra rt lo hi m L l dp u=>XJ pp mb n o h ih ra rt lo hi m L l dp u
set_option maxHeartbeats 2000000 in
theorem YQ (pt pm pp mb n:Nat) (o:TB) (r0 ra:Nat) (L:List E) (hR:Root o.N ra L) (hn:n≤511) (hll:L.length≤1048576):Cn prog 13 [.pointer (some ⟨pt,0,none⟩),.int .i64 (ra:Int),.pointer (some ⟨pm,0,none⟩)] [blk pt [.pointer (some ⟨pp,0,none⟩),.int .i64 (r0:Int),.pointer (some ⟨pm,0,none⟩)] 32,mpA pm L,trA Tb pp mb n o none] (fun v Γ=>v= .bool true∧Γ=[blk pt [.pointer (some ⟨pp,0,none⟩),.int .i64 (r0:Int),.pointer (some ⟨pm,0,none⟩)] 32,mpA pm L,trA Tb pp mb n o none]):=by
 intro z R w H;replace H:=H.l3;have K:=H.says 2 rfl (fun h a=>trA.k a)
 have hRL:ra=0→L=[]:=fun q=>by rcases hR with ⟨_,e⟩|⟨e,_⟩;exact e;exact absurd q e
 refine Ad func13 rfl ntmps13 rfl (Zc 10 rfl (GJ (fun a w=>∃ (u:Value),Fr 49 [] [(7,u),(0,.pointer (some ⟨pt,0,none⟩)),(1,.int .i64 (ra:Int)),(2,.pointer (some ⟨pm,0,none⟩))] a∧Sep z (grow 87 2 u L.length (Bj L)::blk pt [.pointer (some ⟨pp,0,none⟩),.int .i64 (r0:Int),.pointer (some ⟨pm,0,none⟩)] 32::mpA pm L::trA Tb pp mb n o none::R) w) ?_ ?_))
 ·refine Z0 6 [0] rfl (Af rfl (fun h1=> ?_) (fun h1=> ?_))
  ·refine Zc 6 rfl ?_;obtain ⟨h,hT,hh⟩:=hR.low K.i (show ra≠0 by omega) hn;refine Z2 6 [0,0,0] H rfl ?_;replace H:=(H.nilg 87 2).l4
   refine z_C rfl (call42 _) (Yo pp mb n o h ra true 0 1048576 _ L [] 0 _ hT (Nat.le_refl _) (by omega) (by simp only[List.length_nil];omega)) H.f3 ?_;rintro _ w _ ⟨u2,rfl,rfl⟩ H;replace H:=H.l4;have su2:=H.says 1 rfl (fun h q=>q.slc)
   refine Z0 13 [0] rfl (Af rfl (fun h2=> ?_) (fun h2=> ?_))
   ·(exfalso;omega)
   ·refine Zc 1 rfl ?_;replace H:=H.f3.f3.f3;exact gf fun _ hF=>⟨u2,(hF.all rfl),H⟩
  ·refine Zc 1 rfl ?_;replace H:=(H.nilg 87 2).l4
   have hL0:L=[]:=hRL (by omega)
   exact gf fun _ hF=>⟨(.slice none 0 0),(hF.all rfl),(by rw[show L.length=0 by rw[hL0];rfl,show Bj L=[] by rw[hL0];rfl];exact H)⟩
 rintro a w ⟨u,hF,H⟩;revert a;refine Zc 2 rfl ?_;obtain ⟨v_,H⟩:=(H.pick 4 [2,0,1,3] rfl).mp;replace H:=H.l5;obtain ⟨ao,oc,rfl⟩:=H.says 1 rfl (fun h q=>q.rd.slc);have hcp_ao:=H.says 1 rfl (fun h q=>q.rd.slcapZ)
 have H:Sep z (blk pm [.slice ao L.length oc] 30::grow 87 2 (.slice ao L.length oc) L.length (Bj L)::grow 87 2 u L.length (Bj L)::blk pt [.pointer (some ⟨pp,0,none⟩),.int .i64 (r0:Int),.pointer (some ⟨pm,0,none⟩)] 32::trA Tb pp mb n o none::R) w:=H
 have su:=H.says 2 rfl (fun h q=>q.rd.slc)
 obtain ⟨ua,uc,rfl⟩:=su;refine Z2 11 [0,0,0,0] H rfl (Af rfl (fun h3=> ?_) (fun h3=> ?_))
 ·(exfalso;omega)
 ·refine Zc 9 rfl ?_;refine AM (σ:=Nat) (fun i=>[(9,.int .i64 (i:Int)),(2,.pointer (some ⟨pm,0,none⟩)),(7,.slice ua L.length uc)])
    (fun i w=>Sep z (blk pm [.slice ao L.length oc] 30::grow 87 2 (.slice ao L.length oc) L.length (Bj L)::grow 87 2 (.slice ua L.length uc) L.length (Bj L)::blk pt [.pointer (some ⟨pp,0,none⟩),.int .i64 (r0:Int),.pointer (some ⟨pm,0,none⟩)] 32::trA Tb pp mb n o none::R) w∧(i≤L.length)) (fun i=>L.length - i) 0
    (fun _ hF=>(hF.co rfl (by go_num) (hF.all rfl))) ⟨H,Nat.zero_le _⟩ ?_
  clear H;rintro i w ⟨H',hI⟩;have H:=H'.l5;clear H';have hil:=hI;clear hI
  refine Z0 9 [0] rfl (Af rfl (fun h4=> ?_) (fun h4=> ?_))
  ·refine Zc 5 rfl ?_;obtain ⟨e,he⟩:∃ e,L[i]? =some e:=⟨_,List.getElem?_eq_getElem (by omega)⟩;have hu0:=(H.rd 2 rfl (fun h q=>q.rd)).at (Cv he).1
   have hu1:=(H.rd 2 rfl (fun h q=>q.rd)).at (Cv he).2
   have hm0:=(H.rd 1 rfl (fun h q=>q.rd)).at (Cv he).1
   have hm1:=(H.rd 1 rfl (fun h q=>q.rd)).at (Cv he).2
   refine Ba (Sep z _) (by kernel_rfl) (by kernel_rfl) H.drew (A6 2 [] rfl (by kernel_rfl) (Az rfl rfl rfl (Ap rfl (z:=2) (j:=i) (r:=i * 2) (by kernel_rfl) rfl rfl rfl (by omega) hu0 (by omega)) (Az rfl rfl rfl (Cz rfl rfl (vs:=[.int .i64 e.1,.int .i64 (e.2:Int)]) (by kernel_rfl) (by simp) (fun _ hx' k u hk=>by rcases k with _|_|k<;>simp at hk<;>subst hk<;>first|exact (hx'.rd 2 rfl (fun h q=>q.rd)).at (Cv he).1|exact (hx'.rd 2 rfl (fun h q=>q.rd)).at (Cv he).2)) (B9 5 [0,0] (fun _ hx=>(AG (hx.blk 0 rfl) Ak)) rfl (by kernel_rfl) rfl (Az rfl rfl rfl (Ap rfl (z:=2) (j:=i) (r:=i * 2) (by kernel_rfl) rfl rfl rfl (by omega) hm0 (by omega)) (Az rfl rfl rfl (Cz rfl rfl (vs:=[.int .i64 e.1,.int .i64 (e.2:Int)]) (by kernel_rfl) (by simp) (fun _ hx' k u hk=>by rcases k with _|_|k<;>simp at hk<;>subst hk<;>first|exact (hx'.rd 1 rfl (fun h q=>q.rd)).at (Cv he).1|exact (hx'.rd 1 rfl (fun h q=>q.rd)).at (Cv he).2)) (Az rfl rfl rfl (Ql (cs:= #[.int .i64 e.1,.int .i64 (e.2:Int)]) rfl (by kernel_rfl) (by kernel_rfl) (by kernel_rfl) rfl rfl) (Bi (fun w H'=> ?_)))))))));have H:=H'.l5;clear H';refine gn (Z1 10 [] [(i:Int)+1] rfl (by omega) (gf ?_));intro _ hF;refine ⟨(i+1),(hF.co rfl (by go_num) (hF.all rfl)),⟨H,?_⟩,?_⟩
   ·omega
   ·omega
  ·refine Zc 2 rfl (gx (Zc 8 rfl (Zr rfl ?_)));exact ⟨_,⟨rfl,rfl⟩,((H.pick 5 [0,1,3,4] rfl).toMp).pick 3 [1,0,2] rfl⟩
end
section
open Go.RowKit
variable {Tb:Ae}
variable {z w:World} {Γ:List Ae} {pp mb n f:Nat} {o:TB} {T:TT} {N:Hm} {C:Nat→Nat} {R:List Nat}
theorem Tr.kid {h r:Nat} {lo hi:Int} {m:Nat} {L:List E} (t:Tr N h r lo hi m L) {d:Nd} (hN:N r=some (.nd d)) {p:Nat} (hp:p∈vals d.es):(h=0∧∃ b,N p=some (.dt b))∨∃ h' lo' hi' L',h=h'+1∧Tr N h' p lo' hi' 4 L':=by
 obtain ⟨es,h1,_,_,_,hB⟩:=Tr.iff.1 t
 rw[h1] at hN;cases hN
 obtain ⟨e,he,rfl⟩:=List.mem_map.1 hp
 cases h with
 | zero=>exact .inl ⟨rfl,hB.2 e he⟩
 | succ h=>
  obtain ⟨X,Y,rfl⟩:=List.append_of_mem he
  obtain ⟨_,Lc,_,_,_,h2,_⟩:=Sq.at hB
  exact .inr ⟨h,_,_,Lc,rfl,h2⟩
theorem Tr.low1 (I:TInv n f N C R) {h r:Nat} {lo hi:Int} {m:Nat} {L:List E} (t:Tr N h r lo hi m L) (hn:n≤1024):h≤6:=by
 rcases Nat.eq_zero_or_pos h with e|hh
 ·omega
 obtain ⟨es,h1,h2,h3,h4,h5⟩:=Tr.iff.1 t
 have hne:es≠[]:=h4.ne (by simp;omega)
 have hl:1≤es.length:=by cases es with|nil=>exact absurd rfl hne|cons=>simp
 have t1:Tr N h r lo hi 1 L:=Tr.iff.2 ⟨es,h1,hl,h3,h4,h5⟩
 obtain ⟨a1,a2,a3⟩:=Jo t1 (Nat.le_refl _)
 have hs:=t1.srt.1
 rw[←a1] at hs
 have hd:=GY hs (fun p hp=>(a2 p hp).1)
 have hl:=IL hd (fun p hp=>by obtain ⟨d,hd⟩:=(a2 p hp).2;exact (I.nin p _ hd).2.1)
 rcases Nat.lt_or_ge h 7 with q|q
 ·omega
 ·exfalso
  rw[if_neg (by omega)] at a3
  have:4 ^ 6≤4 ^ (h - 1):=Nat.pow_le_pow_right (by omega) (by omega)
  simp at a3
  omega
inductive Rch (N:Hm) (r:Nat):Nat→Prop where
 | refl:Rch N r r
 | step {q p:Nat} {d:Nd} :Rch N r q→N q=some (.nd d)→p∈vals d.es→Rch N r p
theorem TInv.up (I:TInv n f N C R) {p:Nat} (h1:f≤p) (h2:p<n) (hC:1≤C p) (hno:¬ ∃ r∈R,Rch N r p):∃ q d,N q=some (.nd d)∧p∈vals d.es∧¬ ∃ r∈R,Rch N r q:=by
 have hc:=I.cnt p h1 h2
 have hR:p∉R:=fun h=>hno ⟨p,h,.refl⟩
 rw[List.count_eq_zero_of_not_mem hR] at hc
 obtain ⟨q,hq,he⟩:=My N p n (by omega)
 cases hN:N q with
 | none=>rw[hN] at he;simp[Db] at he
 | some c=>
  cases c with
  | dt b=>rw[hN] at he;simp[Db] at he
  | nd d=>
   rw[hN] at he
   have hp:=IF.1 he
   exact ⟨q,d,hN,hp,fun ⟨r,hr,hq⟩=>hno ⟨r,hr,hq.step hN hp⟩⟩
theorem TInv.reach (I:TInv n f N C R) (hn:n≤1024) {p:Nat} (h1:f≤p) (h2:p<n) (hC:1≤C p):∃ r∈R,Rch N r p:=by
 refine Classical.byContradiction fun hno=> ?_
 have key:∀ j,∃ q h lo hi m L,j≤h∧Tr N h q lo hi m L∧¬ ∃ r∈R,Rch N r q:=fun j=>by
  induction j with
  | zero=>
   obtain ⟨q,d,hq,_,hn⟩:=I.up h1 h2 hC hno
   obtain ⟨h,lo,hi,m,L,t⟩:=I.hg q d hq
   exact ⟨q,h,lo,hi,m,L,Nat.zero_le _,t,hn⟩
  | succ j ih=>
   obtain ⟨q,h,lo,hi,m,L,hj,t,hn⟩:=ih
   obtain ⟨d0,hq0⟩:=t.node
   obtain ⟨a,b,c⟩:=I.nin q _ hq0
   obtain ⟨q',d,hq,hp,hn'⟩:=I.up a b c hn
   obtain ⟨h',lo',hi',m',L',t'⟩:=I.hg q' d hq
   refine ⟨q',h',lo',hi',m',L',?_,t',hn'⟩
   rcases t'.kid hq hp with ⟨_,b,hb⟩|⟨h'',_,_,_,e,t''⟩
   ·rw[hq0] at hb;cases hb
   ·have:=(t.uniq t'').1;omega
 obtain ⟨q,h,lo,hi,m,L,hj,t,_⟩:=key 7
 have:=t.low1 I hn
 omega
theorem TrK.empty (K:TrK n o none) (hR:o.R=[]):frC n o.C=frC n (C1 (manyN n+1)):=by
 have hn:=K.hn
 funext p
 have I:TInv n (manyN n+1) o.N o.C []:=by have:=K.i;rw[show Ce o none=[] from hR] at this;exact this
 have h1:o.C p=C1 (manyN n+1) p∨n≤p:=by
  rcases Nat.lt_or_ge p n with q|q
  ·left
   unfold C1
   rcases Nat.lt_or_ge p (manyN n+1) with r|r
   ·rw[if_pos r];exact K.one p (by omega)
   ·rw[if_neg (by omega)]
    rcases Nat.eq_zero_or_pos (o.C p) with e|e
    ·exact e
    ·obtain ⟨r,hr,_⟩:=I.reach hn.2 r q e
     cases hr
  ·exact .inr q
 rcases h1 with e|e
 ·simp only[frC,e]
 ·simp only[frC]
  rw[decide_eq_false (by omega),decide_eq_false (by omega)]
theorem Root.nil {a:Nat} (h:Root N a []):a=0:=by
 rcases h with ⟨e,_⟩|⟨_,h,t⟩
 ·exact e
 ·exact absurd rfl (t.ne (by split<;>omega))
theorem QD (pp mb n:Nat) (o:TB) (T:TT) (a:Nat) (key:Int) (L:List E) (hR:Root (EA o T) a L):Cn prog 14 [.pointer (some ⟨pp,0,none⟩),.int .i64 (a:Int),.int .i64 key] [trA Tb pp mb n o T] (fun v Γ=>v= .tuple #[.int .i64 (getE key L:Int),.int .i64 0]∧Γ=[trA Tb pp mb n o T]):=by
 intro z R' w H
 have K:=H.says 0 rfl (fun h a=>trA.k a)
 have hp:∀ e∈L,1≤e.2:=fun e he=>(FM K.i (by omega) hR.data e he).1
 have hg:=G3 (key:=key) hp
 have hno:¬ Cw key L→getE key L=0:=fun q=>Classical.byContradiction fun r=>q (hg.1.1 r)
 by_cases ha:a=0
 ·subst ha
  have hL:L=[]:=by rcases hR with ⟨_,e⟩|⟨e,_⟩;exact e;exact absurd rfl e
  subst hL
  refine Ret.mono (Cn.at (N3 pp key) H 0 [] rfl rfl) ?_
  rintro v w' ⟨Γ',⟨rfl,rfl⟩,H'⟩
  exact ⟨_,⟨rfl,rfl⟩,H'⟩
 ·rcases hR with ⟨e,_⟩|⟨_,h,t⟩
  ·exact absurd e ha
  refine Ret.mono (Cn.at (N2 pp mb n o T key L h a _ _ _ t) H 1 [0] rfl rfl) ?_
  rintro v w' ⟨Γ',⟨(⟨v0,hv,rfl⟩|⟨hv,rfl⟩),rfl⟩,H'⟩
  ·exact ⟨_,⟨by rw[hg.2 v0 hv t.srt.1],rfl⟩,H'⟩
  ·exact ⟨_,⟨by rw[hno hv];rfl,rfl⟩,H'⟩
structure DoR (n:Nat) (o o2:TB) (a a2:Nat) (L L2:List E) (Q:List Nat) (k:Int) (dr:Bool) (mb m2:Nat):Prop where
 m:mb≤m2∧m2≤mb+2
 I:LwI n o2 a2 L2 Q
 kp:Kp o.N o2.N Q
 f:cnt (frC n o.C) 0 1024≤cnt (frC n o2.C) 0 1024+15
 d:(cnt (frC n o.C) 0 1024≤12∧L2=L∧a2=a)∨(dr=true∧L2=AY (CL k) L)∨(dr=false∧∃ val,L2=putE (CL k) val L)
theorem MN (pt pm pp mb n:Nat) (o:TB) (a:Nat) (L:List E) (Q:List Nat) (k:Int) (dr:Bool) (fl:Int) (hI:LwI n o a L Q) (hmb:mb≤1000000000) (hk: -9223372036854775808≤k∧k≤9223372036854775807):
  Cn prog 12 [.pointer (some ⟨pt,0,none⟩),.agg #[.int .i64 k,.bool dr,.int .i64 fl]] [blk pt [.pointer (some ⟨pp,0,none⟩),.int .i64 (a:Int),.pointer (some ⟨pm,0,none⟩)] 32,mpA pm L,trA Tb pp mb n o none] (fun v Γ=>∃ (a2:Nat) (L2:List E) (o2:TB) (m2:Nat),DoR n o o2 a a2 L L2 Q k dr mb m2∧v= .bool true∧Γ=[blk pt [.pointer (some ⟨pp,0,none⟩),.int .i64 (a2:Int),.pointer (some ⟨pm,0,none⟩)] 32,mpA pm L2,trA Tb pp m2 n o2 none]):=by
 intro z R' w H
 cases dr with
 | true=>
  refine Ret.mono (VO pt pm pp mb n o a L Q k fl hI hmb hk z R' w H) ?_
  rintro v w' ⟨Γ',⟨a2,L2,o2,m2,⟨h1,h2,h3,h4⟩,h5,rfl,rfl⟩,H'⟩
  exact ⟨_,⟨a2,L2,o2,m2,⟨h1,h2,h3,h4,h5.imp id fun q=> .inl ⟨rfl,q⟩⟩,rfl,rfl⟩,H'⟩
 | false=>
  refine Ret.mono (VP pt pm pp mb n o a L Q k fl hI hmb hk z R' w H) ?_
  rintro v w' ⟨Γ',⟨a2,L2,o2,m2,⟨h1,h2,h3,h4⟩,h5,rfl,rfl⟩,H'⟩
  exact ⟨_,⟨a2,L2,o2,m2,⟨h1,h2,h3,h4,h5.imp id fun q=> .inr ⟨rfl,q⟩⟩,rfl,rfl⟩,H'⟩
theorem Sep.trTab (H:Sep z (trA Tb pp mb n o none::Γ) w):GM Tb∧Sep z (Tb::Γ) w:=by
 obtain ⟨M0,_,H⟩:=H.tr0
 obtain ⟨X,hX,H⟩:=H.po
 refine ⟨hX.tab.2▸hX.tab.1,?_⟩
 have h:=H.pick 7 [6] rfl
 rw[←hX.tab.2];exact h
end
section
open Go.RowKit
variable {Tb:Ae}
theorem Tx:cnt (frC 32 (F0 32).C) 0 1024=30:=by decide+kernel
theorem Ty {n:Nat} (hn:n≤511):LwI n (F0 n) 0 [] []:=⟨hn,by simp,.inl ⟨rfl,rfl⟩,by simp[vals],rfl⟩
theorem XK (pp mb n:Nat) (o:TB) (r key val:Int):Cn prog 17 [.pointer (some ⟨pp,0,none⟩),.int .i64 r,.int .i64 key,.int .i64 val] [trA Tb pp mb n o none] (fun v Γ=>v= .tuple #[.int .i64 0,.int .i64 18]∧Γ=[trA Tb pp mb n o none]):=by
 intro z R w H;replace H:=H.l1;refine Ad func17 rfl ntmps17 rfl (Zc 10 rfl (z_C rfl (call45 _) (VH _ _ _ _) H ?_));rintro _ w _ ⟨rfl,rfl⟩ H;refine Z0 18 [3] rfl (Zr rfl ?_);exact ⟨_,⟨rfl,rfl⟩,H⟩
set_option maxHeartbeats 2000000 in
theorem SX (Tb:Ae) (hT:GM Tb):Cn prog 16 [] [Tb] (fun v Γ=>v= .bool true∧Γ=[Tb]):=by
 intro z R w H;replace H:=H.l1;refine Ad func16 rfl ntmps16 rfl (Zc 7 rfl (z_C rfl (call10 _) (MI 32 (by omega) Tb hT) H ?_));rintro _ w _ ⟨pp,rfl,rfl⟩ H;refine Zc 16 rfl (Ab rfl (Aq rfl rfl (out:=[.slice none 0 0]) (by kernel_rfl)) (Za 0 [] H rfl ?_));intro b1 w H;refine Ab rfl (Aq rfl rfl (out:=[.pointer (some ⟨pp,0,none⟩),.int .i64 0,.pointer (some ⟨b1,0,none⟩)]) (by kernel_rfl)) (Za 0 [] H rfl ?_);intro b2 w H;refine Zc 4 rfl ?_;replace H:=(H.nilg 87 2).l4
 have H':Sep z (mpA b1 ([])::blk b2 [.pointer (some ⟨pp,0,none⟩),.int .i64 0,.pointer (some ⟨b1,0,none⟩)] 32::trA Tb pp 6 32 (F0 32) none::R) w:=(H.pick 4 [2,0,1,3] rfl).toMp (L:=[])
 have H:=H'.l3;clear H';refine Zc 2 rfl (z_C rfl (call22 _) (FJ _ _ _ _ none) H.f2 ?_);rintro _ w _ ⟨rfl,rfl⟩ H;replace H:=H.l3;refine AD 19 (v:= .int .i64 (cnt (frC 32 (F0 32).C) 0 1024:Int)) rfl rfl (Zc 6 rfl (Ab rfl (Aq rfl rfl (out:=[.int .i64 5,.bool false,.int .i64 1]) (by kernel_rfl)) (z_C rfl (call12 _) (MN _ _ _ 6 32 (F0 32) 0 ([]) [] 5 false 1 (Ty (by omega)) (by omega) (by omega)) H.f1.f2 ?_)));rintro _ w _ ⟨a1,L1,o1,m1,hD1,rfl,rfl⟩ H;replace H:=H.l3;obtain ⟨val,hL1⟩:∃ val,L1=putE (CL 5) val []:=by rcases hD1.d with ⟨q,_⟩|⟨q,_⟩|⟨_,q⟩;(exfalso;rw[Tx] at q;omega);cases q;exact q
 rw[show CL 5=5 by decide+kernel] at hL1;have hf1:=hD1.f
 rw[Tx] at hf1;refine Zc 4 rfl ?_;have hvp1:∀ e∈L1,1≤e.2:=fun e he=>(FM (H.says 2 rfl (fun h a=>trA.k a)).i (by omega) (show ∀ e∈L1,∃ b,EA o1 none e.2=some (.dt b) from hD1.I.root.data) e he).1
 refine Z2 6 [1,0,0] H rfl (z_C rfl (call14 _) (QD _ _ _ o1 none _ _ L1 hD1.I.root) H.f2 ?_);rintro _ w _ ⟨rfl,rfl⟩ H;refine Zc 10 rfl (Ab rfl (Aq rfl rfl (out:=[.int .i64 5,.bool true,.int .i64 0]) (by kernel_rfl)) (z_C rfl (call12 _) (MN _ _ _ m1 32 o1 a1 L1 [] 5 true 0 hD1.I (by have:=hD1.m;omega) (by omega)) H.f2.f2 ?_));rintro _ w _ ⟨a2,L2,o2,m2,hD2,rfl,rfl⟩ H;replace H:=H.l3;have hL2:L2=[]:=by rcases hD2.d with ⟨q,_⟩|⟨_,q⟩|⟨q,_⟩;(exfalso;omega);(rw[q,hL1,show CL 5=5 by decide+kernel];simp[putE,AY]);cases q
 have ha2:a2=0:=Root.nil (by rw[←hL2];exact hD2.I.root)
 refine Zc 7 rfl (z_C rfl (call17 _) (XK _ _ _ _ _ _ _) H.f2 ?_);rintro _ w _ ⟨rfl,rfl⟩ H;refine Zc 8 rfl ?_;have K2:=H.says 0 rfl (fun h a=>trA.k a)
 have hfe:cnt (frC 32 o2.C) 0 1024=cnt (frC 32 (F0 32).C) 0 1024:=by rw[K2.empty (by rw[hD2.I.r,ha2];rfl)];rfl
 have hg1:getE 5 L1≠0:=(G3 (fun e he=>hvp1 e he)).1.2 (by rw[hL1];exact ⟨val,by simp[putE]⟩)
 refine Z0 7 [0] rfl (Al 46 rfl (fun h1=> ?_) (fun h1=> ?_))
 ·refine Z2 14 [3,1,1,0,0] H rfl (Al 60 rfl (fun h2=> ?_) (fun h2=> ?_))
  ·refine Zc 1 rfl (z_C rfl (call22 _) (FJ _ _ _ _ none) H ?_);rintro _ w _ ⟨rfl,rfl⟩ H;replace H:=H.l3;refine AD 62 (v:= .int .i64 (cnt (frC 32 o2.C) 0 1024:Int)) rfl rfl (Z0 4 [0] rfl (Al 66 rfl (fun h3=> ?_) (fun h3=> ?_)))
   ·refine Z0 7 [3] rfl (Zr rfl ?_);exact ⟨_,⟨rfl,rfl⟩,((H.pick 3 [0] rfl).trTab).2⟩
   ·(exfalso;omega)
  ·(exfalso;omega)
 ·(exfalso;omega)
end
section
open Go.RowKit
variable {Tb:Ae}
structure OtE where
 k:Int
 d:Bool
 f:Int
def OtE.cells (e:OtE):List Value:=[.int .i64 e.k,.bool e.d,.int .i64 e.f]
def Gy (es:List OtE):List Value:=es.flatMap OtE.cells
theorem VQ (es:List OtE):(Gy es).length=es.length * 3:=by
 induction es with
 | nil=>rfl
 | cons e es ih=>simp only[Gy,List.flatMap_cons,List.length_append] at ih ⊢;rw[ih];simp[OtE.cells];omega
theorem J8:∀ {es:List OtE} {j:Nat} {e:OtE},es[j]? =some e→∀ k u,(OtE.cells e)[k]? =some u→(Gy es)[j * 3+k]? =some u
 | x::es,0,e,h,k,u,hk=>by
  simp at h;subst h
  have hl:=(List.getElem?_eq_some_iff.1 hk).1
  simp only[Gy,List.flatMap_cons]
  rw[List.getElem?_append_left (by omega)];simpa using hk
 | x::es,j+1,e,h,k,u,hk=>by
  have:=J8 (es:=es) (j:=j) (by simpa using h) k u hk
  simp only[Gy,List.flatMap_cons] at this ⊢
  rw[List.getElem?_append_right (by simp[OtE.cells];omega)]
  rw[show (j+1) * 3+k - (OtE.cells x).length=j * 3+k from by simp[OtE.cells];omega]
  exact this
def Y5 (v:Value) (es:List OtE) (A:Ae):Prop:=∀ h,A h→rdH 3 v es.length (Gy es) h∧∀ e∈es,-9223372036854775808≤e.k∧e.k≤9223372036854775807
set_option maxHeartbeats 4000000 in
theorem QE (c:Int) (hc: -9223372036854775808≤c∧c≤9223372036854775807) (A Tb:Ae) (hT:GM Tb) (v:Value) (es:List OtE) (hes:es.length≤1048576) (hA:Y5 v es A):Cn prog 3 [.int .i64 c,v] [A,Tb] (fun v Γ=>v= .bool true∧Γ=[A,Tb]):=by
 intro z R w H;replace H:=H.l2;obtain ⟨ao,oc,rfl⟩:=H.says 0 rfl (fun h q=>(hA h q).1.slc);obtain ⟨n,hnd⟩:∃ n:Nat,n=16+pkI c 300:=⟨_,rfl⟩;have hp3:=Qy c (N:=300) (by omega)
 refine Ad func3 rfl ntmps3 rfl (Zc 8 rfl (z_C rfl (call11 _) (J5 _ 300 hc (by omega)) H ?_));rintro _ w _ ⟨rfl,rfl⟩ H;refine Z1 1 [] [16+(pkI c 300:Int)] rfl (by omega) (AD 15 (v:= .int .i64 (n:Int)) rfl (congrArg (Value.int .i64) (by omega)) (z_C rfl (call10 _) (MI n (by omega) Tb hT) H.f1 ?_));rintro _ w _ ⟨pp,rfl,rfl⟩ H;refine Zc 16 rfl (Ab rfl (Aq rfl rfl (out:=[.slice none 0 0]) (by kernel_rfl)) (Za 0 [] H rfl ?_));intro b1 w H;refine Ab rfl (Aq rfl rfl (out:=[.pointer (some ⟨pp,0,none⟩),.int .i64 0,.pointer (some ⟨b1,0,none⟩)]) (by kernel_rfl)) (Za 0 [] H rfl ?_);intro b2 w H;refine Zc 5 rfl ?_;replace H:=(H.nilg 87 2).l5
 have H':Sep z (mpA b1 ([])::blk b2 [.pointer (some ⟨pp,0,none⟩),.int .i64 0,.pointer (some ⟨b1,0,none⟩)] 32::trA Tb pp 6 n (F0 n) none::A::R) w:=(H.pick 5 [2,0,1,3,4] rfl).toMp (L:=[])
 have H:=H'.l4;clear H';refine Zc 5 rfl ?_;refine AM (σ:=Nat×Nat×List E×TB×Nat) (fun ⟨i,ra,L,o,mb⟩=>[(7,.int .i64 (i:Int)),(1,.slice ao es.length oc),(5,.pointer (some ⟨pp,0,none⟩)),(6,.pointer (some ⟨b2,0,none⟩))])
   (fun ⟨i,ra,L,o,mb⟩ w=>Sep z (mpA b1 L::blk b2 [.pointer (some ⟨pp,0,none⟩),.int .i64 (ra:Int),.pointer (some ⟨b1,0,none⟩)] 32::trA Tb pp mb n o none::A::R) w∧(i≤es.length∧mb≤6+2 * i∧LwI n o ra L [])) (fun ⟨i,ra,L,o,mb⟩=>es.length - i) ⟨0,0,[],F0 n,6⟩
   (fun _ hF=>(hF.co rfl (by go_num) (hF.all rfl))) ⟨H,⟨Nat.zero_le _,by omega,Ty (by omega)⟩⟩ ?_
 clear H;rintro ⟨i,ra,L,o,mb⟩ w ⟨H',hI⟩;dsimp only at hI H' ⊢
 have H:=H'.l4;clear H';obtain ⟨hil,hmb,hW⟩:=hI;refine Z0 9 [0] rfl (Af rfl (fun h1=> ?_) (fun h1=> ?_))
 ·refine Zc 5 rfl ?_;obtain ⟨e,he⟩:∃ e,es[i]? =some e:=⟨_,List.getElem?_eq_getElem (by omega)⟩;have hek:=H.says 3 rfl (fun h q=>(hA h q).2 e (List.mem_of_getElem? he))
  have hat:=(H.rd 3 rfl (fun h q=>(hA h q).1)).at (J8 he 0 _ rfl)
  refine Zc 4 rfl (Ab rfl (Ap rfl (z:=3) (j:=i) (r:=i * 3) (by kernel_rfl) rfl rfl rfl (by omega) hat (by omega)) (Ab rfl (Cz rfl rfl (vs:=[.int .i64 e.k,.bool e.d,.int .i64 e.f]) (by kernel_rfl) (by simp) (Ay (fun k u hk=>(H.rd 3 rfl (fun h q=>(hA h q).1)).at (J8 he k u hk)))) (z_C rfl (call12 _) (MN _ _ _ mb n o ra L [] e.k e.d e.f hW (by omega) (by omega)) H.f2.f1.f2 ?_)));rintro _ w _ ⟨a1,L1,o1,m1,hD1,rfl,rfl⟩ H;refine Z1 18 [] [(i:Int)+1] rfl (by omega) ?_;replace H:=H.f3.f3.f2.f3;refine gf ?_;intro _ hF;refine ⟨⟨i+1,a1,L1,o1,m1⟩,(hF.co rfl (by go_num) (hF.all rfl)),⟨H,?_⟩,?_⟩
  ·exact ⟨by show i+1≤es.length;omega,by have:=hD1.m;show m1≤6+2 * (i+1);omega,hD1.I⟩
  ·(dsimp only;omega)
 ·refine Zc 2 rfl (gx (Zc 3 rfl ?_));have hll:L.length≤1048576:=by have K:=H.says 2 rfl (fun h a=>trA.k a);have:=J7 K.i (by omega) (show ∀ e∈L,∃ b,EA o none e.2=some (.dt b) from hW.root.data) hW.nd;have:=K.hn;omega
  replace H:=H.f1;refine AN (Sep z (blk b2 [.pointer (some ⟨pp,0,none⟩),.int .i64 (ra:Int),.pointer (some ⟨b1,0,none⟩)] 32::R)) 11 rfl (by kernel_rfl) (fun w' x' _=> ?_);have H':=H.ext0 x';clear x' H;revert H';generalize w'=w;intro H'
  have H:=H'.l4;clear H';refine AO [0,1,2,3,4,5,6,7,8] [1,0,2,0] (fun _ hx=>(AG (hx.blk 0 rfl) Ak)) (by exact (H.pick 4 [0] rfl)) rfl (by kernel_rfl) rfl rfl (AE [9] (by kernel_rfl) (by simp) (AB (BN rfl rfl rfl rfl rfl rfl (fun w=>call13 _ w) (YQ _ _ _ mb n o _ ra L hW.root hW.n hll) H rfl ?_)));rintro _ w _ ⟨rfl,rfl⟩ H;replace H:=H.l4;refine Av (H.pick 4 [0] rfl) (AO [10] [] (fun _ _=>Ak) (by exact (H.pick 4 [0] rfl)) rfl (by kernel_rfl) rfl rfl (a_done (by kernel_rfl) (gn (Zc 18 rfl ?_))));refine AM (σ:=Nat) (fun j=>[(10,.int .i64 ((j:Int) - 1)),(5,.pointer (some ⟨pp,0,none⟩)),(6,.pointer (some ⟨b2,0,none⟩))])
    (fun j w=>Sep z (blk b2 [.pointer (some ⟨pp,0,none⟩),.int .i64 (ra:Int),.pointer (some ⟨b1,0,none⟩)] 32::mpA b1 L::trA Tb pp mb n o none::A::R) w∧(j≤62)) (fun j=>62 - j) 0
    (fun _ hF=>(hF.co rfl (congrArg (Value.int .i64) (by omega)) (hF.all rfl))) ⟨H,Nat.zero_le _⟩ ?_
  clear H;rintro j w ⟨H',hI⟩;have H:=H'.l4;clear H';have hj:j≤62:=hI
  refine Z0 7 [0] rfl (Af rfl (fun h2=> ?_) (fun h2=> ?_))
  ·refine Z2 12 [1,0,0] H rfl (z_C rfl (call14 _) (QD _ _ _ o none _ _ L hW.root) H.f2 ?_);rintro _ w _ ⟨rfl,rfl⟩ H;refine Z2 18 [4,2,1,0] H rfl (z_C rfl (call15 _) (Jr _ _ _) H.f2 ?_);rintro _ w _ ⟨rfl,rfl⟩ H;refine Z0 4 [0] rfl (Af rfl (fun h3=> ?_) (fun h3=> ?_))
   ·(exfalso;omega)
   ·refine Z1 8 [] [((j:Int) - 1)+1] rfl (by omega) ?_;replace H:=H.f3.f2.f2.f3;refine gf ?_;intro _ hF;refine ⟨(j+1),(hF.co rfl (congrArg (Value.int .i64) (by omega)) (hF.all rfl)),⟨H,?_⟩,?_⟩
    ·omega
    ·omega
  ·refine Zc 2 rfl (gx (Zc 3 rfl ?_));replace H:=(((H.pick 4 [2,3] rfl).trTab).2).l2
   refine Zc 1 rfl (z_C rfl (call16 _) (SX Tb hT) H ?_);rintro _ w _ ⟨rfl,rfl⟩ H;refine Zc 4 rfl (Zr rfl ?_);exact ⟨_,⟨rfl,rfl⟩,H.pick 2 [1,0] rfl⟩
end
section
open Go.ChangeShapes Go.WideShapes Go.ChangeAt Go.RowKit Go.Joins
theorem own:ownKnob prog.godebug=none:=by kernel_rfl
theorem VR:laidOutB prog=true:=by kernel_rfl
theorem Hw:prog.cellsOf 3=1:=by kernel_rfl
def KR:DataW Unit→List Value
 | .lit (.int k n)=>[.int k n]
 | .agg parts=>flatWs parts
 | _=>[]
where flatWs:List (DataW Unit)→List Value
 | []=>[]
 | d::ds=>KR d++flatWs ds
def SY:Obj→Obj
 | .cells c t frozen=> .cells (if c.size=32 then (KR Rows.laid_unicode_utf8_acceptRanges).toArray else if c.size=64 then (KR Rows.laid_math_bits_deBruijn64tab).toArray else (KR Rows.laid_unicode_utf8_first).toArray) t frozen
 | o=>o
noncomputable def Hx (os:Os):World:=
 { World.holding prog os ⟨#[],#[],[]⟩ with heap:=(((World.holding prog os ⟨#[],#[],[]⟩).heap.modify 0 SY).modify 1 SY).modify 2 SY }
theorem Ij {α:Type} (P:Nat→α→Prop):∀ n,(∀ i,i<n→∃ a,P i a)→∃ l:List α,l.length=n∧∀ i a,l[i]? =some a→P i a
 | 0,_=>⟨[],rfl,fun i a h=>by simp at h⟩
 | n+1,h=>by
  obtain ⟨l,hl,hp⟩:=Ij P n (fun i hi=>h i (by omega))
  obtain ⟨a,ha⟩:=h n (by omega)
  refine ⟨l++[a],by simp[hl],fun i b hb=> ?_⟩
  rcases Nat.lt_or_ge i n with q|q
  ·rw[List.getElem?_append_left (by omega)] at hb;exact hp i b hb
  ·rw[List.getElem?_append_right (by omega)] at hb
   obtain rfl:i=n:=by have:=(List.getElem?_eq_some_iff.1 hb).1;simp at this;omega
   simp[hl] at hb;subst hb;exact ha
abbrev KS (x:Int):Prop:= -9223372036854775808≤x∧x≤9223372036854775807
theorem Tz {n:Int} (h:(Lit.int .i64 n).wf=true):KS n:=by
 simp only[Lit.wf,Bool.and_eq_true,decide_eq_true_eq] at h
 have h1:IntKind.i64.min= -9223372036854775808:=by decide
 have h2:IntKind.i64.max=9223372036854775807:=by decide
 rw[h1,h2] at h
 exact h
theorem SZ {H:Type} (d:DataW H):1≤Rows.uptoBulk d:=by
 cases d with
 | lit l=>cases l<;>simp[Rows.uptoBulk]
 | nil=>simp[Rows.uptoBulk]
 | ptr d=>simp[Rows.uptoBulk]
 | slice elems spare=>simp[Rows.uptoBulk]
 | agg parts=>simp[Rows.uptoBulk]
 | iface t d=>simp[Rows.uptoBulk]
 | map entries=>simp[Rows.uptoBulk]
 | held h=>simp[Rows.uptoBulk]
theorem S0 {H:Type} (l:List (DataW H)):l.length≤Rows.uptoBulkAll l:=by
 induction l with
 | nil=>simp
 | cons x r ih=>have:=SZ x;simp only[Rows.uptoBulkAll,List.length_cons];omega
theorem MO:prog.cellsOf 35=3:=by kernel_rfl
theorem VS {H:Type} {enc:TypeId×Value→H} {W:World} {fuel:Nat} {cs:List Value} {d:DataW H} {p:List MemPlace} (h:DataW.trod enc prog W 0 (fun _=>true) true fuel 35 cs=some (d,p)):
  ∃ e:OtE,cs=OtE.cells e∧KS e.k:=by
 obtain ⟨xs,n,rfl,hx,hl,hxl,hf⟩:=DataW.trod_struct underlying35 h
 rw[MO] at hl
 match cs,hl with
 | [c0,c1,c2],_=>
  have f0:=hf 0 _ rfl
  have f1:=hf 1 _ rfl
  have f2:=hf 2 _ rfl
  match xs,hxl with
  | [y0,y1,y2],_=>
   have kb:prog.cellsOf 4=1:=by kernel_rfl
   try dsimp only at f0
   try simp only[Hw,kb,List.drop_zero,List.drop_succ_cons,List.take_succ_cons,List.take_zero,List.getElem?_cons_zero,List.getElem?_cons_succ] at f0
   try dsimp only at f1
   try simp only[Hw,kb,List.drop_zero,List.drop_succ_cons,List.take_succ_cons,List.take_zero,List.getElem?_cons_zero,List.getElem?_cons_succ] at f1
   try dsimp only at f2
   try simp only[Hw,kb,List.drop_zero,List.drop_succ_cons,List.take_succ_cons,List.take_zero,List.getElem?_cons_zero,List.getElem?_cons_succ] at f2
   obtain ⟨z0,e0,_,w0⟩:=DataW.trod_int underlying3 f0
   obtain ⟨z1,e1,_⟩:=DataW.trod_bool underlying4 f1
   obtain ⟨z2,e2,_,w2⟩:=DataW.trod_int underlying3 f2
   have g0:=congrArg (fun l=>l.headD .nilFunc) e0
   try simp at g0
   subst g0
   have g1:=congrArg (fun l=>l.headD .nilFunc) e1
   try simp at g1
   subst g1
   have g2:=congrArg (fun l=>l.headD .nilFunc) e2
   try simp at g2
   subst g2
   exact ⟨⟨z0,z1,z2⟩,rfl,Tz w0⟩
theorem Oa:∀ (es:List OtE) (k:Nat) (u:Value),(Gy es)[k]? =some u→∃ e,es[k / 3]? =some e∧(OtE.cells e)[k % 3]? =some u
 | [],k,u,h=>by simp[Gy] at h
 | x::es,k,u,h=>by
  have hl:(OtE.cells x).length=3:=rfl
  simp only[Gy,List.flatMap_cons] at h
  rcases Nat.lt_or_ge k 3 with q|q
  ·rw[List.getElem?_append_left (by omega)] at h
   exact ⟨x,by rw[Nat.div_eq_of_lt q];rfl,by rw[Nat.mod_eq_of_lt q];exact h⟩
  ·rw[List.getElem?_append_right (by omega),hl] at h
   obtain ⟨e,h1,h2⟩:=Oa es (k - 3) u h
   refine ⟨e,?_,?_⟩
   ·rw[show k / 3=(k - 3) / 3+1 from by omega];simpa using h1
   ·rw[show k % 3=(k - 3) % 3 from by omega];exact h2
theorem S1 {H:Type} {enc:TypeId×Value→H} {W:World} {fuel:Nat} {v:Value} {d:DataW H} {p:List MemPlace} (h:DataW.trod enc prog W 0 (fun _=>true) true fuel 22 [v]=some (d,p)):
  ∃ es:List OtE,Rd 3 v es.length (Gy es) W∧(∀ e∈es,KS e.k)∧es.length≤Rows.uptoBulk d:=by
 rcases DataW.trod_slice underlying22 h with ⟨hcs,_⟩|⟨a,len,cap,elems,rest,n,rfl,hcs,hx,_,hlc,hcm,hel,hg,_,_⟩
 ·simp only[List.cons.injEq,and_true] at hcs;subst hcs
  exact ⟨[],by simpa [Gy] using Rd.nil 3 W,fun e he=>absurd he (by simp),by simp⟩
 ·simp only[List.cons.injEq,and_true] at hcs;subst hcs
  have hd:d= .slice (elems.map (·.1)) (rest.map (·.1)):=by have:=congrArg Prod.fst hx;simpa using this
  obtain ⟨es,hes,hP⟩:=Ij (fun i (e:OtE)=>(∀ j,j<3→W.cell? ((a.add (i * 3)).add j)=(OtE.cells e)[j]?)∧KS e.k) len (fun i hi=>by
   have hb:=hg i hi
   rw[MO] at hb
   obtain ⟨y,hy⟩:∃ y,elems[i]? =some y:=⟨_,List.getElem?_eq_getElem (by omega)⟩
   rw[hy,Option.bind_eq_some_iff] at hb
   obtain ⟨cs,hc,ht⟩:=hb
   obtain ⟨e,rfl,h1⟩:=VS (d:=y.1) (p:=y.2) ht
   exact ⟨e,(World.cells?_some hc).2.2,h1⟩)
  refine ⟨es,⟨some a,cap,by rw[hes],by omega,(by unfold maxLen at hcm;omega),by rw[VQ],fun k u hk=> ?_⟩,fun e he=> ?_,?_⟩
  ·obtain ⟨e,h1,h2⟩:=Oa _ k u hk
   have hc:=(hP _ e h1).1 (k % 3) (Nat.mod_lt _ (by omega))
   rw[h2] at hc
   obtain ⟨b,off,spot⟩:=a
   have hspot:spot=none:=by
    have hlt:=(List.getElem?_eq_some_iff.1 h1).1
    obtain ⟨e0,he0⟩:∃ e0,es[0]? =some e0:=⟨_,List.getElem?_eq_getElem (by omega)⟩
    have hc0:=(hP _ e0 he0).1 0 (by omega)
    have h0:W.cell? ⟨b,off,spot⟩=some (.int .i64 e0.k):=by simpa [Addr.add,OtE.cells] using hc0
    exact World.cell?_spot h0
   subst hspot
   refine ⟨b,off,rfl,?_⟩
   unfold EC
   have e2:((Addr.add ⟨b,off,none⟩ (k / 3 * 3)).add (k % 3))=⟨b,off+k,none⟩:=by
    rw[Go.WideShapes.add_plain,Go.WideShapes.add_plain]
    congr 1;omega
   rw[←e2];exact hc
  ·obtain ⟨i,hi⟩:=List.getElem?_of_mem he
   exact (hP i e hi).2
  ·rw[hes,hd]
   have:=S0 (elems.map (·.1))
   simp only[Rows.uptoBulk,List.length_map] at this ⊢;omega
/-! ### the library's KT -/
theorem XL:prog.globalNamed "math/bits.deBruijn64tab"=some 0:=by kernel_rfl
theorem S2:(prog.globals[0]?).map (·.type)=some 257:=by kernel_rfl
theorem VT:prog.cellsOf 257=64:=by kernel_rfl
theorem VU:prog.cellsOf 5=1:=by kernel_rfl
def tzL:List Int:=Lib.deBruijn64tab.map Int.ofNat
theorem KT {W:World} (h:laidMetH prog Rows.treeMapUptoRow.laid W):Lib.TabIs prog W "math/bits.deBruijn64tab" .u8 tzL:=
 Lib.tabIs_of_head (rest:=[("unicode/utf8.acceptRanges",Rows.laid_unicode_utf8_acceptRanges),("unicode/utf8.first",Rows.laid_unicode_utf8_first)]) XL S2 underlying257 underlying5 VU VT h
theorem J9 {W:World} (h:Lib.TabIs prog W "math/bits.deBruijn64tab" .u8 tzL):∃ t fr,W.heap[0]? =some (.cells (tzL.map fun z=>Value.int .u8 z).toArray t fr):=by
 unfold Lib.TabIs World.var? at h
 rw[XL] at h
 simp only[Option.bind_some] at h
 cases e:W.heap[0]? with
 | none=>rw[e] at h;cases h
 | some o=>
  rw[e] at h
  cases o<;>simp at h
  subst h;exact ⟨_,_,rfl⟩
def Ia (W:World):Ae:=fun h=>∀ k,k<W.heap.size→k≠0→h k=W.heap[k]?
def MP (W:World):Ae:=fun h=>h 0=W.heap[0]?
theorem XM:(List.range 64).all (fun j=>tzL[j]? == some ((PA j).toNat:Int))=true:=by decide+kernel
theorem Yp {W:World} (ht:Lib.TabIs prog W "math/bits.deBruijn64tab" .u8 tzL):GM (MP W):=fun h hh j hj=>by
 obtain ⟨t,fr,e⟩:=J9 ht
 have:=List.all_eq_true.1 XM j (List.mem_range.2 hj)
 have h2:tzL[j]? =some ((PA j).toNat:Int):=by simpa using this
 exact ⟨_,t,fr,(show h 0=_ from hh).trans e,by simp[h2,u8]⟩
theorem VV {W:World} (ht:Lib.TabIs prog W "math/bits.deBruijn64tab" .u8 tzL):0<W.heap.size:=by
 obtain ⟨t,fr,e⟩:=J9 ht
 rcases Nat.eq_zero_or_pos W.heap.size with q|q
 ·rw[Array.getElem?_eq_none (by omega)] at e;cases e
 ·exact q
theorem QF {W:World} (ht:Lib.TabIs prog W "math/bits.deBruijn64tab" .u8 tzL) {b o:Nat} {v:Value} (hc:EC b o v W) (hv:∀ x,v≠ .int .u8 x):∀ h,Ia W h→celH h b o v:=fun h hb=>by
 have hne:b≠0:=fun e=>by
  subst e
  obtain ⟨t,fr,e⟩:=J9 ht
  unfold EC World.cell? at hc
  rw[e] at hc
  simp at hc
  obtain ⟨z,_,hz⟩:=hc
  exact hv _ hz.symm
 unfold EC World.cell? at hc
 cases hh:W.heap[b]? with
 | none=>rw[hh] at hc;simp at hc
 | some o'=>
  rw[hh] at hc
  cases o' with
  | cells cs ty fr=>
   simp at hc
   have hlt:b<W.heap.size:=by
    rcases Nat.lt_or_ge b W.heap.size with q|q
    ·exact q
    ·rw[Array.getElem?_eq_none q] at hh;cases hh
   exact ⟨cs,ty,fr,(hb b hlt hne).trans hh,hc⟩
  | _=>simp at hc
theorem S3 {sz:Nat} {v:Value} {n:Nat} {xs:List Value} {W:World} (ht:Lib.TabIs prog W "math/bits.deBruijn64tab" .u8 tzL) (r:Rd sz v n xs W) (hx:∀ u∈xs,∀ x,u≠ .int .u8 x):∀ h,Ia W h→rdH sz v n xs h:=fun h hb=>by
 obtain ⟨ao,c,e,h1,h2,h3,h4⟩:=r
 exact ⟨ao,c,e,h1,h2,h3,fun j u hj=>by
  obtain ⟨b,p,e',hc⟩:=h4 j u hj
  exact ⟨b,p,e',QF ht hc (hx u (List.mem_of_getElem? hj)) h hb⟩⟩
theorem Yq (es:List OtE):∀ u∈Gy es,∀ x,u≠ .int .u8 x:=fun u hu x=>by
 simp only[Gy,List.mem_flatMap] at hu
 obtain ⟨e,_,he⟩:=hu
 simp[OtE.cells] at he
 rcases he with rfl|rfl|rfl<;>simp
theorem Ob {h:Hp} {own:Nat→Nat} {i k:Nat} {o:Obj} (e:h.part own i k=some o):h k=some o:=by
 unfold Hp.part at e
 split at e
 ·exact e
 ·cases e
theorem Cn.run2 {P:Program} {f:FuncId} {args:List Value} {W:World} {u:Value} (h0:0<W.heap.size) (h:Cn P f args [Ia W,MP W] (fun v Γ=>v=u∧Γ=[Ia W,MP W])):Calls P f args.toArray W (Ret fun v W'=>v=u∧Ext No W W'):=by
 have hS:Sep W [Ia W,MP W] W:=⟨rfl,rfl,rfl,fun q=>if q=0 then 1 else 0,fun i A hA=>by
  match i,hA with
  | 0,hA=>cases hA;intro k hk hne;simp[Hp.part,hp,hne]
  | 1,hA=>cases hA;show Hp.part _ _ _ 0=_;simp[Hp.part,hp]⟩
 refine Ret.mono (h W [] W hS) ?_
 rintro v W' ⟨Γ,⟨rfl,rfl⟩,H⟩
 obtain ⟨own,hown⟩:=H.own
 have hb:=hown 0 _ rfl
 have ht:=hown 1 _ rfl
 have hall:∀ k,k<W.heap.size→hp W' k=W.heap[k]? :=fun k hk=>by
  obtain ⟨o,ho⟩:∃ o,W.heap[k]? =some o:=⟨_,Array.getElem?_eq_getElem hk⟩
  rw[ho]
  by_cases q:k=0
  ·subst q;exact Ob ((show _=_ from ht).trans ho)
  ·exact Ob ((hb k hk q).trans ho)
 have H2:Sep W [base W] W':=⟨H.os,H.tape,H.output,fun k=>if k<W.heap.size then 0 else 1,fun i A hA=>by
  match i,hA with
  | 0,hA=>cases hA;intro k hk;unfold Hp.part;rw[if_pos (by simp[hk])];exact hall k hk⟩
 exact ⟨rfl,Sep.done 0 H2 rfl⟩
section
variable {H:Type} {enc:TypeId×Value→H} {P:Program} {w:World} {base:Nat} {spare:Nat→Bool} {held:Bool}
end
section
variable {H:Type} {enc:TypeId×Value→H} {P:Program} {w:World} {base:Nat} {spare:Nat→Bool} {held:Bool}
theorem Yr {t0 t1:TypeId} {args:Array Value} {ds:List (DataW H)} {ps:List MemPlace} (h:DataW.TrodAll enc P w base spare held [t0,t1] args.toList ds ps):
  ∃ v0 v1 d0 d1 p0 p1,args= #[v0,v1]∧ds=[d0,d1]∧ps=p0++p1∧DataW.Trod enc P w base spare held t0 v0 d0 p0∧DataW.Trod enc P w base spare held t1 v1 d1 p1:=by
 obtain ⟨v0,vs0,d0,ds0,p0,q0,hargs,rfl,rfl,hd0,hr0⟩:=trodAll_cons h
 obtain ⟨v1,vs1,d1,ds1,p1,q1,rfl,rfl,rfl,hd1,hr1⟩:=trodAll_cons hr0
 obtain ⟨rfl,rfl,rfl⟩:=trodAll_nil hr1
 exact ⟨v0,v1,d0,d1,p0,p1,by cases args;simp_all,rfl,by simp,hd0,hd1⟩
theorem VW {t0 t1:TypeId} {v0 v1:Value} {d0 d1:DataW H} {p0 p1:List MemPlace} (h0:DataW.Trod enc P w base spare held t0 v0 d0 p0) (h1:DataW.Trod enc P w base spare held t1 v1 d1 p1):DataW.TrodAll enc P w base spare held [t0,t1] [v0,v1] [d0,d1] (p0++p1):=
 ⟨p0,_,h0,(trodAll_mk1 h1),rfl⟩
end
section
variable {H:Type} {enc:TypeId×Value→H} {P:Program} {w:World} {base:Nat} {spare:Nat→Bool} {held:Bool}
end
end
open Go.ChangeShapes Go.WideShapes Go.ChangeAt Go.RowKit Go.Joins
theorem VX (os:Os):laidMet prog Rows.treeMapUptoRow.laid ((Hx os).forCall (fun _ _=>0) ⟨#[],#[.int .i64 0,.slice none 0 0],[]⟩).memory:=
 laidMet_of_run' 8 (by kernel_rfl) (by kernel_rfl)
theorem QG (os:Os) {H:Type} (enc:TypeId×Value→H):∃ places,DataW.whole enc prog ((Hx os).forCall (fun _ _=>0) ⟨#[],#[.int .i64 0,.slice none 0 0],[]⟩).memory f3.params.toList Rows.treeMapSpec.vars false #[Value.int .i64 0,.slice none 0 0].toList 8=some ([.lit (.int .i64 0),.nil],[],places):=
 ⟨[],by kernel_rfl⟩
theorem tmp_contract (H:Type) (enc:TypeId×Value→H) (W:World) (base:Nat) (args:Array Value) (ds gs:List (DataW H)) (before:List MemPlace)
  (hval:∀ (j:Nat) t v,f3.params[j]? =some t→args[j]? =some v→Value.okWide prog W .any base t v)
  (hW:DataW.Whole enc prog f3.params.toList Rows.treeMapSpec.vars false W args.toList ds gs before) (hk:Rows.uptoSmall H (ds++gs)=true) (hL:laidMetH prog Rows.treeMapUptoRow.laid W):
  Calls prog 3 args W fun e W'=>∃ v,e= .returned v∧Rows.treeMapSpec.post enc prog f3 false true false false W args v W':=by
 have hW0:=hW
 obtain ⟨p,q,hA0,hV,rfl,_,_⟩:=hW
 have hA:DataW.TrodAll enc prog W 0 (fun _=>true) true f3.params.toList args.toList ds p:=hA0
 rw[params3] at hA hval
 obtain ⟨v0,v1,d0,d1,p0,p1,rfl,rfl,rfl,h0,h1⟩:=Yr hA
 obtain ⟨rfl,rfl⟩:=trodVars_none hV
 simp only[List.append_nil] at hW0 hk
 have t1:∀ x∈p1,x.block<W.heap.size:=fun x hx=>by have:=hW0.lt x (by simp[hx]);simpa using this
 have hb:Rows.uptoBulkAll [d0,d1]≤1048576:=of_decide_eq_true hk
 simp only[Rows.uptoBulkAll] at hb
 obtain ⟨i0,rfl,rfl,rfl,wi0⟩:=open_int underlying3 (hval 0 3 v0 rfl rfl) h0
 obtain ⟨ao1,l1,c1,rfl⟩:=okWide_slice underlying22 (hval 1 22 v1 rfl rfl)
 obtain ⟨fuel1,hf1⟩:=id h1
 obtain ⟨es1,hr1,hes1,hlen1⟩:=S1 (h:=hf1)
 refine (Cn.run2 (VV (KT hL)) (QE i0 (Tz wi0) (Ia W) (MP W) (Yp (KT hL)) _ es1 (by omega) (fun h hh=>⟨S3 (KT hL) hr1 (Yq _) h hh,hes1⟩))).mono fun e W' hR=> ?_
 obtain ⟨u,rfl,rfl,x⟩:∃ u,e=Ending.returned u∧u= .bool true∧Ext No W W':=by cases e<;>first|exact ⟨_,rfl,hR⟩|exact hR.elim
 exact ⟨_,rfl,_,_,_,[],_,[],hW0,trodAll_mk1 (shut_bool underlying4 true),VW (shut_int underlying3 wi0) (Below.trod VR (by kernel_rfl) (of_decide_eq_true (by kernel_rfl)) h1 x.below t1),rfl,x.below.frame _,fun h=>by cases h⟩
theorem OX (os:Os) (started:os.Started) (H:Type) (enc:TypeId×Value→H) (F:Stop.Interp):
  ReturnsInHanded {} checked os 3 .any ((Rows.OpenSpec.upto Rows.treeMapSpec).preRow enc prog f3 Rows.treeMapUptoRow.domain false Rows.treeMapUptoRow.laid) (((Rows.OpenSpec.upto Rows.treeMapSpec).at F).post enc prog f3 false true false false):=by
 obtain ⟨places,hx⟩:=QG os enc
 refine returnsInHanded_of_row (C:=checked) (s:=Rows.OpenSpec.upto Rows.treeMapSpec) own started (by kernel_rfl) func3
  (witness_row_at (enc:=enc) (C:=checked) false (Hx os) #[.int .i64 0,.slice none 0 0] rfl (by kernel_rfl) (by kernel_rfl) (by kernel_rfl)
   (OpenSpec.preRow_of_cond 8 hx (by kernel_rfl) (fun k hk=>by cases hk;kernel_rfl) (by kernel_rfl) (VX os))) ?_
 intro W base args ds gs before hval hW _ hcond _ hL _ _
 exact tmp_contract H enc W base args ds gs before hval hW (hcond _ rfl) hL
theorem tmp_said:Rows.TreeMapUptoSaid:=
 OpenClaim.holds_of_cond 3 f3 rfl rfl rfl rfl rfl rfl rfl ⟨rfl,rfl,rfl,rfl,rfl⟩ rfl rfl rfl rfl rfl (by kernel_rfl) func3 (by kernel_rfl)
  (of_decide_eq_true (by kernel_rfl)) (by unfold Func.isWrapper;first|(rw[if_pos (by decide+kernel)];kernel_rfl)|(rw[if_neg (by decide+kernel)];exact ⟨rfl,rfl⟩))
  (fun os started H enc _ F=>by rw[OpenClaim.pre_eq_preRow];exact OX os started H enc F)
theorem QH (f:FuncId) (fn:Func) (hf:Tryz.pinned.checked.prog.funcNamed "polder/polderlaw12.TreeMap"=some f) (hfn:Tryz.pinned.checked.prog.funcs[f]? =some fn):
  false=Tryz.pinned.checked.prog.looks []∧∀ (j:Nat) t,fn.params[j]? =some t→Tryz.pinned.checked.prog.wantsStandIn t=false:=by
 obtain rfl:f=3:=Option.some.inj ((show prog.funcNamed "polder/polderlaw12.TreeMap"=some 3 by kernel_rfl).symm.trans hf) |>.symm
 obtain rfl:fn=f3:=(Option.some.inj (func3.symm.trans hfn)).symm
 refine ⟨by kernel_rfl,fun j t ht=> ?_⟩
 rw[params3] at ht
 have hm:=Array.mem_of_getElem? ht
 simp at hm
 rcases hm with rfl|rfl<;>first|exact (show prog.wantsStandIn 3=false by kernel_rfl)|exact (show prog.wantsStandIn 22=false by kernel_rfl)
theorem treeMap_holds:Rows.TreeMapUptoCardSaid:=
 Claim7.holds_tied_plain_at .later [] _ _ _ _ tmp_said (fun _ h=>by cases h) (by kernel_rfl) (fun _ h=>by cases h) treeMapUpto_row_tie rfl ⟨rfl,rfl⟩ (by kernel_rfl) rfl QH (by kernel_rfl)
end Go.Proofs.YtglgbkpniipjbaaGreatDoor
