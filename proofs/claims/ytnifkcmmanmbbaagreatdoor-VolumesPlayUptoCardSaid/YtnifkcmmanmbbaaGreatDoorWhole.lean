/-
  Law VolumesPlay: volumes are maps; room is refused only where there is none. No condition.
-/
import Derived.Test.YtnifkcmmanmbbaaGreatDoorPart5
set_option maxRecDepth 100000
set_option linter.unusedSimpArgs false
set_option linter.unusedVariables false
open Go.Proofs.Tryz
namespace Go.Proofs.YtnifkcmmanmbbaaGreatDoor
open Go.RowKit
section
variable{Tb:Af}
variable{n:Nat}{o:TB}{nx:Int}{P:List Pl}{W:List Wv}{A:Af}
theorem Ph:∀{V:List Bk} {b:Bk},(V.Pairwise λa b=>a.1<b.1)->b∈V->B5 b.1 V=b.2
 | x::t,b,hs,hb=>by
  rw[List.pairwise_cons] at hs;rw[B5];rcases Aei.1 hb with rfl|q
  ·rw[if_pos Z]
  rw[if_neg (by have:=hs.1 b q;omega)];exact Ph hs.2 q
theorem LvI.w_at(h:LvI n o nx P W A){x:Wv}(g:x∈W){k:Nat}{b:Bk}(a:x.V[k]?=some b):B5 b.1 x.V=b.2/\0<=b.1/\b.1<x.sz:=by
 obtain ⟨j,d⟩:=AeW.1 g;obtain ⟨i,p,hi,hs,e⟩:=h.rel.back d;have q:=h.ok hi hs;have a:=Ad8 a;simp only[Wv.core,CF,Afy] at e;obtain ⟨_,e2,_,f⟩:=e;rw[f] at a ⊢;have hs:=q.root.srt;refine ⟨Ph ?_ a,?_⟩
 ·unfold AZ;rw[AfE];exact hs.1
 obtain ⟨y,c,rfl⟩:=Aeh.1 a;have l:=hs.2 y c;have m:=q.key y c;dsimp only;exact ⟨by omega,by omega⟩
theorem Mf(V:List Bk)(at_:Int):rdB V at_ (1:Int).toNat=B5 at_ V:=by
 show rdB V at_ 0++B5 (at_+((0:Nat):Int)) V=_;simp[rdB]
set_option maxHeartbeats 8000000 in
theorem Xy (pv pw pp mb n:Nat) (nx:Int) (P:List Pl) (o:TB) (W:List Wv) (A:Af) (hL:LvI n o nx P W A) (b5:mb<=1000000000):Cn prog 7 [Y pv,Y pw] [voA pv pp nx ([]) (P.map Prod.fst),trA Tb pp mb n o none,wdA pw nx W,A] (λv Γ=>v=.bool true/\Γ=[voA pv pp nx [] (P.map Prod.fst),trA Tb pp mb n o none,wdA pw nx W,A]):=by
 intro z R w H;replace H:=H.l4
 have b9:=hL.bag;have hv:=hL.hv;refine Ae func7 Z ntmps7 Z (Zc 8 Z (Aq Z (call34 _) (QW _ _ _ _ _ hL.hv) H ?_));rintro lv w _ ⟨Y_,⟨b6,b7⟩,rfl⟩ H;replace H:=H.l5;have d7:=hL.liv_len b6 b7;have c5:=H.sy 0 (·.slc);obtain ⟨al,cl,rfl⟩:=c5;refine Zc 5 Z ?_;replace H:=H.f3;obtain ⟨uw,H⟩:=H.wd;replace H:=H.l6;have c4:=H.sy 1 (·.slc);obtain ⟨aw,cw,rfl⟩:=c4;have d5:=H.sy 1 (·.rd.slcapZ);refine AO (Sep z (blk pw [.slice aw W.length cw,I nx] 67::R)) 18 Z J (A5 H λw f=>?_);have H:=f.l6;refine AU [0,1,2,3,4,5,6,7] [0,0,0,0] [] (by exact H.pick 6 [0] Z) Z J Z (AC 23 (v:=.bool false) Z (congrArg Value.bool (decide_eq_false U)) (AU [8,9,12,13,14,15] [1,0,0] [] (by exact H.pick 6 [0] Z) Z J Z (AB [10] J O (An (Bo Z Z Z Z Z Z (λw=>call35 _ w) (Lg _ _ _ _ _ hv O) H.f3 Z ?_)))));rintro _ w _ ⟨cv,cs,rfl,rfl⟩ H;replace H:=H.l8;refine Av (H.pick 8 [3] Z) (BO 11 Z J J J Z Z Z (OD (v:=I nx) Z Z J) (H.pick 8 [3] Z) (AU [16,17] [0] [] (by exact H.pick 8 [3] Z) Z J Z (a_done J (gn (Zc 1 Z (Ag Z (λh1=>?_) (λh1=>?_)))))))
 ·exact absurd Z h1
 refine Zc 9 Z ?_;refine AD (σ:=Nat) (λi=>[(6,I (i:Int)),(0,Y pv),(1,Y pw),(5,.slice al ((C9 (P.map Prod.fst)).length) cl)])
   (λi w=>Sep z (grow 76 6 cv ((P.map Prod.fst).length) (Bb (P.map Prod.fst))::Cx cs ([])::voA pv pp nx ([]) (P.map Prod.fst)::blk pw [.slice aw W.length cw,I nx] 67::grow 74 4 (.slice aw W.length cw) W.length (Bt W)::grow 76 6 (.slice al ((C9 (P.map Prod.fst)).length) cl) ((C9 (P.map Prod.fst)).length) (Bb Y_)::trA Tb pp mb n o none::A::R) w/\(i<=W.length)) (λi=>W.length-i) 0
   fr_z ⟨H,AeJ _⟩ ?_
 clear H;rintro i w ⟨f,hI⟩;have H:=f.l8;clear hI;refine Z0 9 [0] Z (Ag Z (λh2=>?_) (λh2=>?_))
 ·refine Zc 5 Z ?_;obtain ⟨x,c⟩:∃x,W[i]?=some x:=⟨_,Ad7 U⟩;have b0:=(H.rv 4 (·.rd)).at (BJ c 0 _ Z)
  obtain ⟨e,he,q1,q2,q3,q4,q5⟩:=hL.list_at b6 b7 c;obtain ⟨xi,xs,xq,xu,xV⟩:=x;dsimp only at q1 q3 q4 q5;have a0:InB A xu xV:=b9 _ (Ad8 c);have c3:=H.sy 7 (λq=>(a0 _ q).slc);obtain ⟨ax,cx,rfl⟩:=c3;have p:=(H.rv 5 (·.rd)).at (AT he 0 _ Z);have b8:=hL.w (Ad8 c);dsimp only at b8;have a5:=λk b hb=>hL.w_at (Ad8 c) (k:=k) (b:=b) hb;dsimp only at a5;refine Z2 6 [0,3,0] H Z (Ab Z (Aj Z (z:=4) (j:=i) (r:=i*4) J Z Z Z U b0 U) (Ab Z (Bq Z Z (vs:=[I xi,I xs,I xq,.slice ax xV.length cx]) J O (Ay (λk' u hk=>(H.rv 4 (·.rd)).at (BJ c k' u hk)))) (Za 0 [] H Z ?_)));intro b1 w H;refine Z4 5 [0] H Z ?_;intro w H;refine Bu (Sep z _) J J H.drew (BZ 2 [] Z J (AL Z Z Z (Aj Z (z:=6) (j:=i) (r:=i*6) J Z Z Z U p U) (AL Z Z Z (Bj Z (k:=0) (r:=i*6) J Z p Z) (AL Z Z Z (Ax Z Z J (λ_ hs=>(hs.rv 6 (·.rd)).at (AT he 0 _ Z))) (DZ 4 [0,0] (λ_ c=>(AS (c.blk 0 Z) AN)) Z J Z (Cd 55 Z (λh3=>U) (λh3=>?_)))))));refine BZ 2 [] Z J (AL Z Z Z (Aj Z (z:=6) (j:=i) (r:=i*6) J Z Z Z U p U) (AL Z Z Z (Bj Z (k:=2) (r:=i*6+2) J Z p Z) (AL Z Z Z (Ax Z Z J (λ_ hs=>(hs.rv 6 (·.rd)).at (AT he 2 _ Z))) (DZ 5 [1,0] (λ_ c=>(AS (c.blk 0 Z) AN)) Z J Z (Cd 65 Z (λh4=>U) (λh4=>?_))))));refine BZ 2 [] Z J (AL Z Z Z (Aj Z (z:=6) (j:=i) (r:=i*6) J Z Z Z U p U) (AL Z Z Z (Bj Z (k:=3) (r:=i*6+3) J Z p Z) (AL Z Z Z (Ax Z Z J (λ_ hs=>(hs.rv 6 (·.rd)).at (AT he 3 _ Z))) (DZ 5 [2,0] (λ_ c=>(AS (c.blk 0 Z) AN)) Z J Z (Cd 75 Z (λh5=>U) (λh5=>?_))))));refine BZ 2 [] Z J (AL Z Z Z (Aj Z (z:=6) (j:=i) (r:=i*6) J Z Z Z U p U) (AL Z Z Z (Bj Z (k:=5) (r:=i*6+5) J Z p Z) (AL Z Z Z (Ax Z Z J (λ_ hs=>(hs.rv 6 (·.rd)).at (AT he 5 _ Z))) (GF 5 [3,0,0,0] [] Z J (BH (λw f=>?_))))));have H:=f.l9;refine gn (Zc 1 Z (Ag Z (λh6=>U) (λh6=>?_)));refine Zc 9 Z ?_;refine AD (σ:=Nat) (λt=>[(8,I (t:Int)),(0,Y pv),(1,Y pw),(5,.slice al ((C9 (P.map Prod.fst)).length) cl),(6,I (i:Int)),(7,Y b1)])
    (λt w=>Sep z (blk b1 [I xi,I xs,I xq,.slice ax xV.length cx] 74::grow 76 6 cv ((P.map Prod.fst).length) (Bb (P.map Prod.fst))::Cx cs ([])::voA pv pp nx ([]) (P.map Prod.fst)::blk pw [.slice aw W.length cw,I nx] 67::grow 74 4 (.slice aw W.length cw) W.length (Bt W)::grow 76 6 (.slice al ((C9 (P.map Prod.fst)).length) cl) ((C9 (P.map Prod.fst)).length) (Bb Y_)::trA Tb pp mb n o none::A::R) w/\((t:Int)<=xs)) (λt=>xs.toNat-t) 0
    fr_z ⟨H,U⟩ ?_
  clear H;rintro t w ⟨f,hI⟩;have H:=f.l9;have ht:=hI;clear hI;refine Z2 8 [1,0,0,0] H Z (Al 90 Z (λh7=>?_) (λh7=>?_))
  ·refine Z0 5 [0] Z (Ag Z (λh8=>?_) (λh8=>?_))
   ·refine Z2 10 [0,0,0] H Z (Aq Z (call22 _) (Gy _ _ _ _ _ P _ Z _ hL.inv b5 xi (t:Int) 1 U U) H.f7.f4 ?_);rintro _ w _ (⟨a7,rfl,rfl⟩|⟨i9,e9,L9,⟨a1,a2,y⟩,(⟨a3,rfl,rfl⟩|⟨a3,c1,rfl,rfl⟩)⟩) f
    ·exact (by obtain ⟨e9,a8,q1,q2⟩:=hL.back c Z;exact absurd ⟨q1,q2⟩ (a7 e9 a8))
    ·exact (by have g:=hL.both a1 a2 c y.symm;have a6:=g.1;dsimp only at a6;exact absurd (by unfold Bm;rw[if_pos ⟨Z,by omega,by omega⟩,if_pos U]) a3)
    have H:=f.l10;have g:=(hL.both a1 a2 c y.symm).2.2;dsimp only at g;rw[<-g,Mf] at H;refine Zc 8 Z ?_;replace H:=H.f3;refine AO (Sep z (blk b1 [I xi,I xs,I xq,.slice ax xV.length cx] 74::grow 5 1 c1 ((B5 (t:Int) xV).length) ((B5 (t:Int) xV).map u8)::R)) 10 Z J (A5 H λw f=>?_);have H:=f.l10;refine AU [0,1,2,3] [4] [] (by exact H.pick 10 [0,1] Z) Z J Z (BO 4 Z J J J Z Z Z (Co (l:=B5 (t:Int) xV) Z J J Z (λ_ hs=>hs.rv 1 (·.rd))) (H.pick 10 [0,1] Z) (AU [5,6] [0,4] [] (by exact H.pick 10 [0,1] Z) Z J Z (AB [7] J O (An (Bo Z Z Z Z Z Z (λw=>call36 _ w) (TO _ _ _ _ _ _ _ a0) H.f9 Z ?_)))));rintro _ w _ ⟨rfl,rfl⟩ H;replace H:=H.l10;refine Av (H.pick 10 [1,2] Z) (BO 8 Z J J J Z Z Z (Kq (l:=B5 (t:Int) xV) (m:=B5 (t:Int) xV) Z J Z Z) (H.pick 10 [1,2] Z) (AU [9] [] [] (by exact H.pick 10 [1,2] Z) Z J Z (a_done J (gn (Zc 1 Z (Ag Z (λh9=>?_) (λh9=>?_)))))))
    ·first|exact absurd rfl h9|exact absurd a4.1 h9
    refine Z1 8 [] [(t:Int)+1] Z U ?_;replace H:=H.f2.d.f3.f8.f8.f8.f6.f8.f8.f8;refine gf ?_;intro _ hF;refine ⟨(t+1),hF.cz,⟨H,?_⟩,?_⟩
    ·omega
    omega
   refine Zc 2 Z (gx (Zc 8 Z ?_));refine AD (σ:=Nat) (λs=>[(11,I (s:Int)),(0,Y pv),(1,Y pw),(5,.slice al ((C9 (P.map Prod.fst)).length) cl),(6,I (i:Int)),(7,Y b1),(8,I (t:Int))])
     (λs w=>Sep z (blk b1 [I xi,I xs,I xq,.slice ax xV.length cx] 74::grow 76 6 cv ((P.map Prod.fst).length) (Bb (P.map Prod.fst))::Cx cs ([])::voA pv pp nx ([]) (P.map Prod.fst)::blk pw [.slice aw W.length cw,I nx] 67::grow 74 4 (.slice aw W.length cw) W.length (Bt W)::grow 76 6 (.slice al ((C9 (P.map Prod.fst)).length) cl) ((C9 (P.map Prod.fst)).length) (Bb Y_)::trA Tb pp mb n o none::A::R) w/\(s<=xV.length)) (λs=>xV.length-s) 0
     fr_z ⟨H,AeJ _⟩ ?_
   clear H;rintro s w ⟨f,hI⟩;have H:=f.l9;clear hI;refine Z2 10 [3,0,0,0] H Z (Ag Z (λc2=>?_) (λc2=>?_))
   ·refine Zc 5 Z ?_;obtain ⟨b,hb⟩:∃b,xV[s]?=some b:=⟨_,Ad7 U⟩;have a4:=a5 s b hb
    have a:=(H.rv 8 (a0 _)).at (CN hb).1;replace H:=H.f8.f1;refine Bl (Sep z (blk b1 [I xi,I xs,I xq,.slice ax xV.length cx] 74::A::R)) 15 Z J (A5 H λw f=>?_);have H:=f.l9;refine Bw [0,1,2,3,4,5] [0,0,3,0] J (λ_ c=>(AS (c.blk 0 Z) AN)) (by exact H.pick 9 [0,1] Z) Z J Z Z (BS 6 J Z Z J J J Z Z Z (Aj Z (z:=2) (j:=s) (r:=s*2) J Z Z Z U a U) (H.pick 9 [0,1] Z) (BS 7 J Z Z J J J Z Z Z (Bj Z (k:=0) (r:=s*2) J Z a Z) (H.pick 9 [0,1] Z) (BS 8 J Z Z J J J Z Z Z (Ax Z Z J (λ_ hs=>(hs.rv 1 (a0 _)).at (CN hb).1)) (H.pick 9 [0,1] Z) (AF [9] J O (An (Bo Z Z Z Z Z Z (λw=>call22 _ w) (Gy _ _ _ _ _ P _ Z _ hL.inv b5 xi b.1 1 U U) H.f8.f5 Z ?_))))));rintro _ w _ (⟨a7,rfl,rfl⟩|⟨i9,e9,L9,⟨a1,a2,y⟩,(⟨a3,rfl,rfl⟩|⟨a3,e0,rfl,rfl⟩)⟩) f
    ·exact (by obtain ⟨e9,a8,q1,q2⟩:=hL.back c Z;exact absurd ⟨q1,q2⟩ (a7 e9 a8))
    ·exact (by have g:=hL.both a1 a2 c y.symm;have a6:=g.1;dsimp only at a6;exact absurd (by unfold Bm;rw[if_pos ⟨Z,by omega,by omega⟩,if_pos U]) a3)
    have H:=f.l10;have g:=(hL.both a1 a2 c y.symm).2.2;dsimp only at g;rw[<-g,Mf] at H;refine Au (λ_=>(H.pick 10 [3,4] Z)) (Bw [10,11,12,13] [] J (λ_ _=>AN) (by exact H.pick 10 [3,4] Z) Z J Z Z (AF [14] J O (An (CI Z Z Z Z (Bi Z Z) (Au (λh=>absurd Z h) (Bn J (gn (Zc 2 Z (Bu (Sep z _) J J H.drew (GF 4 [4] [] Z J (AL Z Z Z (Co (l:=B5 b.1 xV) Z J J Z (λ_ hs=>hs.rv 0 (·.rd))) (DZ 3 [3,0] (λ_ c=>(AS (c.blk 3 Z) AN)) Z J Z (AL Z Z Z (Aj Z (z:=2) (j:=s) (r:=s*2) J Z Z Z U a U) ?_)))))))))))));refine AL Z Z Z (Bj Z (k:=1) (r:=s*2+1) J Z a Z) (AL Z Z Z (Ax Z Z J (λ_ hs=>(hs.rv 4 (a0 _)).at (CN hb).2)) (AL Z Z Z (Kq (l:=B5 b.1 xV) (m:=b.2) Z J Z Z) (BZ 1 [] Z J (BH (λw f=>?_)))));have H:=f.l10;refine gn (Zc 1 Z (Ag Z (λb3=>?_) (λb3=>?_)))
    ·first|exact absurd rfl b3|exact absurd a4.1 b3
    refine Z1 8 [] [(s:Int)+1] Z U ?_;replace H:=H.d.f3.f2.f8.f8.f8.f5.f8.f8.f8;refine gf ?_;intro _ hF;refine ⟨(s+1),hF.cz,⟨H,?_⟩,?_⟩
    ·omega
    omega
   refine Zc 2 Z (gx (Z1 8 [] [(i:Int)+1] Z U ?_));replace H:=H.d;refine gf ?_;intro _ hF;refine ⟨(i+1),hF.cz,⟨H,?_⟩,?_⟩
   ·omega
   omega
  refine Zc 8 Z (gx (Zc 8 Z ?_));refine AD (σ:=Nat) (λs=>[(11,I (s:Int)),(0,Y pv),(1,Y pw),(5,.slice al ((C9 (P.map Prod.fst)).length) cl),(6,I (i:Int)),(7,Y b1),(8,I (t:Int))])
    (λs w=>Sep z (blk b1 [I xi,I xs,I xq,.slice ax xV.length cx] 74::grow 76 6 cv ((P.map Prod.fst).length) (Bb (P.map Prod.fst))::Cx cs ([])::voA pv pp nx ([]) (P.map Prod.fst)::blk pw [.slice aw W.length cw,I nx] 67::grow 74 4 (.slice aw W.length cw) W.length (Bt W)::grow 76 6 (.slice al ((C9 (P.map Prod.fst)).length) cl) ((C9 (P.map Prod.fst)).length) (Bb Y_)::trA Tb pp mb n o none::A::R) w/\(s<=xV.length)) (λs=>xV.length-s) 0
    fr_z ⟨H,AeJ _⟩ ?_
  clear H;rintro s w ⟨f,hI⟩;have H:=f.l9;clear hI;refine Z2 10 [3,0,0,0] H Z (Ag Z (λc0=>?_) (λc0=>?_))
  ·refine Zc 5 Z ?_;obtain ⟨b,hb⟩:∃b,xV[s]?=some b:=⟨_,Ad7 U⟩;have a4:=a5 s b hb
   have a:=(H.rv 8 (a0 _)).at (CN hb).1;replace H:=H.f8.f1;refine Bl (Sep z (blk b1 [I xi,I xs,I xq,.slice ax xV.length cx] 74::A::R)) 15 Z J (A5 H λw f=>?_);have H:=f.l9;refine Bw [0,1,2,3,4,5] [0,0,3,0] J (λ_ c=>(AS (c.blk 0 Z) AN)) (by exact H.pick 9 [0,1] Z) Z J Z Z (BS 6 J Z Z J J J Z Z Z (Aj Z (z:=2) (j:=s) (r:=s*2) J Z Z Z U a U) (H.pick 9 [0,1] Z) (BS 7 J Z Z J J J Z Z Z (Bj Z (k:=0) (r:=s*2) J Z a Z) (H.pick 9 [0,1] Z) (BS 8 J Z Z J J J Z Z Z (Ax Z Z J (λ_ hs=>(hs.rv 1 (a0 _)).at (CN hb).1)) (H.pick 9 [0,1] Z) (AF [9] J O (An (Bo Z Z Z Z Z Z (λw=>call22 _ w) (Gy _ _ _ _ _ P _ Z _ hL.inv b5 xi b.1 1 U U) H.f8.f5 Z ?_))))));rintro _ w _ (⟨a7,rfl,rfl⟩|⟨i9,e9,L9,⟨a1,a2,y⟩,(⟨a3,rfl,rfl⟩|⟨a3,d9,rfl,rfl⟩)⟩) f
   ·exact (by obtain ⟨e9,a8,q1,q2⟩:=hL.back c Z;exact absurd ⟨q1,q2⟩ (a7 e9 a8))
   ·exact (by have g:=hL.both a1 a2 c y.symm;have a6:=g.1;dsimp only at a6;exact absurd (by unfold Bm;rw[if_pos ⟨Z,by omega,by omega⟩,if_pos U]) a3)
   have H:=f.l10;have g:=(hL.both a1 a2 c y.symm).2.2;dsimp only at g;rw[<-g,Mf] at H;refine Au (λ_=>(H.pick 10 [3,4] Z)) (Bw [10,11,12,13] [] J (λ_ _=>AN) (by exact H.pick 10 [3,4] Z) Z J Z Z (AF [14] J O (An (CI Z Z Z Z (Bi Z Z) (Au (λh=>absurd Z h) (Bn J (gn (Zc 2 Z (Bu (Sep z _) J J H.drew (GF 4 [4] [] Z J (AL Z Z Z (Co (l:=B5 b.1 xV) Z J J Z (λ_ hs=>hs.rv 0 (·.rd))) (DZ 3 [3,0] (λ_ c=>(AS (c.blk 3 Z) AN)) Z J Z (AL Z Z Z (Aj Z (z:=2) (j:=s) (r:=s*2) J Z Z Z U a U) ?_)))))))))))));refine AL Z Z Z (Bj Z (k:=1) (r:=s*2+1) J Z a Z) (AL Z Z Z (Ax Z Z J (λ_ hs=>(hs.rv 4 (a0 _)).at (CN hb).2)) (AL Z Z Z (Kq (l:=B5 b.1 xV) (m:=b.2) Z J Z Z) (BZ 1 [] Z J (BH (λw f=>?_)))));have H:=f.l10;refine gn (Zc 1 Z (Ag Z (λb4=>?_) (λb4=>?_)))
   ·first|exact absurd rfl b4|exact absurd a4.1 b4
   refine Z1 8 [] [(s:Int)+1] Z U ?_;replace H:=H.d.f3.f2.f8.f8.f8.f5.f8.f8.f8;refine gf ?_;intro _ hF;refine ⟨(s+1),hF.cz,⟨H,?_⟩,?_⟩
   ·omega
   omega
  refine Zc 2 Z (gx (Z1 8 [] [(i:Int)+1] Z U ?_));replace H:=H.d;refine gf ?_;intro _ hF;refine ⟨(i+1),hF.cz,⟨H,?_⟩,?_⟩
  ·omega
  omega
 refine Zc 2 Z (gx (Zc 8 Z (Zr Z ?_)));have f:=Sep.toWd (W:=W) (H.pick 8 [3,4,2,6,7] Z);exact ⟨_,⟨Z,Z⟩,f.pick 4 [1,2,0,3] Z⟩
end
section
variable{n:Nat}{o:TB}{nx:Int}{P:List Pl}{W W2:List Wv}{A A2:Af}
theorem VRel.core{N:Hm}(h:VRel N P W)(c:W2.map Wv.core=W.map Wv.core):VRel N P W2:=by
 refine ⟨c▸h.p,?_⟩;have d:(W.map Wv.core).Pairwise λa b=>a.1<b.1:=by rw[AfE];exact h.s
 rw[<-c,AfE] at d;exact d
theorem LvI.copy(h:LvI n o nx P W A)(b:W2.map Wv.core=W.map Wv.core)(a:∀x∈W2,InB A2 x.u x.V):LvI n o nx P W2 A2:=⟨h.inv,h.rel.core b,h.nxe,a,h.d,h.k⟩
theorem LvI.free(h:LvI n o nx P W A){i:Nat}(hi:(P.map Prod.fst)[i]?=some v0):P[i]?=some pl0:=by
 rw[Aej] at hi
 cases e:P[i]? with
 | none=>rw[e] at hi;cases hi
 | some p=>
  rw[e] at hi;have hp:p.1=v0:=by simpa using hi
  rcases h.inv.all p (Ad8 e) with rfl|q
  ·rfl
  have:=q.id;rw[hp] at this;have:(1:Int)<=0:=this.1;omega
theorem LvI.pl_at(_:LvI n o nx P W A){i:Nat}{e:Vl}(hi:(P.map Prod.fst)[i]?=some e):∃L,P[i]?=some (e,L):=by
 rw[Aej] at hi
 cases q:P[i]? with
 | none=>rw[q] at hi;cases hi
 | some p=>rw[q] at hi;obtain ⟨a,b⟩:=p;simp only[AeN,Aef] at hi;exact ⟨b,by rw[<-hi]⟩
theorem LvI.full(h:LvI n o nx P W A)(b:∀e∈P.map Prod.fst,e≠v0):∀e∈P.map Prod.fst,e.st≠0:=λe a=>by
 obtain ⟨p,hp,rfl⟩:=Aeh.1 a;rcases h.inv.all p hp with rfl|q
 ·exact absurd Z (b _ a)
 have:=q.st;omega
theorem LvI.less(h:LvI n o nx P W A){i:Nat}(hi:P[i]?=some pl0):W.length<8:=by
 have a:=h.rel.p.length_eq;simp only[Dy,Aea] at a;have b:(P.filter Dx).length<P.length:=by
  refine Nat.lt_of_le_of_ne (AfO _ _) λq=>?_;have:=(List.length_filter_eq_length_iff.1 q) pl0 (Ad8 hi);simp[Dx,pl0,v0] at this
 have:=h.inv.len;omega
theorem LvI.fresh(h:LvI n o nx P W A):∀q∈P,q.1.id≠nx:=λq hq=>by
 rcases h.inv.all q hq with rfl|p
 ·have:=h.inv.nb;show (0:Int)≠nx;omega
 have:=p.id;omega
theorem LvI.ltn(h:LvI n o nx P W A):∀x∈W,x.id<nx:=λx a=>(h.w a).2.2.2.2.2
theorem LvI.rfree(h:LvI n o nx P W A){i:Nat}(hi:P[i]?=some pl0):o.R.Perm (C7 (P.eraseIdx i)):=by
 have:=h.inv.r.trans (I5 hi);exact this
theorem LvI.new(h:LvI n o nx P W A){i:Nat}(hi:P[i]?=some pl0){e:Vl}{L:List E}(a:e.id=nx)(b:e.st=1)(hp:PlOk o.N (nx+1) (e,L)){C2:Nat->Nat}{u:Value}{V:List Bk}(l:V=AZ o.N L)(g:Ink A A2)(j:InB A2 u V)(K:TrK n ⟨o.N,C2,Ba e.r.toNat++o.R⟩ none):LvI n ⟨o.N,C2,Ba e.r.toNat++o.R⟩ (nx+1) (P.set i (e,L)) (W++[⟨nx,e.sz,e.q,u,V⟩]) A2:=by
 have k:=h.nx9;refine ⟨h.inv.upd hi ⟨by omega,by omega⟩ (λc _ M q=>q) hp (.inr λq hq=>by show q.1.id≠e.id;rw[a];exact h.fresh q hq) ((h.rfree hi).append_left _),h.rel.new hi (show (0:Int)≠1 by omega) b ?_ (λx f=>h.ltn x f) (λ_ _ _=>rfl),?_,λx f=>?_,h.d,K⟩
 ·simp only[Wv.core,CF,a,l]
 ·have:=Pd (p2:=(e,L)) hi (show e.st≠0 by omega)
  have m:=h.nxe;have:(if pl0.1.st=0 then (1:Int) else 0)=1:=if_pos Z;omega
 rcases Aek.1 f with q|q
 ·exact g _ _ (h.bag x q)
 simp at q;subst q;exact j
theorem LvI.create(h:LvI n o nx P W A){i:Nat}(hi:(P.map Prod.fst)[i]?=some v0){b a:Int}(hs:1<=b/\b<=1048576)(hq:0<=a/\a<=1048576){C2:Nat->Nat}{u:Value}(c:Ink A A2)(d:InB A2 u [])(K:TrK n ⟨o.N,C2,o.R⟩ none):
  LvI n ⟨o.N,C2,o.R⟩ (nx+1) (P.set i (⟨nx,1,b,a,0,0⟩,[])) (W++[⟨nx,b,a,u,[]⟩]) A2:=by
 have f:=h.nx9;exact h.new (h.free hi) (e:=⟨nx,1,b,a,0,0⟩) (L:=[]) Z Z ⟨⟨by show 1<=nx;omega,by show nx<nx+1;omega⟩,.inl Z,hs,hq,⟨by show (0:Int)<=0;omega,by show (0:Int)<=1023;omega⟩,.inl ⟨Z,Z⟩,by simp[vals],Z,λ_ q=>by cases q⟩ Z c d K
theorem LvI.snap(h:LvI n o nx P W A){i j k:Nat}(hi:(P.map Prod.fst)[i]?=some v0){e:Vl}{L:List E}(b:P[j]?=some (e,L))(hs:e.st=1){x:Wv}(l:W[k]?=some x)(a:x.id=e.id){C2:Nat->Nat}{u:Value}(c:Ink A A2)(f:InB A2 u x.V)(K:TrK n ⟨o.N,C2,Ba e.r.toNat++o.R⟩ none):
  LvI n ⟨o.N,C2,Ba e.r.toNat++o.R⟩ (nx+1) (P.set i ({e with id:=nx,st:=1},L)) (W++[⟨nx,x.sz,x.q,u,x.V⟩]) A2:=by
 have p:=h.nx9;have q:=h.ok b hs;obtain ⟨m,d,g⟩:=h.both b hs l a;have:=h.new (h.free hi) (e:= {e with id:=nx,st:=1}) (L:=L) (C2:=C2) (u:=u) (V:=x.V) Z Z ⟨⟨by show 1<=nx;omega,by show nx<nx+1;omega⟩,.inl Z,q.sz,q.q,q.r,q.root,q.nd,q.mp,q.key⟩ g c f K;rw[m,d];exact this
theorem LvI.del(h:LvI n o nx P W A){i j:Nat}{e:Vl}{L:List E}(hi:P[i]?=some (e,L))(hs:e.st=1){x:Wv}(f:W[j]?=some x)(a:x.id=e.id){C2:Nat->Nat}(K:TrK n ⟨o.N,C2,o.R⟩ none):
  LvI n ⟨o.N,C2,o.R⟩ nx (P.set i ({e with st:=2},L)) (W.take j++W.drop (j+1)) A:=by
 have q:=h.ok hi hs;have hq:=q.id;dsimp only at hq;refine ⟨h.inv.upd hi ⟨Afg _,h.inv.nb.2⟩ (λc _ M q=>q) ⟨q.id,.inr Z,q.sz,q.q,q.r,q.root,q.nd,q.mp,q.key⟩ (.inl Z) (by have g:=h.inv.r.trans (I5 hi);exact g),h.rel.del h.inv hi f (show e.id≠0 by omega) (show (2:Int)≠1 by omega) a (λ_ _ _=>rfl),?_,λy b=>h.bag y ?_,h.d,K⟩
 ·have:=I8 (p2:=({e with st:=2},L)) hi hs (show (2:Int)≠0 by omega)
  have k:=h.nxe;omega
 rcases Aek.1 b with q|q
 ·exact Afa q
 exact Afo q
theorem LvI.last(h:LvI n o nx P W A){i:Nat}{e:Vl}{L:List E}(hi:P[i]?=some (e,L))(hs:e.st=1)(d:Int):HY (AZ o.N L) d↔Bv d 1048576 L≠[]:=by
 have q:=h.ok hi hs;have r:=q.root.srt;have k:Srt L:=r.1;constructor
 ·rintro ⟨b,u,x⟩
  have w:=Ad8 u;obtain ⟨y,g,rfl⟩:=Aeh.1 w;have hk:=r.2 y g;intro v;have:y∈Bv d 1048576 L:=Ae6.2 ⟨g,by simp only[decide_eq_true_eq];dsimp only at x;omega⟩;rw[v] at this;cases this
 intro l;obtain ⟨y,g⟩:=List.exists_mem_of_ne_nil _ l;obtain ⟨s,z⟩:=Ae6.1 g;simp only[decide_eq_true_eq] at z;obtain ⟨a,j⟩:=AeW.1 s;have m:a<L.length:=(Ad6.1 j).1;have f:L[L.length-1]?=some L[L.length-1]:=Ad7 U;refine ⟨(L[L.length-1].1,_),by unfold AZ;rw[Aej,Aea,f];rfl,?_⟩;show d<=L[L.length-1].1;rcases Ael a (L.length-1) with c|c
 ·have t:=(Afp.1 k) a (L.length-1) m (show L.length-1<L.length by omega) c
  have p:=(Ad6.1 j).2;rw[p] at t;omega
 have:a=L.length-1:=by omega
 subst this;have p:=(Ad6.1 j).2;rw[p];omega
theorem LvI.resize(h:LvI n o nx P W A){i j:Nat}{e:Vl}{L:List E}(hi:P[i]?=some (e,L))(hs:e.st=1){x:Wv}(g:W[j]?=some x)(b:x.id=e.id){a:Int}(f:1<=a/\a<=1048576)(p:Bv a 1048576 L=[]){C2:Nat->Nat}(K:TrK n ⟨o.N,C2,o.R⟩ none):
  LvI n ⟨o.N,C2,o.R⟩ nx (P.set i ({e with sz:=a},L)) (W.set j {x with sz:=a}) A:=by
 have q:=h.ok hi hs;have hq:=q.id;dsimp only at hq;obtain ⟨w,l,m⟩:=h.both hi hs g b;have s:=q.root.srt;refine ⟨h.inv.upd hi ⟨Afg _,h.inv.nb.2⟩ (λc _ M q=>q) ⟨q.id,q.st,f,q.q,q.r,q.root,q.nd,q.mp,λy k=>?_⟩ (.inl Z) (by have t:=h.inv.r.trans (I5 hi);exact t),h.rel.upd h.inv hi g (show e.id≠0 by omega) hs hs b ?_ Z (λ_ _ _ _=>rfl),?_,QZ h.bag (Ink.refl _) (h.bag x (Ad8 g)),h.d,K⟩
 ·have u:=s.2 y k
  rcases AhO y.1 a with c|c
  ·exact c
  have:y∈Bv a 1048576 L:=Ae6.2 ⟨k,by simp only[decide_eq_true_eq];omega⟩;rw[p] at this;cases this
 ·simp only[Wv.core,CF,Afy];exact ⟨b,trivial,l,m⟩
 have:=I8 (p2:=({e with sz:=a},L)) hi hs (show e.st≠0 by omega);have v:=h.nxe;omega
theorem Pi(c:W2.map Wv.core=W.map Wv.core){x:Wv}(b:x∈W2):∃y∈W,y.core=x.core:=by
 have:x.core∈W.map Wv.core:=c▸Aeh.2 ⟨x,b,Z⟩;obtain ⟨y,a,e⟩:=Aeh.1 this;exact ⟨y,a,e⟩
structure DoE(n:Nat)(o o2:TB)(nx nx2:Int)(W W2:List Wv)(kd ci ca cc cs cq:Int)(od:Bool):Prop where
 cr:pkI kd 10=0->((1<=cs/\cs<=1048576)/\0<=cq/\cq<=1048576)->nx<=8->nx2=nx+1/\W2.map Wv.core=W.map Wv.core++[(nx,cs,cq,[])]/\o2.N=o.N/\o2.R=o.R
 wr:pkI kd 10=1->(0<=ci/\ci<100)->0<W.length->∃x∈W,nx2=nx/\WrE W W2 x.id ca (mV cc od) (cnt (AV n o.C) 0 1024)
 sn:pkI kd 10=4->(0<=ci/\ci<100)->0<W.length->nx<=8->∃x∈W,W2.map Wv.core=W.map Wv.core++[(nx,x.sz,x.q,x.V)]
section
variable{o2:TB}{nx2 kd ci ca cc cs cq id:Int}{od:Bool}{Wc:List Wv}
theorem DoE.ot(a:pkI kd 10≠0)(c:pkI kd 10≠1)(b:pkI kd 10≠4):DoE n o o2 nx nx2 W W2 kd ci ca cc cs cq od:=⟨λq=>absurd q a,λq=>absurd q c,λq=>absurd q b⟩
theorem DoE.c0(h:pkI kd 10=0)(a:((1<=cs/\cs<=1048576)/\0<=cq/\cq<=1048576)->nx<=8->nx2=nx+1/\W2.map Wv.core=W.map Wv.core++[(nx,cs,cq,[])]/\o2.N=o.N/\o2.R=o.R):DoE n o o2 nx nx2 W W2 kd ci ca cc cs cq od:=⟨λ_=>a,λq=>by omega,λq=>by omega⟩
theorem DoE.w1(h:pkI kd 10=1)(c:0<W.length/\0<=ci/\ci<100->∃x∈W,x.id=id)(b:nx2=nx/\WrE W W2 id ca (mV cc od) (cnt (AV n o.C) 0 1024)):DoE n o o2 nx nx2 W W2 kd ci ca cc cs cq od:=⟨λq=>by omega,λ_ f d=>by obtain ⟨x,a,e⟩:=c ⟨d,f⟩;exact ⟨x,a,by rw[e];exact b⟩,λq=>by omega⟩
theorem DoE.s4(h:pkI kd 10=4)(a:0<W.length/\0<=ci/\ci<100->nx<=8->∃x∈W,W2.map Wv.core=W.map Wv.core++[(nx,x.sz,x.q,x.V)]):DoE n o o2 nx nx2 W W2 kd ci ca cc cs cq od:=⟨λq=>by omega,λq=>by omega,λ_ c b=>a ⟨b,c⟩⟩
theorem DoE.s4n(h:pkI kd 10=4)(b:Wc.map Wv.core=W.map Wv.core)(f:0<W.length/\0<=ci/\ci<100->∃x∈W,x.id=id)(c:∀x∈Wc,x.id≠id):DoE n o o2 nx nx2 W W2 kd ci ca cc cs cq od:=DoE.s4 h λq _=>by
 obtain ⟨x,a,e⟩:=f q;obtain ⟨y,d,e2⟩:=Pi b.symm a;exact absurd ((congrArg Prod.fst e2).trans e) (c y d)
theorem DoE.s4y(h:pkI kd 10=4)(a:Wc.map Wv.core=W.map Wv.core){x:Wv}(b:x∈Wc)(u:Value):DoE n o o2 nx nx2 W (Wc++[⟨nx,x.sz,x.q,u,x.V⟩]) kd ci ca cc cs cq od:=DoE.s4 h λ_ _=>by
 obtain ⟨y,c,e⟩:=Pi a b;simp only[Wv.core,Afy] at e;exact ⟨y,c,by rw[AeD,a,e.2.1,e.2.2.1,e.2.2.2];rfl⟩
end
theorem LvI.xo(h:LvI n o nx P W A):∀e∈P.map Prod.fst,e.r.toNat≠0->(manyN n<e.r.toNat/\e.r.toNat<n)/\1<=o.C e.r.toNat:=λe c d=>by
 obtain ⟨p,hp,rfl⟩:=Aeh.1 c;have b:=h.inv.r.mem_iff.2 (L7 hp d);have a:=h.k.i.rin _ b;have g:=h.k.i.cnt _ a.1 a.2;have f:=Agp.2 b;exact ⟨⟨by omega,a.2⟩,by show 1<=curC o none p.1.r.toNat;rw[g];exact Agl f (Nat.le_add_right _ _)⟩
end
theorem WJ(pp ps c b n:Nat)(a:Bool):Cn prog 32 [Y pp] [plB pp ps c b n a] (λv Γ=>v=Y ps/\Γ=[plB pp ps c b n a]):=by
 intro z R w H;replace H:=H.l1;refine Ae func32 Z ntmps32 Z (Z2 16 [0,0,0,0] H Z (Zr Z ?_));exact ⟨_,⟨Z,Z⟩,H.pick 1 [0] Z⟩
section
variable{Tb:Af}
set_option maxHeartbeats 16000000 in
theorem JF (pb pd pv pw pp mb n:Nat) (nx:Int) (P:List Pl) (o:TB) (W:List Wv) (A:Af) (s:LvI n o nx P W A) (d7:mb+20<=1000000000) (kd ci ca cc cf cs cq:Int) (sy od:Bool) (c4: -9223372036854775808<=ca/\ca<=9223372036854775807) (c2: -9223372036854775808<=cc/\cc<=9223372036854775807) (e1: -9223372036854775808<=cf/\cf<=9223372036854775807) (e2: -9223372036854775808<=kd/\kd<=9223372036854775807):Cn prog 6 [Y pb,.agg #[I kd,I ci,I ca,I cc,I cf,I cs,I cq,.bool sy,.bool od]] [blk pb [Y pd,Y pv,Y pw] 35,voA pv pp nx ([]) (P.map Prod.fst),trA Tb pp mb n o none,wdA pw nx W,A] (λv Γ=>∃(p2:Nat) (nx2:Int) (P2:List Pl) (d8:List Vl) (o2:TB) (W2:List Wv) (A2:Af) (m2:Nat),(LvI n o2 nx2 P2 W2 A2/\d8=P2.map Prod.fst/\m2<=mb+16/\DoE n o o2 nx nx2 W W2 kd ci ca cc cs cq od)/\v=.bool true/\Γ=[blk pb [Y pd,Y pv,Y p2] 35,voA pv pp nx2 [] d8,trA Tb pp m2 n o2 none,wdA p2 nx2 W2,A2]):=by
 intro z R w H;replace H:=H.l5;have d3:W.length<=64:=by have:=s.w8;omega
 have f9:=λx b=>(s.w (x:=x) b).1;have d2:∀x∈W,x.V.length<=1048576:=λx b=>by have:=(s.w b).2.2.1;omega
 have f0:=s.bag;have hv:=s.hv;refine Ae func6 Z ntmps6 Z (Za 2 [] H Z ?_);intro b1 w H;refine Z2 9 [1,1,0] H Z (z_E_ Z (call13 _) (QQ _ _ _ _ _) H.f2 ?_);intro w H;replace H:=H.l6;refine z_E_ Z (call14 _) (AbN _ _ _ _ none) H.f3 ?_;intro w H;refine Z2 7 [2,9] H Z (Aq Z (call15 _) (Adj _ _ _ _ _ _ _ _ _ _ _ _ _ _ _ d3) H.f4.f4 ?_);rintro _ w _ ⟨id,d1,rfl,rfl⟩ H;refine Z2 9 [2,0,0] H Z (Aq Z (call16 _) (Aag _ _ _ d3 A f0 d2) H.f5.f2 ?_);rintro _ w _ ⟨p2,Wc,Ac,⟨c9,e4,d0⟩,rfl,rfl⟩ H;replace H:=H.l7;have f:=s.copy c9 d0;have a3:=s.ink e4;have c1:Wc.length<=64:=by have:=f.w8;omega
 have e0:∀x∈Wc,x.V.length<=1048576:=λx b=>by have:=(f.w b).2.2.1;omega
 have g5:=s.nx9;have b5:=s.inv.fit s.k;have b6:=OB s.k.hn.2;have c3:o.R.length+n<1000:=by have:=s.inv.r.length_eq;have:=QO P;have:=s.inv.len;have:=s.inv.n;omega
 refine Z2 8 [0,6,0] H Z (z_E_ Z (call5 _) (Me _ 10 e2 U) H ?_);intro w H;refine Z0 9 [0] Z (Ag Z (λh1=>?_) (λh1=>?_))
 ·refine Z2 7 [5,6,0,6,6,0] H Z (Aq Z (call17 _) (T7 _ _ _ U c1 _ cs cq) H.f2.f2 ?_);rintro _ w _ (⟨a7,rfl,rfl⟩|⟨c8,(⟨h8,rfl,rfl⟩|⟨b7,rfl,rfl⟩|⟨h7,u2,A3,⟨c7,d4⟩,rfl,rfl⟩)⟩) a
  ·have H:=a.l7;refine Zc 8 Z ?_;replace H:=H.f6.f4;refine Bl (Sep z (blk pb [Y pd,Y pv,Y pw] 35::blk b1 [I kd,I ci,I ca,I cc,I cf,I cs,I cq,.bool sy,.bool od] 29::R)) 14 Z J (A5 H λw a=>?_)
   have H:=a.l7;refine Bw [0,1,2,3,4,5,6,7] [1,0,5,1,6,1] J (λ_ b=>(AS (b.blk 0 Z) (AS (b.blk 1 Z) AN))) (by exact H.pick 7 [0,1] Z) Z J Z Z (AF [8] J O (An (Bo Z Z Z Z Z Z (λw=>call18 _ w) (I6 _ _ _ _ _ _ _ hv U b5 b6 U cs cq c3) H.f5.f6 Z ?_)));rintro _ w _ (⟨a0,rfl,rfl⟩|⟨b3,(⟨c,rfl,rfl⟩|⟨b7,rfl,rfl⟩|⟨i,C2,b0,rfl,rfl⟩)⟩) a
   ·have H:=a.l7;refine Au (λ_=>(H.pick 7 [2,3] Z)) (Bw [9,10,11,12] [] J (λ_ _=>AN) (by exact H.pick 7 [2,3] Z) Z J Z Z (AF [13] J O (An (CI Z Z Z Z (Bi Z Z) (Au (λh=>absurd Z h) (Bn J (gn (Zc 10 Z (Aq Z (call19 _) (Fm _ _ _ _ _ _ _ _ (by first|exact hv|(rw[AeP];exact hv)) _ _ _ _ _) H.f2 ?_)))))))));rintro _ w _ (⟨a6,rfl,rfl⟩|⟨b2,bv,a1,rfl,rfl⟩) a
    ·exact absurd a6 U
    have H:=a.l7;obtain rfl:bv=true:=by first|exact a1 ⟨rfl,.inl rfl⟩|exact a1 ⟨rfl,.inr ⟨rfl,.inr ⟨rfl,s.full c⟩⟩⟩
    refine Zc 4 rfl (Zr rfl ?_);exact ⟨_,⟨_,_,P,_,o,_,_,mb,⟨a3,rfl,by omega,DoE.c0 U (λq _=>absurd q a7)⟩,rfl,rfl⟩,H.pick 7 [0,1,2,6,5] rfl⟩
   ·exact absurd b3 a7
   ·exact absurd b3 a7
   exact absurd b3 a7
  ·have H:=a.l7;refine Zc 8 Z ?_;replace H:=H.f6.f4;refine Bl (Sep z (blk pb [Y pd,Y pv,Y pw] 35::blk b1 [I kd,I ci,I ca,I cc,I cf,I cs,I cq,.bool sy,.bool od] 29::R)) 14 Z J (A5 H λw a=>?_)
   have H:=a.l7;refine Bw [0,1,2,3,4,5,6,7] [1,0,5,1,6,1] J (λ_ b=>(AS (b.blk 0 Z) (AS (b.blk 1 Z) AN))) (by exact H.pick 7 [0,1] Z) Z J Z Z (AF [8] J O (An (Bo Z Z Z Z Z Z (λw=>call18 _ w) (I6 _ _ _ _ _ _ _ hv U b5 b6 U cs cq c3) H.f5.f6 Z ?_)));rintro _ w _ (⟨a0,rfl,rfl⟩|⟨b3,(⟨c,rfl,rfl⟩|⟨b7,rfl,rfl⟩|⟨i,C2,b0,rfl,rfl⟩)⟩) a
   ·exact absurd c8 a0
   ·have H:=a.l7;refine Au (λ_=>(H.pick 7 [2,3] Z)) (Bw [9,10,11,12] [] J (λ_ _=>AN) (by exact H.pick 7 [2,3] Z) Z J Z Z (AF [13] J O (An (CI Z Z Z Z (Bi Z Z) (Au (λh=>absurd Z h) (Bn J (gn (Zc 10 Z (Aq Z (call19 _) (Fm _ _ _ _ _ _ _ _ (by first|exact hv|(rw[AeP];exact hv)) _ _ _ _ _) H.f2 ?_)))))))));rintro _ w _ (⟨a6,rfl,rfl⟩|⟨b2,bv,a1,rfl,rfl⟩) a
    ·exact absurd a6 U
    have H:=a.l7;obtain rfl:bv=true:=by first|exact a1 ⟨rfl,.inl rfl⟩|exact a1 ⟨rfl,.inr ⟨rfl,.inr ⟨rfl,s.full c⟩⟩⟩
    refine Zc 4 rfl (Zr rfl ?_);exact ⟨_,⟨_,_,P,_,o,_,_,mb,⟨a3,rfl,by omega,DoE.c0 U (λ_ q=>absurd c (s.left q))⟩,rfl,rfl⟩,H.pick 7 [0,1,2,6,5] rfl⟩
   ·(exfalso;omega)
   (exfalso;have:=f.less (s.free b0.1);omega)
  ·(exfalso;omega)
  have H:=a.l7;refine Zc 8 Z ?_;replace H:=H.f6.f4;refine Bl (Sep z (blk pb [Y pd,Y pv,Y pw] 35::blk b1 [I kd,I ci,I ca,I cc,I cf,I cs,I cq,.bool sy,.bool od] 29::R)) 14 Z J (A5 H λw a=>?_);have H:=a.l7;refine Bw [0,1,2,3,4,5,6,7] [1,0,5,1,6,1] J (λ_ b=>(AS (b.blk 0 Z) (AS (b.blk 1 Z) AN))) (by exact H.pick 7 [0,1] Z) Z J Z Z (AF [8] J O (An (Bo Z Z Z Z Z Z (λw=>call18 _ w) (I6 _ _ _ _ _ _ _ hv U b5 b6 U cs cq c3) H.f5.f6 Z ?_)));rintro _ w _ (⟨a0,rfl,rfl⟩|⟨b3,(⟨c,rfl,rfl⟩|⟨b7,rfl,rfl⟩|⟨i,C2,b0,rfl,rfl⟩)⟩) a
  ·exact absurd c8 a0
  ·have H:=a.l7;refine Au (λ_=>(H.pick 7 [2,3] Z)) (Bw [9,10,11,12] [] J (λ_ _=>AN) (by exact H.pick 7 [2,3] Z) Z J Z Z (AF [13] J O (An (CI Z Z Z Z (Bi Z Z) (Au (λh=>absurd Z h) (Bn J (gn (Zc 10 Z (Aq Z (call19 _) (Fm _ _ _ _ _ _ _ _ (by first|exact hv|(rw[AeP];exact hv)) _ _ _ _ _) H.f2 ?_)))))))));rintro _ w _ (⟨a6,rfl,rfl⟩|⟨b2,bv,a1,rfl,rfl⟩) a
   ·exact absurd a6 U
   have H:=a.l7;obtain rfl:bv=true:=by first|exact a1 ⟨rfl,.inl rfl⟩|exact a1 ⟨rfl,.inr ⟨rfl,.inr ⟨rfl,s.full c⟩⟩⟩
   refine Zc 4 rfl (Zr rfl ?_);exact ⟨_,⟨_,_,P,_,o,_,_,mb,⟨(a3.ink c7),rfl,by omega,DoE.c0 U (λ_ q=>absurd c (s.left q))⟩,rfl,rfl⟩,H.pick 7 [0,1,2,6,5] rfl⟩
  ·(exfalso;omega)
  have H:=a.l7;refine Au (λ_=>(H.pick 7 [2,3] Z)) (Bw [9,10,11,12] [] J (λ_ _=>AN) (by exact H.pick 7 [2,3] Z) Z J Z Z (AF [13] J O (An (CI Z Z Z Z (Bi Z Z) (Au (λh=>absurd Z h) (Bn J (gn (Zc 10 Z (Aq Z (call19 _) (Fm _ _ _ _ _ _ _ _ (by first|exact hv|(rw[AeP];exact hv)) _ _ _ _ _) H.f2 ?_)))))))));rintro _ w _ (⟨a6,rfl,rfl⟩|⟨b2,bv,a1,rfl,rfl⟩) a
  ·have H:=a.l7;refine Zc 4 Z (Zr Z ?_);have K9:=H.says 2 Z (λh q=>trA.k q)
   exact ⟨_,⟨_,_,_,_,_,_,_,mb+2,⟨f.create b0.1 c8.1 c8.2 c7 d4 K9,(DQ _ _ _ _).symm,by omega,DoE.c0 U (λ_ _=>⟨Z,by rw[AeD,c9];rfl,Z,Z⟩)⟩,congrArg Value.bool (decide_eq_true ⟨Z,Z⟩),Z⟩,H.pick 7 [0,1,2,4,5] Z⟩
  exact absurd Z b2
 refine Z0 6 [0] Z (Ag Z (λh2=>?_) (λh2=>?_))
 ·refine Z2 6 [6,9] H Z (Aq Z (call20 _) (Ub _ _ _ _ _ _ _ _ P o W Ac a3 d7 id _ _ _ _ _ _ _ _ _ c4 c2 e1 _ Z) H.f2.f1.f4.f5.f5 ?_);rintro _ w _ ⟨p9,g1,P9,e6,o9,W9,A9,m9,⟨a8,c6,g3,e3⟩,rfl,rfl⟩ H;refine Zc 4 Z (Zr Z ?_);exact ⟨_,⟨_,_,P9,_,o9,_,A9,m9,⟨a8,c6,by omega,DoE.w1 U d1 e3⟩,Z,Z⟩,H.pick 7 [0,1,2,3,4] Z⟩
 refine Z0 6 [0] Z (Ag Z (λh3=>?_) (λh3=>?_))
 ·refine Zc 1 Z ?_;replace H:=H.f6.f4;refine Bl (Sep z (blk pb [Y pd,Y pv,Y pw] 35::blk b1 [I kd,I ci,I ca,I cc,I cf,I cs,I cq,.bool sy,.bool od] 29::R)) 15 Z J (A5 H λw a=>?_)
  have H:=a.l7;refine Bw [0,1,2,3,4,5,6,7,8] [2,0,2,1,3,1] J (λ_ b=>(AS (b.blk 0 Z) (AS (b.blk 1 Z) AN))) (by exact H.pick 7 [0,1] Z) Z J Z Z (AF [9] J O (An (Bo Z Z Z Z Z Z (λw=>call21 _ w) (Aai _ _ _ id ca cc d3 Ac a3.bag d2 f9 (λx b=>(s.w b).2.2.2.1) c4 c2) H.f4.f3 Z ?_)));rintro _ w _ (⟨a5,rfl,rfl⟩|⟨j,x,⟨b,d⟩,(⟨b9,rfl,rfl⟩|⟨b9,rfl,rfl⟩)⟩) a
  ·have H:=a.l7;refine Au (λ_=>(H.pick 7 [2,3] Z)) (Bw [10,11,12,13] [] J (λ_ _=>AN) (by exact H.pick 7 [2,3] Z) Z J Z Z (AF [14] J O (An (CI Z Z Z Z (Bi Z Z) (Au (λh=>absurd Z h) (Bn J (gn (Zc 2 Z ?_))))))));replace H:=H.f3.f3;refine Bl (Sep z (blk pb [Y pd,Y pv,Y pw] 35::blk b1 [I kd,I ci,I ca,I cc,I cf,I cs,I cq,.bool sy,.bool od] 29::R)) 15 Z J (A5 H λw a=>?_)
   have H:=a.l7;refine Bw [0,1,2,3,4,5,6,7,8] [1,0,2,1,3,1] J (λ_ b=>(AS (b.blk 0 Z) (AS (b.blk 1 Z) AN))) (by exact H.pick 7 [0,1] Z) Z J Z Z (AF [9] J O (An (Bo Z Z Z Z Z Z (λw=>call22 _ w) (Gy _ _ _ _ _ P _ Z _ s.inv U id ca cc c4 c2) H.f5.f6 Z ?_)));rintro _ w _ (⟨a2,rfl,rfl⟩|⟨i,e,L,⟨hi,hs,g⟩,(⟨hE,rfl,rfl⟩|⟨hE,ru,rfl,rfl⟩)⟩) a
   ·have H:=a.l7;refine Au (λ_=>(H.pick 7 [2,3] Z)) (Bw [10,11,12,13] [] J (λ_ _=>AN) (by exact H.pick 7 [2,3] Z) Z J Z Z (AF [14] J O (An (CI Z Z Z Z (Bi Z Z) (Au (λh=>absurd Z h) (Bn J (gn (Zc 4 Z (Ab Z (Co (l:=[]) Z J J Z (λw _=>Rd.nil 1 w)) (Zc 1 Z (Ab Z (IH (l:=[]) (m:=[]) Z J Z Z) (Zc 1 Z (Al 111 Z (λh4=>?_) (λh4=>?_))))))))))))))
    ·refine Z0 8 [3] Z (Zr Z ?_);exact ⟨_,⟨_,_,P,_,o,_,_,mb,⟨a3,Z,by omega,DoE.ot U U U⟩,Z,Z⟩,H.pick 7 [2,0,1,4,5] Z⟩
    exact absurd Z h4
   ·exact (by obtain ⟨j9,x9,q1,q2⟩:=s.at hi hs g;exact absurd q2 (a5 x9 (Ad8 q1)))
   exact (by obtain ⟨j9,x9,q1,q2⟩:=s.at hi hs g;exact absurd q2 (a5 x9 (Ad8 q1)))
  ·have H:=a.l7;refine Au (λ_=>(H.pick 7 [2,3] Z)) (Bw [10,11,12,13] [] J (λ_ _=>AN) (by exact H.pick 7 [2,3] Z) Z J Z Z (AF [14] J O (An (CI Z Z Z Z (Bi Z Z) (Au (λh=>absurd Z h) (Bn J (gn (Zc 2 Z ?_))))))));replace H:=H.f3.f3;refine Bl (Sep z (blk pb [Y pd,Y pv,Y pw] 35::blk b1 [I kd,I ci,I ca,I cc,I cf,I cs,I cq,.bool sy,.bool od] 29::R)) 15 Z J (A5 H λw a=>?_)
   have H:=a.l7;refine Bw [0,1,2,3,4,5,6,7,8] [1,0,2,1,3,1] J (λ_ b=>(AS (b.blk 0 Z) (AS (b.blk 1 Z) AN))) (by exact H.pick 7 [0,1] Z) Z J Z Z (AF [9] J O (An (Bo Z Z Z Z Z Z (λw=>call22 _ w) (Gy _ _ _ _ _ P _ Z _ s.inv U id ca cc c4 c2) H.f5.f6 Z ?_)));rintro _ w _ (⟨a2,rfl,rfl⟩|⟨i,e,L,⟨hi,hs,g⟩,(⟨hE,rfl,rfl⟩|⟨hE,ru,rfl,rfl⟩)⟩) a
   ·exact (by obtain ⟨e9,a4,q1,q2⟩:=s.back b d;exact absurd ⟨q1,q2⟩ (a2 e9 a4))
   ·have H:=a.l7;have a9:=s.both hi hs b (d.trans g.symm)
    refine Au (λ_=>(H.pick 7 [2,3] Z)) (Bw [10,11,12,13] [] J (λ_ _=>AN) (by exact H.pick 7 [2,3] Z) Z J Z Z (AF [14] J O (An (CI Z Z Z Z (Bi Z Z) (Au (λh=>absurd Z h) (Bn J (gn (Zc 2 Z (AC 13 (v:=I (Bm e.sz true ca cc)) Z (congrArg I (by rw[a9.1])) (Zc 2 Z (Ab Z (Co (l:=[]) Z J J Z (λw _=>Rd.nil 1 w)) (Zc 1 Z (Ab Z (IH (l:=[]) (m:=[]) Z J Z Z) ?_)))))))))))));refine Zc 1 Z (Al 111 Z (λh5=>?_) (λh5=>?_))
    ·refine Z0 8 [0] Z (Zr Z ?_);exact ⟨_,⟨_,_,P,_,o,_,_,mb,⟨a3,Z,by omega,DoE.ot U U U⟩,congrArg Value.bool (decide_eq_true U),Z⟩,H.pick 7 [2,0,1,4,5] Z⟩
    exact absurd Z h5
   exact (by have a9:=s.both hi hs b (d.trans g.symm);rw[a9.1] at b9;first|exact absurd hE b9|exact absurd b9 hE)
  have H:=a.l7;refine Au (λ_=>(H.pick 7 [2,3] Z)) (Bw [10,11,12,13] [] J (λ_ _=>AN) (by exact H.pick 7 [2,3] Z) Z J Z Z (AF [14] J O (An (CI Z Z Z Z (Bi Z Z) (Au (λh=>absurd Z h) (Bn J (gn (Zc 2 Z ?_))))))));replace H:=H.f3.f3;refine Bl (Sep z (blk pb [Y pd,Y pv,Y pw] 35::blk b1 [I kd,I ci,I ca,I cc,I cf,I cs,I cq,.bool sy,.bool od] 29::R)) 15 Z J (A5 H λw a=>?_);have H:=a.l7;refine Bw [0,1,2,3,4,5,6,7,8] [1,0,2,1,3,1] J (λ_ b=>(AS (b.blk 0 Z) (AS (b.blk 1 Z) AN))) (by exact H.pick 7 [0,1] Z) Z J Z Z (AF [9] J O (An (Bo Z Z Z Z Z Z (λw=>call22 _ w) (Gy _ _ _ _ _ P _ Z _ s.inv U id ca cc c4 c2) H.f5.f6 Z ?_)));rintro _ w _ (⟨a2,rfl,rfl⟩|⟨i,e,L,⟨hi,hs,g⟩,(⟨hE,rfl,rfl⟩|⟨hE,ru,rfl,rfl⟩)⟩) a
  ·exact (by obtain ⟨e9,a4,q1,q2⟩:=s.back b d;exact absurd ⟨q1,q2⟩ (a2 e9 a4))
  ·exact (by have a9:=s.both hi hs b (d.trans g.symm);rw[a9.1] at b9;first|exact absurd hE b9|exact absurd b9 hE)
  have H:=a.l8;have a9:=s.both hi hs b (d.trans g.symm);refine Au (λ_=>(H.pick 8 [3,4] Z)) (Bw [10,11,12,13] [] J (λ_ _=>AN) (by exact H.pick 8 [3,4] Z) Z J Z Z (AF [14] J O (An (CI Z Z Z Z (Bi Z Z) (Au (λh=>absurd Z h) (Bn J (gn (Zc 2 Z (AC 12 (v:=Cj (rdB (AZ o.N L) ca cc.toNat)) Z (by rw[a9.2.2]) (Zc 2 Z (Ab Z (Co (l:=rdB (AZ o.N L) ca cc.toNat) Z J J Z (Ay (H.rv 0 (·.rd)))) (Zc 1 Z (Ab Z (IH (l:=rdB (AZ o.N L) ca cc.toNat) (m:=rdB (AZ o.N L) ca cc.toNat) Z J Z Z) ?_)))))))))))));refine Zc 1 Z (Al 111 Z (λh6=>?_) (λh6=>?_))
  ·refine Z0 8 [3] Z (Zr Z ?_);exact ⟨_,⟨_,_,P,_,o,_,_,mb,⟨a3,Z,by omega,DoE.ot U U U⟩,Z,Z⟩,H.pick 8 [3,1,2,5,6] Z⟩
  exact absurd Z h6
 refine Z0 6 [0] Z (Ag Z (λh7=>?_) (λh7=>?_))
 ·refine Z2 6 [6,9] H Z (Aq Z (call23 _) (Uc _ _ _ _ _ _ _ _ P o W Ac a3 d7 id _ _ _ _ _ _ _ _ _ c4 c2 _ Z) H.f2.f1.f4.f5.f5 ?_);rintro _ w _ ⟨p9,g1,P9,e6,o9,V9,A9,m9,⟨a8,c6,g3⟩,rfl,rfl⟩ H;refine Zc 4 Z (Zr Z ?_);exact ⟨_,⟨_,_,P9,_,o9,_,A9,m9,⟨a8,c6,by omega,DoE.ot U U U⟩,Z,Z⟩,H.pick 7 [0,1,2,3,4] Z⟩
 refine Z0 6 [0] Z (Ag Z (λh8=>?_) (λh8=>?_))
 ·refine Zc 4 Z (Aq Z (call24 _) (Aah _ _ _ U id c1 _ d0 e0) H.f2.f2 ?_);rintro _ w _ (⟨a5,rfl,rfl⟩|⟨k,x,⟨b,d⟩,(⟨h8,rfl,rfl⟩|⟨b7,rfl,rfl⟩|⟨h7,u2,A3,⟨c7,d4⟩,rfl,rfl⟩)⟩) a
  ·have H:=a.l7;refine Z2 14 [1,3,0] H Z (Aq Z (call25 _) (Mc _ _ _ _ _ _ _ hv U b5 b6 U id s.xo c3) H.f4.f5 ?_);rintro _ w _ (⟨a2,rfl,rfl⟩|⟨j,e,⟨he,y,g⟩,(⟨c,rfl,rfl⟩|⟨b7,rfl,rfl⟩|⟨i,C2,b0,rfl,rfl⟩)⟩) a
   ·have H:=a.l7;refine Zc 16 Z (Aq Z (call19 _) (Fm _ _ _ _ _ _ _ _ (by first|exact hv|(rw[AeP];exact hv)) _ _ _ _ _) H.f5 ?_);rintro _ w _ (⟨a6,rfl,rfl⟩|⟨b2,bv,a1,rfl,rfl⟩) a
    ·exact absurd a6 U
    have H:=a.l7;obtain rfl:bv=true:=by first|exact a1 ⟨rfl,.inl rfl⟩|exact a1 ⟨rfl,.inr ⟨rfl,.inr ⟨rfl,s.full c⟩⟩⟩
    refine Zc 4 rfl (Zr rfl ?_);exact ⟨_,⟨_,_,P,_,o,_,_,mb,⟨a3,rfl,by omega,DoE.s4n U c9 d1 a5⟩,rfl,rfl⟩,H.pick 7 [0,1,2,5,4] rfl⟩
   ·exact (by obtain ⟨L9,a8⟩:=s.pl_at he;obtain ⟨j9,x9,q1,q2⟩:=f.at a8 y g;exact absurd q2 (a5 x9 (Ad8 q1)))
   ·exact (by obtain ⟨L9,a8⟩:=s.pl_at he;obtain ⟨j9,x9,q1,q2⟩:=f.at a8 y g;exact absurd q2 (a5 x9 (Ad8 q1)))
   exact (by obtain ⟨L9,a8⟩:=s.pl_at he;obtain ⟨j9,x9,q1,q2⟩:=f.at a8 y g;exact absurd q2 (a5 x9 (Ad8 q1)))
  ·have H:=a.l7;refine Z2 14 [1,3,0] H Z (Aq Z (call25 _) (Mc _ _ _ _ _ _ _ hv U b5 b6 U id s.xo c3) H.f4.f5 ?_);rintro _ w _ (⟨a2,rfl,rfl⟩|⟨j,e,⟨he,y,g⟩,(⟨c,rfl,rfl⟩|⟨b7,rfl,rfl⟩|⟨i,C2,b0,rfl,rfl⟩)⟩) a
   ·exact (by obtain ⟨e9,a4,q1,q2⟩:=f.back b d;exact absurd ⟨q1,q2⟩ (a2 e9 a4))
   ·have H:=a.l7;refine Zc 16 Z (Aq Z (call19 _) (Fm _ _ _ _ _ _ _ _ (by first|exact hv|(rw[AeP];exact hv)) _ _ _ _ _) H.f5 ?_);rintro _ w _ (⟨a6,rfl,rfl⟩|⟨b2,bv,a1,rfl,rfl⟩) a
    ·exact absurd a6 U
    have H:=a.l7;obtain rfl:bv=true:=by first|exact a1 ⟨rfl,.inl rfl⟩|exact a1 ⟨rfl,.inr ⟨rfl,.inr ⟨rfl,s.full c⟩⟩⟩
    refine Zc 4 rfl (Zr rfl ?_);exact ⟨_,⟨_,_,P,_,o,_,_,mb,⟨a3,rfl,by omega,DoE.s4 U (λ_ q=>absurd c (s.left q))⟩,rfl,rfl⟩,H.pick 7 [0,1,2,5,4] rfl⟩
   ·(exfalso;omega)
   (exfalso;have:=f.less (s.free b0.1);omega)
  ·(exfalso;omega)
  have H:=a.l7;refine Z2 14 [1,3,0] H Z (Aq Z (call25 _) (Mc _ _ _ _ _ _ _ hv U b5 b6 U id s.xo c3) H.f4.f5 ?_);rintro _ w _ (⟨a2,rfl,rfl⟩|⟨j,e,⟨he,y,g⟩,(⟨c,rfl,rfl⟩|⟨b7,rfl,rfl⟩|⟨i,C2,b0,rfl,rfl⟩)⟩) a
  ·exact (by obtain ⟨e9,a4,q1,q2⟩:=f.back b d;exact absurd ⟨q1,q2⟩ (a2 e9 a4))
  ·have H:=a.l7;refine Zc 16 Z (Aq Z (call19 _) (Fm _ _ _ _ _ _ _ _ (by first|exact hv|(rw[AeP];exact hv)) _ _ _ _ _) H.f5 ?_);rintro _ w _ (⟨a6,rfl,rfl⟩|⟨b2,bv,a1,rfl,rfl⟩) a
   ·exact absurd a6 U
   have H:=a.l7;obtain rfl:bv=true:=by first|exact a1 ⟨rfl,.inl rfl⟩|exact a1 ⟨rfl,.inr ⟨rfl,.inr ⟨rfl,s.full c⟩⟩⟩
   refine Zc 4 rfl (Zr rfl ?_);exact ⟨_,⟨_,_,P,_,o,_,_,mb,⟨(a3.ink c7),rfl,by omega,DoE.s4 U (λ_ q=>absurd c (s.left q))⟩,rfl,rfl⟩,H.pick 7 [0,1,2,5,4] rfl⟩
  ·(exfalso;omega)
  have H:=a.l7;obtain ⟨L,f7⟩:=s.pl_at he;refine Zc 16 Z (Aq Z (call19 _) (Fm _ _ _ _ _ _ _ _ (by first|exact hv|(rw[AeP];exact hv)) _ _ _ _ _) H.f5 ?_);rintro _ w _ (⟨a6,rfl,rfl⟩|⟨b2,bv,a1,rfl,rfl⟩) a
  ·have H:=a.l7;refine Zc 4 Z (Zr Z ?_);have K9:=H.says 2 Z (λh q=>trA.k q)
   exact ⟨_,⟨_,_,_,_,_,_,_,mb+2,⟨f.snap b0.1 f7 y b (d.trans g.symm) c7 d4 K9,(DQ _ _ _ _).symm,by omega,DoE.s4y U c9 (Ad8 b) _⟩,congrArg Value.bool (decide_eq_true ⟨Z,Z⟩),Z⟩,H.pick 7 [0,1,2,3,4] Z⟩
  exact absurd Z b2
 refine Z0 6 [0] Z (Ag Z (λh9=>?_) (λh9=>?_))
 ·refine Zc 4 Z ?_;have e7:∀x∈Wc,x.u.oneCell'=true:=λx b=>(H.sy 2 (λq=>((d0 x b) _ q).slc)).one
  refine Aq Z (call26 _) (Acs _ _ _ id c1 e7) H.f1 ?_;rintro _ w _ (⟨a5,rfl,rfl⟩|⟨j,x,⟨b,d⟩,rfl,rfl⟩) a
  ·have H:=a.l7;refine Z2 10 [1,3,0] H Z (Aq Z (call27 _) (MV _ _ _ _ _ _ _ hv U b5 b6 U id) H.f4.f5 ?_);rintro _ w _ (⟨a2,rfl,rfl⟩|⟨i,e,C2,⟨he,y,g⟩,rfl,rfl⟩) a
   ·have H:=a.l7;refine Z4 21 [2,5,3] H Z ?_;intro w H;refine Zr Z ?_;exact ⟨_,⟨_,_,P,_,o,_,_,mb,⟨f,Z,by omega,DoE.ot U U U⟩,Z,Z⟩,H.pick 7 [5,0,1,2,4] Z⟩
   exact (by obtain ⟨L9,a8⟩:=s.pl_at he;obtain ⟨j9,x9,q1,q2⟩:=f.at a8 y g;exact absurd q2 (a5 x9 (Ad8 q1)))
  have H:=a.l7;refine Z2 10 [1,3,0] H Z (Aq Z (call27 _) (MV _ _ _ _ _ _ _ hv U b5 b6 U id) H.f4.f5 ?_);rintro _ w _ (⟨a2,rfl,rfl⟩|⟨i,e,C2,⟨he,y,g⟩,rfl,rfl⟩) a
  ·exact (by obtain ⟨e9,a4,q1,q2⟩:=f.back b d;exact absurd ⟨q1,q2⟩ (a2 e9 a4))
  have H:=a.l7;obtain ⟨L,hi⟩:=s.pl_at he;refine Z4 21 [2,5,3] H Z ?_;intro w H;refine Zr Z ?_;have K9:=H.says 1 Z (λh q=>trA.k q);exact ⟨_,⟨_,_,_,_,_,_,_,mb+2,⟨f.del hi y b (d.trans g.symm) K9,(DQ _ _ _ _).symm,by omega,DoE.ot U U U⟩,Z,Z⟩,H.pick 7 [5,0,1,2,4] Z⟩
 refine Z0 6 [0] Z (Ag Z (λg2=>?_) (λg2=>?_))
 ·refine Z2 6 [5,6,0] H Z (Aq Z (call28 _) (T8 _ _ _ id cs c1 _ d0 e0) H.f2.f2 ?_);rintro _ w _ (⟨a5,rfl,rfl⟩|⟨j,x,⟨b,d⟩,(⟨a7,rfl,rfl⟩|⟨d6,rfl,rfl⟩|⟨d9,rfl,rfl⟩)⟩) a
  ·have H:=a.l7;refine Zc 4 Z ?_;replace H:=H.f6.f4;refine Bl (Sep z (blk pb [Y pd,Y pv,Y pw] 35::blk b1 [I kd,I ci,I ca,I cc,I cf,I cs,I cq,.bool sy,.bool od] 29::R)) 9 Z J (A5 H λw a=>?_)
   have H:=a.l7;refine Bw [0,1,2,3,4,5,6] [1,0,5,1] J (λ_ b=>(AS (b.blk 0 Z) (AS (b.blk 1 Z) AN))) (by exact H.pick 7 [0,1] Z) Z J Z Z (AF [7] J O (An (Bo Z Z Z Z Z Z (λw=>call29 _ w) (Hh _ _ _ _ _ P _ Z _ s.inv U id cs) H.f5.f6 Z ?_)));rintro _ w _ (⟨a2,rfl,rfl⟩|⟨i,e,L,⟨hi,y,g⟩,(⟨a0,rfl,rfl⟩|⟨b4,rfl,rfl⟩|⟨b8,C2,rfl,rfl⟩)⟩) a
   ·have H:=a.l7;refine Au (λ_=>(H.pick 7 [2,3] Z)) (AF [8] J O (An (CI Z Z Z Z (Bi Z Z) (Au (λh=>absurd Z h) (Bn J (gn (Z4 19 [2,2,3] H Z ?_)))))));intro w H;refine Zr Z ?_;exact ⟨_,⟨_,_,P,_,o,_,_,mb,⟨f,Z,by omega,DoE.ot U U U⟩,Z,Z⟩,H.pick 7 [2,0,1,4,5] Z⟩
   ·exact (by obtain ⟨j9,x9,q1,q2⟩:=f.at hi y g;exact absurd q2 (a5 x9 (Ad8 q1)))
   ·exact (by obtain ⟨j9,x9,q1,q2⟩:=f.at hi y g;exact absurd q2 (a5 x9 (Ad8 q1)))
   exact (by obtain ⟨j9,x9,q1,q2⟩:=f.at hi y g;exact absurd q2 (a5 x9 (Ad8 q1)))
  ·have H:=a.l7;refine Zc 4 Z ?_;replace H:=H.f6.f4;refine Bl (Sep z (blk pb [Y pd,Y pv,Y pw] 35::blk b1 [I kd,I ci,I ca,I cc,I cf,I cs,I cq,.bool sy,.bool od] 29::R)) 9 Z J (A5 H λw a=>?_)
   have H:=a.l7;refine Bw [0,1,2,3,4,5,6] [1,0,5,1] J (λ_ b=>(AS (b.blk 0 Z) (AS (b.blk 1 Z) AN))) (by exact H.pick 7 [0,1] Z) Z J Z Z (AF [7] J O (An (Bo Z Z Z Z Z Z (λw=>call29 _ w) (Hh _ _ _ _ _ P _ Z _ s.inv U id cs) H.f5.f6 Z ?_)));rintro _ w _ (⟨a2,rfl,rfl⟩|⟨i,e,L,⟨hi,y,g⟩,(⟨a0,rfl,rfl⟩|⟨b4,rfl,rfl⟩|⟨b8,C2,rfl,rfl⟩)⟩) a
   ·exact (by obtain ⟨e9,a4,q1,q2⟩:=f.back b d;exact absurd ⟨q1,q2⟩ (a2 e9 a4))
   ·have H:=a.l7;refine Au (λ_=>(H.pick 7 [2,3] Z)) (AF [8] J O (An (CI Z Z Z Z (Bi Z Z) (Au (λh=>absurd Z h) (Bn J (gn (Z4 19 [2,2,3] H Z ?_)))))));intro w H;refine Zr Z ?_;exact ⟨_,⟨_,_,P,_,o,_,_,mb,⟨f,Z,by omega,DoE.ot U U U⟩,Z,Z⟩,H.pick 7 [2,0,1,4,5] Z⟩
   ·exact absurd b4.1 a7
   exact absurd b8.1 a7
  ·have H:=a.l7;refine Zc 4 Z ?_;replace H:=H.f6.f4;refine Bl (Sep z (blk pb [Y pd,Y pv,Y pw] 35::blk b1 [I kd,I ci,I ca,I cc,I cf,I cs,I cq,.bool sy,.bool od] 29::R)) 9 Z J (A5 H λw a=>?_)
   have H:=a.l7;refine Bw [0,1,2,3,4,5,6] [1,0,5,1] J (λ_ b=>(AS (b.blk 0 Z) (AS (b.blk 1 Z) AN))) (by exact H.pick 7 [0,1] Z) Z J Z Z (AF [7] J O (An (Bo Z Z Z Z Z Z (λw=>call29 _ w) (Hh _ _ _ _ _ P _ Z _ s.inv U id cs) H.f5.f6 Z ?_)));rintro _ w _ (⟨a2,rfl,rfl⟩|⟨i,e,L,⟨hi,y,g⟩,(⟨a0,rfl,rfl⟩|⟨b4,rfl,rfl⟩|⟨b8,C2,rfl,rfl⟩)⟩) a
   ·exact (by obtain ⟨e9,a4,q1,q2⟩:=f.back b d;exact absurd ⟨q1,q2⟩ (a2 e9 a4))
   ·exact absurd d6.1 a0
   ·have H:=a.l7;refine Au (λ_=>(H.pick 7 [2,3] Z)) (AF [8] J O (An (CI Z Z Z Z (Bi Z Z) (Au (λh=>absurd Z h) (Bn J (gn (Z4 19 [2,2,3] H Z ?_)))))));intro w H;refine Zr Z ?_;exact ⟨_,⟨_,_,P,_,o,_,_,mb,⟨f,Z,by omega,DoE.ot U U U⟩,Z,Z⟩,H.pick 7 [2,0,1,4,5] Z⟩
   exact (by have a9:=(f.both hi y b (d.trans g.symm)).2.2;have c5:=f.last hi y cs;rw[<-a9] at c5;exact absurd b8.2 (c5.1 d6.2))
  have H:=a.l7;refine Zc 4 Z ?_;replace H:=H.f6.f4;refine Bl (Sep z (blk pb [Y pd,Y pv,Y pw] 35::blk b1 [I kd,I ci,I ca,I cc,I cf,I cs,I cq,.bool sy,.bool od] 29::R)) 9 Z J (A5 H λw a=>?_);have H:=a.l7;refine Bw [0,1,2,3,4,5,6] [1,0,5,1] J (λ_ b=>(AS (b.blk 0 Z) (AS (b.blk 1 Z) AN))) (by exact H.pick 7 [0,1] Z) Z J Z Z (AF [7] J O (An (Bo Z Z Z Z Z Z (λw=>call29 _ w) (Hh _ _ _ _ _ P _ Z _ s.inv U id cs) H.f5.f6 Z ?_)));rintro _ w _ (⟨a2,rfl,rfl⟩|⟨i,e,L,⟨hi,y,g⟩,(⟨a0,rfl,rfl⟩|⟨b4,rfl,rfl⟩|⟨b8,C2,rfl,rfl⟩)⟩) a
  ·exact (by obtain ⟨e9,a4,q1,q2⟩:=f.back b d;exact absurd ⟨q1,q2⟩ (a2 e9 a4))
  ·exact absurd d9.1 a0
  ·exact (by have a9:=(f.both hi y b (d.trans g.symm)).2.2;have c5:=f.last hi y cs;rw[<-a9] at c5;exact absurd (c5.2 b4.2) d9.2)
  have H:=a.l7;refine Au (λ_=>(H.pick 7 [2,3] Z)) (AF [8] J O (An (CI Z Z Z Z (Bi Z Z) (Au (λh=>absurd Z h) (Bn J (gn (Z4 19 [2,2,3] H Z ?_)))))));intro w H;refine Zr Z ?_;have K9:=H.says 1 Z (λh q=>trA.k q);exact ⟨_,⟨_,_,_,_,_,_,_,mb+2,⟨f.resize hi y b (d.trans g.symm) b8.1 b8.2 K9,(DQ _ _ _ _).symm,by omega,DoE.ot U U U⟩,Z,Z⟩,H.pick 7 [2,0,1,4,5] Z⟩
 refine Z0 6 [0] Z (Ag Z (λg0=>?_) (λg0=>?_))
 ·refine Zc 3 Z (z_E_ Z (call30 _) (WI _ _ _ _ _ _ _ P o W Ac a3) H.f2.f1.f5.f4 ?_);intro w H;refine Zc 4 Z (Zr Z ?_);exact ⟨_,⟨_,_,P,_,o,_,_,mb,⟨a3,Z,by omega,DoE.ot U U U⟩,Z,Z⟩,H.pick 7 [0,1,5,2,3] Z⟩
 refine Z0 6 [0] Z (Ag Z (λe5=>?_) (λe5=>?_))
 ·refine Z2 6 [1,3,0] H Z (z_E_ Z (call31 _) (HV _ _ _ _ _ _ _ _) H.f4.f5 ?_);intro w H;refine Z0 5 [3] Z (Zr Z ?_);exact ⟨_,⟨_,_,P,_,o,_,_,mb,⟨a3,Z,by omega,DoE.ot U U U⟩,Z,Z⟩,H.pick 7 [5,0,1,2,4] Z⟩
 refine Z2 9 [1,3,0] H Z (z_E_ Z (call13 _) (QQ _ _ _ _ _) H.f5 ?_);intro w H;replace H:=H.l7;replace H:=H.f5;obtain ⟨M0,hr,a⟩:=H.tr0;clear H;obtain ⟨X,hX,H⟩:=a.po;clear a;have a:=H;clear H;have H:Sep z (plB pp X.ps X.pc X.pa n false::stoA X.ps X.pd X.D X.G none::coB X.pc X.bn n X.mm::Cf X.bn o.C n::AH X.mm X.l X.clk::alB X.pa n (AV n o.C) X.Dd (AV n o.C)::X.A::voA pv pp nx ([]) (P.map Prod.fst)::wdA pw nx W::wdA p2 nx Wc::Ac::blk pb [Y pd,Y pv,Y pw] 35::blk b1 [I kd,I ci,I ca,I cc,I cf,I cs,I cq,.bool sy,.bool od] 29::R) w:=a;clear a;refine z_E_ Z (call32 _) (WJ _ _ _ _ _ _) H ?_;intro w H;replace H:=H.l13;refine Aq Z (call33 _) (Oy _ _ _ _ mb hX.fine U) H.f1 ?_;rintro _ w _ ⟨D2,G2,e8,g6,d5,g4,f8,rfl,rfl⟩ H;refine Z0 5 [3] Z (Zr Z ?_);have H8:=(H.pick 13 [1,0,2,3,4,5,6,11,7,8,10] Z).toPo (X:= {X with D:=D2,G:=G2}) (mb:=mb+1) (n:=n) (M0:=M0) (C0:=o.C) (t:=none) ⟨hX.hn,e8,(by show G2.x.pages=(n:Int);rcases f8 with q|q<;>rw[q.2]<;>exact hX.pg),hX.tab,λp hp=>(by show M0 p=G2.M p;rw[d5];exact hX.m0 p hp),λi hi=>(by show G2.M (1+i)=_;rw[d5];exact hX.cp i hi),hX.c0,hX.one,hX.idle,λT e=>(by cases e)⟩ Z;have H9:=Sep.toTr0 (o:=o) H8 hr;exact ⟨_,⟨_,_,P,_,o,W,Ac,mb+1,⟨a3,Z,by omega,DoE.ot U U U⟩,Z,Z⟩,H9.pick 5 [1,2,0,3,4] Z⟩
end
section
variable{Tb:Af}
theorem Acw{n:Nat}(d:16<=n/\n<=639)(K:TrK n (FH n) none)(A:Af):LvI n (FH n) 1 (List.replicate 8 pl0) [] A:=by
 refine ⟨⟨d.2,Z,by omega,λp hp=>.inl (AfX.1 hp).2,?_,by exact Ag8 _⟩,⟨Ag8 _,List.Pairwise.nil⟩,Z,λx c=>(by cases c),λp b h=>(by cases h),K⟩;rw[Afp];intro a b e f _ _;rw[List.getElem_replicate];rfl
theorem Acx:cnt (AV 64 (FH 64).C) 0 1024=62:=by decide+kernel
theorem Acy{o:TB}(K:TrK 64 o none)(hN:o.N=(FH 64).N)(a:o.R=[]):cnt (AV 64 o.C) 0 1024=62:=by
 rw[<-Acx];congr 1;funext p;unfold AV;have e:p<64->o.C p=(FH 64).C p:=λhp=>by
  show o.C p=C1 (manyN 64+1) p;unfold C1;by_cases h:p<manyN 64+1
  ·rw[if_pos h];exact K.one p U
  rw[if_neg h];have:=K.i.cnt p U hp;simpa [curC,CT,Dk,a,hN,FH,I2] using this
 by_cases hp:p<64
 ·simp[hp,e hp]
 simp[hp]
theorem Aam{k:Int}{V:List Bk}(h:∀b∈V,b.1≠k):Bx k V=V:=Agn.2 λb a=>by simpa using h b a
theorem Q0{k:Int}{d:List UInt8}{V:List Bk}(h:∀b∈V,b.1<k):PutAt k d V (V++[(k,d)]):=by
 have e:=Aam (k:=k) (V:=V) λb a=>by have:=h b a;omega
 refine ⟨V.length,λj b _ a=>?_,λb a=>?_,?_⟩
 ·rw[e] at a;exact h b (Ad8 a)
 ·rw[e,AeC (Aed _)] at a;cases a
 rw[e,Ae2,List.drop_length]
theorem WK{W:List Wv}{c:OY}(h:W.map Wv.core=[c]):∃x:Wv,W=[x]/\x.core=c:=by
 match W,h with
 | [x],h=>exact ⟨x,Z,by simpa using h⟩
theorem PD{i o2 o3:TB}{e nx2 m:Int}{W1 W2 f:List Wv}(D1:DoE 64 (FH 64) i 1 e [] W1 0 0 0 0 10 10 false)(K:TrK 64 i none)(D2:DoE 64 i o2 e nx2 W1 W2 1 0 3 2 0 0 false)(D3:DoE 64 o2 o3 nx2 m W2 f 4 0 0 0 0 0 false):f.length=2/\∃x,f[1]?=some x/\x.V.length=2:=by
 obtain ⟨e1,c1,n1,r1⟩:=D1.cr Z U U;obtain ⟨x,rfl,cx⟩:=WK c1;simp only[Wv.core,Afy] at cx;obtain ⟨x1,x2,x3,n⟩:=cx;obtain ⟨y,v,e2,wr⟩:=D2.wr Z U O;simp at v;subst v;have hm:mV 2 false=128:=by decide
 rw[hm,Acy K n1 (r1.trans Z)] at wr;obtain ⟨j,k,u2,V2,bs,hj,⟨vf,b,vk,w⟩,r,hc⟩:=wr y O Z (by rw[x2];decide);have a:0<k->vf 1=[(3,DL bs 0)]:=λh=>by
  have d:=(w 0 h).2 (vf 0++[(3+((0:Nat):Int),DL bs 0)]) (Q0 (by rw[b,n];simp));rw[b,n] at d;exact d.symm
 have o:1<k->vf 2=[(3,DL bs 0),(4,DL bs 1)]:=λh=>by
  have d:=(w 1 h).2 (vf 1++[(3+((1:Nat):Int),DL bs 1)]) (Q0 (by rw[a U];simp));rw[a U] at d;exact d.symm
 have hk:k=2:=by
  rcases hc with h|⟨h,q|q⟩
  ·exact h
  ·exfalso
   have p:k=0\/k=1:=by omega
   have:=q.2;rw[x3,<-vk] at this;rcases p with rfl|rfl
   ·rw[b,n] at this;simp at this
   rw[a U] at this;simp at this
  omega
 subst hk;have hV:V2.length=2:=by rw[<-vk,o U];rfl
 have g:j=0:=by
  have:=(Ad6.1 hj).1;simpa using this
 subst g;have hW:W2=[⟨y.id,y.sz,y.q,u2,V2⟩]:=r;subst hW;obtain ⟨t,s,u⟩:=D3.sn Z U O U;simp at s;subst s;have z:=congrArg List.length u;simp at z;refine ⟨z,?_⟩;have c:=congrArg (λl=>l[1]?) u;simp only[Aej] at c
 cases hq:f[1]? with
 | none=>rw[hq] at c;simp at c
 | some x3'=>
  rw[hq] at c;refine ⟨x3',Z,?_⟩;simp[Wv.core] at c;rw[c.2.2.2];exact hV
set_option maxHeartbeats 4000000 in
theorem WL (Tb:Af) (hT:Hk Tb):Cn prog 8 [] [Tb] (λv Γ=>v=.bool true/\Γ=[Tb]):=by
 intro z R w H;replace H:=H.l1;refine Ae func8 Z ntmps8 Z (Zc 7 Z (Aq Z (call4 _) (Pa 64 U Tb hT) H ?_));rintro _ w _ ⟨pb,pd,o,pp,pw,rfl,rfl⟩ H;refine Zc 18 Z ?_;have H9:=H.nilg 79 2;clear H;have f:=H9.pick 5 [1,2,3,4,0] Z;clear H9;have H:Sep z (blk pb [Y pd,Y o,Y pw] 35::voA o pp 1 ([]) ((List.replicate 8 pl0).map Prod.fst)::trA Tb pp 6 64 (FH 64) none::wdA pw 1 ([])::grow 79 2 (.slice none 0 0) 0 []::R) w:=f;clear f;have s:=Acw (n:=64) U (H.says 2 Z (λh q=>trA.k q)) (grow 79 2 (.slice none 0 0) 0 []);refine Zc 2 Z (Ab Z (Bc Z Z (out:=[I 0,I 0,I 0,I 0,I 0,I 10,I 10,.bool false,.bool false]) J) (Aq Z (call6 _) (JF _ _ _ _ _ _ 64 _ (List.replicate 8 pl0) (FH 64) [] _ s U 0 0 0 0 0 10 10 false false U U U U) H ?_));rintro _ w _ ⟨p1,a2,P1,a7,o1,W1,A1,m1,⟨c,rfl,a6,g⟩,rfl,rfl⟩ H;refine Zc 6 Z (Ab Z (Bc Z Z (out:=[I 1,I 0,I 3,I 2,I 5,I 0,I 0,.bool true,.bool false]) J) (Aq Z (call6 _) (JF _ _ _ _ _ _ 64 _ P1 o1 W1 _ c U 1 0 3 2 5 0 0 true false U U U U) H ?_));rintro _ w _ ⟨p2,nx2,P2,a8,o2,W2,A2,m2,⟨l,rfl,a5,u⟩,rfl,rfl⟩ H;refine Zc 6 Z (Ab Z (Bc Z Z (out:=[I 4,I 0,I 0,I 0,I 0,I 0,I 0,.bool false,.bool false]) J) (Aq Z (call6 _) (JF _ _ _ _ _ _ 64 _ P2 o2 W2 _ l U 4 0 0 0 0 0 0 false false U U U U) H ?_));rintro _ w _ ⟨p3,a4,P3,a0,o3,W3,A3,m3,⟨e,rfl,a9,i⟩,rfl,rfl⟩ H;refine Zc 4 Z (Bl (Sep z (blk pb [Y pd,Y o,Y p3] 35::R)) 10 Z J (A5 H λw f=>?_));have H:=f.l5;refine Bw [0,1,2,3,4,5,6,7] [1,0,2,0] J (λ_ d=>(AS (d.blk 0 Z) AN)) (by exact H.pick 5 [0] Z) Z J Z Z (AF [8] J O (An (Bo Z Z Z Z Z Z (λw=>call7 _ w) (Xy _ _ _ _ _ _ P3 o3 W3 A3 e U) H.f4.f4.f4.f4 Z ?_)));rintro _ w _ ⟨rfl,rfl⟩ H;replace H:=H.l5;refine Au (λ_=>(H.pick 5 [4] Z)) (AF [9] J O (An (CI Z Z Z Z (Bi Z Z) (Au (λh=>absurd Z h) (Bn J (gn (Zc 2 Z ?_)))))));have K1:=c.k;obtain ⟨a3,x,d,p⟩:=PD g K1 u i;replace H:=H.f2;obtain ⟨uw,H⟩:=H.wd;replace H:=H.l6;have y:=H.sy 1 (·.slc);obtain ⟨aw,cw,rfl⟩:=y;have a:=(H.rv 1 (·.rd)).at (BJ d 0 _ Z);obtain ⟨xi,xs,xq,xu,xV⟩:=x;dsimp only at p;have m:InB A3 xu xV:=e.bag _ (Ad8 d);have t:=H.sy 4 (λq=>(m _ q).slc);obtain ⟨ax,cx,rfl⟩:=t;have b:=(H.rv 1 (·.rd)).at (BJ d 3 _ Z);refine Z2 23 [2,5,0,0,0,0,0] H Z (Al 52 Z (λh1=>?_) (λh1=>?_))
 ·refine Z2 7 [2,5,0,0,0,0] H Z (Ab Z (Aj Z (z:=4) (j:=1) (r:=4) J Z Z Z U a U) (Ab Z (Bj Z (k:=3) (r:=7) J Z a Z) (Ab Z (Ax Z Z J (Ay b)) (Z0 7 [0] Z (Zr Z ?_)))));exact ⟨_,⟨congrArg Value.bool (decide_eq_true U),Z⟩,((H.pick 6 [3] Z).trTab).2⟩
 (exfalso;omega)
end
section
variable{Tb:Af}
structure ClE where
 kd:Int
 ci:Int
 ca:Int
 cc:Int
 cf:Int
 cs:Int
 cq:Int
 sy:Bool
 od:Bool
def ClE.cells(e:ClE):List Value:=[.int .i64 e.kd,.int .i64 e.ci,.int .i64 e.ca,.int .i64 e.cc,.int .i64 e.cf,.int .i64 e.cs,.int .i64 e.cq,.bool e.sy,.bool e.od]
def Ia(es:List ClE):List Value:=es.flatMap ClE.cells
theorem Aan(es:List ClE):(Ia es).length=es.length*9:=by
 induction es with
 | nil=>rfl
 | cons e es ih=>simp only[Ia,AeB,Ad9] at ih ⊢;rw[ih];simp[ClE.cells];omega
theorem Mg:∀{es:List ClE} {j:Nat} {e:ClE},es[j]?=some e->∀k u,(ClE.cells e)[k]?=some u->(Ia es)[j*9+k]?=some u
 | x::es,0,e,h,k,u,hk=>by
  simp at h;subst h;have hl:=(Ad6.1 hk).1;simp only[Ia,AeB];rw[Aeg U];simpa using hk
 | x::es,j+1,e,h,k,u,hk=>by
  have:=Mg (es:=es) (j:=j) (by simpa using h) k u hk;simp only[Ia,AeB] at this ⊢;rw[Aen (by simp[ClE.cells];omega)];rw[show (j+1)*9+k-(ClE.cells x).length=j*9+k from by simp[ClE.cells];omega];exact this
def ClE.In(e:ClE):Prop:=(-9223372036854775808<=e.kd/\e.kd<=9223372036854775807)/\(-9223372036854775808<=e.ca/\e.ca<=9223372036854775807)/\(-9223372036854775808<=e.cc/\e.cc<=9223372036854775807)/\(-9223372036854775808<=e.cf/\e.cf<=9223372036854775807)
def ClP(v:Value)(es:List ClE)(A:Af):Prop:=∀h,A h->rdH 9 v es.length (Ia es) h/\∀e∈es,e.In
set_option maxHeartbeats 4000000 in
theorem M7 (c:Int) (hc: -9223372036854775808<=c/\c<=9223372036854775807) (A Tb:Af) (hT:Hk Tb) (v:Value) (es:List ClE) (a5:es.length<=1048576) (s:ClP v es A):Cn prog 3 [I c,v] [A,Tb] (λv Γ=>v=.bool true/\Γ=[A,Tb]):=by
 intro z R w H;replace H:=H.l2;obtain ⟨ao,oc,rfl⟩:=H.sy 0 (λq=>(s _ q).1.slc);obtain ⟨n,a4⟩:∃n:Nat,n=24+pkI c 400:=⟨_,Z⟩;have a3:=OQ c (N:=400) U;refine Ae func3 Z ntmps3 Z (Zc 8 Z (z_E_ Z (call5 _) (Me _ 400 hc U) H ?_));intro w H;refine Z1 1 [] [24+(pkI c 400:Int)] Z U (AC 13 (v:=I (n:Int)) Z (congrArg I U) (Aq Z (call4 _) (Pa n U Tb hT) H.f1 ?_));rintro _ w _ ⟨p,pd,o,pp,x,rfl,rfl⟩ H;refine Zc 19 Z ?_;have H9:=H.nilg 79 2;clear H;have d:=H9.pick 6 [1,2,3,4,0,5] Z;clear H9;have H:Sep z (blk p [Y pd,Y o,Y x] 35::voA o pp 1 ([]) ((List.replicate 8 pl0).map Prod.fst)::trA Tb pp 6 n (FH n) none::wdA x 1 ([])::grow 79 2 (.slice none 0 0) 0 []::A::R) w:=d;clear d;have t:=Acw (n:=n) U (H.says 2 Z (λh q=>trA.k q)) (grow 79 2 (.slice none 0 0) 0 []);refine Zc 5 Z ?_;refine AD (σ:=Nat×Nat×Int×List Pl×TB×List Wv×Af×Nat) (λ⟨i,g,f,PG,b,WG,AG,m⟩=>[(7,I (i:Int)),(1,.slice ao es.length oc),(5,Y p)])
   (λ⟨i,g,f,PG,b,WG,AG,m⟩ w=>Sep z (blk p [Y pd,Y o,Y g] 35::voA o pp f ([]) (PG.map Prod.fst)::trA Tb pp m n b none::wdA g f WG::AG::A::R) w/\(i<=es.length/\m<=6+16*i/\LvI n b f PG WG AG)) (λ⟨i,g,f,PG,b,WG,AG,m⟩=>es.length-i) ⟨0,x,1,List.replicate 8 pl0,FH n,[],grow 79 2 (.slice none 0 0) 0 [],6⟩
   fr_z ⟨H,⟨AeJ _,by omega,t⟩⟩ ?_
 clear H;rintro ⟨i,g,f,PG,b,WG,AG,m⟩ w ⟨d,hI⟩;dsimp only at hI d ⊢;have H:=d.l6;obtain ⟨a8,a2,l⟩:=hI;refine Z0 9 [0] Z (Ag Z (λh1=>?_) (λh1=>?_))
 ·refine Zc 5 Z ?_;obtain ⟨e,y⟩:∃e,es[i]?=some e:=⟨_,Ad7 U⟩;have a:=H.sy 5 (λq=>(s _ q).2 e (Ad8 y))
  have a1:=(H.rv 5 (λq=>(s _ q).1)).at (Mg y 0 _ Z);refine Zc 4 Z (Ab Z (Aj Z (z:=9) (j:=i) (r:=i*9) J Z Z Z U a1 U) (Ab Z (Bq Z Z (vs:=ClE.cells e) J (by simp[ClE.cells]) (Ay (λk u hk=>(H.rv 5 (λq=>(s _ q).1)).at (Mg y k u hk)))) (Aq Z (call6 _) (JF _ _ _ _ _ _ n _ PG b WG _ l U _ _ _ _ _ _ _ _ _ a.2.1 a.2.2.1 a.2.2.2 a.1) H ?_)));rintro _ w _ ⟨p2,nx2,P2,a7,o2,W2,A2,m2,⟨a0,rfl,a6,_⟩,rfl,rfl⟩ H;refine Z1 18 [] [(i:Int)+1] Z U (gf ?_);intro _ hF;refine ⟨⟨i+1,p2,nx2,P2,o2,W2,A2,m2⟩,hF.cz,⟨H,?_⟩,?_⟩
  ·exact ⟨by show i+1<=es.length;omega,by show m2<=6+16*(i+1);omega,a0⟩
  (dsimp only;omega)
 refine Zc 2 Z (gx (Zc 3 Z (Bl (Sep z (blk p [Y pd,Y o,Y g] 35::R)) 10 Z J (A5 H λw d=>?_))));have H:=d.l6;refine Bw [0,1,2,3,4,5,6,7] [1,0,2,0] J (λ_ hx=>(AS (hx.blk 0 Z) AN)) (by exact H.pick 6 [0] Z) Z J Z Z (AF [8] J O (An (Bo Z Z Z Z Z Z (λw=>call7 _ w) (Xy _ _ _ _ _ _ PG b WG AG l U) H.f4.f4.f4.f4 Z ?_)));rintro _ w _ ⟨rfl,rfl⟩ H;replace H:=H.l6;refine Au (λ_=>(H.pick 6 [4] Z)) (AF [9] J O (An (CI Z Z Z Z (Bi Z Z) (Au (λh=>absurd Z h) (Bn J (gn (Zc 2 Z ?_)))))));replace H:=(((H.pick 6 [1,5] Z).trTab).2).l2;refine Zc 3 Z (z_E_ Z (call8 _) (WL Tb hT) H ?_);intro w H;refine Zc 5 Z (Zr Z ?_);exact ⟨_,⟨Z,Z⟩,H.pick 2 [1,0] Z⟩
end
section
open Go.ChangeShapes Go.WideShapes Go.ChangeAt Go.RowKit Go.Joins
theorem own:ownKnob prog.godebug=none:=by kernel_rfl
theorem Aao:laidOutB prog=true:=by kernel_rfl
theorem DM:prog.cellsOf 3=1:=by kernel_rfl
def Ng:DataW Unit->List Value
 | .lit (.int k n)=>[.int k n]
 | .agg parts=>flatWs parts
 | _=>[]
where flatWs:List (DataW Unit)->List Value
 | []=>[]
 | d::ds=>Ng d++flatWs ds
def WM:Obj->Obj
 | .cells c t frozen=>.cells (if c.size=32 then (Ng Rows.laid_unicode_utf8_acceptRanges).toArray else if c.size=64 then (Ng Rows.laid_math_bits_deBruijn64tab).toArray else (Ng Rows.laid_unicode_utf8_first).toArray) t frozen
 | o=>o
noncomputable def Ja(os:Os):World:=
 {World.holding prog os ⟨#[],#[],[]⟩ with heap:=(((World.holding prog os ⟨#[],#[],[]⟩).heap.modify 0 WM).modify 1 WM).modify 2 WM}
theorem JL{α:Type}(P:Nat->α->Prop):∀n,(∀i,i<n->∃a,P i a)->∃l:List α,l.length=n/\∀i a,l[i]?=some a->P i a
 | 0,_=>⟨[],Z,λi a h=>by simp at h⟩
 | n+1,h=>by
  obtain ⟨l,hl,hp⟩:=JL P n (λi hi=>h i U);obtain ⟨a,d⟩:=h n U;refine ⟨l++[a],by simp[hl],λi b c=>?_⟩;rcases Ael i n with q|q
  ·rw[Aeg U] at c;exact hp i b c
  rw[Aen U] at c;obtain rfl:i=n:=by have:=(Ad6.1 c).1;simp at this;omega
  simp[hl] at c;subst c;exact d
abbrev Adk(x:Int):Prop:= -9223372036854775808<=x/\x<=9223372036854775807
theorem Lh{n:Int}(h:(Lit.int .i64 n).wf=true):Adk n:=by
 simp only[Lit.wf,Aex,decide_eq_true_eq] at h;have b:IntKind.i64.min= -9223372036854775808:=by decide
 have a:IntKind.i64.max=9223372036854775807:=by decide
 rw[b,a] at h;exact h
theorem WN{H:Type}(d:DataW H):1<=Rows.uptoBulk d:=by
 cases d with
 | lit l=>cases l<;>simp[Rows.uptoBulk]
 | nil=>simp[Rows.uptoBulk]
 | ptr d=>simp[Rows.uptoBulk]
 | slice elems spare=>simp[Rows.uptoBulk]
 | agg parts=>simp[Rows.uptoBulk]
 | iface t d=>simp[Rows.uptoBulk]
 | map entries=>simp[Rows.uptoBulk]
 | held h=>simp[Rows.uptoBulk]
theorem WO{H:Type}(l:List (DataW H)):l.length<=Rows.uptoBulkAll l:=by
 induction l with
 | nil=>simp
 | cons x r ih=>have:=WN x;simp only[Rows.uptoBulkAll,Aeb];omega
theorem Pj:prog.cellsOf 29=9:=by kernel_rfl
theorem Aap{H:Type}{enc:TypeId×Value->H}{W:World}{fuel:Nat}{cs:List Value}{d:DataW H}{p:List MemPlace}(h:DataW.trod enc prog W 0 (λ_=>true) true fuel 29 cs=some (d,p)):
  ∃e:ClE,cs=ClE.cells e/\e.In:=by
 obtain ⟨xs,n,rfl,hx,v,o,b⟩:=DataW.trod_struct underlying29 h;rw[Pj] at v
 match cs,v with
 | [c0,c1,c2,c3,c4,c5,c6,c7,c8],_=>
  have f0:=b 0 _ Z;have q:=b 1 _ Z;have k:=b 2 _ Z;have c:=b 3 _ Z;have m:=b 4 _ Z;have f:=b 5 _ Z;have i:=b 6 _ Z;have g:=b 7 _ Z;have j:=b 8 _ Z
  match xs,o with
  | [y0,y1,y2,y3,y4,y5,y6,y7,y8],_=>
   have a:prog.cellsOf 4=1:=by kernel_rfl
   try dsimp only at f0
   try simp only[DM,a,Aep,AeY,Ae0,Afz,AeM,Aet] at f0
   try dsimp only at q
   try simp only[DM,a,Aep,AeY,Ae0,Afz,AeM,Aet] at q
   try dsimp only at k
   try simp only[DM,a,Aep,AeY,Ae0,Afz,AeM,Aet] at k
   try dsimp only at c
   try simp only[DM,a,Aep,AeY,Ae0,Afz,AeM,Aet] at c
   try dsimp only at m
   try simp only[DM,a,Aep,AeY,Ae0,Afz,AeM,Aet] at m
   try dsimp only at f
   try simp only[DM,a,Aep,AeY,Ae0,Afz,AeM,Aet] at f
   try dsimp only at i
   try simp only[DM,a,Aep,AeY,Ae0,Afz,AeM,Aet] at i
   try dsimp only at g
   try simp only[DM,a,Aep,AeY,Ae0,Afz,AeM,Aet] at g
   try dsimp only at j
   try simp only[DM,a,Aep,AeY,Ae0,Afz,AeM,Aet] at j
   obtain ⟨z0,e0,_,w0⟩:=Agj underlying3 f0;obtain ⟨z1,e1,_,w1⟩:=Agj underlying3 q;obtain ⟨z2,e2,_,w2⟩:=Agj underlying3 k;obtain ⟨z3,e3,_,w3⟩:=Agj underlying3 c;obtain ⟨z4,e4,_,w4⟩:=Agj underlying3 m;obtain ⟨z5,e5,_,w5⟩:=Agj underlying3 f;obtain ⟨z6,e6,_,w6⟩:=Agj underlying3 i;obtain ⟨z7,e7,_⟩:=DataW.trod_bool underlying4 g;obtain ⟨z8,e8,_⟩:=DataW.trod_bool underlying4 j;have r:=congrArg (λl=>l.headD .nilFunc) e0
   try simp at r
   subst r;have g1:=congrArg (λl=>l.headD .nilFunc) e1
   try simp at g1
   subst g1;have u:=congrArg (λl=>l.headD .nilFunc) e2
   try simp at u
   subst u;have z:=congrArg (λl=>l.headD .nilFunc) e3
   try simp at z
   subst z;have w:=congrArg (λl=>l.headD .nilFunc) e4
   try simp at w
   subst w;have y:=congrArg (λl=>l.headD .nilFunc) e5
   try simp at y
   subst y;have x:=congrArg (λl=>l.headD .nilFunc) e6
   try simp at x
   subst x;have s:=congrArg (λl=>l.headD .nilFunc) e7
   try simp at s
   subst s;have t:=congrArg (λl=>l.headD .nilFunc) e8
   try simp at t
   subst t;exact ⟨⟨z0,z1,z2,z3,z4,z5,z6,z7,z8⟩,Z,Lh w0,Lh w2,Lh w3,Lh w4⟩
theorem Q1:∀(es:List ClE) (k:Nat) (u:Value),(Ia es)[k]?=some u->∃e,es[k/9]?=some e/\(ClE.cells e)[k%9]?=some u
 | [],k,u,h=>by simp[Ia] at h
 | x::es,k,u,h=>by
  have hl:(ClE.cells x).length=9:=rfl;simp only[Ia,AeB] at h;rcases Ael k 9 with q|q
  ·rw[Aeg U] at h
   exact ⟨x,by rw[Agz q];rfl,by rw[Afu q];exact h⟩
  rw[Aen U,hl] at h;obtain ⟨e,b,a⟩:=Q1 es (k-9) u h;refine ⟨e,?_,?_⟩
  ·rw[show k/9=(k-9)/9+1 from by omega];simpa using b
  rw[show k%9=(k-9)%9 from by omega];exact a
theorem WP{H:Type}{enc:TypeId×Value->H}{W:World}{fuel:Nat}{v:Value}{d:DataW H}{p:List MemPlace}(h:DataW.trod enc prog W 0 (λ_=>true) true fuel 22 [v]=some (d,p)):
  ∃es:List ClE,Rd 9 v es.length (Ia es) W/\(∀e∈es,e.In)/\es.length<=Rows.uptoBulk d:=by
 rcases DataW.trod_slice underlying22 h with ⟨f,_⟩|⟨a,z,a0,c,rest,n,rfl,f,hx,_,a1,w,a2,hg,_,_⟩
 ·simp only[AgW,and_true] at f;subst f
  exact ⟨[],by simpa [Ia] using Rd.nil 9 W,λe he=>absurd he O,by simp⟩
 simp only[AgW,and_true] at f;subst f;have hd:d=.slice (c.map (·.1)) (rest.map (·.1)):=by have:=congrArg Prod.fst hx;simpa using this
 obtain ⟨es,o,hP⟩:=JL (λi (e:ClE)=>(∀j,j<9->W.cell? ((a.add (i*9)).add j)=(ClE.cells e)[j]?)/\e.In) z (λi hi=>by
  have hb:=hg i hi;rw[Pj] at hb;obtain ⟨y,hy⟩:∃y,c[i]?=some y:=⟨_,Ad7 U⟩;rw[hy,Option.bind_eq_some_iff] at hb;obtain ⟨cs,q,ht⟩:=hb;obtain ⟨e,rfl,r⟩:=Aap (d:=y.1) (p:=y.2) ht;exact ⟨e,(World.cells?_some q).2.2,r⟩)
 refine ⟨es,⟨some a,a0,by rw[o],by omega,(by unfold maxLen at w;omega),by rw[Aan],λk u hk=>?_⟩,λe he=>?_,?_⟩
 ·obtain ⟨e,r,h2⟩:=Q1 _ k u hk
  have q:=(hP _ e r).1 (k%9) (Nat.mod_lt _ U);rw[h2] at q;obtain ⟨b,g,l⟩:=a;have m:l=none:=by
   have a3:=(Ad6.1 r).1;obtain ⟨s,x⟩:∃s,es[0]?=some s:=⟨_,Ad7 U⟩;have t:=(hP _ s x).1 0 U;have h0:W.cell? ⟨b,g,l⟩=some (.int .i64 s.kd):=by simpa [Addr.add,ClE.cells] using t
   exact World.cell?_spot h0
  subst m;refine ⟨b,g,Z,?_⟩;unfold FD;have e2:((Addr.add ⟨b,g,none⟩ (k/9*9)).add (k%9))=⟨b,g+k,none⟩:=by
   rw[AhA,AhA];congr 1;omega
  rw[<-e2];exact q
 ·obtain ⟨i,hi⟩:=AeV he
  exact (hP i e hi).2
 rw[o,hd];have:=WO (c.map (·.1));simp only[Rows.uptoBulk,Aea] at this ⊢;omega

theorem Acz:prog.globalNamed "math/bits.deBruijn64tab"=some 0:=by kernel_rfl
theorem WQ:(prog.globals[0]?).map (·.type)=some 339:=by kernel_rfl
theorem Aaq:prog.cellsOf 339=64:=by kernel_rfl
theorem Aar:prog.cellsOf 5=1:=by kernel_rfl
def tzL:List Int:=Lib.deBruijn64tab.map Int.ofNat
theorem RY{W:World}(h:laidMetH prog Rows.volumesPlayUptoRow.laid W):Lib.TabIs prog W "math/bits.deBruijn64tab" .u8 tzL:=
 Lib.tabIs_of_head (rest:=[("unicode/utf8.acceptRanges",Rows.laid_unicode_utf8_acceptRanges),("unicode/utf8.first",Rows.laid_unicode_utf8_first)]) Acz WQ underlying339 underlying5 Aar Aaq h
theorem Mh{W:World}(h:Lib.TabIs prog W "math/bits.deBruijn64tab" .u8 tzL):∃t a,W.heap[0]?=some (.cells (tzL.map λz=>Value.int .u8 z).toArray t a):=by
 unfold Lib.TabIs World.var? at h;rw[Acz] at h;simp only[AgO] at h
 cases e:W.heap[0]? with
 | none=>rw[e] at h;cases h
 | some o=>
  rw[e] at h;cases o<;>simp at h;subst h;exact ⟨_,_,Z⟩
def JG(W:World):Af:=λh=>∀k,k<W.heap.size->k≠0->h k=W.heap[k]?
def Pk(W:World):Af:=λh=>h 0=W.heap[0]?
theorem AcA:(List.range 64).all (λj=>tzL[j]? == some ((SP j).toNat:Int))=true:=by decide+kernel
theorem Adl{W:World}(a:Lib.TabIs prog W "math/bits.deBruijn64tab" .u8 tzL):Hk (Pk W):=λh d j b=>by
 obtain ⟨t,c,e⟩:=Mh a;have:=AfW.1 AcA j (AfL.2 b);have f:tzL[j]?=some ((SP j).toNat:Int):=by simpa using this
 exact ⟨_,t,c,(show h 0=_ from d).trans e,by simp[f,u8]⟩
theorem Aas{W:World}(a:Lib.TabIs prog W "math/bits.deBruijn64tab" .u8 tzL):0<W.heap.size:=by
 obtain ⟨t,b,e⟩:=Mh a;rcases AgL W.heap.size with q|q
 ·rw[AeT U] at e;cases e
 exact q
theorem Ud{W:World}(g:Lib.TabIs prog W "math/bits.deBruijn64tab" .u8 tzL){b o:Nat}{v:Value}(a:FD b o v W)(i:∀x,v≠ .int .u8 x):∀h,JG W h->celH h b o v:=λh j=>by
 have c:b≠0:=λe=>by
  subst e;obtain ⟨t,f,e⟩:=Mh g;unfold FD World.cell? at a;rw[e] at a;simp at a;obtain ⟨z,_,k⟩:=a;exact i _ k.symm
 unfold FD World.cell? at a
 cases hh:W.heap[b]? with
 | none=>rw[hh] at a;simp at a
 | some o'=>
  rw[hh] at a
  cases o' with
  | cells cs ty f=>
   simp at a;have d:b<W.heap.size:=by
    rcases Ael b W.heap.size with q|q
    ·exact q
    rw[AeT q] at hh;cases hh
   exact ⟨cs,ty,f,(j b d c).trans hh,a⟩
  | _=>simp at a
theorem WR{sz:Nat}{v:Value}{n:Nat}{xs:List Value}{W:World}(d:Lib.TabIs prog W "math/bits.deBruijn64tab" .u8 tzL)(r:Rd sz v n xs W)(m:∀u∈xs,∀x,u≠ .int .u8 x):∀h,JG W h->rdH sz v n xs h:=λh k=>by
 obtain ⟨f,c,e,g,q,i,s⟩:=r;exact ⟨f,c,e,g,q,i,λj u a=>by
  obtain ⟨b,p,l,o⟩:=s j u a;exact ⟨b,p,l,Ud d o (m u (Ad8 a)) h k⟩⟩
theorem Adm(es:List ClE):∀u∈Ia es,∀x,u≠ .int .u8 x:=λu b x=>by
 simp only[Ia,Af9] at b;obtain ⟨e,_,a⟩:=b;simp[ClE.cells] at a;rcases a with rfl|rfl|rfl|rfl|rfl|rfl|rfl|rfl|rfl<;>simp
theorem Q3{h:Hp}{own:Nat->Nat}{i k:Nat}{o:Obj}(e:h.part own i k=some o):h k=some o:=by
 unfold Hp.part at e;split at e
 ·exact e
 cases e
theorem Cn.run2{P:Program}{f:FuncId}{args:List Value}{W:World}{u:Value}(n:0<W.heap.size)(h:Cn P f args [JG W,Pk W] (λv Γ=>v=u/\Γ=[JG W,Pk W])):Calls P f args.toArray W (Ret λv W'=>v=u/\Ext No W W'):=by
 have m:Sep W [JG W,Pk W] W:=⟨Z,Z,Z,λq=>if q=0 then 1 else 0,λi A a=>by
  match i,a with
  | 0,a=>cases a;intro k c e;simp[Hp.part,hp,e]
  | 1,a=>cases a;show Hp.part _ _ _ 0=_;simp[Hp.part,hp]⟩
 refine Ret.mono (h W [] W m) ?_;rintro v W' ⟨Γ,⟨rfl,rfl⟩,H⟩;obtain ⟨own,b⟩:=H.own;have l:=b 0 _ Z;have j:=b 1 _ Z;have d:∀k,k<W.heap.size->hp W' k=W.heap[k]? :=λk c=>by
  obtain ⟨o,g⟩:∃o,W.heap[k]?=some o:=⟨_,AgG c⟩;rw[g];by_cases q:k=0
  ·subst q;exact Q3 ((show _=_ from j).trans g)
  exact Q3 ((l k c q).trans g)
 have H2:Sep W [base W] W':=⟨H.os,H.tape,H.output,λk=>if k<W.heap.size then 0 else 1,λi A a=>by
  match i,a with
  | 0,a=>cases a;intro k c;unfold Hp.part;rw[if_pos (by simp[c])];exact d k c⟩
 exact ⟨Z,Sep.done 0 H2 Z⟩
section
variable{H:Type}{enc:TypeId×Value->H}{P:Program}{w:World}{base:Nat}{spare:Nat->Bool}{held:Bool}
end
section
variable{H:Type}{enc:TypeId×Value->H}{P:Program}{w:World}{base:Nat}{spare:Nat->Bool}{held:Bool}
theorem Adn{k t1:TypeId}{args:Array Value}{ds:List (DataW H)}{ps:List MemPlace}(h:DataW.TrodAll enc P w base spare held [k,t1] args.toList ds ps):
  ∃v0 c b d1 d a,args= #[v0,c]/\ds=[b,d1]/\ps=d++a/\DataW.Trod enc P w base spare held k v0 b d/\DataW.Trod enc P w base spare held t1 c d1 a:=by
 obtain ⟨v0,l,b,o,d,q,g,rfl,rfl,e,j⟩:=trodAll_cons h;obtain ⟨c,m,d1,n,a,p,rfl,rfl,rfl,f,i⟩:=trodAll_cons j;obtain ⟨rfl,rfl,rfl⟩:=trodAll_nil i;exact ⟨v0,c,b,d1,d,a,by cases args;simp_all,Z,by simp,e,f⟩
theorem Aat{e t1:TypeId}{v0 c:Value}{d d1:DataW H}{a b:List MemPlace}(f:DataW.Trod enc P w base spare held e v0 d a)(g:DataW.Trod enc P w base spare held t1 c d1 b):DataW.TrodAll enc P w base spare held [e,t1] [v0,c] [d,d1] (a++b):=
 ⟨a,_,f,(trodAll_mk1 g),Z⟩
end
section
variable{H:Type}{enc:TypeId×Value->H}{P:Program}{w:World}{base:Nat}{spare:Nat->Bool}{held:Bool}
end
end
open Go.ChangeShapes Go.WideShapes Go.ChangeAt Go.RowKit Go.Joins
theorem Aau(a:Os):laidMet prog Rows.volumesPlayUptoRow.laid ((Ja a).forCall (λ_ _=>0) ⟨#[],#[.int .i64 0,.slice none 0 0],[]⟩).memory:=
 laidMet_of_run' 8 J J
theorem Ue(b:Os){H:Type}(enc:TypeId×Value->H):∃a,DataW.whole enc prog ((Ja b).forCall (λ_ _=>0) ⟨#[],#[.int .i64 0,.slice none 0 0],[]⟩).memory f3.params.toList Rows.volumesPlaySpec.vars false #[Value.int .i64 0,.slice none 0 0].toList 8=some ([.lit (.int .i64 0),.nil],[],a):=
 ⟨[],by kernel_rfl⟩
theorem vpp_contract(H:Type)(enc:TypeId×Value->H)(W:World)(base:Nat)(args:Array Value)(ds s:List (DataW H))(b:List MemPlace)
  (a:∀(j:Nat) t v,f3.params[j]?=some t->args[j]?=some v->Value.okWide prog W .any base t v)
  (w:DataW.Whole enc prog f3.params.toList Rows.volumesPlaySpec.vars false W args.toList ds s b)(o:Rows.uptoSmall H (ds++s)=true)(m:laidMetH prog Rows.volumesPlayUptoRow.laid W):
  Calls prog 3 args W λe W'=>∃v,e=.returned v/\Rows.volumesPlaySpec.post enc prog f3 false true false false W args v W':=by
 have c:=w;obtain ⟨p,q,g,hV,rfl,_,_⟩:=w;have z:DataW.TrodAll enc prog W 0 (λ_=>true) true f3.params.toList args.toList ds p:=g;rw[params3] at z a;obtain ⟨v0,v1,d0,d1,p0,p1,rfl,rfl,rfl,h0,y⟩:=Adn z;obtain ⟨rfl,rfl⟩:=trodVars_none hV;simp only[AeQ] at c o;have t1:∀x∈p1,x.block<W.heap.size:=λx hx=>by have:=c.lt x (by simp[hx]);simpa using this
 have hb:Rows.uptoBulkAll [d0,d1]<=1048576:=of_decide_eq_true o;simp only[Rows.uptoBulkAll] at hb;obtain ⟨i0,rfl,rfl,rfl,d⟩:=open_int underlying3 (a 0 3 v0 Z Z) h0;obtain ⟨a0,l1,c1,rfl⟩:=okWide_slice underlying22 (a 1 22 v1 Z Z);obtain ⟨k,l⟩:=id y;obtain ⟨es1,n,f,i⟩:=WP (h:=l);refine (Cn.run2 (Aas (RY m)) (M7 i0 (Lh d) (JG W) (Pk W) (Adl (RY m)) _ es1 U (λh hh=>⟨WR (RY m) n (Adm _) h hh,f⟩))).mono λe W' r=>?_;obtain ⟨u,rfl,rfl,x⟩:∃u,e=Ending.returned u/\u=.bool true/\Ext No W W':=by cases e<;>first|exact ⟨_,rfl,r⟩|exact r.elim
 exact ⟨_,rfl,_,_,_,[],_,[],c,trodAll_mk1 (shut_bool underlying4 true),Aat (shut_int underlying3 d) (Below.trod Aao J (of_decide_eq_true J) y x.below t1),rfl,x.below.frame _,λh=>by cases h⟩
theorem RZ(e:Os)(a:e.Started)(H:Type)(enc:TypeId×Value->H)(F:Stop.Interp):
  ReturnsInHanded {} checked e 3 .any ((Rows.OpenSpec.upto Rows.volumesPlaySpec).preRow enc prog f3 Rows.volumesPlayUptoRow.domain false Rows.volumesPlayUptoRow.laid) (((Rows.OpenSpec.upto Rows.volumesPlaySpec).at F).post enc prog f3 false true false false):=by
 obtain ⟨f,h⟩:=Ue e enc;refine returnsInHanded_of_row (C:=checked) (s:=Rows.OpenSpec.upto Rows.volumesPlaySpec) own a J func3
  (witness_row_at (enc:=enc) (C:=checked) false (Ja e) #[.int .i64 0,.slice none 0 0] Z J J J
   (OpenSpec.preRow_of_cond 8 h J (λk g=>by cases g;kernel_rfl) J (Aau e))) ?_
 intro W base args ds j b d l _ c _ i _ _;exact vpp_contract H enc W base args ds j b d l (c _ Z) i
theorem vpp_j1:(Rows.volumesPlayUptoRow.inPlace==Tryz.pinned.checked.prog.inPlace 3)=true:=by kernel_rfl
theorem AcB:(Rows.volumesPlayUptoRow.unfollowed==Tryz.pinned.checked.prog.unfollowed 3)=true:=by kernel_rfl
theorem AcC:(Rows.volumesPlayUptoRow.recurses==Tryz.pinned.checked.prog.recurses 3)=true:=by kernel_rfl
theorem AcD:(Rows.volumesPlayUptoRow.named==Tryz.pinned.checked.prog.varsNamed 3)=true:=by kernel_rfl
theorem AcE:joinedFacts Tryz.pinned.checked.prog 3 f3 (Rows.OpenSpec.upto Rows.volumesPlaySpec).bare Rows.volumesPlayUptoRow=true:=by
 unfold joinedFacts;rw[vpp_j1,AcB,AcC,AcD]
 kernel_rfl
theorem WS:Rows.VolumesPlayUptoSaid:=
 OpenClaim.holds_of_cond 3 f3 Z Z Z Z Z Z Z ⟨Z,Z,Z,Z,Z⟩ Z Z Z Z Z J func3 AcE
  (of_decide_eq_true J) (by unfold Func.isWrapper;first|(rw[if_pos (by decide+kernel)];kernel_rfl)|(rw[if_neg (by decide+kernel)];exact ⟨rfl,rfl⟩))
  (λb a H enc _ F=>by rw[OpenClaim.pre_eq_preRow];exact RZ b a H enc F)
theorem Uf(f:FuncId)(a:Func)(e:Tryz.pinned.checked.prog.funcNamed "polder/polderlaw15.VolumesPlay"=some f)(b:Tryz.pinned.checked.prog.funcs[f]?=some a):
  false=Tryz.pinned.checked.prog.looks []/\∀(j:Nat) t,a.params[j]?=some t->Tryz.pinned.checked.prog.wantsStandIn t=false:=by
 obtain rfl:f=3:=Af4 ((show prog.funcNamed "polder/polderlaw15.VolumesPlay"=some 3 by kernel_rfl).symm.trans e) |>.symm;obtain rfl:a=f3:=(Af4 (func3.symm.trans b)).symm;refine ⟨by kernel_rfl,λj t c=>?_⟩;rw[params3] at c;have d:=AhF c;simp at d;rcases d with rfl|rfl<;>first|exact (show prog.wantsStandIn 3=false by kernel_rfl)|exact (show prog.wantsStandIn 22=false by kernel_rfl)
theorem volumesPlay_holds:Rows.VolumesPlayUptoCardSaid:=
 Claim7.holds_tied_plain_at .later [] _ _ _ _ WS (λ_ h=>by cases h) J (λ_ h=>by cases h) volumesPlayUpto_row_tie Z ⟨Z,Z⟩ J Z Uf J
end Go.Proofs.YtnifkcmmanmbbaaGreatDoor
