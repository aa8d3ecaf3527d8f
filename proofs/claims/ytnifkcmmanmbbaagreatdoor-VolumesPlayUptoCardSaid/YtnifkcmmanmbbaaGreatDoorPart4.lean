/-
  Steps to: Law VolumesPlay: volumes are maps; room is refused only where there is none. No condition.
-/
import Derived.Test.YtnifkcmmanmbbaaGreatDoorPart3
set_option maxRecDepth 100000
set_option linter.unusedSimpArgs false
set_option linter.unusedVariables false
open Go.Proofs.Tryz
namespace Go.Proofs.YtnifkcmmanmbbaaGreatDoor
open Go.RowKit
theorem MI(lf:Bool)(kv vv:Value)(a vs:List Int)(A B:Af)(s:∀h,A h->rdH 1 kv a.length (a.map I) h)(r:∀h,B h->rdH 1 vv vs.length (vs.map I) h)(a5:a.length=vs.length)(a7:a.length<=16)(e c d b:List Int)(u:a.take ((a.length+1)/2)=e)(a1:vs.take ((a.length+1)/2)=c)(y:a.drop ((a.length+1)/2)=d)(t:vs.drop ((a.length+1)/2)=b):Cn prog 271 [.agg #[.bool lf,kv,vv]] [A,B] (λv Γ=>∃v1 v2 v3 x:Value,v=.tuple #[.agg #[.bool lf,v1,v2],.agg #[.bool lf,v3,x]]/\Γ=[grow 3 1 v1 e.length (e.map I),grow 3 1 v2 c.length (c.map I),grow 3 1 v3 d.length (d.map I),grow 3 1 x b.length (b.map I),A,B]):=by
 intro z R w H;replace H:=H.l2;obtain ⟨ka,kc,rfl⟩:=H.sy 0 (λq=>(s _ q).slc);obtain ⟨va,vc,rfl⟩:=H.sy 1 (λq=>(r _ q).slc);have a3:=H.sy 0 (λq=>(s _ q).slcap);have a4:=H.sy 1 (λq=>(r _ q).slcap);refine Ae func271 Z ntmps271 Z (Za 2 [] H Z ?_);intro b1 w H;refine Za 0 [] H Z ?_;intro b2 w H;refine Za 0 [] H Z ?_;intro b3 w H;refine Z3 13 [1,2,0] [(a.length:Int)+1,(((a.length+1)/2:Nat):Int)] H Z U ?_;replace H:=H.f4.f4.f4;refine AO (Sep z (blk b1 [.bool lf,.slice ka a.length kc,.slice va vs.length vc] 249::A::B::R)) 11 Z J (A5 H λw H'=>?_);have H:=H'.l5;refine AU [0,1,3,4,5,6,7] [0,3,0,3,1,0,0] [] (by exact H.pick 5 [0,1,2] Z) Z J Z (AB [2] J O (An (Bo Z Z Z Z Z Z (λw=>call258 _ w) (DX _ _ _ a vs _ _ s r 0 ((a.length+1)/2) U U U e c (by simpa using u) (by simpa using a1) U) H.f2.f2 Z ?_)));rintro _ w _ ⟨x,v5,rfl,rfl⟩ H;replace H:=H.l7;have a2:=H.sy 0 (·.slc);obtain ⟨n,m,rfl⟩:=a2;have a0:=H.sy 1 (·.slc);obtain ⟨l,k,rfl⟩:=a0;refine Av (H.pick 7 [4,2,3] Z) (AB [8] J O (An (Bo Z Z Z Z Z Z (λw=>call258 _ w) (DX _ _ _ a vs _ _ s r ((a.length+1)/2) a.length U U U d b (by rw[Aee O];exact y) (by rw[Aee (by simp;omega)];exact t) U) H.f3.f3 Z ?_)));rintro _ w _ ⟨a8,a6,rfl,rfl⟩ H;replace H:=H.l9;have o:=H.sy 0 (·.slc);obtain ⟨g,i,rfl⟩:=o;have p:=H.sy 1 (·.slc);obtain ⟨j,f,rfl⟩:=p;refine Av (H.pick 9 [6,2,3] Z) (AB [9] J O (An (Bg Z Z Z (Ak 8 H Z Z Z Z (vs:=[.bool lf,.slice n e.length m,.slice l c.length k]) Z (by simp[u8,u32,Value.oneCell']) J O (out:=[.bool lf,.slice n e.length m,.slice l c.length k]) Z) ?_)));rintro w H;replace H:=H.l9;refine Av (H.pick 9 [6,2,3] Z) (AB [10] J O (An (Bg Z Z Z (Ak 7 H Z Z Z Z (vs:=[.bool lf,.slice g d.length i,.slice j b.length f]) Z (by simp[u8,u32,Value.oneCell']) J O (out:=[.bool lf,.slice g d.length i,.slice j b.length f]) Z) ?_)));rintro w H;replace H:=H.l9;refine Av (H.pick 9 [6,2,3] Z) (a_done J (gn (Zc 2 Z (Zl [8,3,7,3] H Z ?_))));exact ⟨_,⟨.slice n e.length m,.slice l c.length k,.slice g d.length i,.slice j b.length f,Z,Z⟩,H.perm 9 [4,5,0,1,2,3] Z Z⟩
theorem VX(lf:Bool)(kv vv:Value)(l vs:List Int)(A B:Af)(r:∀h,A h->rdH 1 kv l.length (l.map I) h)(p:∀h,B h->rdH 1 vv vs.length (vs.map I) h)(o:CkN lf l vs)(a9:2<=l.length)(d b c a:List Int)(t:l.take ((l.length+1)/2)=d)(a3:vs.take ((l.length+1)/2)=b)(a0:l.drop ((l.length+1)/2)=c)(s:vs.drop ((l.length+1)/2)=a):Cn prog 256 [.agg #[.bool lf,kv,vv]] [A,B] (λv Γ=>∃v1 v2 v3 u:Value,v=.tuple #[.agg #[.bool lf,v1,v2],.agg #[.bool lf,v3,u],I 0]/\Γ=[grow 3 1 v1 d.length (d.map I),grow 3 1 v2 b.length (b.map I),grow 3 1 v3 c.length (c.map I),grow 3 1 u a.length (a.map I),A,B]):=by
 intro z R w H;replace H:=H.l2;obtain ⟨ka,kc,rfl⟩:=H.sy 0 (λq=>(r _ q).slc);obtain ⟨va,vc,rfl⟩:=H.sy 1 (λq=>(p _ q).slc);have a6:=H.sy 0 (λq=>(r _ q).slcap);have a7:=H.sy 1 (λq=>(p _ q).slcap);have a8:=o.len;have b0:=o.l8;refine Ae func256 Z ntmps256 Z (Za 2 [] H Z ?_);intro b1 w H;refine Za 0 [] H Z ?_;intro b2 w H;refine Za 0 [] H Z ?_;intro b3 w H;refine Z2 7 [2,3] H Z (z_E_ Z (call200 _) (CS _ _ _ l vs _ _ r p o) H.f4.f4 ?_);intro w H;refine Z2 9 [4,1,4,0,0] H Z (Ag Z (λh1=>U) (λh1=>?_));refine Z2 5 [4,3] H Z (Aq Z (call271 _) (MI _ _ _ l vs _ _ r p U U d b c a t a3 a0 s) H ?_);rintro _ w _ ⟨u,v5,v6,v7,rfl,rfl⟩ H;replace H:=H.l9;have a4:=H.sy 0 (·.slc);obtain ⟨n,m,rfl⟩:=a4;have a2:=H.sy 1 (·.slc);obtain ⟨j,f,rfl⟩:=a2;have x:=H.sy 2 (·.slc);obtain ⟨g,i,rfl⟩:=x;have a5:=H.sy 3 (·.slc);obtain ⟨k,e,rfl⟩:=a5;refine Za 3 [] H Z ?_;intro y w H;refine Za 0 [] H Z ?_;intro a1 w H;refine Z4 5 [1,0] H Z ?_;intro w H;replace H:=H.f1;refine AO (Sep z (blk y [.bool lf,.slice n d.length m,.slice j b.length f] 249::blk a1 [.bool lf,.slice g c.length i,.slice k a.length e] 249::R)) 5 Z J (A5 H λw H'=>?_);have H:=H'.l11;refine AU [0,1] [0,3,1,3] [] (by exact H.pick 11 [0,1] Z) Z J Z (AB [2] J O (An (Bg Z Z Z (Ak 9 H Z Z Z Z (vs:=[.bool lf,.slice n d.length m,.slice j b.length f]) Z (by simp[u8,u32,Value.oneCell']) J O (out:=[.bool lf,.slice n d.length m,.slice j b.length f]) Z) ?_)));rintro w H;replace H:=H.l11;refine Av (H.pick 11 [0,1] Z) (AB [3] J O (An (Bg Z Z Z (Ak 8 H Z Z Z Z (vs:=[.bool lf,.slice g c.length i,.slice k a.length e]) Z (by simp[u8,u32,Value.oneCell']) J O (out:=[.bool lf,.slice g c.length i,.slice k a.length e]) Z) ?_)));rintro w H;replace H:=H.l11;refine Av (H.pick 11 [0,1] Z) (AU [4] [] [] (by exact H.pick 11 [0,1] Z) Z J Z (a_done J (gn (Zc 2 Z (Zl [9,3,8,3] H Z ?_)))));exact ⟨_,⟨.slice n d.length m,.slice j b.length f,.slice g c.length i,.slice k a.length e,Z,Z⟩,H.perm 11 [2,3,4,5,6,7] Z Z⟩
theorem Qx(lf:Bool)(kv vv:Value)(c vs:List Int)(A B:Af)(hA:∀h,A h->rdH 1 kv c.length (c.map I) h)(hB:∀h,B h->rdH 1 vv vs.length (vs.map I) h)(a2:CkN lf c vs)(i:Nat)(hi:i<c.length)(a b:List Int)(a1:c.take i++c.drop (i+1)=a)(a0:vs.take i++vs.drop (i+1)=b)(d:CkN lf a b):Cn prog 234 [.agg #[.bool lf,kv,vv],I (i:Int)] [A,B] (λv Γ=>∃v1 v2:Value,v=.tuple #[.agg #[.bool lf,v1,v2],I 0]/\Γ=[grow 3 1 v1 a.length (a.map I),grow 3 1 v2 b.length (b.map I),A,B]):=by
 intro z R w H;replace H:=H.l2;obtain ⟨ka,kc,rfl⟩:=H.sy 0 (λq=>(hA _ q).slc);obtain ⟨va,vc,rfl⟩:=H.sy 1 (λq=>(hB _ q).slc);have d2:=H.sy 0 (λq=>(hA _ q).slcap);have c4:=H.sy 1 (λq=>(hB _ q).slcap);have d6:=a2.len;have g7:=a2.l8;refine Ae func234 Z ntmps234 Z (Za 2 [] H Z ?_);intro b1 w H;refine Za 0 [] H Z ?_;intro b2 w H;refine Z2 8 [1,3] H Z (z_E_ Z (call200 _) (CS _ _ _ c vs _ _ hA hB a2) H.f3.f3 ?_);intro w H;refine Z0 10 [4,0] Z (Al 15 Z (λh1=>U) (λh1=>?_));refine Z2 9 [1,3,0,0] H Z (Ag Z (λh2=>U) (λh2=>?_));refine Zc 4 Z ?_;replace H:=H.f1.f1.f3;refine AO (Sep z (blk b1 [.bool lf,.slice ka c.length kc,.slice va vs.length vc] 249::A::B::R)) 13 Z J (A5 H λw H'=>?_);have H:=H'.l4;refine HC [0,1,3,4,5,6,7,8] [0,3,0,3,1,0,0] [(i:Int)+1] (by exact H.pick 4 [0,1,2] Z) Z J U Z (AB [2,11] J O (JO ?_ ?_))
 ·refine Bo Z Z Z Z Z Z (λw=>call258 _ w) (DX _ _ _ c vs _ _ hA hB 0 i U U U (c.take i) (vs.take i) O O U) H.f2.f2 Z ?_;rintro _ w _ ⟨v3,v4,rfl,rfl⟩ H;replace H:=H.l6;have c2:=H.sy 0 (·.slc)
  obtain ⟨g0,f8,rfl⟩:=c2;have c1:=H.sy 1 (·.slc);obtain ⟨g5,f0,rfl⟩:=c1;refine Av (H.pick 6 [4,2,3] Z) (AB [9,11] J O (JO ?_ ?_))
  ·refine Bo Z Z Z Z Z Z (λw=>call258 _ w) (DX _ _ _ c vs _ _ hA hB (i+1) c.length U U U (c.drop (i+1)) (vs.drop (i+1)) (by rw[Aee O]) (by rw[Aee (by simp;omega)]) U) H.f3.f3 Z ?_;rintro _ w _ ⟨v9,g9,rfl,rfl⟩ H;replace H:=H.l8;have c0:=H.sy 0 (·.slc)
   obtain ⟨c5,d3,rfl⟩:=c0;have a8:=H.sy 1 (·.slc);obtain ⟨c8,d4,rfl⟩:=a8;refine Av (H.pick 8 [6,2,3] Z) (AB [10,11] J O (JO ?_ ?_))
   ·refine Bo Z Z Z Z Z Z (λw=>call257 _ w) (Fk _ _ _ (c.take i) (vs.take i) _ _ (λh q=>q.rd) (λh q=>q.rd) _ _ _ (c.drop (i+1)) (vs.drop (i+1)) _ _ (λh q=>q.rd) (λh q=>q.rd) (by simp;omega) (by simp;omega) (by simp;omega) (by simp;omega) a b a1 a0) H.f1.f1.f5.f5 Z ?_;rintro _ w _ ⟨g4,g1,rfl,rfl⟩ H;replace H:=H.l10;have a3:=H.sy 0 (·.slc)
    obtain ⟨p,t,rfl⟩:=a3;have b7:=H.sy 1 (·.slc);obtain ⟨x,s,rfl⟩:=b7;refine Av (H.pick 10 [8,6,7] Z) (AB [11] J O (An (Ca Z Z Z Z (Cb (P:=prog) H Z (zs:=[.bool false,.slice none 0 0,.slice none 0 0]) J) ?_)));rintro _ w ⟨e5,rfl,H⟩;replace H:=H.l11;refine Av (H.pick 11 [9,7,8] Z) (AB [12] J O (An (Bg Z Z Z (Ak 0 H Z Z Z Z (vs:=[.bool lf,.slice p a.length t,.slice x b.length s]) Z (by simp[u8,u32,Value.oneCell']) J O (out:=[.bool lf,.slice p a.length t,.slice x b.length s]) Z) ?_)));rintro w H;replace H:=H.l11;refine Av (H.pick 11 [9,7,8] Z) (a_done J (gn (Z2 5 [0,3] H Z (z_E_ Z (call200 _) (CS _ _ _ a b _ _ (λh q=>q.rd) (λh q=>q.rd) d) H.f2.f2 ?_))));intro w H;refine Z4 14 [4,2,3,10] H Z ?_;intro w H;refine Zl [10,3] H Z ?_;exact ⟨_,⟨.slice p a.length t,.slice x b.length s,Z,Z⟩,H.perm 11 [0,1,7,8] Z Z⟩
   refine Ca Z Z Z Z (Cb (P:=prog) H Z (zs:=[.bool false,.slice none 0 0,.slice none 0 0]) J) ?_;rintro _ w ⟨e2,rfl,H⟩;replace H:=H.l9;refine Av (H.pick 9 [7,3,4] Z) (AB [10] J O (An (Bo Z Z Z Z Z Z (λw=>call257 _ w) (Fk _ _ _ (c.take i) (vs.take i) _ _ (λh q=>q.rd) (λh q=>q.rd) _ _ _ (c.drop (i+1)) (vs.drop (i+1)) _ _ (λh q=>q.rd) (λh q=>q.rd) (by simp;omega) (by simp;omega) (by simp;omega) (by simp;omega) a b a1 a0) H.f2.f2.f6.f6 Z ?_)));rintro _ w _ ⟨h0,f9,rfl,rfl⟩ H;replace H:=H.l11;have a4:=H.sy 0 (·.slc);obtain ⟨f,u,rfl⟩:=a4;have a7:=H.sy 1 (·.slc);obtain ⟨n,g,rfl⟩:=a7;refine Av (H.pick 11 [9,7,8] Z) (AB [12] J O (An (Bg Z Z Z (Ak 6 H Z Z Z Z (vs:=[.bool lf,.slice f a.length u,.slice n b.length g]) Z (by simp[u8,u32,Value.oneCell']) J O (out:=[.bool lf,.slice f a.length u,.slice n b.length g]) Z) ?_)));rintro w H;replace H:=H.l11;refine Av (H.pick 11 [9,7,8] Z) (a_done J (gn (Z2 5 [6,3] H Z (z_E_ Z (call200 _) (CS _ _ _ a b _ _ (λh q=>q.rd) (λh q=>q.rd) d) H ?_))));intro w H;refine Z4 14 [4,6,3,10] H Z ?_;intro w H;refine Zl [10,3] H Z ?_;exact ⟨_,⟨.slice f a.length u,.slice n b.length g,Z,Z⟩,H.perm 11 [0,1,7,8] Z Z⟩
  refine Ca Z Z Z Z (Cb (P:=prog) H Z (zs:=[.bool false,.slice none 0 0,.slice none 0 0]) J) ?_;rintro _ w ⟨e8,rfl,H⟩;replace H:=H.l7;refine Av (H.pick 7 [5,3,4] Z) (AB [9] J O (An (Bo Z Z Z Z Z Z (λw=>call258 _ w) (DX _ _ _ c vs _ _ hA hB (i+1) c.length U U U (c.drop (i+1)) (vs.drop (i+1)) (by rw[Aee O]) (by rw[Aee (by simp;omega)]) U) H.f4.f4 Z ?_)));rintro _ w _ ⟨e4,g6,rfl,rfl⟩ H;replace H:=H.l9;have b4:=H.sy 0 (·.slc);obtain ⟨c3,c9,rfl⟩:=b4;have a9:=H.sy 1 (·.slc);obtain ⟨d7,e0,rfl⟩:=a9;refine Av (H.pick 9 [7,2,3] Z) (AB [10] J O (An (Bo Z Z Z Z Z Z (λw=>call257 _ w) (Fk _ _ _ (c.take i) (vs.take i) _ _ (λh q=>q.rd) (λh q=>q.rd) _ _ _ (c.drop (i+1)) (vs.drop (i+1)) _ _ (λh q=>q.rd) (λh q=>q.rd) (by simp;omega) (by simp;omega) (by simp;omega) (by simp;omega) a b a1 a0) H.f1.f1.f6.f6 Z ?_)));rintro _ w _ ⟨h3,e7,rfl,rfl⟩ H;replace H:=H.l11;have b8:=H.sy 0 (·.slc);obtain ⟨j,e,rfl⟩:=b8;have b0:=H.sy 1 (·.slc);obtain ⟨m,r,rfl⟩:=b0;refine Av (H.pick 11 [9,6,7] Z) (AB [12] J O (An (Bg Z Z Z (Ak 8 H Z Z Z Z (vs:=[.bool lf,.slice j a.length e,.slice m b.length r]) Z (by simp[u8,u32,Value.oneCell']) J O (out:=[.bool lf,.slice j a.length e,.slice m b.length r]) Z) ?_)));rintro w H;replace H:=H.l11;refine Av (H.pick 11 [9,6,7] Z) (a_done J (gn (Z2 5 [8,3] H Z (z_E_ Z (call200 _) (CS _ _ _ a b _ _ (λh q=>q.rd) (λh q=>q.rd) d) H ?_))));intro w H;refine Z4 14 [4,8,3,10] H Z ?_;intro w H;refine Zl [10,3] H Z ?_;exact ⟨_,⟨.slice j a.length e,.slice m b.length r,Z,Z⟩,H.perm 11 [0,1,6,7] Z Z⟩
 refine Ca Z Z Z Z (Cb (P:=prog) H Z (zs:=[.bool false,.slice none 0 0,.slice none 0 0]) J) ?_;rintro _ w ⟨g2,rfl,H⟩;replace H:=H.l5;refine Av (H.pick 5 [1,2,3] Z) (AB [2] J O (An (Bo Z Z Z Z Z Z (λw=>call258 _ w) (DX _ _ _ c vs _ _ hA hB 0 i U U U (c.take i) (vs.take i) O O U) H.f3.f3 Z ?_)));rintro _ w _ ⟨e6,e3,rfl,rfl⟩ H;replace H:=H.l7;have a5:=H.sy 0 (·.slc);obtain ⟨c6,d0,rfl⟩:=a5;have b3:=H.sy 1 (·.slc);obtain ⟨d9,d5,rfl⟩:=b3;refine Av (H.pick 7 [5,2,3] Z) (AB [9] J O (An (Bo Z Z Z Z Z Z (λw=>call258 _ w) (DX _ _ _ c vs _ _ hA hB (i+1) c.length U U U (c.drop (i+1)) (vs.drop (i+1)) (by rw[Aee O]) (by rw[Aee (by simp;omega)]) U) H.f3.f3 Z ?_)));rintro _ w _ ⟨g3,e9,rfl,rfl⟩ H;replace H:=H.l9;have b5:=H.sy 0 (·.slc);obtain ⟨c7,e1,rfl⟩:=b5;have b9:=H.sy 1 (·.slc);obtain ⟨d8,d1,rfl⟩:=b9;refine Av (H.pick 9 [7,2,3] Z) (AB [10] J O (An (Bo Z Z Z Z Z Z (λw=>call257 _ w) (Fk _ _ _ (c.take i) (vs.take i) _ _ (λh q=>q.rd) (λh q=>q.rd) _ _ _ (c.drop (i+1)) (vs.drop (i+1)) _ _ (λh q=>q.rd) (λh q=>q.rd) (by simp;omega) (by simp;omega) (by simp;omega) (by simp;omega) a b a1 a0) H.f1.f1.f5.f5 Z ?_)));rintro _ w _ ⟨g8,f7,rfl,rfl⟩ H;replace H:=H.l11;have a6:=H.sy 0 (·.slc);obtain ⟨l,k,rfl⟩:=a6;have b6:=H.sy 1 (·.slc);obtain ⟨y,o,rfl⟩:=b6;refine Av (H.pick 11 [9,6,7] Z) (AB [12] J O (An (Bg Z Z Z (Ak 8 H Z Z Z Z (vs:=[.bool lf,.slice l a.length k,.slice y b.length o]) Z (by simp[u8,u32,Value.oneCell']) J O (out:=[.bool lf,.slice l a.length k,.slice y b.length o]) Z) ?_)));rintro w H;replace H:=H.l11;refine Av (H.pick 11 [9,6,7] Z) (a_done J (gn (Z2 5 [8,3] H Z (z_E_ Z (call200 _) (CS _ _ _ a b _ _ (λh q=>q.rd) (λh q=>q.rd) d) H ?_))));intro w H;refine Z4 14 [4,8,3,10] H Z ?_;intro w H;refine Zl [10,3] H Z ?_;exact ⟨_,⟨.slice l a.length k,.slice y b.length o,Z,Z⟩,H.perm 11 [0,1,6,7] Z Z⟩
theorem FdI.uniq{a:List Int}{key:Int}{i j:Nat}(h:FdI a key i)(g:FdI a key j):i=j:=by
 rcases AfD i j with q|q|q
 ·have b:i<a.length:=by have:=g.le;omega
  have c:=h.ge a[i] (Ad7 b);have d:=g.lt i a[i] q (Ad7 b);omega
 ·exact q
 have b:j<a.length:=by have:=h.le;omega
 have c:=g.ge a[j] (Ad7 b);have d:=h.lt j a[j] q (Ad7 b);omega
theorem FcI.uniq{a:List Int}{key:Int}{i j:Nat}(h:FcI a key i)(g:FcI a key j):i=j:=by
 rcases AfD i j with q|q|q
 ·have b:i<a.length:=by have:=g.le;omega
  have c:=h.ge a[i] (Ad7 b);have d:=g.lt i a[i] q (Ad7 b);omega
 ·exact q
 have b:j<a.length:=by have:=h.le;omega
 have c:=g.ge a[j] (Ad7 b);have d:=h.lt j a[j] q (Ad7 b);omega
theorem Zn(lf:Bool)(kv vv:Value)(a vs:List Int)(A B:Af)(m:∀h,A h->rdH 1 kv a.length (a.map I) h)(g:∀h,B h->rdH 1 vv vs.length (vs.map I) h)(d:CkN lf a vs)(key:Int)(val:Int)(a2:(0<=key/\key<1048576)/\1<=val/\val<1024)(i:Nat)(n:FdI a key i)(j:a[i]?=some key):Cn prog 255 [.agg #[.bool lf,kv,vv],I key,I val] [A,B] (λv Γ=>∃v1 v2:Value,v=.tuple #[.agg #[.bool lf,v1,v2],I 0]/\Γ=[grow 3 1 v1 a.length (a.map I),grow 3 1 v2 vs.length ((vs.set i val).map I),A,B]):=by
 intro z R w H;replace H:=H.l2;obtain ⟨ka,kc,rfl⟩:=H.sy 0 (λq=>(m _ q).slc);obtain ⟨va,vc,rfl⟩:=H.sy 1 (λq=>(g _ q).slc);have u:=H.sy 0 (λq=>(m _ q).slcap);have a0:=H.sy 1 (λq=>(g _ q).slcap);have l:=d.len;have a4:=d.l8;have a8:=(Ad6.1 j).1;refine Ae func255 Z ntmps255 Z (Za 2 [] H Z ?_);intro b1 w H;refine Za 0 [] H Z ?_;intro b2 w H;refine Z2 8 [1,3] H Z (z_E_ Z (call200 _) (CS _ _ _ a vs _ _ m g d) H.f3.f3 ?_);intro w H;refine Z0 9 [4] Z (z_E_ Z (call233 _) (HP _ _) H ?_);intro w H;replace H:=H.l4;refine Ab Z (AE Z Z) (Zc 3 Z (Ag Z (λh1=>U) (λh1=>?_)));refine Z2 7 [3,3] H Z (Aq Z (call161 _) (Jv _ _ _ a vs _ _ m g _ U) H ?_);rintro _ w _ ⟨e,f,rfl,rfl⟩ H;replace H:=H.l4;obtain rfl:=f.uniq n;refine AC 26 (v:=.tuple #[I (e:Int),.bool true]) Z (congrArg (λb=>Value.tuple #[I (e:Int),.bool b]) (decide_eq_true j)) (Z2 20 [3,3,1,3,0] H Z (Aq Z (call258 _) (DX _ _ _ a vs _ _ m g 0 a.length U U U a vs O (by rw[AgX,Aep,l];simp) U) H ?_));rintro _ w _ ⟨v4,v5,rfl,rfl⟩ H;replace H:=H.l6;have r:=H.sy 0 (·.slc);obtain ⟨t,s,rfl⟩:=r;have p:=H.sy 1 (·.slc);obtain ⟨a6,k,rfl⟩:=p;refine Za 0 [] H Z ?_;intro a1 w H;refine Z4 4 [0] H Z ?_;intro w H;obtain ⟨y,x,c,o,a3,a7,a5,H'⟩:=H.ungrow 2 Z U;cases o;clear H;have H:=H'.l7;refine Z3 6 [2,0,0,1,e,e] [] H Z U (Az Z Z (Ak 2 H Z Z Z Z (vs:=[I val]) Z (by simp[u8,u32,Value.oneCell']) J (by simp;omega) (out:=((vs.set e val).map I++c)) (Eb U)) ?_);rintro w H;replace H:=H.l7;refine Z4 10 [0,3,5] H Z ?_;intro w H;refine Zl [5,3] H Z ?_;have H2:=H.mono 2 (B:=grow 3 1 (.slice (some ⟨y,0,none⟩) vs.length k) vs.length ((vs.set e val).map I)) Z (λh q=>q.grow U U (by simp;omega) (by rw[AeK,AeA O]));exact ⟨_,⟨.slice t a.length s,.slice (some ⟨y,0,none⟩) vs.length k,Z,Z⟩,H2.perm 7 [1,2,3,4] Z Z⟩
theorem Zo(lf:Bool)(n o:Value)(a vs:List Int)(A B:Af)(f:∀h,A h->rdH 1 n a.length (a.map I) h)(e:∀h,B h->rdH 1 o vs.length (vs.map I) h)(c:CkN lf a vs)(key:Int)(val:Int)(s:(0<=key/\key<1048576)/\1<=val/\val<1024)(i:Nat)(j:FdI a key i)(k:¬a[i]?=some key)(g:a.length=8):Cn prog 255 [.agg #[.bool lf,n,o],I key,I val] [A,B] (λv Γ=>v=.tuple #[.agg #[.bool false,.slice none 0 0,.slice none 0 0],I 15]/\Γ=[A,B]):=by
 intro z R w H;replace H:=H.l2;obtain ⟨ka,y,rfl⟩:=H.sy 0 (λq=>(f _ q).slc);obtain ⟨va,vc,rfl⟩:=H.sy 1 (λq=>(e _ q).slc);have t:=c.l8;refine Ae func255 Z ntmps255 Z (Za 2 [] H Z ?_);intro b1 w H;refine Za 0 [] H Z ?_;intro b2 w H;refine Z2 8 [1,3] H Z (z_E_ Z (call200 _) (CS _ _ _ a vs _ _ f e c) H.f3.f3 ?_);intro w H;refine Z0 9 [4] Z (z_E_ Z (call233 _) (HP _ _) H ?_);intro w H;replace H:=H.l4;refine Ab Z (AE Z Z) (Zc 3 Z (Ag Z (λu=>U) (λu=>?_)));refine Z2 7 [3,3] H Z (Aq Z (call161 _) (Jv _ _ _ a vs _ _ f e _ U) H ?_);rintro _ w _ ⟨p,d,rfl,rfl⟩ H;replace H:=H.l4;obtain rfl:=d.uniq j;refine AC 26 (v:=.tuple #[I (p:Int),.bool false]) Z (congrArg (λb=>Value.tuple #[I (p:Int),.bool b]) (decide_eq_false k)) (Z2 25 [1,3,0,0] H Z (Ag Z (λx=>?_) (λx=>?_)))
 ·refine Z4 8 [2] H Z ?_;intro w H;refine Zl [2,3] H Z ?_;exact ⟨_,⟨Z,Z⟩,H.perm 4 [0,1] Z Z⟩
 (exfalso;omega)
theorem Zp(lf:Bool)(kv vv:Value)(a vs:List Int)(A B:Af)(o:∀h,A h->rdH 1 kv a.length (a.map I) h)(n:∀h,B h->rdH 1 vv vs.length (vs.map I) h)(m:CkN lf a vs)(key:Int)(val:Int)(c6:(0<=key/\key<1048576)/\1<=val/\val<1024)(i:Nat)(l:FdI a key i)(a2:¬a[i]?=some key)(a0:a.length<8)(d e:List Int)(a5:a.take i++key::a.drop i=d)(a3:vs.take i++val::vs.drop i=e):Cn prog 255 [.agg #[.bool lf,kv,vv],I key,I val] [A,B] (λv Γ=>∃v1 v2:Value,v=.tuple #[.agg #[.bool lf,v1,v2],I 0]/\Γ=[grow 3 1 v1 d.length (d.map I),grow 3 1 v2 e.length (e.map I),A,B]):=by
 intro z R w H;replace H:=H.l2;obtain ⟨ka,kc,rfl⟩:=H.sy 0 (λq=>(o _ q).slc);obtain ⟨va,vc,rfl⟩:=H.sy 1 (λq=>(n _ q).slc);have b7:=H.sy 0 (λq=>(o _ q).slcap);have a6:=H.sy 1 (λq=>(n _ q).slcap);have c1:=m.len;have d1:=m.l8;have d3:=l.le;refine Ae func255 Z ntmps255 Z (Za 2 [] H Z ?_);intro b1 w H;refine Za 0 [] H Z ?_;intro b2 w H;refine Z2 8 [1,3] H Z (z_E_ Z (call200 _) (CS _ _ _ a vs _ _ o n m) H.f3.f3 ?_);intro w H;refine Z0 9 [4] Z (z_E_ Z (call233 _) (HP _ _) H ?_);intro w H;replace H:=H.l4;refine Ab Z (AE Z Z) (Zc 3 Z (Ag Z (λh1=>U) (λh1=>?_)));refine Z2 7 [3,3] H Z (Aq Z (call161 _) (Jv _ _ _ a vs _ _ o n _ U) H ?_);rintro _ w _ ⟨c,u,rfl,rfl⟩ H;replace H:=H.l4;obtain rfl:=u.uniq l;refine AC 26 (v:=.tuple #[I (c:Int),.bool false]) Z (congrArg (λb=>Value.tuple #[I (c:Int),.bool b]) (decide_eq_false a2)) (Z2 25 [1,3,0,0] H Z (Ag Z (λh2=>U) (λh2=>?_)));refine Zc 5 Z (AQ Z (AM H Z J Bz Z (by decide) (by decide) (out:=[I key]) J) ?_);rintro _ w ⟨b4,rfl,H⟩;replace H:=H.l5;refine Zc 1 Z (AQ Z (AM H Z J Bz Z (by decide) (by decide) (out:=[I val]) J) ?_);rintro _ w ⟨b5,rfl,H⟩;replace H:=H.l6;refine Za 1 [] H Z ?_;intro b6 w H;refine Z4 4 [0] H Z ?_;intro w H;replace H:=H.f4.f4.f2.f6;refine AO (Sep z (blk b1 [.bool lf,.slice ka a.length kc,.slice va vs.length vc] 249::blk b6 [.bool false,.slice (some ⟨b4,0,none⟩) 1 1,.slice (some ⟨b5,0,none⟩) 1 1] 249::A::B::R)) 14 Z J (A5 H λw H'=>?_);have H:=H'.l7;refine AU [0,1,3,5,6,7,8,9] [0,3,1,3,0,3,1,0,0] [] (by exact H.pick 7 [0,1,2,3] Z) Z J Z (AB [2] J O (An (Bo Z Z Z Z Z Z (λw=>call258 _ w) (DX _ _ _ a vs _ _ o n 0 c U (l.le) U (a.take c) (vs.take c) O O U) H.f3.f3 Z ?_)));rintro _ w _ ⟨v7,v8,rfl,rfl⟩ H;replace H:=H.l9;have a1:=H.sy 0 (·.slc);obtain ⟨d4,c3,rfl⟩:=a1;have a4:=H.sy 1 (·.slc);obtain ⟨a7,c0,rfl⟩:=a4;refine Av (H.pick 9 [4,5,2,3] Z) (AB [4] J O (An (Bo Z Z Z Z Z Z (λw=>call257 _ w) (Fk _ _ _ (a.take c) (vs.take c) _ _ (λh q=>q.rd) (λh q=>q.rd) _ _ _ ([key]) ([val]) _ _ (λh q=>q.rd U U O Z) (λh q=>q.rd U U O Z) (by simp<;>omega) (by simp<;>omega) (by simp<;>omega) (by simp<;>omega) (a.take c++[key]) (vs.take c++[val]) Z Z) H.f6.f7.f3.f3 Z ?_)));rintro _ w _ ⟨d2,c7,rfl,rfl⟩ H;replace H:=H.l11;have y:=H.sy 0 (·.slc);obtain ⟨c4,a9,rfl⟩:=y;have p:=H.sy 1 (·.slc);obtain ⟨b9,c2,rfl⟩:=p;refine Av (H.pick 11 [8,9,6,7] Z) (AB [10] J O (An (Bo Z Z Z Z Z Z (λw=>call258 _ w) (DX _ _ _ a vs _ _ o n c a.length (l.le) U U (a.drop c) (vs.drop c) (by rw[Aee O]) (by rw[Aee (by simp;omega)]) U) H.f7.f7 Z ?_)));rintro _ w _ ⟨d0,c5,rfl,rfl⟩ H;replace H:=H.l13;have s:=H.sy 0 (·.slc);obtain ⟨b3,b8,rfl⟩:=s;have x:=H.sy 1 (·.slc);obtain ⟨a8,b0,rfl⟩:=x;refine Av (H.pick 13 [10,11,2,3] Z) (AB [11] J O (An (Bo Z Z Z Z Z Z (λw=>call257 _ w) (Fk _ _ _ (a.take c++[key]) (vs.take c++[val]) _ _ (λh q=>q.rd) (λh q=>q.rd) _ _ _ (a.drop c) (vs.drop c) _ _ (λh q=>q.rd) (λh q=>q.rd) (by simp<;>omega) (by simp<;>omega) (by simp<;>omega) (by simp<;>omega) d e (by rw[Aec];exact a5) (by rw[Aec];exact a3)) H.f1.f1.f5.f5 Z ?_)));rintro _ w _ ⟨c9,c8,rfl,rfl⟩ H;replace H:=H.l15;have t:=H.sy 0 (·.slc);obtain ⟨g,f,rfl⟩:=t;have r:=H.sy 1 (·.slc);obtain ⟨k,j,rfl⟩:=r;refine Av (H.pick 15 [12,13,6,7] Z) (AB [12] J O (An (Bg Z Z Z (Ak 14 H Z Z Z Z (vs:=[.bool lf,.slice g d.length f,.slice k e.length j]) Z (by simp[u8,u32,Value.oneCell']) J O (out:=[.bool lf,.slice g d.length f,.slice k e.length j]) Z) ?_)));rintro w H;replace H:=H.l15;refine Av (H.pick 15 [12,13,6,7] Z) (AU [13] [] [] (by exact H.pick 15 [12,13,6,7] Z) Z J Z (a_done J (gn (Zc 2 Z (Zl [14,3] H Z ?_)))));exact ⟨_,⟨.slice g d.length f,.slice k e.length j,Z,Z⟩,H.perm 15 [0,1,6,7] Z Z⟩
theorem I1(g:Bool)(kv1 vv1:Value)(a i:List Int)(A1 B1:Af)(c:∀h,A1 h->rdH 1 kv1 a.length (a.map I) h)(n:∀h,B1 h->rdH 1 vv1 i.length (i.map I) h)(kv2 vv2:Value)(b k:List Int)(A2 B2:Af)(e:∀h,A2 h->rdH 1 kv2 b.length (b.map I) h)(m:∀h,B2 h->rdH 1 vv2 k.length (k.map I) h)(f:CkN g a i)(d:CkN g b k)(a6:∀x y:Int,a[a.length-1]?=some x->b[0]?=some y->x<y):Cn prog 272 [.agg #[.bool g,kv1,vv1],.agg #[.bool g,kv2,vv2]] [A1,B1,A2,B2] (λv Γ=>v=.bool true/\Γ=[A1,B1,A2,B2]):=by
 intro z R w H;replace H:=H.l4;obtain ⟨b6,b8,rfl⟩:=H.sy 0 (λq=>(c _ q).slc);obtain ⟨b4,b9,rfl⟩:=H.sy 1 (λq=>(n _ q).slc);have a3:=H.sy 0 (λq=>(c _ q).slcap);have a4:=H.sy 1 (λq=>(n _ q).slcap);obtain ⟨b3,b7,rfl⟩:=H.sy 2 (λq=>(e _ q).slc);obtain ⟨b0,b5,rfl⟩:=H.sy 3 (λq=>(m _ q).slc);have a2:=H.sy 2 (λq=>(e _ q).slcap);have s:=H.sy 3 (λq=>(m _ q).slcap);have a0:=f.len;have a8:=f.l8;have a1:=d.len;have a9:=d.l8;refine Ae func272 Z ntmps272 Z (Za 2 [] H Z ?_);intro b1 w H;refine Za 0 [] H Z ?_;intro b2 w H;refine Z2 7 [1,3] H Z (z_E_ Z (call200 _) (CS _ _ _ a i _ _ c n f) H.f3.f3 ?_);intro w H;refine Z2 3 [4,2,3] H Z (z_E_ Z (call200 _) (CS _ _ _ b k _ _ e m d) H.f5.f5 ?_);intro w H;refine Z2 7 [4,0,5,0,0,4,0] H Z (Ab Z (Nl Z J Z Z) (Zc 3 Z (Ag Z (λh1=>?_) (λh1=>?_))))
 ·exact absurd Z h1
 refine Zc 3 Z (Bu (Sep z _) J J H.drew (GF 5 [1,5,0,0] [] Z J (Cd 24 Z (λh2=>?_) (λh2=>?_))))
 ·refine BZ 21 [] Z J (BH (λw p=>?_));have H:=p.l6;refine gn (Zc 2 Z (Zr Z ?_));exact ⟨_,⟨Z,Z⟩,H.perm 6 [2,3,0,1] Z Z⟩
 refine GF 6 [1,4,0,0] [] Z J (Cd 30 Z (λh3=>?_) (λh3=>?_))
 ·refine BZ 15 [] Z J (BH (λw p=>?_));have H:=p.l6;refine gn (Zc 2 Z (Zr Z ?_));exact ⟨_,⟨Z,Z⟩,H.perm 6 [2,3,0,1] Z Z⟩
 obtain ⟨x,o⟩:∃x,a[a.length-1]?=some x:=⟨_,Ad7 U⟩;obtain ⟨y,hy⟩:∃y,b[0]?=some y:=⟨_,Ad7 U⟩;have a7:=a6 x y o hy;have t:=(H.rd 2 Z c).at (j:=a.length-1) (u:=I x) (by simp[o]);have a5:=(H.rd 0 Z e).at (j:=0) (u:=I y) (by simp[hy]);refine G4 6 [1,5,0,1,5,0] [(a.length:Int)-1] Z J U (AL Z Z Z (Aj Z (z:=1) (j:=(a.length-1)) (r:=(a.length-1)) J Z Z U U t U) (AL Z Z Z (Ax Z Z J (λ_ l=>(l.rd 2 Z c).at (j:=a.length-1) (u:=I x) (by simp[o]))) (DZ 2 [1,0] (λ_ o=>(AS (o.blk 4 Z) AN)) Z J Z (AL Z Z Z (Aj Z (z:=1) (j:=0) (r:=0) J Z Z Z U a5 U) (AL Z Z Z (Ax Z Z J (λ_ l=>(l.rd 0 Z e).at (j:=0) (u:=I y) (by simp[hy]))) (BZ 3 [] Z J (BH (λw p=>?_))))))));have H:=p.l6;refine gn (Zc 2 Z (Zr Z ?_));exact ⟨_,⟨congrArg Value.bool (decide_eq_true a7),Z⟩,H.perm 6 [2,3,0,1] Z Z⟩
theorem VY(f:Bool)(kv1 vv1:Value)(a c:List Int)(A1 B1:Af)(i:∀h,A1 h->rdH 1 kv1 a.length (a.map I) h)(l:∀h,B1 h->rdH 1 vv1 c.length (c.map I) h)(kv2 vv2:Value)(b d:List Int)(A2 B2:Af)(j:∀h,A2 h->rdH 1 kv2 b.length (b.map I) h)(k:∀h,B2 h->rdH 1 vv2 d.length (d.map I) h)(g:CkN f a c)(e:CkN f b d)(a1:∀x y:Int,a[a.length-1]?=some x->b[0]?=some y->x<y)(h8:a.length+b.length<=8)(m vs:List Int)(hk:a++b=m)(hv:c++d=vs):Cn prog 259 [.agg #[.bool f,kv1,vv1],.agg #[.bool f,kv2,vv2]] [A1,B1,A2,B2] (λv Γ=>∃v1 v2:Value,v=.tuple #[.agg #[.bool f,v1,v2],I 0]/\Γ=[grow 3 1 v1 m.length (m.map I),grow 3 1 v2 vs.length (vs.map I),A1,B1,A2,B2]):=by
 intro z R w H;replace H:=H.l4;obtain ⟨b5,b7,rfl⟩:=H.sy 0 (λq=>(i _ q).slc);obtain ⟨b0,b8,rfl⟩:=H.sy 1 (λq=>(l _ q).slc);have s:=H.sy 0 (λq=>(i _ q).slcap);have u:=H.sy 1 (λq=>(l _ q).slcap);obtain ⟨a9,b6,rfl⟩:=H.sy 2 (λq=>(j _ q).slc);obtain ⟨a8,b4,rfl⟩:=H.sy 3 (λq=>(k _ q).slc);have r:=H.sy 2 (λq=>(j _ q).slcap);have n:=H.sy 3 (λq=>(k _ q).slcap);have o:=g.len;have a6:=g.l8;have p:=e.len;have a7:=e.l8;refine Ae func259 Z ntmps259 Z (Za 2 [] H Z ?_);intro b1 w H;refine Za 0 [] H Z ?_;intro b2 w H;refine Za 0 [] H Z ?_;intro b3 w H;refine Z2 9 [2,3,1,3] H Z (z_E_ Z (call272 _) (I1 _ _ _ a c _ _ i l _ _ b d _ _ j k g e a1) H.f6.f6.f6.f6 ?_);intro w H;refine Z3 18 [1,6,0,1,5,0,0] [(a.length:Int)+(b.length:Int)] H Z U (Ag Z (λh1=>U) (λh1=>?_));refine Z2 7 [6,3,5,3] H Z (Aq Z (call257 _) (Fk _ _ _ a c _ _ i l _ _ _ b d _ _ j k U U U U m vs hk hv) H ?_);rintro _ w _ ⟨v4,v5,rfl,rfl⟩ H;replace H:=H.l9;have a3:=H.sy 0 (·.slc);obtain ⟨a5,a4,rfl⟩:=a3;have a0:=H.sy 1 (·.slc);obtain ⟨a2,t,rfl⟩:=a0;refine Z4 5 [6] H Z ?_;intro w H;refine Zl [6,3] H Z ?_;exact ⟨_,⟨.slice a5 m.length a4,.slice a2 vs.length t,Z,Z⟩,H.perm 9 [0,1,2,3,4,5] Z Z⟩
theorem VZ(e:Bool)(kv1 vv1:Value)(a f:List Int)(A1 B1:Af)(i:∀h,A1 h->rdH 1 kv1 a.length (a.map I) h)(l:∀h,B1 h->rdH 1 vv1 f.length (f.map I) h)(kv2 vv2:Value)(b g:List Int)(A2 B2:Af)(j:∀h,A2 h->rdH 1 kv2 b.length (b.map I) h)(k:∀h,B2 h->rdH 1 vv2 g.length (g.map I) h)(d:CkN e a f)(c:CkN e b g)(t:∀x y:Int,a[a.length-1]?=some x->b[0]?=some y->x<y)(h8:8<a.length+b.length):Cn prog 259 [.agg #[.bool e,kv1,vv1],.agg #[.bool e,kv2,vv2]] [A1,B1,A2,B2] (λv Γ=>v=.tuple #[.agg #[.bool false,.slice none 0 0,.slice none 0 0],I 15]/\Γ=[A1,B1,A2,B2]):=by
 intro z R w H;replace H:=H.l4;obtain ⟨a5,a7,rfl⟩:=H.sy 0 (λq=>(i _ q).slc);obtain ⟨a3,a8,rfl⟩:=H.sy 1 (λq=>(l _ q).slc);have r:=H.sy 0 (λq=>(i _ q).slcap);have s:=H.sy 1 (λq=>(l _ q).slcap);obtain ⟨a2,a6,rfl⟩:=H.sy 2 (λq=>(j _ q).slc);obtain ⟨a1,a4,rfl⟩:=H.sy 3 (λq=>(k _ q).slc);have p:=H.sy 2 (λq=>(j _ q).slcap);have m:=H.sy 3 (λq=>(k _ q).slcap);have n:=d.len;have u:=d.l8;have o:=c.len;have a0:=c.l8;refine Ae func259 Z ntmps259 Z (Za 2 [] H Z ?_);intro b1 w H;refine Za 0 [] H Z ?_;intro b2 w H;refine Za 0 [] H Z ?_;intro b3 w H;refine Z2 9 [2,3,1,3] H Z (z_E_ Z (call272 _) (I1 _ _ _ a f _ _ i l _ _ b g _ _ j k d c t) H.f6.f6.f6.f6 ?_);intro w H;refine Z3 18 [1,6,0,1,5,0,0] [(a.length:Int)+(b.length:Int)] H Z U (Ag Z (λh1=>?_) (λh1=>?_))
 ·refine Z4 8 [4] H Z ?_;intro w H;refine Zl [4,3] H Z ?_;exact ⟨_,⟨Z,Z⟩,H.perm 7 [0,1,2,3] Z Z⟩
 (exfalso;omega)
theorem V1(a:Bool)(kv1 vv1:Value)(b i:List Int)(A1 B1:Af)(a0:∀h,A1 h->rdH 1 kv1 b.length (b.map I) h)(a3:∀h,B1 h->rdH 1 vv1 i.length (i.map I) h)(kv2 vv2:Value)(c j:List Int)(A2 B2:Af)(a1:∀h,A2 h->rdH 1 kv2 c.length (c.map I) h)(a2:∀h,B2 h->rdH 1 vv2 j.length (j.map I) h)(u:CkN a b i)(t:CkN a c j)(c5:∀x y:Int,b[b.length-1]?=some x->c[0]?=some y->x<y)(e6:2<=b.length+c.length)(ks vs:List Int)(hk:b++c=ks)(hv:i++j=vs)(g e f d:List Int)(b9:ks.take ((ks.length+1)/2)=g)(c4:vs.take ((ks.length+1)/2)=e)(b6:ks.drop ((ks.length+1)/2)=f)(b8:vs.drop ((ks.length+1)/2)=d):Cn prog 260 [.agg #[.bool a,kv1,vv1],.agg #[.bool a,kv2,vv2]] [A1,B1,A2,B2] (λv Γ=>∃v1 v2 v3 v4:Value,v=.tuple #[.agg #[.bool a,v1,v2],.agg #[.bool a,v3,v4],I 0]/\Γ=[grow 3 1 v1 g.length (g.map I),grow 3 1 v2 e.length (e.map I),grow 3 1 v3 f.length (f.map I),grow 3 1 v4 d.length (d.map I),A1,B1,A2,B2]):=by
 intro z R w H;replace H:=H.l4;obtain ⟨e2,d7,rfl⟩:=H.sy 0 (λq=>(a0 _ q).slc);obtain ⟨d2,e5,rfl⟩:=H.sy 1 (λq=>(a3 _ q).slc);have b5:=H.sy 0 (λq=>(a0 _ q).slcap);have c3:=H.sy 1 (λq=>(a3 _ q).slcap);obtain ⟨d1,d4,rfl⟩:=H.sy 2 (λq=>(a1 _ q).slc);obtain ⟨d0,e1,rfl⟩:=H.sy 3 (λq=>(a2 _ q).slc);have b0:=H.sy 2 (λq=>(a1 _ q).slcap);have c0:=H.sy 3 (λq=>(a2 _ q).slcap);have c1:=u.len;have c7:=u.l8;have a8:=t.len;have c8:=t.l8;have d5:ks.length=b.length+c.length:=by rw[<-hk,Ad9]
 have d6:vs.length=i.length+j.length:=by rw[<-hv,Ad9]
 refine Ae func260 Z ntmps260 Z (Za 2 [] H Z ?_);intro b1 w H;refine Za 0 [] H Z ?_;intro b2 w H;refine Za 0 [] H Z ?_;intro b3 w H;refine Za 0 [] H Z ?_;intro b4 w H;refine Z2 8 [3,3,2,3] H Z (z_E_ Z (call272 _) (I1 _ _ _ b i _ _ a0 a3 _ _ c j _ _ a1 a2 u t c5) H.f7.f7.f7.f7 ?_);intro w H;refine Z3 13 [1,7,0,1,6,0,0] [(b.length:Int)+(c.length:Int)] H Z U (Ag Z (λh1=>U) (λh1=>?_));refine Z2 6 [7,3,6,3] H Z (Aq Z (call257 _) (Fk _ _ _ b i _ _ a0 a3 _ _ _ c j _ _ a1 a2 U U U U ks vs hk hv) H ?_);rintro _ w _ ⟨v5,v6,rfl,rfl⟩ H;replace H:=H.l10;have b7:=H.sy 0 (·.slc);obtain ⟨e3,d9,rfl⟩:=b7;have a9:=H.sy 1 (·.slc);obtain ⟨e7,c9,rfl⟩:=a9;refine Aq Z (call271 _) (MI _ _ _ ks vs _ _ (λh q=>q.rd) (λh q=>q.rd) U U g e f d b9 c4 b6 b8) H ?_;rintro _ w _ ⟨d3,d8,e4,e0,rfl,rfl⟩ H;replace H:=H.l14;have a6:=H.sy 0 (·.slc);obtain ⟨r,k,rfl⟩:=a6;have a5:=H.sy 1 (·.slc);obtain ⟨n,p,rfl⟩:=a5;have a7:=H.sy 2 (·.slc);obtain ⟨s,o,rfl⟩:=a7;have a4:=H.sy 3 (·.slc);obtain ⟨l,m,rfl⟩:=a4;refine Za 3 [] H Z ?_;intro c6 w H;refine Za 0 [] H Z ?_;intro c2 w H;refine Z4 5 [1,0] H Z ?_;intro w H;replace H:=(H.pick 16 [1,0,2,3,4,5,6,7,8,9,10,11,12,13,14,15] Z).l16;refine AO (Sep z (blk c6 [.bool a,.slice r g.length k,.slice n e.length p] 249::blk c2 [.bool a,.slice s f.length o,.slice l d.length m] 249::R)) 5 Z J (A5 H λw H'=>?_);have H:=H'.l16;refine AU [0,1] [0,3,1,3] [] (by exact H.pick 16 [0,1] Z) Z J Z (AB [2] J O (An (Bg Z Z Z (Ak 13 H Z Z Z Z (vs:=[.bool a,.slice r g.length k,.slice n e.length p]) Z (by simp[u8,u32,Value.oneCell']) J O (out:=[.bool a,.slice r g.length k,.slice n e.length p]) Z) ?_)));rintro w H;replace H:=H.l16;refine Av (H.pick 16 [0,1] Z) (AB [3] J O (An (Bg Z Z Z (Ak 12 H Z Z Z Z (vs:=[.bool a,.slice s f.length o,.slice l d.length m]) Z (by simp[u8,u32,Value.oneCell']) J O (out:=[.bool a,.slice s f.length o,.slice l d.length m]) Z) ?_)));rintro w H;replace H:=H.l16;refine Av (H.pick 16 [0,1] Z) (AU [4] [] [] (by exact H.pick 16 [0,1] Z) Z J Z (a_done J (gn (Zc 2 Z (Zl [13,3,12,3] H Z ?_)))));exact ⟨_,⟨.slice r g.length k,.slice n e.length p,.slice s f.length o,.slice l d.length m,Z,Z⟩,H.perm 16 [2,3,4,5,8,9,10,11] Z Z⟩
section
abbrev E:=Int×Nat
structure Nd where
 lf:Bool
 es:List E
inductive Pc where
 | nd (d:Nd)
 | dt (b:List UInt8)
abbrev Hm:=Nat->Option Pc
def Srt(es:List E):Prop:=es.Pairwise (λa b=>a.1<b.1)
structure Nd.Ok(d:Nd):Prop where
 srt:Srt d.es
 len:d.es.length<=8
 key:∀e∈d.es,0<=e.1/\e.1<1048576
 ne:d.lf=false->d.es≠[]
def vals(es:List E):List Nat:=es.map Prod.snd
def EM(o:Option Pc)(p:Nat):Nat:=
 match o with
 | some (.nd d)=>(vals d.es).count p
 | _=>0
def FB(N:Hm)(p:Nat):Nat->Nat
 | 0=>0
 | n+1=>FB N p n+EM (N n) p
theorem Qy(N:Hm)(p a:Nat)(o:Option Pc):∀n,n<=a->FB (fup N a o) p n=FB N p n
 | 0,_=>rfl
 | n+1,h=>by simp only[FB];rw[Qy N p a o n U,fup_ne _ _ U]
theorem FT(N:Hm)(p a:Nat)(o:Option Pc):∀n,a<n->FB (fup N a o) p n+EM (N a) p=FB N p n+EM o p
 | n+1,h=>by
  simp only[FB];rcases Ael a n with q|q
  ·have:=FT N p a o n q
   rw[fup_ne _ _ U];omega
  obtain rfl:a=n:=by omega
  rw[Qy N p a o a (Aed _),BI];omega
theorem LQ(N:Hm)(p q:Nat):∀n,q<n->EM (N q) p<=FB N p n
 | n+1,h=>by
  simp only[FB];rcases Ael q n with r|r
  ·have:=LQ N p q n r;omega
  obtain rfl:q=n:=by omega
  omega
theorem Qz(N:Hm)(p:Nat)(h:∀q,EM (N q) p<=1):∀n,FB N p n<=n
 | 0=>Aed _
 | n+1=>by have:=Qz N p h n;have:=h n;simp only[FB];omega
theorem OF{d:Nd}{p:Nat}:0<EM (some (.nd d)) p↔p∈vals d.es:=Agp

def nx:List E->Int->Int
 | [],hi=>hi
 | e::_,_=>e.1
def Sq(P:Nat->Int->Int->List E->Prop):List E->Int->List E->Prop
 | [],_,L=>L=[]
 | e::t,hi,L=>∃L1 L2,L=L1++L2/\P e.2 e.1 (nx t hi) L1/\Sq P t hi L2
def Tr(N:Hm):Nat->Nat->Int->Int->Nat->List E->Prop
 | 0,r,lo,hi,m,L=>∃es,N r=some (.nd ⟨true,es⟩)/\m<=es.length/\(∀e∈es,lo<=e.1/\e.1<hi)/\(Nd.mk true es).Ok/\L=es/\∀e∈es,∃b,N e.2=some (.dt b)
 | h+1,r,lo,hi,m,L=>∃es,N r=some (.nd ⟨false,es⟩)/\m<=es.length/\(∀e∈es,lo<=e.1/\e.1<hi)/\(Nd.mk false es).Ok/\Sq (λc a b L=>Tr N h c a b 4 L) es hi L
def Bd(N:Hm):Nat->List E->Int->List E->Prop
 | 0,es,_,L=>L=es/\∀e∈es,∃b,N e.2=some (.dt b)
 | h+1,es,hi,L=>Sq (λc a b L=>Tr N h c a b 4 L) es hi L
def B0(lo hi:Int)(es:List E):Prop:=∀e∈es,lo<=e.1/\e.1<hi
theorem Tr.iff{N:Hm}{h r:Nat}{lo hi:Int}{m:Nat}{L:List E}:Tr N h r lo hi m L↔∃es,N r=some (.nd ⟨decide (h=0),es⟩)/\m<=es.length/\B0 lo hi es/\(Nd.mk (decide (h=0)) es).Ok/\Bd N h es hi L:=by
 cases h<;>exact Ahp
structure TInv(n f:Nat)(N:Hm)(C:Nat->Nat)(R:List Nat):Prop where
 cnt:∀p,f<=p->p<n->C p=R.count p+FB N p n
 rin:∀p∈R,f<=p/\p<n
 nin:∀q c,N q=some c->f<=q/\q<n/\1<=C q
 nds:∀q d,N q=some (.nd d)->d.Ok/\(vals d.es).Nodup/\∀v∈vals d.es,f<=v/\v<n
 hg:∀q d,N q=some (.nd d)->∃h lo hi m L,Tr N h q lo hi m L
theorem Sq.imp{P Q:Nat->Int->Int->List E->Prop}{es:List E}{hi:Int}{L:List E}(h:Sq P es hi L)(a:∀e∈es,∀b L,P e.2 e.1 b L->Q e.2 e.1 b L):Sq Q es hi L:=by
 induction es generalizing L with
 | nil=>exact h
 | cons e t ih=>
  obtain ⟨L1,L2,f,i,g⟩:=h;exact ⟨L1,L2,f,a e O _ _ i,ih g (λd c=>a d (by simp[c]))⟩
theorem Tr.mono{N:Hm}{h r:Nat}{lo hi g f:Int}{m j:Nat}{L:List E}(t:Tr N h r lo hi m L)(p:g<=lo)(n:hi<=f)(q:j<=m):Tr N h r g f j L:=by
 induction h generalizing r lo hi g f m j L with
 | zero=>
  obtain ⟨es,a,b,c,d,e⟩:=t;exact ⟨es,a,by omega,λx i=>by have:=c x i;omega,d,e⟩
 | succ h ih=>
  obtain ⟨es,a,b,c,d,e⟩:=t;refine ⟨es,a,by omega,λx i=>by have:=c x i;omega,d,?_⟩;clear a b c d
  induction es generalizing L with
  | nil=>exact e
  | cons x t ih2=>
   obtain ⟨L1,L2,k,o,l⟩:=e;refine ⟨L1,L2,k,?_,ih2 l⟩;refine ih o (Afg _) ?_ (Aed _);cases t<;>simp[nx,n]
theorem Tr.fup{N:Hm}{a:Nat}{o:Option Pc}(g:∀q d,N q=some (.nd d)->a∉vals d.es){h c:Nat}{lo hi:Int}{m:Nat}{L:List E}(j:c≠a)(t:Tr N h c lo hi m L):Tr (fup N a o) h c lo hi m L:=by
 induction h generalizing c lo hi m L with
 | zero=>
  obtain ⟨es,f,b,c',d,e1,e⟩:=t;refine ⟨es,by rw[fup_ne _ _ j];exact f,b,c',d,e1,λx i=>?_⟩;rw[fup_ne _ _ (λq=>g _ _ f (by rw[<-q];exact Aeu i))];exact e x i
 | succ h ih=>
  obtain ⟨es,f,b,c',d,e⟩:=t;refine ⟨es,by rw[fup_ne _ _ j];exact f,b,c',d,e.imp λx i b L q=>ih (λk=>g _ _ f (by rw[<-k];exact Aeu i)) q⟩
theorem Tr.node{N:Hm}{h r:Nat}{lo hi:Int}{m:Nat}{L:List E}(t:Tr N h r lo hi m L):∃d,N r=some (.nd d):=by
 obtain ⟨es,a,_⟩:=Tr.iff.1 t;exact ⟨_,a⟩

section
variable{n f:Nat}{N:Hm}{C:Nat->Nat}{R:List Nat}
theorem TInv.perm{R':List Nat}(I_:TInv n f N C R)(h:R.Perm R'):TInv n f N C R':=
 ⟨λp a b=>by rw[<-h.count_eq];exact I_.cnt p a b,λp hp=>I_.rin p (h.mem_iff.2 hp),I_.nin,I_.nds,I_.hg⟩
theorem TInv.pos(I_:TInv n f N C R){p:Nat}(h:p∈R):1<=C p:=by
 have:=I_.cnt p (I_.rin p h).1 (I_.rin p h).2;have:=Agp.2 h;omega
theorem TInv.posE(I_:TInv n f N C R){q p:Nat}{d:Nd}(h:N q=some (.nd d))(hp:p∈vals d.es):1<=C p:=by
 have hi:=(I_.nds q d h).2.2 p hp;have:=I_.cnt p hi.1 hi.2;have a:0<EM (N q) p:=by rw[h];exact OF.2 hp
 have:=LQ N p q n (I_.nin q _ h).2.1;omega
theorem TInv.noref(I_:TInv n f N C R){a:Nat}(h:C a<=R.count a){q:Nat}{d:Nd}(hq:N q=some (.nd d)):a∉vals d.es:=λb=>by
 have hi:=(I_.nds q d hq).2.2 a b;have:=I_.cnt a hi.1 hi.2;have c:0<EM (N q) a:=by rw[hq];exact OF.2 b
 have:=LQ N a q n (I_.nin q _ hq).2.1;omega
theorem TInv.bound(I_:TInv n f N C R){p:Nat}(b:f<=p)(c:p<n):C p<=R.length+n:=by
 rw[I_.cnt p b c];have g:=List.count_le_length (a:=p) (l:=R);have h:=Qz N p (λq=>by
  unfold EM;split
  ·rename_i d e
   exact List.nodup_iff_count.1 (I_.nds q d e).2.1 p
  omega) n
 omega
theorem TInv.opens{a:Nat}{d:Nd}(I_:TInv n f N C (a::R))(k:C a=1)(hN:N a=some (.nd d)):TInv n f (fup N a none) C (a::(vals d.es++R))/\∀q d,N q=some (.nd d)->a∉vals d.es:=by
  have b:∀q d,N q=some (.nd d)->a∉vals d.es:=λq d hq=>I_.noref (by simp[k]) hq;refine ⟨⟨λp g i=>?_,λp hp=>?_,λq c hq=>?_,λq c hq=>?_,λq c hq=>?_⟩,b⟩
  · have:=I_.cnt p g i
    have j:=FT N p a none n (I_.nin a _ hN).2.1;rw[hN] at j;simp only[Ae7,Afl] at this ⊢;simp only[EM] at j;omega
  · rcases Aei.1 hp with rfl|hp
    · exact I_.rin _ O
    · rcases Aek.1 hp with hp|hp
      · exact (I_.nds a d hN).2.2 p hp
      · exact I_.rin _ (by simp[hp])
  all_goals
    by_cases e:q=a
    · subst e;rw[BI] at hq;cases hq
    · rw[fup_ne _ _ e] at hq
      first
        | exact I_.nin q c hq
        | exact I_.nds q c hq
        | (obtain ⟨h,lo,hi,m,L,t⟩:=I_.hg q c hq
           exact ⟨h,lo,hi,m,L,t.fup b e⟩)
theorem TInv.close{a:Nat}{d:Nd}(I_:TInv n f N C (a::(vals d.es++R)))(u:C a=1)(hN:N a=none)(s:d.Ok)(g:(vals d.es).Nodup)
    (o:∃h lo hi m L,Tr (fup N a (some (.nd d))) h a lo hi m L):TInv n f (fup N a (some (.nd d))) C (a::R)/\∀q d,N q=some (.nd d)->a∉vals d.es:=by
  have b:∀q d,N q=some (.nd d)->a∉vals d.es:=λq d hq=>I_.noref (by simp;omega) hq;have i:=I_.rin a O;refine ⟨⟨λp j k=>?_,λp hp=>?_,λq c hq=>?_,λq c hq=>?_,λq c hq=>?_⟩,b⟩
  · have:=I_.cnt p j k
    have l:=FT N p a (some (.nd d)) n i.2;rw[hN] at l;simp only[Ae7,Afl] at this ⊢;simp only[EM] at l;omega
  · rcases Aei.1 hp with rfl|hp
    · exact i
    · exact I_.rin _ (by simp[hp])
  all_goals
    by_cases e:q=a
    · subst e;rw[BI] at hq;cases hq
      first
        | exact ⟨i.1,i.2,by omega⟩
        | exact ⟨s,g,λv r=>I_.rin v (by simp[r])⟩
        | exact o
    · rw[fup_ne _ _ e] at hq
      first
        | exact I_.nin q c hq
        | exact I_.nds q c hq
        | (obtain ⟨h,lo,hi,m,L,t⟩:=I_.hg q c hq
           exact ⟨h,lo,hi,m,L,t.fup b e⟩)
theorem TInv.fresh{a:Nat}{d:Nd}(I_:TInv n f N C (vals d.es++R))(w:C a=0)(b:f<=a/\a<n)(u:d.Ok)(i:(vals d.es).Nodup)
    (o:∃h lo hi m L,Tr (fup N a (some (.nd d))) h a lo hi m L):N a=none/\TInv n f (fup N a (some (.nd d))) (fup C a 1) (a::R)/\∀q d,N q=some (.nd d)->a∉vals d.es:=by
  have hN:N a=none:=by
    cases e:N a with
    | none=>rfl
    | some c=>have:=(I_.nin a c e).2.2;omega
  have g:∀q d,N q=some (.nd d)->a∉vals d.es:=λq d hq=>I_.noref U hq;have s:=I_.cnt a b.1 b.2;refine ⟨hN,⟨λp j k=>?_,λp hp=>?_,λq c hq=>?_,λq c hq=>?_,λq c hq=>?_⟩,g⟩
  · have:=I_.cnt p j k
    have l:=FT N p a (some (.nd d)) n b.2;rw[hN] at l;simp only[Ae7,Afl] at this s ⊢;simp only[EM] at l;by_cases e:p=a
    · subst e;rw[BI];simp;omega
    · rw[fup_ne _ _ e];have:(a==p)=false:=by simp[AfN e]
      rw[this];simp;omega
  · rcases Aei.1 hp with rfl|hp
    · exact b
    · exact I_.rin _ (by simp[hp])
  all_goals
    by_cases e:q=a
    · subst e;rw[BI] at hq;cases hq
      first
        | exact ⟨b.1,b.2,by simp[fup]⟩
        | exact ⟨u,i,λv r=>I_.rin v (by simp[r])⟩
        | exact o
    · rw[fup_ne _ _ e] at hq
      first
        | (rw[fup_ne _ _ e];exact I_.nin q c hq)
        | exact I_.nds q c hq
        | (obtain ⟨h,lo,hi,m,L,t⟩:=I_.hg q c hq
           exact ⟨h,lo,hi,m,L,t.fup g e⟩)
theorem TInv.freshD{a:Nat}{b:List UInt8}(I_:TInv n f N C R)(r:C a=0)(g:f<=a/\a<n):N a=none/\TInv n f (fup N a (some (.dt b))) (fup C a 1) (a::R)/\∀q d,N q=some (.nd d)->a∉vals d.es:=by
  have hN:N a=none:=by
    cases e:N a with
    | none=>rfl
    | some c=>have:=(I_.nin a c e).2.2;omega
  have i:∀q d,N q=some (.nd d)->a∉vals d.es:=λq d hq=>I_.noref U hq;have o:=I_.cnt a g.1 g.2;refine ⟨hN,⟨λp j k=>?_,λp hp=>?_,λq c hq=>?_,λq c hq=>?_,λq c hq=>?_⟩,i⟩
  · have:=I_.cnt p j k
    have l:=FT N p a (some (.dt b)) n g.2;rw[hN] at l;simp only[Ae7] at this o ⊢;simp only[EM] at l;by_cases e:p=a
    · subst e;rw[BI];simp;omega
    · rw[fup_ne _ _ e];have:(a==p)=false:=by simp[AfN e]
      rw[this];simp;omega
  · rcases Aei.1 hp with rfl|hp
    · exact g
    · exact I_.rin _ hp
  all_goals
    by_cases e:q=a
    · subst e;rw[BI] at hq;cases hq<;>exact ⟨g.1,g.2,by simp[fup]⟩
    · rw[fup_ne _ _ e] at hq
      first
        | (rw[fup_ne _ _ e];exact I_.nin q c hq)
        | exact I_.nds q c hq
        | (obtain ⟨h,lo,hi,m,L,t⟩:=I_.hg q c hq
           exact ⟨h,lo,hi,m,L,t.fup i e⟩)
theorem TInv.ref{a:Nat}(I_:TInv n f N C R)(g:f<=a/\a<n):TInv n f N (fup C a (C a+1)) (a::R):=by
 refine ⟨λp b d=>?_,λp hp=>?_,λq c hq=>?_,I_.nds,I_.hg⟩
 ·have:=I_.cnt p b d
  simp only[Ae7];by_cases e:p=a
  ·subst e;rw[BI];simp;omega
  rw[fup_ne _ _ e];have:(a==p)=false:=by simp[AfN e]
  rw[this];simp;omega
 ·rcases Aei.1 hp with rfl|hp
  ·exact g
  exact I_.rin _ hp
 have:=I_.nin q c hq;refine ⟨this.1,this.2.1,?_⟩;unfold fup;split<;>omega
theorem TInv.unref{a:Nat}(I_:TInv n f N C (a::R))(h:2<=C a):TInv n f N (fup C a (C a-1)) R:=by
 refine ⟨λp b d=>?_,λp hp=>I_.rin p (by simp[hp]),λq c hq=>?_,I_.nds,I_.hg⟩
 ·have:=I_.cnt p b d
  simp only[Ae7] at this;by_cases e:p=a
  ·subst e;rw[BI];simp at this;omega
  rw[fup_ne _ _ e];have g:(a==p)=false:=by simp[AfN e]
  rw[g] at this;simpa using this
 have:=I_.nin q c hq;refine ⟨this.1,this.2.1,?_⟩;unfold fup;split<;>omega
theorem TInv.drop{a:Nat}(I_:TInv n f N C (a::R))(h:C a=1)(hN:∀d,N a≠some (.nd d)):TInv n f (fup N a none) (fup C a 0) R/\∀q d,N q=some (.nd d)->a∉vals d.es:=by
  have b:∀q d,N q=some (.nd d)->a∉vals d.es:=λq d hq=>I_.noref (by simp[h]) hq;have l:=I_.rin a O;have o:∀p,EM (N a) p=0:=λp=>by
    unfold EM;split
    · rename_i d r;exact absurd r (hN d)
    · rfl
  refine ⟨⟨λp g i=>?_,λp hp=>I_.rin p (by simp[hp]),λq c hq=>?_,λq c hq=>?_,λq c hq=>?_⟩,b⟩
  · have:=I_.cnt p g i
    have j:=FT N p a none n l.2;rw[o p] at j;simp only[EM] at j;simp only[Ae7] at this;by_cases e:p=a
    · subst e;rw[BI];simp at this;omega
    · rw[fup_ne _ _ e];have k:(a==p)=false:=by simp[AfN e]
      rw[k] at this;simp at this;omega
  all_goals
    by_cases e:q=a
    · subst e;rw[BI] at hq;cases hq
    · rw[fup_ne _ _ e] at hq
      first
        | (rw[fup_ne _ _ e];exact I_.nin q c hq)
        | exact I_.nds q c hq
        | (obtain ⟨h,lo,hi,m,L,t⟩:=I_.hg q c hq
           exact ⟨h,lo,hi,m,L,t.fup b e⟩)
end

def putE(k:Int)(v:Nat):List E->List E
 | []=>[(k,v)]
 | e::t=>if e.1<k then e::putE k v t else if e.1=k then (k,v)::t else (k,v)::e::t
def BU(k:Int)(es:List E):List E:=es.filter (λe=>decide (e.1≠k))
def CC(k:Int)(es:List E):Prop:=∃v,(k,v)∈es
theorem Srt.cons{e:E}{t:List E}:Srt (e::t)↔(∀x∈t,e.1<x.1)/\Srt t:=List.pairwise_cons
theorem Srt.app{A B:List E}:Srt (A++B)↔Srt A/\Srt B/\∀a∈A,∀b∈B,a.1<b.1:=List.pairwise_append
theorem putE_mem{k:Int}{v:Nat}{es:List E}(h:Srt es)(x:E):x∈putE k v es↔x=(k,v)\/(x∈es/\x.1≠k):=by
 induction es with
 | nil=>simp[putE]
 | cons e t ih=>
  obtain ⟨d,i⟩:=Srt.cons.1 h;simp only[putE];split
  ·rename_i f
   rw[Aei,ih i,Aei];constructor
   ·rintro (rfl|rfl|⟨a,b⟩)
    ·exact .inr ⟨.inl Z,by omega⟩
    ·exact .inl Z
    exact .inr ⟨.inr a,b⟩
   rintro (rfl|⟨rfl|a,b⟩)
   ·exact .inr (.inl Z)
   ·exact .inl Z
   exact .inr (.inr ⟨a,b⟩)
  split
  ·rename_i g c
   rw[Aei,Aei];constructor
   ·rintro (rfl|a)
    ·exact .inl Z
    exact .inr ⟨.inr a,by have:=d x a;omega⟩
   rintro (rfl|⟨rfl|a,b⟩)
   ·exact .inl Z
   ·exact absurd c b
   exact .inr a
  rename_i g c;rw[Aei,Aei];constructor
  ·rintro (rfl|rfl|a)
   ·exact .inl Z
   ·exact .inr ⟨.inl Z,c⟩
   exact .inr ⟨.inr a,by have:=d x a;omega⟩
  rintro (rfl|⟨rfl|a,b⟩)
  ·exact .inl Z
  ·exact .inr (.inl Z)
  exact .inr (.inr a)
theorem J9{k:Int}{v:Nat}{es:List E}(h:Srt es):Srt (putE k v es):=by
 induction es with
 | nil=>simp[putE,Srt]
 | cons e t ih=>
  obtain ⟨c,d⟩:=Srt.cons.1 h;simp only[putE];split
  ·refine Srt.cons.2 ⟨λx b=>?_,ih d⟩
   rcases (putE_mem d x).1 b with rfl|⟨a,_⟩
   ·assumption
   exact c x a
  split
  ·exact Srt.cons.2 ⟨λx b=>by have:=c x b;dsimp only;omega,d⟩
  refine Srt.cons.2 ⟨λx b=>?_,h⟩;rcases Aei.1 b with rfl|b
  ·dsimp only;omega
  have:=c x b;dsimp only;omega
theorem putE_lt{k:Int}{v:Nat}{A:List E}(B:List E)(h:∀e∈A,e.1<k):putE k v (A++B)=A++putE k v B:=by
 induction A with
 | nil=>rfl
 | cons e t ih=>simp only[Afv,putE];rw[if_pos (h e O),ih (λx a=>h x (by simp[a]))]
theorem MJ{k:Int}{v:Nat}{B:List E}(h:∀e∈B,k<e.1):putE k v B=(k,v)::B:=by
 cases B with
 | nil=>rfl
 | cons e t=>have:=h e O;simp only[putE];rw[if_neg U,if_neg U]
theorem QA{k:Int}{v:Nat}(A:List E){B:List E}(h:∀e∈B,k<e.1):putE k v (A++B)=putE k v A++B:=by
 induction A with
 | nil=>simp only[AeL];rw[MJ h];rfl
 | cons e t ih=>
  simp only[Afv,putE];split
  ·rw[ih];rfl
  split<;>rfl
theorem putE_new{k:Int}{v:Nat}{A B:List E}(a:∀e∈A,e.1<k)(b:∀e∈B,k<e.1):putE k v (A++B)=A++(k,v)::B:=by
 rw[putE_lt B a,MJ b]
theorem Ec{k:Int}{v w:Nat}{A:List E}(B:List E)(a:∀e∈A,e.1<k):putE k v (A++(k,w)::B)=A++(k,v)::B:=by
 rw[putE_lt _ a];simp[putE]
theorem Ka(k:Int)(A B:List E):BU k (A++B)=BU k A++BU k B:=AfI ..
theorem Gv{k:Int}{A:List E}(h:∀e∈A,e.1≠k):BU k A=A:=by
 refine Agn.2 (λe a=>decide_eq_true (h e a))
theorem LR{k:Int}{v:Nat}{A B:List E}(h:Srt (A++(k,v)::B)):BU k (A++(k,v)::B)=A++B:=by
 obtain ⟨f,c,b⟩:=Srt.app.1 h;obtain ⟨d,g⟩:=Srt.cons.1 c;rw[Ka,Gv (λe a=>by have:=b e a (k,v) O;dsimp only at this;omega)];congr 1;have:BU k ((k,v)::B)=BU k B:=by simp[BU]
 rw[this,Gv (λe a=>by have:=d e a;dsimp only at this;omega)]
theorem key_split{es:List E}(h:Srt es)(k:Int):(∃A v B,es=A++(k,v)::B/\∀e∈A,e.1<k)\/(¬CC k es/\∃A B,es=A++B/\(∀e∈A,e.1<k)/\∀e∈B,k<e.1):=by
 induction es with
 | nil=>exact .inr ⟨by simp[CC],[],[],Z,by simp,by simp⟩
 | cons e t ih=>
  obtain ⟨f,g⟩:=Srt.cons.1 h;rcases Int.lt_trichotomy e.1 k with q|q|q
  ·rcases ih g with ⟨A,v,B,rfl,d⟩|⟨d,A,B,rfl,i,j⟩
   ·exact .inl ⟨e::A,v,B,Z,λx b=>by rcases Aei.1 b with rfl|b;exact q;exact d x b⟩
   refine .inr ⟨?_,e::A,B,Z,λx b=>by rcases Aei.1 b with rfl|b;exact q;exact i x b,j⟩;rintro ⟨v,c⟩;rcases Aei.1 c with rfl|c
   ·dsimp only at q;omega
   exact d ⟨v,c⟩
  ·obtain ⟨a,v⟩:=e
   dsimp only at q;subst q;exact .inl ⟨[],v,t,Z,by simp⟩
  refine .inr ⟨?_,[],e::t,Z,by simp,λx b=>?_⟩
  ·rintro ⟨v,c⟩
   rcases Aei.1 c with rfl|c
   ·dsimp only at q;omega
   have:=f _ c;dsimp only at this;omega
  rcases Aei.1 b with rfl|b
  ·exact q
  have:=f x b;omega
theorem TC(A B:List E)(hi:Int):nx (A++B) hi=nx A (nx B hi):=by cases A<;>rfl
theorem Ac8{es:List E}{hi a:Int}(h:hi<=a):nx es hi<=nx es a:=by cases es<;>simp[nx,h]
theorem Sq.app{P:Nat->Int->Int->List E->Prop}{A B:List E}{hi:Int}{L:List E}:Sq P (A++B) hi L↔∃L1 L2,L=L1++L2/\Sq P A (nx B hi) L1/\Sq P B hi L2:=by
 induction A generalizing L with
 | nil=>
  simp only[AeL,Sq];exact ⟨λh=>⟨[],L,Z,Z,h⟩,λ⟨L1,L2,f,a,b⟩=>by subst f a;exact b⟩
 | cons e t ih=>
  simp only[Afv,Sq];constructor
  ·rintro ⟨L1,L2,rfl,a,b⟩
   obtain ⟨M1,M2,rfl,c,d⟩:=ih.1 b;exact ⟨L1++M1,M2,by simp,⟨L1,M1,Z,by rw[<-TC];exact a,c⟩,d⟩
  rintro ⟨_,M2,rfl,⟨L1,M1,rfl,a,c⟩,d⟩;exact ⟨L1,M1++M2,by simp,by rw[TC];exact a,ih.2 ⟨M1,M2,Z,c,d⟩⟩
theorem Bd.app{N:Hm}{h:Nat}{A B:List E}{hi:Int}{L:List E}:Bd N h (A++B) hi L↔∃L1 L2,L=L1++L2/\Bd N h A (nx B hi) L1/\Bd N h B hi L2:=by
 cases h with
 | zero=>
  constructor
  ·rintro ⟨rfl,h⟩
   exact ⟨A,B,Z,⟨Z,λe a=>h e (by simp[a])⟩,⟨Z,λe a=>h e (by simp[a])⟩⟩
  rintro ⟨_,_,rfl,⟨rfl,b⟩,⟨rfl,c⟩⟩;refine ⟨Z,λe a=>?_⟩;rcases Aek.1 a with a|a
  ·exact b e a
  exact c e a
 | succ h=>exact Sq.app
theorem Bd.hi{N:Hm}{h:Nat}{es:List E}{hi a:Int}{L:List E}(b:Bd N h es hi L)(g:hi<=a):Bd N h es a L:=by
 cases h with
 | zero=>exact b
 | succ h=>
  induction es generalizing L with
  | nil=>exact b
  | cons e t ih=>
   obtain ⟨L1,L2,c,f,d⟩:=b;exact ⟨L1,L2,c,f.mono (Afg _) (Ac8 g) (Aed _),ih d⟩
theorem Bd.fup{N:Hm}{a:Nat}{o:Option Pc}(f:∀q d,N q=some (.nd d)->a∉vals d.es){h:Nat}{es:List E}{hi:Int}{L:List E}(g:a∉vals es)(b:Bd N h es hi L):Bd (fup N a o) h es hi L:=by
 cases h with
 | zero=>exact ⟨b.1,λe c=>by rw[fup_ne _ _ (λq=>g (by rw[<-q];exact Aeu c))];exact b.2 e c⟩
 | succ h=>exact Sq.imp b λe c _ _ q=>q.fup f (λq=>g (by rw[<-q];exact Aeu c))
theorem Sq.srt{P:Nat->Int->Int->List E->Prop}{es:List E}{hi:Int}{L:List E}(h:Sq P es hi L)(hs:Srt es)(c:∀e∈es,e.1<hi)(f:∀e∈es,∀b L,P e.2 e.1 b L->Srt L/\B0 e.1 b L):Srt L/\B0 (nx es hi) hi L/\nx es hi<=hi:=by
 induction es generalizing L with
 | nil=>subst h;exact ⟨by simp[Srt],by simp[B0],Afg _⟩
 | cons e t ih=>
  obtain ⟨L1,L2,rfl,l,g⟩:=h;obtain ⟨j,k⟩:=Srt.cons.1 hs;obtain ⟨a1,a2,a3⟩:=ih g k (λx a=>c x (by simp[a])) (λx a=>f x (by simp[a]));obtain ⟨m,d⟩:=f e O _ _ l;have n:e.1<=nx t hi:=by
   cases t with
   | nil=>have:=c e O;simp only[nx];omega
   | cons x t=>have:=j x O;simp only[nx];omega
  refine ⟨Srt.app.2 ⟨m,a1,λx a y i=>by have:=d x a;have:=a2 y i;omega⟩,λx a=>?_,by have:=c e O;simp only[nx];omega⟩;simp only[nx];rcases Aek.1 a with a|a
  ·have:=d x a;omega
  have:=a2 x a;omega
theorem Tr.srt{N:Hm}{h r:Nat}{lo hi:Int}{m:Nat}{L:List E}(t:Tr N h r lo hi m L):Srt L/\B0 lo hi L:=by
 induction h generalizing r lo hi m L with
 | zero=>
  obtain ⟨es,_,_,a,c,rfl,_⟩:=t;exact ⟨c.srt,a⟩
 | succ h ih=>
  obtain ⟨es,_,_,a,c,i⟩:=t;have:=Sq.srt i c.srt (λe f=>(a e f).2) (λe f b L q=>ih q);refine ⟨this.1,λx g=>?_⟩;have d:=this.2.1 x g
  cases es with
  | nil=>exact absurd Z (c.ne Z)
  | cons e t=>have:=a e O;simp only[nx] at d;omega
theorem Tr.uniq{N:Hm}{h h' r:Nat}{lo hi j f:Int}{m l:Nat}{L L':List E}(t:Tr N h r lo hi m L)(t':Tr N h' r j f l L'):h=h'/\L=L':=by
 induction h generalizing h' r lo hi j f m l L L' with
 | zero=>
  obtain ⟨es,i,_,_,_,rfl,_⟩:=t
  cases h' with
  | zero=>
   obtain ⟨g,d,_,_,_,rfl,_⟩:=t';rw[i] at d;cases d;exact ⟨Z,Z⟩
  | succ h'=>
   obtain ⟨g,d,_⟩:=t';rw[i] at d;cases d
 | succ h ih=>
  obtain ⟨es,i,_,_,s,u⟩:=t
  cases h' with
  | zero=>
   obtain ⟨g,d,_⟩:=t';rw[i] at d;cases d
  | succ h'=>
   obtain ⟨g,d,_,_,_,k⟩:=t';rw[i] at d;cases d;have key:∀es (L L':List E),Sq (λc a b L=>Tr N h c a b 4 L) es hi L->Sq (λc a b L=>Tr N h' c a b 4 L) es f L'->(es≠[]->h=h')/\L=L':=by
    intro es
    induction es with
    | nil=>intro L L' a b;exact ⟨λq=>absurd Z q,a.trans b.symm⟩
    | cons e t ih2=>
     rintro _ _ ⟨L1,L2,rfl,a2,a3⟩ ⟨M1,M2,rfl,p,o⟩;obtain ⟨n,rfl⟩:=ih a2 p;obtain ⟨_,rfl⟩:=ih2 _ _ a3 o;exact ⟨λ_=>n,Z⟩
   obtain ⟨a,b⟩:=key es L L' u k;exact ⟨by rw[a (s.ne Z)],b⟩

def chI(es:List E)(k:Int):Nat:=(es.takeWhile λe=>decide (e.1<=k)).length-1
theorem GT{es:List E}(h:Srt es)(k:Int):∃A B,es=A++B/\(es.takeWhile λe=>decide (e.1<=k))=A/\(∀e∈A,e.1<=k)/\∀e∈B,k<e.1:=by
 induction es with
 | nil=>exact ⟨[],[],Z,Z,by simp,by simp⟩
 | cons e t ih=>
  obtain ⟨f,g⟩:=Srt.cons.1 h;by_cases q:e.1<=k
  ·obtain ⟨A,B,rfl,a,b,c⟩:=ih g
   refine ⟨e::A,B,Z,?_,λx d=>?_,c⟩
   ·rw[List.takeWhile_cons,if_pos (decide_eq_true q),a]
   rcases Aei.1 d with rfl|d
   ·exact q
   exact b x d
  refine ⟨[],e::t,Z,?_,by simp,λx d=>?_⟩
  ·rw[List.takeWhile_cons,if_neg (by simpa using q)]
  rcases Aei.1 d with rfl|d
  ·omega
  have:=f x d;omega
theorem Py{es:List E}(h:Srt es)(b:es≠[])(k:Int):∃A e B,es=A++e::B/\A.length=chI es k/\(A=[]\/e.1<=k)/\(∀x∈A,x.1<e.1)/\∀x∈B,k<x.1/\e.1<x.1:=by
 obtain ⟨A,B,e1,e2,c,d⟩:=GT h k;unfold chI;rw[e2];rcases AhJ A with rfl|⟨A',e,rfl⟩
 ·obtain ⟨e,t,rfl⟩:=AfA b
  simp only[AeL] at e1;subst e1;exact ⟨[],e,t,Z,Z,.inl Z,by simp,λx a=>⟨d x (by simp[a]),(Srt.cons.1 h).1 x a⟩⟩
 subst e1;rw[AhK] at h c ⊢;rw[Aec] at h;obtain ⟨_,g,f⟩:=Srt.app.1 h;refine ⟨A',e,B,by simp,by simp,.inr (c e O),λx a=>f x a e O,λx a=>⟨d x a,(Srt.cons.1 g).1 x a⟩⟩
theorem Xu{B:List E}{hi k:Int}(h:∀x∈B,k<x.1)(a:k<hi):k<nx B hi:=by
 cases B with
 | nil=>exact a
 | cons e t=>exact h e O
theorem RL{B:List E}{hi:Int}(h:∀x∈B,x.1<hi):nx B hi<=hi:=by
 cases B with
 | nil=>exact Afg _
 | cons e t=>exact AgM (h e O)
theorem Sq.at{P:Nat->Int->Int->List E->Prop}{A B:List E}{e:E}{hi:Int}{L:List E}(h:Sq P (A++e::B) hi L):∃L0 Lc L2,L=L0++(Lc++L2)/\Sq P A e.1 L0/\P e.2 e.1 (nx B hi) Lc/\Sq P B hi L2:=by
 obtain ⟨L0,L3,rfl,a,L1,L2,rfl,c,b⟩:=Sq.app.1 h;exact ⟨L0,L1,L2,Z,a,c,b⟩
theorem Sq.mk{P:Nat->Int->Int->List E->Prop}{A B:List E}{e:E}{hi:Int}{L0 Lc L2:List E}(a:Sq P A e.1 L0)(c:P e.2 e.1 (nx B hi) Lc)(b:Sq P B hi L2):Sq P (A++e::B) hi (L0++(Lc++L2)):=
 Sq.app.2 ⟨L0,_,Z,a,Lc,L2,Z,c,b⟩
theorem Sq.nilK{P:Nat->Int->Int->List E->Prop}{A:List E}{a b:Int}{L:List E}(h:Sq P A a L)(q:A=[]\/a=b):Sq P A b L:=by
 rcases q with rfl|rfl
 ·exact h
 exact h
theorem Sq.sides{N:Hm}{h:Nat}{A B:List E}{e:E}{hi:Int}{L0 L2:List E}{k:Int}(hs:Srt (A++e::B))(n:∀x∈A++e::B,x.1<hi)(f:Sq (λc a b L=>Tr N h c a b 4 L) A e.1 L0)(j:Sq (λc a b L=>Tr N h c a b 4 L) B hi L2)
  (g:A=[]\/e.1<=k)(m:∀x∈B,k<x.1)(i:k<hi):(∀x∈L0,x.1<k)/\∀x∈L2,k<x.1:=by
 obtain ⟨o,p,l⟩:=Srt.app.1 hs;have a1:=Sq.srt f o (λx d=>l x d e O) (λ_ _ _ _ q=>Tr.srt q);have a3:=Sq.srt j (Srt.cons.1 p).2 (λx d=>n x (by simp[d])) (λ_ _ _ _ q=>Tr.srt q);refine ⟨λx d=>?_,λx d=>?_⟩
 ·rcases g with rfl|g
  ·simp only[Sq] at f;subst f;simp at d
  have:=a1.2.1 x d;omega
 have:=a3.2.1 x d;have:=Xu m i;omega

theorem OG{es:List E}(hs:Srt es)(h8:es.length=8){k:Int}{v:Nat}(j:¬CC k es):
  ∃a b,putE k v es=a++b/\4<=a.length/\a.length<=5/\4<=b.length/\b.length<=5/\(nx (es.drop 4) 0<=k->a=es.take 4/\b=putE k v (es.drop 4))/\(k<nx (es.drop 4) 0->a=putE k v (es.take 4)/\b=es.drop 4):=by
 have d:=AeI 4 es;have g:=hs;rw[<-d] at g;obtain ⟨p,i,o⟩:=Srt.app.1 g;have c:∀xs:List E,Srt xs->¬CC k xs->(putE k v xs).length=xs.length+1:=λxs s q=>by
  rcases key_split s k with ⟨A,w,B,rfl,_⟩|⟨_,A,B,rfl,n,z⟩
  ·exact absurd ⟨w,by simp⟩ q
  rw[putE_new n z];simp;omega
 have u:¬CC k (es.take 4):=λ⟨w,h⟩=>j ⟨w,Afa h⟩;have m:¬CC k (es.drop 4):=λ⟨w,h⟩=>j ⟨w,Afo h⟩;have l1:=c _ p u;have l2:=c _ i m;have l3:(es.take 4).length=4:=by rw[Aes];omega
 have l:(es.drop 4).length=4:=by rw[AeG];omega
 obtain ⟨y,t,e⟩:∃y t,es.drop 4=y::t:=AfA (by intro q;rw[q] at l;simp at l);by_cases q:nx (es.drop 4) 0<=k
 ·refine ⟨es.take 4,putE k v (es.drop 4),?_,by omega,by omega,by omega,by omega,λ_=>⟨Z,Z⟩,λr=>absurd q U⟩
  rw[<-putE_lt _ (λx f=>?_),d];rw[e] at q;simp only[nx] at q;have:=o x f y (by rw[e];simp);omega
 refine ⟨putE k v (es.take 4),es.drop 4,?_,by omega,by omega,by omega,by omega,λr=>absurd r q,λ_=>⟨Z,Z⟩⟩;rw[<-QA _ (λx f=>?_),d];rw[e] at q f i;simp only[nx] at q;rcases Aei.1 f with rfl|f
 ·omega
 have:=(Srt.cons.1 i).1 x f;omega
theorem OH{lo hi:Int}{a b:List E}(hs:Srt (a++b))(d:B0 lo hi (a++b))(f:a≠[])(h:b≠[]):B0 lo (nx b hi) a/\B0 (nx b hi) hi b/\lo<nx b hi/\nx b hi<hi:=by
 obtain ⟨i,g,e⟩:=Srt.app.1 hs;obtain ⟨y,t,rfl⟩:=AfA h;obtain ⟨x,u,rfl⟩:=AfA f;simp only[nx];refine ⟨λz c=>⟨(d z (Ag3 _ c)).1,e z c y O⟩,λz c=>⟨?_,(d z (AgV _ c)).2⟩,?_,(d y O).2⟩
 ·rcases Aei.1 c with rfl|c
  ·exact Afg _
  exact AgM ((Srt.cons.1 g).1 z c)
 have:=e x O y O;have:=(d x O).1;omega
end
section
variable{Tb:Af}
abbrev kL(es:List E):List Int:=es.map Prod.fst
abbrev vL(es:List E):List Int:=es.map λe=>(e.2:Int)
def Fc(d:Nd):Pg:=⟨if d.lf then 4 else 3,G9 d.lf (kL d.es) (vL d.es)⟩
def LS:Pc->Pg
 | .nd d=>Fc d
 | .dt b=>⟨5,b⟩
theorem Jw{d:Nd}(h:d.es.length<=8):(Fc d).Ok:=by
 refine ⟨?_,Yz O (by simpa using h)⟩;unfold Fc;dsimp only;split<;>omega
structure TS where
 N:Hm
 C:Nat->Nat
 F:Nat->Bool
 k:Nat
structure TB where
 N:Hm
 C:Nat->Nat
 R:List Nat
abbrev TT:=Option (TS×List Nat)
structure Rel(n:Nat)(M:Nat->Pg)(N:Hm)(C:Nat->Nat)(R:List Nat):Prop where
 m:∀p c,N p=some c->M p=LS c/\(LS c).Ok
 i:TInv n (manyN n+1) N C R
def trA(Tb:Af)(pp mb n:Nat)(o:TB):TT->Af
 | none=>λh=>∃M0,Rel n M0 o.N o.C o.R/\poA Tb pp mb n M0 o.C none h
 | some s=>λh=>∃M0 M,(Rel n M0 o.N o.C o.R/\Rel n M s.1.N s.1.C s.2)/\poA Tb pp mb n M0 o.C (some ⟨M,s.1.C,s.1.F,s.1.k⟩) h
def Dk(o:TB):TT->Hm
 | none=>o.N
 | some s=>s.1.N
def curC(o:TB):TT->Nat->Nat
 | none=>o.C
 | some s=>s.1.C
def V4(n:Nat)(o:TB):TT->Nat->Bool
 | none=>AV n o.C
 | some s=>s.1.F
def CT(o:TB):TT->List Nat
 | none=>o.R
 | some s=>s.2
variable{z w:World}{Γ:List Af}{pp mb n:Nat}{o:TB}{t t':TS}{R:List Nat}{T:TT}
structure TrK(n:Nat)(o:TB)(T:TT):Prop where
 hn:16<=n/\n<=1024
 i:TInv n (manyN n+1) (Dk o T) (curC o T) (CT o T)
 one:∀p,p<=manyN n->curC o T p=1
 fr:∀p,V4 n o T p=true->p<n/\curC o T p=0/\manyN n<p
theorem trA.k{h:Hp}(a:trA Tb pp mb n o T h):TrK n o T:=by
 cases T with
 | none=>
  obtain ⟨M0,c,a⟩:=a;have d:=a.hn;refine ⟨d,c.i,a.c0.2,λp hp=>?_⟩;have b:AV n o.C p=true:=hp;simp[AV] at b;refine ⟨b.1,b.2,?_⟩;rcases Ael (manyN n) p with q|q
  ·exact q
  have:=a.c0.2 p q;omega
 | some s=>
  obtain ⟨M0,M,c,a⟩:=a;exact ⟨a.hn,c.2.i,a.k.one,a.k.free⟩
theorem trA.perm{R':List Nat}{h:Hp}(hp:R.Perm R')(a:trA Tb pp mb n o (some (t,R)) h):trA Tb pp mb n o (some (t,R')) h:=by
 obtain ⟨M0,M,b,a⟩:=a;exact ⟨M0,M,⟨b.1,⟨b.2.m,b.2.i.perm hp⟩⟩,a⟩
theorem trA.opens{a:Nat}{d:Nd}{h:Hp}(x:trA Tb pp mb n o (some (t,a::R)) h)(f:t.C a=1)(hN:t.N a=some (.nd d)):trA Tb pp mb n o (some ({t with N:=fup t.N a none},a::(vals d.es++R))) h:=by
 obtain ⟨M0,M,b,x⟩:=x;refine ⟨M0,M,⟨b.1,⟨λp c hp=>?_,(b.2.i.opens f hN).1⟩⟩,x⟩;have hp:fup t.N a none p=some c:=hp;by_cases e:p=a
 ·subst e;rw[BI] at hp;cases hp
 rw[fup_ne _ _ e] at hp;exact b.2.m p c hp
theorem Sep.tr1(H:Sep z (trA Tb pp mb n o (some (t,R))::Γ) w):∃x:(Nat->Pg)×(Nat->Pg),(Rel n x.1 o.N o.C o.R/\Rel n x.2 t.N t.C R)/\Sep z (poA Tb pp mb n x.1 o.C (some ⟨x.2,t.C,t.F,t.k⟩)::Γ) w:=by
 obtain ⟨⟨x,hp⟩,b⟩:=H.ex 0 (σ:= {x:(Nat->Pg)×(Nat->Pg) // Rel n x.1 o.N o.C o.R/\Rel n x.2 t.N t.C R}) (B:=λx=>poA Tb pp mb n x.1.1 o.C (some ⟨x.1.2,t.C,t.F,t.k⟩)) Z (λh q=>by
  obtain ⟨M0,M,c,a⟩:=q;exact ⟨⟨(M0,M),c⟩,a⟩)
 exact ⟨x,hp,b⟩
theorem Sep.toTr1{M0 M:Nat->Pg}{C:Nat->Nat}{F:Nat->Bool}{k:Nat}(H:Sep z (poA Tb pp mb n M0 o.C (some ⟨M,C,F,k⟩)::Γ) w)(b:Rel n M0 o.N o.C o.R){N:Hm}(c:Rel n M N C R):Sep z (trA Tb pp mb n o (some (⟨N,C,F,k⟩,R))::Γ) w:=
 H.mono 0 (B:=trA Tb pp mb n o (some (⟨N,C,F,k⟩,R))) Z (λh a=>⟨M0,M,⟨b,c⟩,a⟩)
theorem Sep.tr0(H:Sep z (trA Tb pp mb n o none::Γ) w):∃M0,Rel n M0 o.N o.C o.R/\Sep z (poA Tb pp mb n M0 o.C none::Γ) w:=by
 obtain ⟨⟨x,hp⟩,b⟩:=H.ex 0 (σ:= {x:Nat->Pg // Rel n x o.N o.C o.R}) (B:=λx=>poA Tb pp mb n x.1 o.C none) Z (λh q=>by
  obtain ⟨M0,c,a⟩:=q;exact ⟨⟨M0,c⟩,a⟩)
 exact ⟨x,hp,b⟩
theorem Sep.toTr0{M0:Nat->Pg}(H:Sep z (poA Tb pp mb n M0 o.C none::Γ) w)(b:Rel n M0 o.N o.C o.R):Sep z (trA Tb pp mb n o none::Γ) w:=
 H.mono 0 (B:=trA Tb pp mb n o none) Z (λh a=>⟨M0,b,a⟩)
theorem Zq(pp mb n:Nat)(o:TB):Cn prog 118 [Y pp] [trA Tb pp mb n o none] (λv Γ=>v=I 0/\Γ=[trA Tb pp mb n o (some (⟨o.N,o.C,AV n o.C,0⟩,o.R))]):=by
 intro z R w H;obtain ⟨M0,a,H⟩:=H.tr0;refine Ret.mono (Cn.at (Zg pp mb n M0 o.C) H 1 [0] Z Z) ?_;rintro v c ⟨Γ',⟨rfl,rfl⟩,b⟩;exact ⟨_,⟨Z,Z⟩,Sep.toTr1 (C:=o.C) (F:=AV n o.C) (k:=0) (M:=M0) b a a⟩
theorem Zs(pp mb n:Nat)(o:TB)(s:TS×List Nat):Cn prog 119 [Y pp] [trA Tb pp mb n o (some s)] (λv Γ=>v=.tuple #[]/\Γ=[trA Tb pp mb n o none]):=by
 obtain ⟨t,R⟩:=s;intro z R w H;obtain ⟨⟨M0,M⟩,a,H⟩:=H.tr1;refine Ret.mono (Cn.at (Zh pp mb n M0 o.C ⟨M,t.C,t.F,t.k⟩) H 1 [0] Z Z) ?_;rintro v c ⟨Γ',⟨rfl,rfl⟩,b⟩;exact ⟨_,⟨Z,Z⟩,Sep.toTr0 b a.1⟩
theorem V5(pp mb n:Nat)(o:TB)(t:TS)(R:List Nat)(a:t.k+manyN n<=40)(d:mb<=1000000000):Cn prog 166 [Y pp] [trA Tb pp mb n o (some (t,R))] (λv Γ=>v=I 0/\Γ=[trA Tb pp (mb+2) n ⟨t.N,t.C,R⟩ none]):=by
 intro z R w H;obtain ⟨⟨M0,M⟩,c,H⟩:=H.tr1;refine Ret.mono (Cn.at (VV pp mb n M0 o.C ⟨M,t.C,t.F,t.k⟩ a d) H 1 [0] Z Z) ?_;rintro v e ⟨Γ',⟨rfl,rfl⟩,b⟩;exact ⟨_,⟨Z,Z⟩,Sep.toTr0 (o:=⟨t.N,t.C,_⟩) b c.2⟩
theorem Sep.trP(H:Sep z (trA Tb pp mb n o T::Γ) w):∃(M0:Nat->Pg) (u:Option PoT),(poC o.C u=curC o T/\Xs n o.C u=V4 n o T/\u.isSome=T.isSome/\(∀p c,Dk o T p=some c->poM M0 u p=LS c/\(LS c).Ok))/\Sep z (poA Tb pp mb n M0 o.C u::Γ) w/\∀Γ' b,Sep z (poA Tb pp mb n M0 o.C u::Γ') b->Sep z (trA Tb pp mb n o T::Γ') b:=by
 cases T with
 | none=>
  obtain ⟨M0,a,H⟩:=H.tr0;exact ⟨M0,none,⟨Z,Z,Z,a.m⟩,H,λ_ b d=>d.toTr0 a⟩
 | some s=>
  obtain ⟨t,R⟩:=s;obtain ⟨⟨M0,M⟩,a,H⟩:=H.tr1;exact ⟨M0,some ⟨M,t.C,t.F,t.k⟩,⟨Z,Z,Z,a.2.m⟩,H,λ_ b d=>Sep.toTr1 (C:=t.C) (F:=t.F) (k:=t.k) d a.1 a.2⟩
theorem LT(pp mb n:Nat)(o:TB)(T:TT)(p:Nat)(hp:p<n):Cn prog 196 [Y pp,I (p:Int)] [trA Tb pp mb n o T] (λv Γ=>v=I (curC o T p:Int)/\Γ=[trA Tb pp mb n o T]):=by
 intro z R w H;obtain ⟨M0,u,⟨c,_⟩,H,a⟩:=H.trP;refine Ret.mono (Cn.at (Zi pp mb n M0 o.C u p hp) H 1 [0] Z Z) ?_;rintro v d ⟨Γ',⟨rfl,rfl⟩,b⟩;exact ⟨_,⟨by rw[c],Z⟩,a _ _ b⟩
theorem AbN(pp mb n:Nat)(o:TB)(T:TT):Cn prog 14 [Y pp] [trA Tb pp mb n o T] (λv Γ=>v=I (cnt (V4 n o T) 0 1024:Int)/\Γ=[trA Tb pp mb n o T]):=by
 intro z R w H;obtain ⟨M0,u,⟨_,c,_⟩,H,a⟩:=H.trP;refine Ret.mono (Cn.at (AbK pp mb n M0 o.C u) H 1 [0] Z Z) ?_;rintro v d ⟨Γ',⟨rfl,rfl⟩,b⟩;exact ⟨_,⟨by rw[c],Z⟩,a _ _ b⟩
theorem HR(pp mb n:Nat)(o:TB)(T:TT):Cn prog 156 [Y pp] [trA Tb pp mb n o T] (λv Γ=>v=.bool T.isSome/\Γ=[trA Tb pp mb n o T]):=by
 intro z R w H;obtain ⟨M0,u,⟨_,_,c,_⟩,H,a⟩:=H.trP;refine Ret.mono (Cn.at (Zj pp mb n M0 o.C u) H 1 [0] Z Z) ?_;rintro v d ⟨Γ',⟨rfl,rfl⟩,b⟩;exact ⟨_,⟨by rw[c],Z⟩,a _ _ b⟩

structure St(t t':TS)(R:List Nat)(df dk:Nat):Prop where
 fr:∀c∈R,∀h lo hi m L,Tr t.N h c lo hi m L->Tr t'.N h c lo hi m L
 dt:∀c∈R,∀b,t.N c=some (.dt b)->t'.N c=some (.dt b)
 f1:∀p,t'.F p=true->t.F p=true
 ev:∀v b,t.F v=false->t'.N v=some (.dt b)->t.N v=some (.dt b)
 f:cnt t.F 0 1024<=cnt t'.F 0 1024+df
 k:t'.k<=t.k+dk
 op:∀c∈R,t.N c=none->t.C c=1->t'.N c=none/\t'.C c=1
theorem St.trans{t1 t2 t3:TS}{R R1 R2:List Nat}{a b c d e f:Nat}(x:St t1 t2 R1 a b)(y:St t2 t3 R2 c d)(i:∀p∈R,p∈R1)(j:∀p∈R,p∈R2)(n:a+c<=e)(o:b+d<=f):St t1 t3 R e f:=by
 refine ⟨λc g h lo hi m L q=>y.fr c (j c g) _ _ _ _ _ (x.fr c (i c g) _ _ _ _ _ q),λc g b q=>y.dt c (j c g) b (x.dt c (i c g) b q),λp q=>x.f1 p (y.f1 p q),λv b l q=>x.ev v b l (y.ev v b ?_ q),?_,?_,λc g a b=>by obtain ⟨a',b'⟩:=x.op c (i c g) a b;exact y.op c (j c g) a' b'⟩
 ·cases e:t2.F v with
  | false=>rfl
  | true=>have:=x.f1 v e;rw[l] at this;cases this
 ·have:=x.f;have:=y.f;omega
 have:=x.k;have:=y.k;omega
theorem St.sub{R R':List Nat}{a b c d:Nat}(x:St t t' R a b)(h:∀p∈R',p∈R)(g:a<=c)(i:b<=d):St t t' R' c d:=
 ⟨λc e=>x.fr c (h c e),λc e=>x.dt c (h c e),x.f1,x.ev,Agl x.f U,Agl x.k U,λc e=>x.op c (h c e)⟩
theorem St.bd{R:List Nat}{a b:Nat}(x:St t t' R a b){h:Nat}{es:List E}{hi:Int}{L:List E}(d:∀v∈vals es,v∈R)(q:Bd t.N h es hi L):Bd t'.N h es hi L:=by
 cases h with
 | zero=>exact ⟨q.1,λe c=>by obtain ⟨b,f⟩:=q.2 e c;exact ⟨b,x.dt _ (d _ (Aeu c)) b f⟩⟩
 | succ h=>exact Sq.imp q λe c _ _ r=>x.fr _ (d _ (Aeu c)) _ _ _ _ _ r
theorem St.one{a:Nat}{c:Option Pc}{C:Nat->Nat}{F:Nat->Bool}{k l n:Nat}(g:∀q d,t.N q=some (.nd d)->a∉vals d.es)(j:a∉R)(s:∀b,c≠some (.dt b))(f:∀p,F p=true->t.F p=true)(r:cnt t.F 0 1024<=cnt F 0 1024+l)(o:k<=t.k+n)(i:∀q∈R,t.N q=none->t.C q=1->C q=1):St t ⟨fup t.N a c,C,F,k⟩ R l n:=by
 refine ⟨λq hq h lo hi m L x=>x.fup g (λe=>j (by rw[<-e];exact hq)),λq hq b x=>?_,f,λv b u x=>?_,r,o,λq hq x y=>⟨?_,i q hq x y⟩⟩
 ·show fup t.N a c q=_
  rw[fup_ne _ _ (λe=>j (by rw[<-e];exact hq))];exact x
 ·have x:fup t.N a c v=some (.dt b):=x
  by_cases e:v=a
  ·subst e;rw[BI] at x;exact absurd x (s b)
  rwa[fup_ne _ _ e] at x
 show fup t.N a c q=none;rw[fup_ne _ _ (λe=>j (by rw[<-e];exact hq))];exact x
theorem Iz{n f a:Nat}{N:Hm}{C:Nat->Nat}{R:List Nat}(I_:TInv n f N C (a::R))(h:C a=1):a∉R:=λq=>by
 have b:=I_.rin a O;have:=I_.cnt a b.1 b.2;rw[List.count_cons_self] at this;have:=Agp.2 q;omega
theorem TD{n f a:Nat}{N:Hm}{C:Nat->Nat}{R:List Nat}(I_:TInv n f N C R)(h:C a=0):a∉R:=λq=>by
 have:=I_.pos q;omega
theorem Xv(pp mb n:Nat)(o:TB)(t:TS)(R:List Nat)(p:Nat)(hp:manyN n<p/\p<n)(c:1<=t.C p)(d:R.length+n<1000):
  Cn prog 154 [Y pp,I (p:Int)] [trA Tb pp mb n o (some (t,R))] (λv Γ=>v=I 0/\Γ=[trA Tb pp mb n o (some ({t with C:=fup t.C p (t.C p+1)},p::R))]):=by
 intro z R' w H;obtain ⟨⟨M0,M⟩,a,H⟩:=H.tr1;have:=a.2.i.bound (p:=p) U hp.2;refine Ret.mono (Cn.at (Ac7 pp mb n M0 o.C ⟨M,t.C,t.F,t.k⟩ p hp ⟨c,by show t.C p<1000;omega⟩) H 1 [0] Z Z) ?_;rintro v e ⟨Γ',⟨rfl,rfl⟩,b⟩;exact ⟨_,⟨Z,Z⟩,Sep.toTr1 (C:=fup t.C p (t.C p+1)) (F:=t.F) (k:=t.k) b a.1 ⟨a.2.m,a.2.i.ref ⟨by omega,hp.2⟩⟩⟩
theorem QB(pp mb n:Nat)(o:TB)(t:TS)(R:List Nat)(p:Nat)(b:2<=t.C p):
  Cn prog 202 [Y pp,I (p:Int)] [trA Tb pp mb n o (some (t,p::R))] (λv Γ=>v=I 0/\Γ=[trA Tb pp mb n o (some ({t with C:=fup t.C p (t.C p-1)},R))]):=by
 intro z R' w H;obtain ⟨⟨M0,M⟩,a,H⟩:=H.tr1;have hp:=a.2.i.rin p O;refine Ret.mono (Cn.at (Zk pp mb n M0 o.C ⟨M,t.C,t.F,t.k⟩ p ⟨by omega,hp.2⟩ b) H 1 [0] Z Z) ?_;rintro v d ⟨Γ',⟨rfl,rfl⟩,c⟩;exact ⟨_,⟨Z,Z⟩,Sep.toTr1 (C:=fup t.C p (t.C p-1)) (F:=t.F) (k:=t.k) c a.1 ⟨a.2.m,a.2.i.unref b⟩⟩
theorem AbO(pp mb n:Nat)(o:TB)(t:TS)(R:List Nat)(p:Nat)(b:t.C p=1)(hN:∀d,t.N p≠some (.nd d)):
  Cn prog 202 [Y pp,I (p:Int)] [trA Tb pp mb n o (some (t,p::R))] (λv Γ=>v=I 0/\Γ=[trA Tb pp mb n o (some ({t with N:=fup t.N p none,C:=fup t.C p 0},R))]):=by
 intro z R' w H;obtain ⟨⟨M0,M⟩,a,H⟩:=H.tr1;have hp:=a.2.i.rin p O;refine Ret.mono (Cn.at (AbL pp mb n M0 o.C ⟨M,t.C,t.F,t.k⟩ p ⟨by omega,hp.2⟩ b) H 1 [0] Z Z) ?_;rintro v g ⟨Γ',⟨rfl,rfl⟩,f⟩;refine ⟨_,⟨Z,Z⟩,Sep.toTr1 (C:=fup t.C p 0) (F:=t.F) (k:=t.k) f a.1 ⟨λq c hq=>?_,(a.2.i.drop b hN).1⟩⟩;by_cases e:q=p
 ·subst e;rw[BI] at hq;cases hq
 rw[fup_ne _ _ e] at hq;exact a.2.m q c hq
theorem GU(pp mb n:Nat)(o:TB)(t:TS)(R:List Nat)(p:Nat)(hN:∀d,t.N p≠some (.nd d)):
  Cn prog 202 [Y pp,I (p:Int)] [trA Tb pp mb n o (some (t,p::R))] (λv Γ=>∃t',(St t t' R 0 0/\(∀q,q≠p->t'.N q=t.N q/\t'.C q=t.C q)/\t'.C p=t.C p-1/\(t'.N p=t.N p\/t'.N p=none)/\t'.F=t.F)/\v=I 0/\Γ=[trA Tb pp mb n o (some (t',R))]):=by
 intro z R' w H;have K:=H.says 0 Z (λh a=>trA.k a);have b:=K.i.pos (p:=p) (by simp[CT]);have b:1<=t.C p:=b;rcases Ael (t.C p) 2 with h|h
 ·have f:t.C p=1:=by omega
  refine Ret.mono (Cn.at (AbO pp mb n o t R p f hN) H 1 [0] Z Z) ?_;rintro v l ⟨Γ',⟨rfl,rfl⟩,g⟩;have j:=(TInv.drop (show TInv n (manyN n+1) t.N t.C (p::R) from K.i) f hN).2;refine ⟨_,⟨_,⟨St.one j (Iz (show TInv n (manyN n+1) t.N t.C (p::R) from K.i) f) O (λ_ q=>q) U U (λq hq _ y=>by
   show fup t.C p 0 q=1;rw[fup_ne _ _ (λe=>Iz (show TInv n (manyN n+1) t.N t.C (p::R) from K.i) f (by rw[<-e];exact hq))];exact y),λq hq=>⟨fup_ne _ _ hq,fup_ne _ _ hq⟩,?_,.inr (BI _ _ _),Z⟩,Z,Z⟩,g⟩
  show fup t.C p 0 p=t.C p-1;rw[BI];omega
 refine Ret.mono (Cn.at (QB pp mb n o t R p h) H 1 [0] Z Z) ?_;rintro v l ⟨Γ',⟨rfl,rfl⟩,g⟩;refine ⟨_,⟨{t with C:=fup t.C p (t.C p-1)},⟨⟨λ_ _ _ _ _ _ _ q=>q,λ_ _ _ q=>q,λ_ q=>q,λ_ _ _ q=>q,Aed _,Aed _,λc m x y=>⟨x,?_⟩⟩,λq hq=>⟨Z,fup_ne _ _ hq⟩,BI _ _ _,.inl Z,Z⟩,Z,Z⟩,g⟩;show fup t.C p (t.C p-1) c=1;rw[fup_ne _ _ (λe=>by rw[e] at y;omega)];exact y
theorem OI(pp mb n:Nat)(o:TB)(t:TS)(R R2:List Nat)(x:Pg)(i:x.Ok)(j:Value)(B:Af)(hB:∀h,B h->rdH 1 j 240 (x.body.map u8) h)(hk:t.k<40)(c:Option Pc)(hc:∀q,c=some q->x=LS q)
  (hI:∀a,manyN n<a->a<n->t.C a=0->TInv n (manyN n+1) (fup t.N a c) (fup t.C a 1) (a::R2)):
  Cn prog 157 [Y pp,.agg #[I x.kind,j]] [trA Tb pp mb n o (some (t,R)),B] (λv Γ=>(cnt t.F 0 1024=0/\v=.tuple #[I 0,I 20]/\Γ=[trA Tb pp mb n o (some (t,R)),B])\/
   ∃(a:Nat) (F:Nat->Bool) (k:Nat),((manyN n<a/\a<n)/\t.C a=0/\t.F a=true/\(∀q,F q=true->t.F q=true)/\F a=false/\k<=t.k+1/\cnt t.F 0 1024=cnt F 0 1024+1)/\v=.tuple #[I (a:Int),I 0]/\Γ=[trA Tb pp mb n o (some (⟨fup t.N a c,fup t.C a 1,F,k⟩,a::R2)),B]):=by
 intro z R' w H;have K:=H.says 0 Z (λh a=>trA.k a);obtain ⟨⟨M0,M⟩,g,H⟩:=H.tr1;refine Ret.mono (Cn.at (Zm pp mb n M0 o.C ⟨M,t.C,t.F,t.k⟩ x i j B hB hk) H 2 [0,1] Z Z) ?_;rintro v w' ⟨Γ',(⟨h0,rfl,rfl⟩|⟨p,s,⟨u,h2,h3⟩,rfl,rfl⟩),y⟩
 ·exact ⟨_,.inl ⟨h0,Z,Z⟩,Sep.toTr1 (C:=t.C) (F:=t.F) (k:=t.k) y g.1 g.2⟩
 have f:=K.fr p u;have r:t.C p=0:=f.2.1;have d:cnt (Dv t.F p) 0 1024+1=cnt t.F 0 1024:=h3;refine ⟨_,.inr ⟨p,Dv t.F p,s,⟨⟨f.2.2,f.1⟩,r,u,λq hq=>?_,?_,h2,by rw[<-d]⟩,Z,Z⟩,Sep.toTr1 (C:=fup t.C p 1) (F:=Dv t.F p) (k:=s) (N:=fup t.N p c) y g.1 ⟨λl c' b=>?_,hI p f.2.2 f.1 r⟩⟩
 ·unfold Dv at hq;simp at hq;exact hq.1
 ·unfold Dv;simp
 by_cases e:l=p
 ·subst e;rw[BI] at b ⊢
  rw[hc c' b] at i ⊢;exact ⟨Z,i⟩
 rw[fup_ne _ _ e] at b ⊢;exact g.2.m l c' b
theorem Zt(pp mb n:Nat)(o:TB)(t:TS)(R R2:List Nat)(a:Nat)(x:Pg)(d:x.Ok)(f:Value)(B:Af)(p:∀h,B h->rdH 1 f 240 (x.body.map u8) h)(l:t.k<40)(c:Pc)(q:x=LS c)(hp:manyN n<a/\a<n)(r:t.C a≠0)
  (u:TInv n (manyN n+1) (fup t.N a (some c)) t.C R2):
  Cn prog 165 [Y pp,I (a:Int),.agg #[I x.kind,f]] [trA Tb pp mb n o (some (t,R)),B] (λv Γ=>∃k,k<=t.k+1/\v=I 0/\Γ=[trA Tb pp mb n o (some (⟨fup t.N a (some c),t.C,t.F,k⟩,R2)),B]):=by
 intro z R' w H;obtain ⟨⟨M0,M⟩,j,H⟩:=H.tr1;refine Ret.mono (Cn.at (write_p pp mb n M0 o.C ⟨M,t.C,t.F,t.k⟩ a x d f B p l ⟨.inr hp.1,hp.2⟩ r) H 2 [0,1] Z Z) ?_;rintro v w' ⟨Γ',⟨i,s,rfl,rfl⟩,y⟩;refine ⟨_,⟨i,s,Z,Z⟩,Sep.toTr1 (C:=t.C) (F:=t.F) (k:=i) (N:=fup t.N a (some c)) y j.1 ⟨λg c' b=>?_,u⟩⟩;by_cases e:g=a
 ·subst e;rw[BI] at b ⊢
  cases b;rw[q] at d ⊢
  exact ⟨Z,d⟩
 rw[fup_ne _ _ e] at b ⊢;exact j.2.m g c' b
theorem CkN.of{lf:Bool}{es:List E}(h:(Nd.mk lf es).Ok)(g:∀v∈vals es,1<=v/\v<1024):CkN lf (kL es) (vL es):=by
 refine ⟨by simp,by simpa using h.len,?_,λx c=>?_,λy d=>?_,λi x y c d=>?_⟩
 ·cases lf with
  | true=>exact .inl Z
  | false=>
   have:=h.ne Z
   cases es with
   | nil=>exact absurd Z this
   | cons e t=>simp
 ·obtain ⟨e,f,rfl⟩:=Aeh.1 c
  have:=h.key e f;exact ⟨this.1,by have:=this.2;omega⟩
 ·obtain ⟨e,f,rfl⟩:=Aeh.1 d
  have:=g e.2 (Aeu f);omega
 simp only[Aej] at c d
 cases h1:es[i]? with
 | none=>rw[h1] at c;cases c
 | some a=>
  cases h2:es[i+1]? with
  | none=>rw[h2] at d;cases d
  | some b=>
   rw[h1] at c;rw[h2] at d;simp at c d;subst c d;have hs:=h.srt;exact (Afp.1 hs) i (i+1) (Ad6.1 h1).1 (Ad6.1 h2).1 U |> λq=>by rw[(Ad6.1 h1).2,(Ad6.1 h2).2] at q;exact q
theorem OJ(lf:Bool)(es:List E):((Fc ⟨lf,es⟩).kind=4/\lf=true)\/((Fc ⟨lf,es⟩).kind=3/\lf=false):=by
 cases lf
 ·exact .inr ⟨Z,Z⟩
 exact .inl ⟨Z,Z⟩
theorem TE(lf:Bool)(es:List E):decide (((Fc ⟨lf,es⟩).kind:Int)=4)=lf:=by cases lf<;>rfl
theorem TInv.take{n f a:Nat}{N:Hm}{C:Nat->Nat}{R:List Nat}(I_:TInv n f N C R)(b:C a=0)(d:f<=a/\a<n):TInv n f (fup N a none) (fup C a 1) (a::R):=by
 have hN:N a=none:=by
  cases e:N a with
  | none=>rfl
  | some c=>have:=(I_.nin a c e).2.2;omega
 have e:fup N a none=N:=by
  funext q;unfold fup;split
  ·rename_i h;rw[h,hN]
  rfl
 have:=I_.ref d;rw[b] at this;rw[e];exact this
end
section
variable{Tb:Af}
theorem Zu(pp ps pc pa pd n:Nat)(un:Bool)(D:Dsk)(G:StG)(own:Hb)(p:Nat)(lf:Bool)(es:List E)(s:(p:Int)<G.x.pages)(t:D.f1=0)(hq:Fc ⟨lf,es⟩=Ej G.M own p)(c:(Nd.mk lf es).Ok)(a:CkN lf (kL es) (vL es)):Cn prog 160 [Y pp,I (p:Int)] [plB pp ps pc pa n un,stoA ps pd D G own] (λv Γ=>∃l f:Value,v=.tuple #[.agg #[.bool lf,l,f],I 0]/\Γ=[grow 3 1 l (kL es).length ((kL es).map I),grow 3 1 f (vL es).length ((vL es).map I),plB pp ps pc pa n un,stoA ps pd D G own]):=by
 intro z R w H;replace H:=H.l2;have b:(Fc ⟨lf,es⟩).body.length=240:=(Jw c.len).2;have a5:=OJ lf es;refine Ae func160 Z ntmps160 Z (Za 2 [] H Z ?_);intro b1 w H;refine Z2 21 [0,0,1,0] H Z (Aq Z (call98 _) (KX ps pd D G own p s t (Fc ⟨lf,es⟩) hq) H.f2 ?_);rintro _ w _ (⟨u,rfl,rfl⟩|⟨a4,rv,rfl,rfl⟩) H'
 ·(exfalso;have:=OJ lf es;rw[u] at this;have h0:noPg.kind=0:=rfl;omega)
 have H:=H'.l4;obtain ⟨gb,a6,rest,rfl,c1,c2,c3,H⟩:=H.ungrow 0 Z U;replace H:=H.l4;refine Za 3 [] H Z ?_;intro b2 w H;refine Z4 21 [0,4,0,0,0,0] H Z ?_;intro w H;refine Al 30 Z (λh1=>?_) (λh1=>?_)
 ·refine Z2 6 [0,0,0,0] H Z (Ag Z (λh2=>U) (λh2=>?_))
  refine Z2 6 [1,0,0] H Z (Aq Z (call199 _) (My _ _ _ (Fc ⟨lf,es⟩).body _ (λh q=>q.rd U U (by rw[Ad9,Aea,b];omega) (by rw[Aep,AeK,AeA (by rw[Aea,b])])) lf (kL es) (vL es) O (by simpa using c.len) (λx o=>by have:=a.k x o;omega) (λy m=>by have:=a.v y m;omega) Z) H.f1 ?_);rintro _ w _ ⟨l,f,rfl,rfl⟩ H;replace H:=H.l7;replace H:=(H.mono 1 (B:=grow 3 1 f ((vL es).length) ((vL es).map I)) Z (λh q=>by rw[show (vL es).length=(kL es).length by simp];exact q)).l7;have d:=H.sy 0 (·.slc);have e:=H.sy 1 (·.slc);refine Za 3 [] H Z ?_;intro b3 w H;obtain ⟨a1,r,rfl⟩:=d;obtain ⟨a3,a2,rfl⟩:=e;refine Z4 11 [0,0,3] H Z ?_;intro w H;refine z_E_ Z (call200 _) (CS _ _ _ (kL es) (vL es) _ _ (λh q=>q.rd) (λh q=>q.rd) a) H.f2.f2 ?_;intro w H;refine Z2 8 [4,0,2,0,0,4,0,0] H Z (Ab Z (Nl Z J Z Z) (Zc 3 Z (Ag Z (λh3=>?_) (λh3=>?_))))
  ·exact absurd (TE lf es).symm h3
  refine Z4 10 [2,3,6] H Z ?_;intro w H;refine Zl [6,3] H Z ?_;exact ⟨_,⟨.slice a1 ((kL es).length) r,.slice a3 ((vL es).length) a2,Z,Z⟩,H.perm 8 [0,1,7,5] Z Z⟩
 refine Z2 13 [1,0,0] H Z (Aq Z (call199 _) (My _ _ _ (Fc ⟨lf,es⟩).body _ (λh q=>q.rd U U (by rw[Ad9,Aea,b];omega) (by rw[Aep,AeK,AeA (by rw[Aea,b])])) lf (kL es) (vL es) O (by simpa using c.len) (λx o=>by have:=a.k x o;omega) (λy m=>by have:=a.v y m;omega) Z) H.f1 ?_);rintro _ w _ ⟨l,f,rfl,rfl⟩ H;replace H:=H.l7;replace H:=(H.mono 1 (B:=grow 3 1 f ((vL es).length) ((vL es).map I)) Z (λh q=>by rw[show (vL es).length=(kL es).length by simp];exact q)).l7;have d:=H.sy 0 (·.slc);have e:=H.sy 1 (·.slc);refine Za 3 [] H Z ?_;intro b8 w H;obtain ⟨a0,j,rfl⟩:=d;obtain ⟨i,g,rfl⟩:=e;refine Z4 11 [0,0,3] H Z ?_;intro w H;refine z_E_ Z (call200 _) (CS _ _ _ (kL es) (vL es) _ _ (λh q=>q.rd) (λh q=>q.rd) a) H.f2.f2 ?_;intro w H;refine Z2 8 [4,0,2,0,0,4,0,0] H Z (Ab Z (Nl Z J Z Z) (Zc 3 Z (Ag Z (λh4=>?_) (λh4=>?_))))
 ·exact absurd (TE lf es).symm h4
 refine Z4 10 [2,3,6] H Z ?_;intro w H;refine Zl [6,3] H Z ?_;exact ⟨_,⟨.slice a0 ((kL es).length) j,.slice i ((vL es).length) g,Z,Z⟩,H.perm 8 [0,1,7,5] Z Z⟩
theorem TInv.vok{n f:Nat}{N:Hm}{C:Nat->Nat}{R:List Nat}(I_:TInv n f N C R)(b:1<=f)(c:n<=1024){p:Nat}{lf:Bool}{es:List E}(h:N p=some (.nd ⟨lf,es⟩)):CkN lf (kL es) (vL es):=
 CkN.of (I_.nds p _ h).1 (λv a=>by have:=(I_.nds p _ h).2.2 v a;omega)
theorem HS(pp mb n:Nat)(o:TB)(T:TT)(p:Nat)(lf:Bool)(es:List E)(hN:Dk o T p=some (.nd ⟨lf,es⟩)):
  Cn prog 160 [Y pp,I (p:Int)] [trA Tb pp mb n o T] (λv Γ=>∃e d:Value,v=.tuple #[.agg #[.bool lf,e,d],I 0]/\Γ=[grow 3 1 e (kL es).length ((kL es).map I),grow 3 1 d (vL es).length ((vL es).map I),trA Tb pp mb n o T]):=by
 intro z R w H;have K:=H.says 0 Z (λh a=>trA.k a);obtain ⟨M0,u,⟨_,_,_,l⟩,H,c⟩:=H.trP;obtain ⟨X,b,H⟩:=H.po;have q:=K.i.nin p _ hN;have hq:Fc ⟨lf,es⟩=Ej X.G.M (TA X.g u) p:=by
  have f:=(l p _ hN).1
  cases u with
  | none=>exact f.symm.trans (b.m0 p (.inr U))
  | some T'=>exact f.symm.trans ((b.tx T' Z).m p (.inr U))
 refine Ret.mono (Cn.at (Zu pp X.ps X.pc X.pa X.pd n u.isSome X.D X.G (TA X.g u) p lf es (by rw[b.pg];omega) b.fine.clean.f1 hq (K.i.nds p _ hN).1 (K.i.vok U b.hn.2 hN)) H 7 [0,1,2,3,4,5,6] Z Z) ?_;rintro v r ⟨Γ',⟨e,d,rfl,rfl⟩,j⟩;have H3:=j.pick 9 [2,3,4,5,6,7,8,0,1] Z;have H4:=c _ _ (H3.toPo (X:=X) b Z);exact ⟨_,⟨e,d,Z,Z⟩,H4.pick 3 [1,2,0] Z⟩
theorem Kb{lf:Bool}{a vs:List Int}{x:Int}(h:a.length=vs.length)(b:a.length<=8):0+240*1<=(A4 (AJ (F9 lf a vs)) x).length:=by
 have hp:=AR (l:=F9 lf a vs) (by rw[Gt h];omega);unfold A4;rw[Ad9,Aea];omega
theorem LU{lf:Bool}{a vs:List Int}{x:Int}(h:a.length=vs.length)(b:a.length<=8):((A4 (AJ (F9 lf a vs)) x).drop 0).take (240*1)=(G9 lf a vs).map u8:=by
 have hp:=AR (l:=F9 lf a vs) (by rw[Gt h];omega);unfold A4 G9;rw[Aep,AeK,Aeo (by rw[Aea];omega),<-Afj,Aep]
theorem LV(lf:Bool)(m n:Value)(b vs:List Int)(A B:Af)(f:∀h,A h->rdH 1 m b.length (b.map I) h)(e:∀h,B h->rdH 1 n vs.length (vs.map I) h)(a:CkN lf b vs):Cn prog 229 [.agg #[.bool lf,m,n]] [A,B] (λv Γ=>∃d:Nat,v=.tuple #[.agg #[I (if lf=true then 4 else 3),.slice (some ⟨d,0,none⟩) 240 240],I 0]/\Γ=[blk d (A4 (AJ (F9 lf b vs)) ((2+6*b.length:Nat):Int)) 154,A,B]):=by
 intro z R w H;replace H:=H.l2;obtain ⟨r,t,rfl⟩:=H.sy 0 (λq=>(f _ q).slc);obtain ⟨u,vc,rfl⟩:=H.sy 1 (λq=>(e _ q).slc);have c:=a.len;have g:=a.l8;refine Ae func229 Z ntmps229 Z (Za 2 [] H Z ?_);intro b1 w H;refine Za 0 [] H Z ?_;intro s w H;refine Z2 7 [1,3] H Z (z_E_ Z (call200 _) (CS _ _ _ b vs _ _ f e a) H.f3.f3 ?_);intro w H;refine Z2 9 [4,3,3] H Z (Aq Z (call254 _) (Tk lf _ _ b vs _ _ f e c g (λx p=>by have:=a.k x p;omega) (λy o=>by have:=a.v y o;omega)) H ?_);rintro _ w _ ⟨d,rfl,rfl⟩ H;refine Z2 24 [4,0,4,0] H Z (Ep Z (λi=>?_) (λi=>?_))
 ·refine Z4 9 [3] H Z ?_;intro w H;refine Zl [3,2] H Z ?_;exact ⟨_,⟨d,(by rw[if_pos i]),Z⟩,H.perm 5 [0,1,2] Z Z⟩
 refine Z4 11 [3] H Z ?_;intro w H;refine Zl [3,2] H Z ?_;exact ⟨_,⟨d,(by rw[if_neg (by rw[i];decide)]),Z⟩,H.perm 5 [0,1,2] Z Z⟩
end
section
variable{Tb:Af}
variable{n:Nat}{t:TS}{R:List Nat}{a:Nat}{lf:Bool}{es:List E}
theorem V6{f h:Nat}{lo hi:Int}{m:Nat}{L:List E}(I_:TInv n f t.N t.C (a::(vals es++R)))(j:t.C a=1)(hN:t.N a=none)(b:(Nd.mk lf es).Ok)(e:(vals es).Nodup)(l:Bd t.N h es hi L)(g:lf=decide (h=0))(o:B0 lo hi es)(p:m<=es.length):
  TInv n f (fup t.N a (some (.nd ⟨lf,es⟩))) t.C (a::R)/\Tr (fup t.N a (some (.nd ⟨lf,es⟩))) h a lo hi m L/\(∀q d,t.N q=some (.nd d)->a∉vals d.es)/\a∉R:=by
 have c:∀q d,t.N q=some (.nd d)->a∉vals d.es:=λq d hq=>I_.noref (by simp;omega) hq;have i:=Iz I_ j;simp only[Aek,not_or] at i;have k:Tr (fup t.N a (some (.nd ⟨lf,es⟩))) h a lo hi m L:=Tr.iff.2 ⟨es,by rw[BI,g],p,o,by rw[<-g];exact b,l.fup c i.1⟩;exact ⟨(I_.close (d:=⟨lf,es⟩) j hN b e ⟨_,_,_,_,_,k⟩).1,k,c,i.2⟩
theorem KY{f h:Nat}{lo hi:Int}{m:Nat}{L:List E}(I_:TInv n f t.N t.C (vals es++R))(j:t.C a=0)(l:f<=a/\a<n)(b:(Nd.mk lf es).Ok)(e:(vals es).Nodup)(o:Bd t.N h es hi L)(g:lf=decide (h=0))(p:B0 lo hi es)(r:m<=es.length):
  TInv n f (fup t.N a (some (.nd ⟨lf,es⟩))) (fup t.C a 1) (a::R)/\Tr (fup t.N a (some (.nd ⟨lf,es⟩))) h a lo hi m L/\(∀q d,t.N q=some (.nd d)->a∉vals d.es)/\a∉R:=by
 have c:∀q d,t.N q=some (.nd d)->a∉vals d.es:=λq d hq=>I_.noref U hq;have i:=TD I_ j;simp only[Aek,not_or] at i;have k:Tr (fup t.N a (some (.nd ⟨lf,es⟩))) h a lo hi m L:=Tr.iff.2 ⟨es,by rw[BI,g],r,p,by rw[<-g];exact b,o.fup c i.1⟩;exact ⟨(I_.fresh (d:=⟨lf,es⟩) j l b e ⟨_,_,_,_,_,k⟩).2.1,k,c,i.2⟩
structure OwnP(t t':TS)(es:List E)(R:List Nat)(a:Nat):Prop where
 N0:t'.N a=none
 C1:t'.C a=1
 st:St t t' R 1 1
 fv:∀c∈vals es,∀h lo hi m L,Tr t.N h c lo hi m L->Tr t'.N h c lo hi m L
 dv:∀c∈vals es,∀b,t.N c=some (.dt b)->t'.N c=some (.dt b)
 sub:∀q d,t'.N q=some (.nd d)->t.N q=some (.nd d)
theorem OwnP.bd{t':TS}(O_:OwnP t t' es R a){h:Nat}{hi:Int}{L:List E}(q:Bd t.N h es hi L):Bd t'.N h es hi L:=by
 cases h with
 | zero=>exact ⟨q.1,λe c=>by obtain ⟨b,d⟩:=q.2 e c;exact ⟨b,O_.dv _ (Aeu c) b d⟩⟩
 | succ h=>exact Sq.imp q λe c _ _ r=>O_.fv _ (Aeu c) _ _ _ _ _ r
theorem QC{N:Hm}{a:Nat}:∀q d,fup N a none q=some (.nd d)->N q=some (.nd d):=λq d h=>by
 by_cases e:q=a
 ·subst e;rw[BI] at h;cases h
 rwa[fup_ne _ _ e] at h
theorem TF{N:Hm}{a c:Nat}{b:List UInt8}(h:c≠a)(q:N c=some (.dt b)):fup N a none c=some (.dt b):=by rw[fup_ne _ _ h];exact q
theorem LW{f:Nat}(I_:TInv n f t.N t.C (a::R))(i:t.C a=1)(hN:t.N a=some (.nd ⟨lf,es⟩)):OwnP t {t with N:=fup t.N a none} es R a:=by
 have g:=I_.opens i hN;have k:=Iz g.1 i;have j:∀c∈vals es,c≠a:=λc d e=>k (Ag3 _ (by rw[<-e];exact d));have l:a∉R:=λq=>k (AgV _ q);exact ⟨BI _ _ _,i,(St.one g.2 l O (λ_ q=>q) U U (λ_ _ _ y=>y)),λc d h lo hi m L q=>q.fup g.2 (j c d),λc d b q=>TF (j c d) q,QC⟩
structure OwI(t:TS)(es:List E)(i:Nat)(C:Nat->Nat):Prop where
 i:i<=es.length
 ge:∀q,t.C q<=C q
 same:∀q,q∉vals es->C q=t.C q
theorem OwI.next{i:Nat}{C:Nat->Nat}{e:E}(I_:OwI t es i C)(a:es[i]?=some e):OwI t es (i+1) (fup C e.2 (C e.2+1)):=by
 refine ⟨(Ad6.1 a).1,λq=>?_,λq hq=>?_⟩
 ·have:=I_.ge q
  unfold fup;split
  ·rename_i h;subst h;omega
  exact this
 rw[fup_ne _ _ (λh=>hq (by rw[h];exact Aeu (Ad8 a)))];exact I_.same q hq
theorem V7{i:Nat}{e:E}(a:es[i]?=some e):((vals es).take (i+1)).reverse=e.2::((vals es).take i).reverse:=by
 rw[AeH];simp[vals,a]
theorem Zv{f c k:Nat}{F:Nat->Bool}{C:Nat->Nat}(I_:TInv n f t.N t.C (a::R))(hN:t.N a=some (.nd ⟨lf,es⟩))(hc:t.C c=0)(v:OwI ⟨fup t.N c none,fup t.C c 1,F,k⟩ es es.length C)(z:∀p,F p=true->t.F p=true)(hf:cnt t.F 0 1024=cnt F 0 1024+1)(y:k<=t.k+1):
  OwnP t ⟨fup t.N c none,fup C a (C a-1),F,k⟩ es R c:=by
 have l:c≠a:=λe=>by have:=I_.pos (p:=a) O;rw[e] at hc;omega
 have g:∀q d,t.N q=some (.nd d)->c∉vals d.es:=λq d hq=>I_.noref U hq;have r:c∉R:=λh=>by have:=I_.pos (p:=c) (by simp[h]);omega
 have w:∀q∈vals es,q≠c:=λq hq e=>g _ _ hN (by rw[<-e];exact hq);refine ⟨BI _ _ _,?_,St.one g r O z U y (λq hq i u=>?_),λq hq h lo hi m L x=>x.fup g (w q hq),λq hq b x=>TF (w q hq) x,QC⟩
 ·show fup C a (C a-1) c=1
  rw[fup_ne _ _ l,v.same c (g _ _ hN)];exact BI _ _ _
 have o:q≠a:=λe=>by rw[e,hN] at i;cases i
 have s:q∉vals es:=I_.noref (a:=q) (by
  have:=Agp.2 hq;rw[Ae7];omega) hN
 have j:q≠c:=λe=>by rw[e] at u;omega
 show fup C a (C a-1) q=1;rw[fup_ne _ _ o,v.same q s];show fup t.C c 1 q=1;rw[fup_ne _ _ j];exact u
theorem F3(pp mb n:Nat)(o:TB)(t:TS)(Q:List Nat)(a:Nat)(lf:Bool)(kv vv:Value)(es:List E)(A B:Af)(hA:∀h,A h->rdH 1 kv (kL es).length ((kL es).map I) h)(x:∀h,B h->rdH 1 vv (vL es).length ((vL es).map I) h)(h:Nat)(lo hi:Int)(m:Nat)(L:List E)(d:Bd t.N h es hi L)(p:lf=decide (h=0))(g:B0 lo hi es)(hm:m<=es.length)(b:(Nd.mk lf es).Ok)(c:(vals es).Nodup)(hC:t.C a=1)(hN:t.N a=none)(hk:t.k<40):Cn prog 232 [Y pp,I (a:Int),.agg #[.bool lf,kv,vv]] [trA Tb pp mb n o (some (t,a::(vals es++Q))),A,B] (λv Γ=>∃t2:TS,(St t t2 Q 0 1/\Tr t2.N h a lo hi m L/\t2.C=t.C/\t2.N=fup t.N a (some (.nd ⟨lf,es⟩)))/\v=I 0/\Γ=[trA Tb pp mb n o (some (t2,a::Q)),A,B]):=by
 intro z R w H;replace H:=H.l3;have K:=H.says 0 Z (λh a=>trA.k a);have hn:=K.hn;obtain ⟨ka,kc,rfl⟩:=H.sy 1 (λq=>(hA _ q).slc);obtain ⟨va,vc,rfl⟩:=H.sy 2 (λq=>(x _ q).slc);obtain ⟨j,e,f,s⟩:=V6 K.i hC hN b c d p g hm;have u:=K.i.rin a (by simp[CT]);have r:CkN lf (kL es) (vL es):=CkN.of b (λv hv=>by have:=K.i.rin v (by simp[CT,hv]);omega);refine Ae func232 Z ntmps232 Z (Za 2 [] H Z ?_);intro b1 w H;refine Z2 6 [0,3] H Z (Aq Z (call229 _) (LV lf _ _ (kL es) (vL es) _ _ hA x r) H.f3.f3 ?_);rintro _ w _ ⟨pw,rfl,rfl⟩ H;refine Za 3 [] H Z ?_;intro b2 w H;refine Z4 19 [0,4,0,2] H Z ?_;intro w H;refine Aq Z (call165 _) (Zt pp mb n o t _ (a::Q) a (Fc ⟨lf,es⟩) (Jw b.len) _ _ (λh q=>q.rd U U (Kb O (by simpa using b.len)) (LU O (by simpa using b.len))) hk (.nd ⟨lf,es⟩) Z ⟨by omega,u.2⟩ U j) H.f1.f5 ?_;rintro _ w _ ⟨k2,l,rfl,rfl⟩ H;refine Zc 4 Z (Zr Z ?_);exact ⟨_,⟨_,⟨St.one f s O (λ_ q=>q) U l (λ_ _ _ y=>y),e,Z,Z⟩,Z,Z⟩,H.perm 6 [0,3,4] Z Z⟩
theorem HT(pp mb n:Nat)(o:TB)(t:TS)(Q:List Nat)(lf:Bool)(kv vv:Value)(es:List E)(A B:Af)(hA:∀h,A h->rdH 1 kv (kL es).length ((kL es).map I) h)(hB:∀h,B h->rdH 1 vv (vL es).length ((vL es).map I) h)(h:Nat)(lo hi:Int)(m:Nat)(L:List E)(g:Bd t.N h es hi L)(l:lf=decide (h=0))(j:B0 lo hi es)(hm:m<=es.length)(b:(Nd.mk lf es).Ok)(d:(vals es).Nodup)(hk:t.k<40):Cn prog 197 [Y pp,.agg #[.bool lf,kv,vv]] [trA Tb pp mb n o (some (t,vals es++Q)),A,B] (λv Γ=>(cnt t.F 0 1024=0/\v=.tuple #[I 0,I 20]/\Γ=[trA Tb pp mb n o (some (t,vals es++Q)),A,B])\/∃(t2:TS) (a:Nat),(St t t2 Q 1 1/\Tr t2.N h a lo hi m L/\∀q∈Q,t2.N q=t.N q/\t2.C q=t.C q)/\v=.tuple #[I (a:Int),I 0]/\Γ=[trA Tb pp mb n o (some (t2,a::Q)),A,B]):=by
 intro z R w H;replace H:=H.l3;have K:=H.says 0 Z (λh a=>trA.k a);have hn:=K.hn;obtain ⟨ka,kc,rfl⟩:=H.sy 1 (λq=>(hA _ q).slc);obtain ⟨va,vc,rfl⟩:=H.sy 2 (λq=>(hB _ q).slc);have a0:CkN lf (kL es) (vL es):=CkN.of b (λv hv=>by have:=K.i.rin v (by simp[CT,hv]);omega);refine Ae func197 Z ntmps197 Z (Za 2 [] H Z ?_);intro b1 w H;refine Z2 7 [0,3] H Z (Aq Z (call229 _) (LV lf _ _ (kL es) (vL es) _ _ hA hB a0) H.f3.f3 ?_);rintro _ w _ ⟨pw,rfl,rfl⟩ H;refine Za 3 [] H Z ?_;intro b2 w H;refine Z4 18 [0,4,0,2] H Z ?_;intro w H;refine Aq Z (call157 _) (OI pp mb n o t _ Q (Fc ⟨lf,es⟩) (Jw b.len) _ _ (λh q=>q.rd U U (Kb O (by simpa using b.len)) (LU O (by simpa using b.len))) hk (some (.nd ⟨lf,es⟩)) (λq hq=>by cases hq;rfl) (λa h1 h2 h3=>(KY K.i h3 ⟨h1,h2⟩ b d g l j hm).1)) H.f1.f5 ?_;rintro _ w _ (⟨f,rfl,rfl⟩|⟨a,F,k2,⟨p,a1,a5,r,a4,x,a2⟩,rfl,rfl⟩) H'
 ·have H:=H'.l6;refine Zc 7 Z (Zr Z ?_);exact ⟨_,.inl ⟨f,Z,Z⟩,H.perm 6 [0,3,4] Z Z⟩
 have H:=H'.l6;obtain ⟨a3,s,u,c⟩:=KY K.i a1 ⟨p.1,p.2⟩ b d g l j hm;refine Zc 7 Z (Zr Z ?_);exact ⟨_,.inr ⟨_,a,⟨St.one u c O r U x (λq hq _ y=>(fup_ne _ _ (λe=>c (by rw[<-e];exact hq))).trans y),s,λq hq=>⟨fup_ne _ _ (λe=>c (by rw[<-e];exact hq)),fup_ne _ _ (λe=>c (by rw[<-e];exact hq))⟩⟩,Z,Z⟩,H.perm 6 [0,3,4] Z Z⟩
theorem V8(pp mb n:Nat)(o:TB)(t:TS)(Q:List Nat)(lf:Bool)(p r:Value)(es:List E)(A B:Af)(u:∀h,A h->rdH 1 p (kL es).length ((kL es).map I) h)(m:∀h,B h->rdH 1 r (vL es).length ((vL es).map I) h)(b:(Nd.mk lf es).Ok)(j:CkN lf (kL es) (vL es))(x:t.k<40):Cn prog 197 [Y pp,.agg #[.bool lf,p,r]] [trA Tb pp mb n o (some (t,Q)),A,B] (λv Γ=>(cnt t.F 0 1024=0/\v=.tuple #[I 0,I 20]/\Γ=[trA Tb pp mb n o (some (t,Q)),A,B])\/∃(a:Nat) (F:Nat->Bool) (e:Nat),(t.C a=0/\(∀q,F q=true->t.F q=true)/\e<=t.k+1/\cnt t.F 0 1024=cnt F 0 1024+1)/\v=.tuple #[I (a:Int),I 0]/\Γ=[trA Tb pp mb n o (some (⟨fup t.N a none,fup t.C a 1,F,e⟩,a::Q)),A,B]):=by
 intro z R w H;replace H:=H.l3;have K:=H.says 0 Z (λh a=>trA.k a);obtain ⟨ka,kc,rfl⟩:=H.sy 1 (λq=>(u _ q).slc);obtain ⟨va,vc,rfl⟩:=H.sy 2 (λq=>(m _ q).slc);refine Ae func197 Z ntmps197 Z (Za 2 [] H Z ?_);intro b1 w H;refine Z2 7 [0,3] H Z (Aq Z (call229 _) (LV lf _ _ (kL es) (vL es) _ _ u m j) H.f3.f3 ?_);rintro _ w _ ⟨pw,rfl,rfl⟩ H;refine Za 3 [] H Z ?_;intro b2 w H;refine Z4 18 [0,4,0,2] H Z ?_;intro w H;refine Aq Z (call157 _) (OI pp mb n o t _ Q (Fc ⟨lf,es⟩) (Jw b.len) _ _ (λh q=>q.rd U U (Kb O (by simpa using b.len)) (LU O (by simpa using b.len))) x none (λq hq=>by cases hq) (λa h1 h2 h3=>TInv.take K.i h3 ⟨h1,h2⟩)) H.f1.f5 ?_;rintro _ w _ (⟨c,rfl,rfl⟩|⟨a,F,e,⟨y,l,a1,f,a0,g,d⟩,rfl,rfl⟩) s
 ·have H:=s.l6;refine Zc 7 Z (Zr Z ?_);exact ⟨_,.inl ⟨c,Z,Z⟩,H.perm 6 [0,3,4] Z Z⟩
 have H:=s.l6;refine Zc 7 Z (Zr Z ?_);exact ⟨_,.inr ⟨a,F,e,⟨l,f,g,d⟩,Z,Z⟩,H.perm 6 [0,3,4] Z Z⟩
end
section
variable{Tb:Af}
theorem Zw(es:List E)(c a:Nat)(Q:List Nat):(((vals es).take es.length).reverse++(c::a::Q)).Perm (a::c::(vals es++Q)):=by
 rw[Aee (by simp[vals])];have e:((vals es).reverse++(c::a::Q)).Perm (vals es++(c::a::Q)):=Afr _ (List.reverse_perm _);refine e.trans ?_;have d:(vals es++(c::a::Q)).Perm ((c::a::Q)++vals es):=AfZ;refine d.trans ?_;have b:((c::a::Q)++vals es).Perm (a::c::(Q++vals es)):=by
  simp only[Afv];exact AfR _ _ _
 exact b.trans (Afe _ (Afe _ AfZ))
set_option maxHeartbeats 1000000 in
theorem Jx (pp mb n:Nat) (o:TB) (t:TS) (Q:List Nat) (a:Nat) (lf:Bool) (es:List E) (hN:t.N a=some (.nd ⟨lf,es⟩)) (hk:t.k<40) (hb:Q.length+n<=980):Cn prog 230 [Y pp,I (a:Int)] [trA Tb pp mb n o (some (t,a::Q))] (λv Γ=>(cnt t.F 0 1024=0/\∃(b d:Value) (s:TS×List Nat),v=.tuple #[I 0,.agg #[.bool lf,b,d],I 20]/\Γ=[grow 3 1 b (kL es).length ((kL es).map I),grow 3 1 d (vL es).length ((vL es).map I),trA Tb pp mb n o (some s)])\/∃(t2:TS) (c:Nat) (b d:Value),OwnP t t2 es Q c/\v=.tuple #[I (c:Int),.agg #[.bool lf,b,d],I 0]/\Γ=[grow 3 1 b (kL es).length ((kL es).map I),grow 3 1 d (vL es).length ((vL es).map I),trA Tb pp mb n o (some (t2,c::(vals es++Q)))]):=by
 intro z R w H;replace H:=H.l1;have K:=H.says 0 Z (λh a=>trA.k a);have hn:=K.hn;have c0:=K.i.nin a _ hN;have b8:CkN lf (kL es) (vL es):=K.i.vok U hn.2 hN;have a3:=(K.i.nds a _ hN).1;have b6:=(K.i.nds a _ hN).2.2;have b0:=K.i.pos (p:=a) (by simp[CT]);have b0:1<=t.C a:=b0;refine Ae func230 Z ntmps230 Z (Za 3 [] H Z ?_);intro b1 w H;refine Zc 7 Z (Aq Z (call160 _) (HS pp mb n o (some (t,a::Q)) a lf es hN) H.f1 ?_);rintro _ w _ ⟨b,d,rfl,rfl⟩ H;replace H:=H.l4;have y:=H.sy 0 (·.slc);have a0:=H.sy 1 (·.slc);refine Za 3 [] H Z ?_;intro b2 w H;refine Az Z Z (Ak 0 H Z Z Z Z (vs:=[.bool lf,b,d]) Z (Ad Z (Ad y.one (Ad a0.one Aw))) J O (out:=[.bool lf,b,d]) Z) ?_;rintro w H;replace H:=H.l5;refine Z0 11 [4] Z (z_E_ Z (call196 _) (LT pp mb n o _ a U) H.f3 ?_);intro w H;replace H:=H.l5;refine AC 24 (v:=I (t.C a:Int)) Z Z (Z0 4 [0] Z (Ag Z (λh1=>?_) (λh1=>?_)))
 ·refine Zc 1 Z ?_;replace H:=H.f1;refine AO (Sep z (blk b2 [.bool lf,b,d] 249::R)) 6 Z J (A5 H λw x=>?_)
  have H:=x.l5;refine AU [0,1,2,3] [0,3] [] (by exact H.pick 5 [0] Z) Z J Z (AB [4] J O (An (Bg Z Z Z (Ak 4 H Z Z Z Z (vs:=[.bool lf,b,d]) Z (Ad Z (Ad y.one (Ad a0.one Aw))) J O (out:=[.bool lf,b,d]) Z) ?_)));rintro w H;replace H:=H.l5;refine Av (H.pick 5 [0] Z) (AU [5] [] [] (by exact H.pick 5 [0] Z) Z J Z (a_done J (gn (Zc 2 Z (Zl [4,3] H Z ?_)))));replace H:=(H.mono 1 (B:=trA Tb pp mb n o (some ({t with N:=fup t.N a none},a::(vals es++Q)))) Z (λh q=>q.opens U hN)).l5;exact ⟨[grow 3 1 b ((kL es).length) ((kL es).map I),grow 3 1 d ((vL es).length) ((vL es).map I),trA Tb pp mb n o (some ({t with N:=fup t.N a none},a::(vals es++Q)))],.inr ⟨_,a,b,d,LW K.i U hN,Z,Z⟩,H.perm 5 [2,3,1] Z Z⟩
 refine Z2 6 [1,3] H Z (Aq Z (call197 _) (V8 pp mb n o t (a::Q) lf _ _ es _ _ (λh q=>q.rd) (λh q=>q.rd) a3 b8 hk) H.f3.f3.f2 ?_);rintro _ w _ (⟨a1,rfl,rfl⟩|⟨c,F,k2,⟨a8,b5,b7,a6⟩,rfl,rfl⟩) x
 ·have H:=x.l5;refine Z0 16 [3] Z ?_;replace H:=H.f3;refine AO (Sep z (blk b2 [.bool lf,b,d] 249::R)) 5 Z J (A5 H λw x=>?_)
  have H:=x.l5;refine AU [0,1,2] [0,3] [] (by exact H.pick 5 [0] Z) Z J Z (AB [3] J O (An (Bg Z Z Z (Ak 4 H Z Z Z Z (vs:=[.bool lf,b,d]) Z (Ad Z (Ad y.one (Ad a0.one Aw))) J O (out:=[.bool lf,b,d]) Z) ?_)));rintro w H;replace H:=H.l5;refine Av (H.pick 5 [0] Z) (AU [4] [] [] (by exact H.pick 5 [0] Z) Z J Z (a_done J (gn (Zc 2 Z (Zl [4,3] H Z ?_)))));exact ⟨[grow 3 1 b ((kL es).length) ((kL es).map I),grow 3 1 d ((vL es).length) ((vL es).map I),trA Tb pp mb n o (some (t,a::Q))],.inl ⟨a1,b,d,_,Z,Z⟩,H.perm 5 [2,3,1] Z Z⟩
 have H:=x.l5;refine Z0 19 [4] Z ?_;obtain ⟨l,m,rfl⟩:=y;obtain ⟨f,g,rfl⟩:=a0;refine Z2 8 [2,3,0] H Z ?_;refine AD (σ:=Nat×(Nat->Nat)) (λ⟨i,C⟩=>[(43,I (i:Int)),(0,Y pp),(1,I (a:Int)),(5,Y b1),(7,Y b2),(9,I (c:Int)),(41,.slice f ((vL es).length) g),(42,I (((vL es).length:Nat):Int))])
   (λ⟨i,C⟩ w=>Sep z (trA Tb pp mb n o (some (⟨fup t.N c none,C,F,k2⟩,((vals es).take i).reverse++(c::a::Q)))::grow 3 1 (.slice l ((kL es).length) m) ((kL es).length) ((kL es).map I)::grow 3 1 (.slice f ((vL es).length) g) ((vL es).length) ((vL es).map I)::blk b2 [.bool lf,.slice l ((kL es).length) m,.slice f ((vL es).length) g] 249::blk b1 [.bool false,.slice none 0 0,.slice none 0 0] 249::R) w/\(OwI ⟨fup t.N c none,fup t.C c 1,F,k2⟩ es i C)) (λ⟨i,C⟩=>es.length-i) ⟨0,fup t.C c 1⟩
   fr_z ⟨(by simpa using H),⟨AeJ _,λ_=>Aed _,λ_ _=>rfl⟩⟩ ?_
 clear H;rintro ⟨i,C⟩ w ⟨x,hI⟩;dsimp only at hI x ⊢;have H:=x.l5;have hI:=hI;have c1:=hI.i;refine Z0 6 [0] Z (Ag Z (λh2=>?_) (λh2=>?_))
 ·have a2:i<es.length:=by simp only[Aea] at h2;omega
  obtain ⟨e,he⟩:∃e,es[i]?=some e:=⟨_,Ad7 a2⟩;have a4:e.2∈vals es:=Aeu (Ad8 he);have b4:=b6 e.2 a4;have b3:1<=C e.2:=by
    have h1:=hI.ge e.2;have h2:=K.i.posE hN a4;have h3:fup t.C c 1 e.2<=C e.2:=h1;have h4:1<=t.C e.2:=h2;unfold fup at h3;split at h3<;>omega
  have a5:=a3.len;dsimp only at a5;refine Zc 6 Z ?_;have a9:=(H.rv 2 (·.rd)).at (j:=i) (u:=I (e.2:Int)) (by simp[he]);refine Ab Z (Aj Z (z:=1) (j:=i) (r:=i) J Z Z Z U a9 U) (Ab Z (Ax Z Z J (Ay a9)) (Zc 7 Z (z_E_ Z (call154 _) (Xv pp mb n o _ _ e.2 ⟨by omega,b4.2⟩ b3 (by simp only[Ad9,List.length_reverse,Aes,Aeb];omega)) H ?_)));intro w H;refine Z1 17 [4] [(i:Int)+1] Z U (gf ?_);intro _ hF;refine ⟨⟨i+1,fup C e.2 (C e.2+1)⟩,hF.cz,⟨(by rw[V7 he];exact H),?_⟩,?_⟩
  ·exact hI.next he
  (dsimp only;omega)
 obtain rfl:i=es.length:=by simp only[Aea] at h2;omega
 have a7:2<=C a:=by
   have h1:fup t.C c 1 a<=C a:=hI.ge a;have h2:c≠a:=λe=>by rw[e] at a8;omega
   rw[fup_ne _ _ (AfN h2)] at h1;omega
 refine Zc 2 Z (gx (Zc 3 Z ?_));replace H:=(H.mono 0 (B:=trA Tb pp mb n o (some (⟨fup t.N c none,C,F,k2⟩,a::c::(vals es++Q)))) Z (λh q=>q.perm (Zw es c a Q))).l5;replace H:=H.f3;refine AO (Sep z (blk b2 [.bool lf,.slice l ((kL es).length) m,.slice f ((vL es).length) g] 249::R)) 8 Z J (A5 H λw x=>?_);have H:=x.l5;refine AU [0,1,2,3] [0,3] [] (by exact H.pick 5 [0] Z) Z J Z (AB [4] J O (An (Bo Z Z Z Z Z Z (λw=>call202 _ w) (QB pp mb n o _ _ a a7) H.f1 Z ?_)));rintro _ w _ ⟨rfl,rfl⟩ H;replace H:=H.l5;refine Av (H.pick 5 [1] Z) (AU [5] [] [] (by exact H.pick 5 [1] Z) Z J Z (AB [6] J O (An (Bg Z Z Z (Ak 4 H Z Z Z Z (vs:=[.bool lf,.slice l ((kL es).length) m,.slice f ((vL es).length) g]) Z (by simp[u8,u32,Value.oneCell']) J O (out:=[.bool lf,.slice l ((kL es).length) m,.slice f ((vL es).length) g]) Z) ?_))));rintro w H;replace H:=H.l5;refine Av (H.pick 5 [1] Z) (AU [7] [] [] (by exact H.pick 5 [1] Z) Z J Z (a_done J (gn (Zc 2 Z (Zl [4,3] H Z ?_)))));exact ⟨[grow 3 1 (.slice l ((kL es).length) m) ((kL es).length) ((kL es).map I),grow 3 1 (.slice f ((vL es).length) g) ((vL es).length) ((vL es).map I),trA Tb pp mb n o (some (⟨fup t.N c none,fup C a (C a-1),F,k2⟩,c::(vals es++Q)))],.inr ⟨_,c,.slice l ((kL es).length) m,.slice f ((vL es).length) g,Zv K.i hN a8 hI b5 a6 b7,Z,Z⟩,H.perm 5 [2,3,0] Z Z⟩
end
section
abbrev gK(v:Value)(es:List E):Af:=grow 3 1 v (kL es).length ((kL es).map (Value.int .i64))
abbrev gV(v:Value)(es:List E):Af:=grow 3 1 v (vL es).length ((vL es).map (Value.int .i64))
abbrev Gm(A:Af)(kv:Value)(es:List E):Prop:=∀h,A h->rdH 1 kv (kL es).length ((kL es).map (Value.int .i64)) h
abbrev Gn(B:Af)(vv:Value)(es:List E):Prop:=∀h,B h->rdH 1 vv (vL es).length ((vL es).map (Value.int .i64)) h
abbrev DB(lf:Bool)(k v:Value):Value:=.agg #[.bool lf,k,v]
theorem TG{A B:List E}{key:Int}(c:∀e∈A,e.1<key)(d:∀e,B.head?=some e->key<=e.1):FdI (kL (A++B)) key A.length:=by
 refine ⟨by simp,λj x b a=>?_,λx a=>?_⟩
 ·simp only[kL,Aej,Aeg b] at a
  cases h:A[j]? with
  | none=>rw[h] at a;cases a
  | some e=>rw[h] at a;simp at a;subst a;exact c e (Ad8 h)
 simp only[kL,Aej,Aen (Aed _),Agw] at a
 cases B with
 | nil=>simp at a
 | cons e t=>simp at a;subst a;exact d e Z
theorem fd_cases{es:List E}(h:Srt es)(key:Int):(∃X v Y_,es=X++(key,v)::Y_/\(∀e∈X,e.1<key)/\FdI (kL es) key X.length/\(kL es)[X.length]?=some key)\/(¬CC key es/\∃X Y_,es=X++Y_/\(∀e∈X,e.1<key)/\(∀e∈Y_,key<e.1)/\FdI (kL es) key X.length/\¬(kL es)[X.length]?=some key):=by
 rcases key_split h key with ⟨X,v,Y_,rfl,b⟩|⟨d,X,Y_,rfl,b,c⟩
 ·exact .inl ⟨X,v,Y_,Z,b,TG b (λe a=>by simp at a;subst a;exact Afg _),by simp[kL]⟩
 refine .inr ⟨d,X,Y_,Z,b,c,TG b (λe a=>?_),λq=>?_⟩
 ·cases Y_ with
  | nil=>cases a
  | cons y t=>simp at a;subst a;exact AgM (c y O)
 simp only[kL,Aej,Aen (Aed _),Agw] at q
 cases Y_ with
 | nil=>simp at q
 | cons y t=>simp at q;have:=c y O;omega
theorem RM{lf:Bool}{g i:Value}{es:List E}{A B:Af}(m:Gm A g es)(l:Gn B i es)(e:CkN lf (kL es) (vL es))(hs:Srt es)(key:Int)(val:Nat)(p:(0<=key/\key<1048576)/\1<=val/\val<1024)(d:CC key es\/es.length<8):
  Cn prog 255 [DB lf g i,I key,I (val:Int)] [A,B] (λv Γ=>∃j f:Value,v=.tuple #[DB lf j f,I 0]/\Γ=[gK j (putE key val es),gV f (putE key val es),A,B]):=by
 have a:(0<=key/\key<1048576)/\1<=(val:Int)/\(val:Int)<1024:=by omega
 rcases fd_cases hs key with ⟨X,v0,Y_,rfl,c,k,b⟩|⟨o,X,Y_,rfl,c,n,k,b⟩
 ·have h:=Zn lf g i _ _ A B m l e key (val:Int) a X.length k b
  have e1:kL (putE key val (X++(key,v0)::Y_))=kL (X++(key,v0)::Y_):=by rw[Ec _ c];simp[kL]
  have e2:vL (putE key val (X++(key,v0)::Y_))=(vL (X++(key,v0)::Y_)).set X.length (val:Int):=by
   rw[Ec _ c];simp[vL,AfT]
  refine Cn.mono h ?_;rintro v Γ ⟨j,f,rfl,rfl⟩;refine ⟨j,f,Z,?_⟩;unfold gK gV;rw[e1,e2,AeP]
 have h:=Zp lf g i _ _ A B m l e key (val:Int) a X.length k b (by
  rcases d with q|q
  ·exact absurd q o
  simpa [kL] using q) (kL (putE key val (X++Y_))) (vL (putE key val (X++Y_))) (by rw[putE_new c n];simp[kL]) (by rw[putE_new c n];simp[vL])
 exact h
theorem AbP{lf:Bool}{d e:Value}{es:List E}{A B:Af}(k:Gm A d es)(i:Gn B e es)(f:CkN lf (kL es) (vL es))(hs:Srt es)(key:Int)(val:Nat)(j:(0<=key/\key<1048576)/\1<=val/\val<1024)(c:¬CC key es)(l:es.length=8):
  Cn prog 255 [DB lf d e,I key,I (val:Int)] [A,B] (λv Γ=>v=.tuple #[DB false (.slice none 0 0) (.slice none 0 0),I 15]/\Γ=[A,B]):=by
 have a:(0<=key/\key<1048576)/\1<=(val:Int)/\(val:Int)<1024:=by omega
 rcases fd_cases hs key with ⟨X,v0,Y_,rfl,h,g,b⟩|⟨m,X,Y_,rfl,h,n,g,b⟩
 ·exact absurd ⟨v0,by simp⟩ c
 exact Zo lf d e _ _ A B k i f key (val:Int) a X.length g b (by simpa [kL] using l)
theorem OK{lf:Bool}{c d:Value}{es:List E}{A B:Af}(j:Gm A c es)(h:Gn B d es)(k:es.length<=8)(hs:Srt es)(key:Int):
  Cn prog 161 [DB lf c d,I key] [A,B] (λv Γ=>(∃X v0 Y_,(es=X++(key,v0)::Y_/\∀e∈X,e.1<key)/\v=.tuple #[I (X.length:Int),.bool true]/\Γ=[A,B])\/(¬CC key es/\∃i:Nat,v=.tuple #[I (i:Int),.bool false]/\Γ=[A,B])):=by
 refine Cn.mono (Jv lf c d _ _ A B j h key (by simpa [kL] using k)) ?_;rintro v Γ ⟨i,hi,rfl,rfl⟩;rcases fd_cases hs key with ⟨X,v0,Y_,e,f,b,a⟩|⟨g,X,Y_,_,f,l,b,a⟩
 ·obtain rfl:=hi.uniq b
  exact .inl ⟨X,v0,Y_,⟨e,f⟩,by rw[decide_eq_true a],Z⟩
 obtain rfl:=hi.uniq b;exact .inr ⟨g,_,by rw[decide_eq_false a],Z⟩
theorem LZ{lf:Bool}{b c:Value}{es:List E}{A B:Af}(s:Gm A b es)(k:Gn B c es)(l:es.length<=8)(hs:Srt es)(d:es≠[])(key:Int):
  Cn prog 162 [DB lf b c,I key] [A,B] (λv Γ=>∃X e Y_,(es=X++e::Y_/\(X=[]\/e.1<=key)/\(∀x∈X,x.1<e.1)/\∀x∈Y_,key<x.1/\e.1<x.1)/\v=I (X.length:Int)/\Γ=[A,B]):=by
 refine Cn.mono (VW lf b c _ _ A B s k key (by simpa [kL] using l)) ?_;rintro v Γ ⟨i,hi,rfl,rfl⟩;obtain ⟨X,e,Y_,n,u,o,w,y⟩:=Py hs d key;obtain ⟨U_,V,g,r,m,p⟩:=GT hs key;have q:FcI (kL es) key U_.length:=by
  rw[g];refine ⟨by simp,λj x f a=>?_,λx a=>?_⟩
  ·simp only[kL,Aej,Aeg f] at a
   cases h:U_[j]? with
   | none=>rw[h] at a;cases a
   | some e=>rw[h] at a;simp at a;subst a;exact m e (Ad8 h)
  simp only[kL,Aej,Aen (Aed _),Agw] at a
  cases V with
  | nil=>simp at a
  | cons e t=>simp at a;subst a;exact p e O
 obtain rfl:=hi.uniq q;refine ⟨X,e,Y_,⟨n,o,w,y⟩,?_,Z⟩;rw[u];unfold chI;rw[r]
theorem AbQ{lf:Bool}{b c:Value}{X Y_:List E}{e:E}{A B:Af}(i:Gm A b (X++e::Y_))(h:Gn B c (X++e::Y_))(d:CkN lf (kL (X++e::Y_)) (vL (X++e::Y_)))(a:CkN lf (kL (X++Y_)) (vL (X++Y_))):
  Cn prog 234 [DB lf b c,I (X.length:Int)] [A,B] (λv Γ=>∃g f:Value,v=.tuple #[DB lf g f,I 0]/\Γ=[gK g (X++Y_),gV f (X++Y_),A,B]):=
 Qx lf b c _ _ A B i h d X.length (by simp[kL]) (kL (X++Y_)) (vL (X++Y_)) (by simp[kL,Ae1]) (by simp[vL,Ae1]) a
theorem Zx{lf:Bool}{b c:Value}{es:List E}{A B:Af}(j:Gm A b es)(i:Gn B c es)(d:CkN lf (kL es) (vL es))(a:es.length=8):
  Cn prog 256 [DB lf b c] [A,B] (λv Γ=>∃h f g e:Value,v=.tuple #[DB lf h f,DB lf g e,I 0]/\Γ=[gK h (es.take 4),gV f (es.take 4),gK g (es.drop 4),gV e (es.drop 4),A,B]):=
 VX lf b c _ _ A B j i d (by simp[kL,a]) (kL (es.take 4)) (vL (es.take 4)) (kL (es.drop 4)) (vL (es.drop 4)) (by simp[kL,a,Afj]) (by simp[kL,vL,a,Afj]) (by simp[kL,a,AfP]) (by simp[kL,vL,a,AfP])
theorem Wa{es1 es2:List E}(hs:Srt (es1++es2)):∀x y:Int,(kL es1)[(kL es1).length-1]?=some x->(kL es2)[0]?=some y->x<y:=λx y c e=>by
 obtain ⟨a,d,rfl⟩:=Aeh.1 (Ad8 c);obtain ⟨b,f,rfl⟩:=Aeh.1 (Ad8 e);exact (Srt.app.1 hs).2.2 a d b f
variable{lf:Bool}{kv1 vv1 kv2 vv2:Value}{es1 es2:List E}{A1 B1 A2 B2:Af}
theorem AbR(c:Gm A1 kv1 es1)(d:Gn B1 vv1 es1)(f:Gm A2 kv2 es2)(e:Gn B2 vv2 es2)(b:CkN lf (kL es1) (vL es1))(a:CkN lf (kL es2) (vL es2))(hs:Srt (es1++es2))(i:es1.length+es2.length<=8):
  Cn prog 259 [DB lf kv1 vv1,DB lf kv2 vv2] [A1,B1,A2,B2] (λv Γ=>∃h g:Value,v=.tuple #[DB lf h g,I 0]/\Γ=[gK h (es1++es2),gV g (es1++es2),A1,B1,A2,B2]):=
 VY lf kv1 vv1 _ _ A1 B1 c d kv2 vv2 _ _ A2 B2 f e b a (Wa hs) (by simpa [kL] using i) (kL (es1++es2)) (vL (es1++es2)) (by simp[kL]) (by simp[vL])
theorem joinF_e(c:Gm A1 kv1 es1)(d:Gn B1 vv1 es1)(f:Gm A2 kv2 es2)(e:Gn B2 vv2 es2)(b:CkN lf (kL es1) (vL es1))(a:CkN lf (kL es2) (vL es2))(hs:Srt (es1++es2))(g:8<es1.length+es2.length):
  Cn prog 259 [DB lf kv1 vv1,DB lf kv2 vv2] [A1,B1,A2,B2] (λv Γ=>v=.tuple #[DB false (.slice none 0 0) (.slice none 0 0),I 15]/\Γ=[A1,B1,A2,B2]):=
 VZ lf kv1 vv1 _ _ A1 B1 c d kv2 vv2 _ _ A2 B2 f e b a (Wa hs) (by simpa [kL] using g)
abbrev FG(es1 es2:List E):Nat:=((es1++es2).length+1)/2
theorem Zy(d:Gm A1 kv1 es1)(e:Gn B1 vv1 es1)(g:Gm A2 kv2 es2)(f:Gn B2 vv2 es2)(b:CkN lf (kL es1) (vL es1))(a:CkN lf (kL es2) (vL es2))(hs:Srt (es1++es2))(n:8<es1.length+es2.length):
  Cn prog 260 [DB lf kv1 vv1,DB lf kv2 vv2] [A1,B1,A2,B2] (λv Γ=>∃j i k h:Value,v=.tuple #[DB lf j i,DB lf k h,I 0]/\Γ=[gK j ((es1++es2).take (FG es1 es2)),gV i ((es1++es2).take (FG es1 es2)),gK k ((es1++es2).drop (FG es1 es2)),gV h ((es1++es2).drop (FG es1 es2)),A1,B1,A2,B2]):=by
 have l:kL es1++kL es2=kL (es1++es2):=by simp[kL]
 have m:vL es1++vL es2=vL (es1++es2):=by simp[vL]
 have c:(kL (es1++es2)).length=(es1++es2).length:=by simp[kL]
 exact V1 lf kv1 vv1 _ _ A1 B1 d e kv2 vv2 _ _ A2 B2 g f b a (Wa hs) (by simp[kL];omega) (kL (es1++es2)) (vL (es1++es2)) l m (kL ((es1++es2).take (FG es1 es2))) (vL ((es1++es2).take (FG es1 es2))) (kL ((es1++es2).drop (FG es1 es2))) (vL ((es1++es2).drop (FG es1 es2)))
  (by rw[c];exact Afj.symm) (by rw[c];exact Afj.symm) (by rw[c];exact AfP.symm) (by rw[c];exact AfP.symm)
end
section
variable{Tb:Af}
theorem KZ{N:Hm}{h:Nat}{lo hi:Int}{L es a b:List E}{key:Int}{val:Nat}{lf:Bool}(hs:Srt es)(f:Bd N h (putE key val es) hi L)(n:B0 lo hi (putE key val es))(g:∀e∈putE key val es,0<=e.1/\e.1<1048576)(c:(vals (putE key val es)).Nodup)
  (e:putE key val es=a++b)(a4:4<=a.length)(a5:a.length<=5)(j:4<=b.length)(w:b.length<=5):
  ∃L1 L2,L=L1++L2/\(Bd N h a (nx b hi) L1/\Bd N h b hi L2)/\(B0 lo (nx b hi) a/\B0 (nx b hi) hi b/\lo<nx b hi/\nx b hi<hi)/\((Nd.mk lf a).Ok/\(Nd.mk lf b).Ok)/\(vals a).Nodup/\(vals b).Nodup:=by
 have d:=J9 (k:=key) (v:=val) hs;rw[e] at f n g c d;obtain ⟨L1,L2,r,u,s⟩:=Bd.app.1 f;have l:a≠[]:=λq=>by rw[q] at a4;simp at a4
 have m:b≠[]:=λq=>by rw[q] at j;simp at j
 obtain ⟨t,p,_⟩:=Srt.app.1 d;have o:vals (a++b)=vals a++vals b:=by simp[vals]
 rw[o,Ae4] at c;exact ⟨L1,L2,r,⟨u,s⟩,OH d n l m,⟨⟨t,by dsimp only;omega,λx i=>g x (by simp[i]),λ_=>l⟩,⟨p,by dsimp only;omega,λx i=>g x (by simp[i]),λ_=>m⟩⟩,c.1,c.2.1⟩
theorem MK(a:Nat)(x y:List E)(Q:List Nat):(a::(vals (x++y)++Q)).Perm (vals y++(a::(vals x++Q))):=by
 have b:vals (x++y)=vals x++vals y:=by simp[vals]
 rw[b,Aec];have c:(a::(vals x++(vals y++Q))).Perm (a::(vals y++(vals x++Q))):=Afe _ (by
  rw[<-Aec,<-Aec];exact Afr _ AfZ)
 exact c.trans Afb.symm
theorem ML(r a:Nat)(x Q:List Nat):(r::(a::(x++Q))).Perm (a::(x++(r::Q))):=
 (AfR _ _ _).trans (Afe _ Afb.symm)
theorem FC{b:List E}{hi:Int}(h:4<=b.length):(kL b)[0]?=some (nx b hi):=by
 cases b with
 | nil=>simp at h
 | cons e t=>rfl
theorem Jy{t t1 t2:TS}{Q:List Nat}{a r h:Nat}{kr hi:Int}{x:List E}{L2:List E}(d:St t t1 (a::(vals x++Q)) 1 1)(c:Tr t1.N h r kr hi 4 L2)(b:St t1 t2 (r::Q) 0 1):St t t2 Q 1 2/\Tr t2.N h r kr hi 4 L2:=
 ⟨d.trans b (λp hp=>by simp[hp]) (λp hp=>by simp[hp]) U U,b.fr r O _ _ _ _ _ c⟩
theorem QD{lf:Bool}{es:List E}(h:CkN lf (kL es) (vL es))(hs:Srt es)(c:0<(es.take 4).length):CkN lf (kL (es.take 4)) (vL (es.take 4))/\Srt (es.take 4):=by
 have e:=AeI 4 es;have a:=hs;rw[<-e] at a;have f:es.length<=8:=by have:=h.l8;simpa [kL] using this
 refine ⟨CkN.of ⟨(Srt.app.1 a).1,by simp;omega,λx b=>?_,λ_ q=>by have q:es.take 4=[]:=q;rw[q] at c;simp at c⟩ (λv d=>?_),(Srt.app.1 a).1⟩
 ·exact h.k x.1 (Aeu (Afa b))
 obtain ⟨x,b,rfl⟩:=Aeh.1 d;have:=h.v (x.2:Int) (Aeh.2 ⟨x,Afa b,Z⟩);omega
theorem QE{lf:Bool}{es:List E}(h:CkN lf (kL es) (vL es))(hs:Srt es)(c:0<(es.drop 4).length):CkN lf (kL (es.drop 4)) (vL (es.drop 4))/\Srt (es.drop 4):=by
 have e:=AeI 4 es;have a:=hs;rw[<-e] at a;have f:es.length<=8:=by have:=h.l8;simpa [kL] using this
 refine ⟨CkN.of ⟨(Srt.app.1 a).2.1,by simp;omega,λx b=>?_,λ_ q=>by have q:es.drop 4=[]:=q;rw[q] at c;simp at c⟩ (λv d=>?_),(Srt.app.1 a).2.1⟩
 ·exact h.k x.1 (Aeu (Afo b))
 obtain ⟨x,b,rfl⟩:=Aeh.1 d;have:=h.v (x.2:Int) (Aeh.2 ⟨x,Afo b,Z⟩);omega
theorem Zz{es:List E}(hs:Srt es)(d:es.length=8){key:Int}{val:Nat}(c:¬CC key es)(h:nx (es.drop 4) 0<=key):putE key val es=es.take 4++putE key val (es.drop 4)/\4<=(putE key val (es.drop 4)).length/\(putE key val (es.drop 4)).length<=5:=by
 obtain ⟨a,b,e,_,_,i,f,g,_⟩:=OG (v:=val) hs d c;obtain ⟨rfl,rfl⟩:=g h;exact ⟨e,i,f⟩
theorem ZA{es:List E}(hs:Srt es)(f:es.length=8){key:Int}{val:Nat}(c:¬CC key es)(h:key<nx (es.drop 4) 0):putE key val es=putE key val (es.take 4)++es.drop 4/\4<=(putE key val (es.take 4)).length/\(putE key val (es.take 4)).length<=5:=by
 obtain ⟨a,b,e,a4,a5,_,_,_,d⟩:=OG (v:=val) hs f c;obtain ⟨rfl,rfl⟩:=d h;exact ⟨e,a4,a5⟩
theorem AbS(pp mb n:Nat)(o:TB)(t:TS)(Q:List Nat)(a:Nat)(lf:Bool)(x y:Value)(es:List E)(A B:Af)(hA:∀h,A h->rdH 1 x (kL es).length ((kL es).map I) h)(u:∀h,B h->rdH 1 y (vL es).length ((vL es).map I) h)(key:Int)(val:Nat)(g:(0<=key/\key<1048576)/\1<=val/\val<1024)(s:CkN lf (kL es) (vL es))(hs:Srt es)(h:Nat)(lo hi:Int)(m:Nat)(L:List E)(f:Bd t.N h (putE key val es) hi L)(p:lf=decide (h=0))(i:B0 lo hi (putE key val es))(e:(vals (putE key val es)).Nodup)(hC:t.C a=1)(hN:t.N a=none)(hk:t.k<39)(hm:m<=(putE key val es).length)(d:(Nd.mk lf (putE key val es)).Ok)(b:CC key es\/es.length<8):Cn prog 231 [Y pp,I (a:Int),.agg #[.bool lf,x,y],I key,I (val:Int)] [trA Tb pp mb n o (some (t,a::(vals (putE key val es)++Q))),A,B] (λv Γ=>∃t2:TS,(St t t2 Q 0 1/\Tr t2.N h a lo hi m L)/\v=.tuple #[.agg #[I (a:Int),I 0,I 0],I 0]/\Γ=[trA Tb pp mb n o (some (t2,a::Q)),A,B]):=by
 intro z R w H;replace H:=H.l3;obtain ⟨ka,kc,rfl⟩:=H.sy 1 (λq=>(hA _ q).slc);obtain ⟨va,vc,rfl⟩:=H.sy 2 (λq=>(u _ q).slc);refine Ae func231 Z ntmps231 Z (Za 2 [] H Z ?_);intro b1 w H;refine Za 0 [] H Z ?_;intro b2 w H;refine Z2 8 [1,3] H Z (Aq Z (call255 _) (RM hA u s hs key val g b) H.f4.f4 ?_);rintro _ w _ ⟨v3,v4,rfl,rfl⟩ H;replace H:=H.l7;have r:=H.sy 0 (·.slc);have j:=H.sy 1 (·.slc);refine Za 3 [] H Z ?_;intro b5 w H;refine Az Z Z (Ak 0 H Z Z Z Z (vs:=[.bool lf,v3,v4]) Z (Ad Z (Ad r.one (Ad j.one Aw))) J O (out:=[.bool lf,v3,v4]) Z) ?_;rintro w H;replace H:=H.l8;refine Z2 18 [3,0,3] H Z (Aq Z (call232 _) (F3 pp mb n o t Q a lf _ _ (putE key val es) _ _ (λh q=>q.rd) (λh q=>q.rd) h lo hi m L f p i hm d e hC hN U) H.f2.f2.f7 ?_);rintro _ w _ ⟨t2,⟨c,l,a1,a0⟩,rfl,rfl⟩ H;refine Z4 5 [6] H Z ?_;intro w H;refine Zl [6,3] H Z ?_;exact ⟨_,⟨t2,⟨c,l⟩,Z,Z⟩,H.perm 8 [0,4,5] Z Z⟩
set_option maxHeartbeats 2000000 in
theorem AbT (pp mb n:Nat) (o:TB) (t:TS) (Q:List Nat) (a:Nat) (lf:Bool) (kv vv:Value) (es:List E) (A B:Af) (hA:∀h,A h->rdH 1 kv (kL es).length ((kL es).map I) h) (hB:∀h,B h->rdH 1 vv (vL es).length ((vL es).map I) h) (key:Int) (val:Nat) (a7:(0<=key/\key<1048576)/\1<=val/\val<1024) (i:CkN lf (kL es) (vL es)) (hs:Srt es) (h:Nat) (lo hi:Int) (m:Nat) (L:List E) (d6:Bd t.N h (putE key val es) hi L) (a0:lf=decide (h=0)) (d4:B0 lo hi (putE key val es)) (a2:(vals (putE key val es)).Nodup) (hC:t.C a=1) (hN:t.N a=none) (hk:t.k<39) (d8:∀e∈putE key val es,0<=e.1/\e.1<1048576) (b4:¬CC key es) (h8:es.length=8):Cn prog 231 [Y pp,I (a:Int),.agg #[.bool lf,kv,vv],I key,I (val:Int)] [trA Tb pp mb n o (some (t,a::(vals (putE key val es)++Q))),A,B] (λv Γ=>(cnt t.F 0 1024=0/\∃s:TS×List Nat,v=.tuple #[.agg #[I 0,I 0,I 0],I 20]/\Γ=[trA Tb pp mb n o (some s),A,B])\/∃(t2:TS) (kr:Int) (r:Nat) (L1 L2:List E),(St t t2 Q 1 2/\L=L1++L2/\lo<kr/\kr<hi/\Tr t2.N h a lo kr 4 L1/\Tr t2.N h r kr hi 4 L2)/\v=.tuple #[.agg #[I (a:Int),I kr,I (r:Int)],I 0]/\Γ=[trA Tb pp mb n o (some (t2,a::r::Q)),A,B]):=by
 intro z R w H;replace H:=H.l3;obtain ⟨ka,kc,rfl⟩:=H.sy 1 (λq=>(hA _ q).slc);obtain ⟨va,vc,rfl⟩:=H.sy 2 (λq=>(hB _ q).slc);refine Ae func231 Z ntmps231 Z (Za 2 [] H Z ?_);intro b1 w H;refine Za 0 [] H Z ?_;intro b2 w H;refine Z2 8 [1,3] H Z (z_E_ Z (call255 _) (AbP hA hB i hs key val a7 b4 h8) H.f4.f4 ?_);intro w H;refine Za 3 [] H Z ?_;intro b3 w H;refine Z4 27 [0,4,4,4,3] H Z ?_;intro w H;refine Aq Z (call256 _) (Zx hA hB i h8) H.f2.f2 ?_;rintro _ w _ ⟨v4,v5,v6,v7,rfl,rfl⟩ H;replace H:=H.l10;have e2:=H.sy 0 (·.slc);have e0:=H.sy 1 (·.slc);have d3:=H.sy 2 (·.slc);have e1:=H.sy 3 (·.slc);refine Za 4 [] H Z ?_;intro b8 w H;refine Za 0 [] H Z ?_;intro b9 w H;refine Az Z Z (Ak 1 H Z Z Z Z (vs:=[.bool lf,v4,v5]) Z (Ad Z (Ad e2.one (Ad e0.one Aw))) J O (out:=[.bool lf,v4,v5]) Z) ?_;rintro w H;replace H:=H.l12;refine Az Z Z (Ak 0 H Z Z Z Z (vs:=[.bool lf,v6,v7]) Z (Ad Z (Ad d3.one (Ad e1.one Aw))) J O (out:=[.bool lf,v6,v7]) Z) ?_;rintro w H;replace H:=H.l12;refine Z0 15 [4] Z ?_;obtain ⟨ak,a3,rfl⟩:=d3;have g:=(H.rv 4 (·.rd)).at (j:=0) (u:=I (nx (es.drop 4) 0)) (by rw[Aej,FC (by rw[AeG];omega)];rfl);refine Z2 4 [1,0,0] H Z (Ab Z (Aj Z (z:=1) (j:=0) (r:=0) J Z Z Z (by simp only[Aea,AeG];omega) g U) (Ab Z (Ax Z Z J (Ay g)) (Z0 3 [0] Z (Ag Z (λh1=>?_) (λh1=>?_)))))
 ·obtain ⟨d5,d,a8⟩:=Zz (val:=val) hs h8 b4 h1;refine Z2 4 [0,3] H Z (Aq Z (call255 _) (RM (λh q=>q.rd) (λh q=>q.rd) (QE i hs (by simp;omega)).1 (QE i hs (by simp;omega)).2 key val a7 (.inr (by simp;omega))) H.f5.f5 ?_);rintro _ w _ ⟨d2,b5,rfl,rfl⟩ H;replace H:=H.l14;have a4:=H.sy 0 (·.slc)
  have d7:=H.sy 1 (·.slc);refine Zc 3 Z (Az Z Z (Ak 4 H Z Z Z Z (vs:=[.bool lf,d2,b5]) Z (Ad Z (Ad a4.one (Ad d7.one Aw))) J O (out:=[.bool lf,d2,b5]) Z) ?_);rintro w H;replace H:=H.l14;refine Z0 14 [4] Z ?_;obtain ⟨L1,L2,hL,⟨c7,b0⟩,⟨b7,a5,c6,c1⟩,⟨c3,c8⟩,c4,a9⟩:=KZ (lf:=lf) hs d6 d4 d8 a2 d5 (by simp;omega) (by simp;omega) d a8;replace H:=(H.mono 13 (B:=trA Tb pp mb n o (some (t,vals (putE key val (es.drop 4))++(a::(vals (es.take 4)++Q))))) Z (λh q=>q.perm (by rw[d5];exact MK a _ _ Q))).l14;refine Z2 3 [4,3] H Z (Aq Z (call197 _) (HT pp mb n o t (a::(vals (es.take 4)++Q)) lf _ _ (putE key val (es.drop 4)) _ _ (λh q=>q.rd) (λh q=>q.rd) h (nx (putE key val (es.drop 4)) hi) hi 4 L2 b0 a0 a5 d c8 a9 U) H.f1.f1.f13 ?_);rintro _ w _ (⟨f,rfl,rfl⟩|⟨t1,r,⟨b,x,c2⟩,rfl,rfl⟩) y
  ·have H:=y.l14;refine Z4 24 [3,12] H Z ?_;intro w H;refine Zl [12,3] H Z ?_;exact ⟨_,.inl ⟨f,_,Z,Z⟩,H.perm 14 [0,9,10] Z Z⟩
  have H:=y.l14;have p:=c2 a O;refine Z0 18 [4] Z ?_;obtain ⟨bk,a1,rfl⟩:=a4;have l:=(H.rv 1 (·.rd)).at (j:=0) (u:=I (nx (putE key val (es.drop 4)) hi)) (by rw[Aej,FC d];rfl);replace H:=(H.mono 0 (B:=trA Tb pp mb n o (some (t1,a::(vals (es.take 4)++(r::Q))))) Z (λh q=>q.perm (ML r a _ Q))).l14;replace H:=H.f1.f5.f6;refine AO (Sep z (blk b8 [.bool lf,v4,v5] 249::blk b9 [.bool lf,.slice bk ((kL (putE key val (es.drop 4))).length) a1,b5] 249::grow 3 1 (.slice bk ((kL (putE key val (es.drop 4))).length) a1) ((kL (putE key val (es.drop 4))).length) ((kL (putE key val (es.drop 4))).map I)::R)) 13 Z J (A5 H λw y=>?_);have H:=y.l14;refine AU [0,1,2] [1,1,0] [] (by exact H.pick 14 [0,1,2] Z) Z J Z (BO 3 Z J J J Z Z Z (Aj Z (z:=1) (j:=0) (r:=0) J Z Z Z (by simp only[Aea];first|omega|(rw[AeG];omega)) l U) (H.pick 14 [0,1,2] Z) (BO 4 Z J J J Z Z Z (Ax Z Z J (λ_ a6=>(a6.rv 2 (·.rd)).at (j:=0) (u:=I (nx (putE key val (es.drop 4)) hi)) (by rw[Aej,FC d];rfl))) (H.pick 14 [0,1,2] Z) ?_));refine AU [5,6,7,8,9] [0,3] [] (by exact H.pick 14 [0,1,2] Z) Z J Z (AB [10] J O (An (Bo Z Z Z Z Z Z (λw=>call232 _ w) (F3 pp mb n o t1 (r::Q) a lf _ _ (es.take 4) _ _ (λh q=>q.rd) (λh q=>q.rd) h lo (nx (putE key val (es.drop 4)) hi) 4 L1 (b.bd (λv hv=>by simp[hv]) c7) a0 b7 (by simp;omega) c3 c4 (p.2.trans hC) (p.1.trans hN) (by have:=b.k;omega)) H.f8.f8.f5 Z ?_)));rintro _ w _ ⟨t2,⟨c,b6,e3,d9⟩,rfl,rfl⟩ H;replace H:=H.l14;refine Av (H.pick 14 [3,4,5] Z) (AB [11] J O (An (Bg Z Z Z (Ak 12 H Z Z Z Z (vs:=[I (a:Int),I (nx (putE key val (es.drop 4)) hi),I (r:Int)]) Z (by simp[u8,u32,Value.oneCell']) J O (out:=[I (a:Int),I (nx (putE key val (es.drop 4)) hi),I (r:Int)]) Z) ?_)));rintro w H;replace H:=H.l14;refine Av (H.pick 14 [3,4,5] Z) (AU [12] [] [] (by exact H.pick 14 [3,4,5] Z) Z J Z (a_done J (gn (Zc 2 Z (Zl [12,3] H Z ?_)))));exact ⟨_,.inr ⟨t2,nx (putE key val (es.drop 4)) hi,r,L1,L2,⟨(Jy b x c).1,hL,c6,c1,b6,(Jy b x c).2⟩,Z,Z⟩,H.perm 14 [0,9,10] Z Z⟩
 obtain ⟨d1,d,a8⟩:=ZA (val:=val) hs h8 b4 U;refine Z2 4 [1,3] H Z (Aq Z (call255 _) (RM (λh q=>q.rd) (λh q=>q.rd) (QD i hs (by simp;omega)).1 (QD i hs (by simp;omega)).2 key val a7 (.inr (by simp;omega))) H.f3.f3 ?_);rintro _ w _ ⟨c0,c5,rfl,rfl⟩ H;replace H:=H.l14;have c9:=H.sy 0 (·.slc);have d0:=H.sy 1 (·.slc);refine Zc 3 Z (Az Z Z (Ak 5 H Z Z Z Z (vs:=[.bool lf,c0,c5]) Z (Ad Z (Ad c9.one (Ad d0.one Aw))) J O (out:=[.bool lf,c0,c5]) Z) ?_);rintro w H;replace H:=H.l14;refine Z0 14 [4] Z ?_;obtain ⟨L1,L2,hL,⟨c7,b0⟩,⟨b7,a5,c6,c1⟩,⟨c3,c8⟩,c4,a9⟩:=KZ (lf:=lf) hs d6 d4 d8 a2 d1 d a8 (by simp;omega) (by simp;omega);replace H:=(H.mono 13 (B:=trA Tb pp mb n o (some (t,vals (es.drop 4)++(a::(vals (putE key val (es.take 4))++Q))))) Z (λh q=>q.perm (by rw[d1];exact MK a _ _ Q))).l14;refine Z2 3 [4,3] H Z (Aq Z (call197 _) (HT pp mb n o t (a::(vals (putE key val (es.take 4))++Q)) lf _ _ (es.drop 4) _ _ (λh q=>q.rd) (λh q=>q.rd) h (nx (es.drop 4) hi) hi 4 L2 b0 a0 a5 (by simp;omega) c8 a9 U) H.f7.f7.f13 ?_);rintro _ w _ (⟨f,rfl,rfl⟩|⟨t1,r,⟨b,x,c2⟩,rfl,rfl⟩) y
 ·have H:=y.l14;refine Z4 24 [3,12] H Z ?_;intro w H;refine Zl [12,3] H Z ?_;exact ⟨_,.inl ⟨f,_,Z,Z⟩,H.perm 14 [0,9,10] Z Z⟩
 have H:=y.l14;have p:=c2 a O;refine Z0 18 [4] Z ?_;replace H:=(H.mono 0 (B:=trA Tb pp mb n o (some (t1,a::(vals (putE key val (es.take 4))++(r::Q))))) Z (λh q=>q.perm (ML r a _ Q))).l14;replace H:=H.f1.f7.f8;refine AO (Sep z (blk b8 [.bool lf,c0,c5] 249::blk b9 [.bool lf,.slice ak ((kL (es.drop 4)).length) a3,v7] 249::grow 3 1 (.slice ak ((kL (es.drop 4)).length) a3) ((kL (es.drop 4)).length) ((kL (es.drop 4)).map I)::R)) 13 Z J (A5 H λw y=>?_);have H:=y.l14;refine AU [0,1,2] [1,1,0] [] (by exact H.pick 14 [0,1,2] Z) Z J Z (BO 3 Z J J J Z Z Z (Aj Z (z:=1) (j:=0) (r:=0) J Z Z Z (by simp only[Aea];first|omega|(rw[AeG];omega)) g U) (H.pick 14 [0,1,2] Z) (BO 4 Z J J J Z Z Z (Ax Z Z J (λ_ a6=>(a6.rv 2 (·.rd)).at (j:=0) (u:=I (nx (es.drop 4) hi)) (by rw[Aej,FC (by simp;omega)];rfl))) (H.pick 14 [0,1,2] Z) ?_));refine AU [5,6,7,8,9] [0,3] [] (by exact H.pick 14 [0,1,2] Z) Z J Z (AB [10] J O (An (Bo Z Z Z Z Z Z (λw=>call232 _ w) (F3 pp mb n o t1 (r::Q) a lf _ _ (putE key val (es.take 4)) _ _ (λh q=>q.rd) (λh q=>q.rd) h lo (nx (es.drop 4) hi) 4 L1 (b.bd (λv hv=>by simp[hv]) c7) a0 b7 d c3 c4 (p.2.trans hC) (p.1.trans hN) (by have:=b.k;omega)) H.f6.f6.f5 Z ?_)));rintro _ w _ ⟨t2,⟨c,b6,e3,d9⟩,rfl,rfl⟩ H;replace H:=H.l14;refine Av (H.pick 14 [3,4,5] Z) (AB [11] J O (An (Bg Z Z Z (Ak 12 H Z Z Z Z (vs:=[I (a:Int),I (nx (es.drop 4) hi),I (r:Int)]) Z (by simp[u8,u32,Value.oneCell']) J O (out:=[I (a:Int),I (nx (es.drop 4) hi),I (r:Int)]) Z) ?_)));rintro w H;replace H:=H.l14;refine Av (H.pick 14 [3,4,5] Z) (AU [12] [] [] (by exact H.pick 14 [3,4,5] Z) Z J Z (a_done J (gn (Zc 2 Z (Zl [12,3] H Z ?_)))));exact ⟨_,.inr ⟨t2,nx (es.drop 4) hi,r,L1,L2,⟨(Jy b x c).1,hL,c6,c1,b6,(Jy b x c).2⟩,Z,Z⟩,H.perm 14 [0,9,10] Z Z⟩
end
section
variable{Tb:Af}
theorem BM(X Y_:List E):vals (X++Y_)=vals X++vals Y_:=by simp[vals]
theorem B7(e:E)(Y_:List E):vals (e::Y_)=e.2::vals Y_:=rfl
theorem ZB(key:Int)(val:Nat)(es:List E):putE key val es≠[]:=by
 cases es with
 | nil=>simp[putE]
 | cons e t=>simp only[putE];split;simp;split<;>simp
theorem Hc{es:List E}(hs:Srt es){key:Int}(val:Nat)(a:¬CC key es):(vals (putE key val es)).Perm (val::vals es)/\(putE key val es).length=es.length+1:=by
 rcases key_split hs key with ⟨X,v,Y_,rfl,_⟩|⟨_,X,Y_,rfl,b,c⟩
 ·exact absurd ⟨v,by simp⟩ a
 rw[putE_new b c,BM,BM,B7];exact ⟨Afb,by simp;omega⟩
theorem Kc{es:List E}(hs:Srt es)(key:Int)(val:Nat):es.length<=(putE key val es).length/\(putE key val es).length<=es.length+1:=by
 rcases key_split hs key with ⟨X,v,Y_,rfl,a⟩|⟨b,X,Y_,e,a,c⟩
 ·rw[Ec _ a];simp
 have:=(Hc hs val b).2;omega
theorem OL{es:List E}(hs:Srt es){lo hi key:Int}(val:Nat)(b:B0 lo hi es)(a:lo<=key/\key<hi):B0 lo hi (putE key val es):=λx c=>by
 rcases (putE_mem hs x).1 c with rfl|⟨h,_⟩
 ·exact a
 exact b x h
theorem Tr.ne{N:Hm}{h r:Nat}{lo hi:Int}{m:Nat}{L:List E}(t:Tr N h r lo hi m L)(d:1<=m):L≠[]:=by
 induction h generalizing r lo hi m L with
 | zero=>
  obtain ⟨es,_,a,_,_,rfl,_⟩:=t;intro q;rw[q] at a;simp at a;omega
 | succ h ih=>
  obtain ⟨es,_,a,_,_,c⟩:=t
  cases es with
  | nil=>simp at a;omega
  | cons e t=>
   obtain ⟨L1,L2,rfl,b,_⟩:=c;intro q;exact ih b U (List.append_eq_nil_iff.1 q).1
theorem Sq.nodup{N:Hm}{h:Nat}{es:List E}{hi:Int}{L:List E}(q:Sq (λc a b L=>Tr N h c a b 4 L) es hi L)(hs:Srt es)(n:∀e∈es,e.1<hi):(vals es).Nodup:=by
 induction es generalizing L with
 | nil=>simp[vals]
 | cons e t ih=>
  obtain ⟨L1,L2,rfl,f,m⟩:=q;obtain ⟨p,l⟩:=Srt.cons.1 hs;have d:∀x∈t,x.1<hi:=λx k=>n x (by simp[k]);rw[B7,Afc];refine ⟨λo=>?_,ih m l d⟩;obtain ⟨x,k,g⟩:=Aeh.1 o;obtain ⟨A,B,rfl⟩:=List.append_of_mem k;obtain ⟨_,Lc,_,_,_,i,_⟩:=Sq.at m;rw[g] at i;obtain ⟨_,rfl⟩:=f.uniq i;have j:=f.ne U;obtain ⟨y,u,rfl⟩:=AfA j;have a1:=f.srt.2 y O;have a2:=i.srt.2 y O;have a3:nx (A++x::B) hi<=x.1:=by
   cases A with
   | nil=>exact Afg _
   | cons z A=>exact AgM ((Srt.cons.1 l).1 x O)
  omega
theorem Bd.nodup{N:Hm}{h:Nat}{es:List E}{hi:Int}{L:List E}(q:Bd N (h+1) es hi L)(hs:Srt es)(a:∀e∈es,e.1<hi):(vals es).Nodup:=Sq.nodup q hs a
theorem AbU{N:Hm}{h:Nat}{lo hi:Int}{L X Y_:List E}{e:E}{key:Int}(val:Nat)(hs:Srt (X++e::Y_))(g:B0 lo hi (X++e::Y_))(n:Bd N (h+1) (X++e::Y_) hi L)(m:X=[]\/e.1<=key)(l:∀x∈Y_,key<x.1/\e.1<x.1)(i:lo<=key/\key<hi):
  ∃L0 Lc L2,(Sq (λc a b L=>Tr N h c a b 4 L) X (min e.1 key) L0/\Tr N h e.2 (min e.1 key) (nx Y_ hi) 4 Lc/\Sq (λc a b L=>Tr N h c a b 4 L) Y_ hi L2)/\L=L0++(Lc++L2)/\putE key val L=L0++(putE key val Lc++L2)/\(lo<=min e.1 key/\min e.1 key<=key/\key<nx Y_ hi/\nx Y_ hi<=hi):=by
 obtain ⟨L0,Lc,L2,rfl,j,r,k⟩:=Sq.at n;have t:=g e O;have s:=Xu (λx d=>(l x d).1) i.2;have f:nx Y_ hi<=hi:=RL (λx d=>(g x (by simp[d])).2);obtain ⟨o,p⟩:=Sq.sides hs (λx d=>(g x d).2) j k m (λx d=>(l x d).1) i.2;refine ⟨L0,Lc,L2,⟨j.nilK ?_,r.mono U (Afg _) (Aed _),k⟩,Z,?_,by omega,by omega,s,f⟩
 ·rcases m with q|q
  ·exact .inl q
  exact .inr U
 rw[putE_lt _ o,QA _ p]
theorem Ke{lo hi:Int}{X Y_:List E}{e:E}{k1:Int}(c:Nat)(hs:Srt (X++e::Y_))(h:B0 lo hi (X++e::Y_))(n:X=[]\/k1=e.1)(o:k1<=e.1)(j:lo<=k1):Srt (X++(k1,c)::Y_)/\B0 lo hi (X++(k1,c)::Y_):=by
 obtain ⟨k,m,i⟩:=Srt.app.1 hs;obtain ⟨l,s5⟩:=Srt.cons.1 m;refine ⟨Srt.app.2 ⟨k,Srt.cons.2 ⟨λx d=>by have:=l x d;dsimp only;omega,s5⟩,λa f b g=>?_⟩,λx d=>?_⟩
 ·rcases Aei.1 g with rfl|g
  ·rcases n with rfl|rfl
   ·simp at f
   exact i a f e O
  exact i a f b (by simp[g])
 rcases Aek.1 d with d|d
 ·exact h x (by simp[d])
 rcases Aei.1 d with rfl|d
 ·have:=h e O;dsimp only;omega
 exact h x (by simp[d])
theorem Wb{lo hi:Int}{X Y_:List E}{k1 kr:Int}{c r:Nat}(hs:Srt (X++(k1,c)::Y_))(h:k1<kr)(f:kr<nx Y_ hi)(k:B0 lo hi (X++(k1,c)::Y_))(i:nx Y_ hi<=hi):putE kr r (X++(k1,c)::Y_)=X++(k1,c)::(kr,r)::Y_/\¬CC kr (X++(k1,c)::Y_)/\lo<=kr/\kr<hi:=by
 obtain ⟨m,l,j⟩:=Srt.app.1 hs;obtain ⟨n,s5⟩:=Srt.cons.1 l;have d:∀x∈X++[(k1,c)],x.1<kr:=λx a=>by
  rcases Aek.1 a with a|a
  ·have:=j x a (k1,c) O;dsimp only at this;omega
  simp at a;subst a;exact h
 have g:∀x∈Y_,kr<x.1:=λx a=>by
  cases Y_ with
  | nil=>simp at a
  | cons y t=>
   simp only[nx] at f;rcases Aei.1 a with rfl|a
   ·exact f
   have:=(Srt.cons.1 s5).1 x a;omega
 have e:X++(k1,c)::Y_=(X++[(k1,c)])++Y_:=by simp
 refine ⟨by rw[e,putE_new d g];simp,?_,by have:=(k (k1,c) O).1;dsimp only at this;omega,by omega⟩;rintro ⟨v,b⟩;rw[e] at b;rcases Aek.1 b with b|b
 ·have:=d _ b;dsimp only at this;omega
 have:=g _ b;dsimp only at this;omega
theorem M3{es:List E}(hs:Srt es){key:Int}{val c:Nat}{Q:List Nat}(a:¬CC key es):(c::(vals es++(val::Q))).Perm (c::(vals (putE key val es)++Q)):=
 Afe _ (Afb.trans (Afr Q (Hc hs val a).1.symm))
theorem M4{X Y_:List E}{key:Int}{val v0 c:Nat}{Q:List Nat}(h:∀e∈X,e.1<key):(c::(vals (X++(key,v0)::Y_)++(val::Q))).Perm (v0::(c::(vals (putE key val (X++(key,v0)::Y_))++Q))):=by
 rw[Ec _ h,BM,BM,B7,B7];have d:(vals X++v0::vals Y_++val::Q).Perm (v0::(vals X++vals Y_++val::Q)):=by
  have:(vals X++v0::vals Y_).Perm (v0::(vals X++vals Y_)):=Afb;exact Afr _ this
 have f:(vals X++vals Y_++val::Q).Perm (vals X++val::vals Y_++Q):=by
  have a:(vals X++vals Y_++val::Q).Perm (val::(vals X++vals Y_++Q)):=Afb;have b:(vals X++val::vals Y_++Q).Perm (val::(vals X++vals Y_++Q)):=Afr Q Afb;exact a.trans b.symm
 exact ((Afe c d).trans (AfR _ _ _)).trans (Afe _ (Afe _ f))
theorem ZC{X Y_:List E}{e:E}{c val:Nat}{Q:List Nat}:(c::(vals (X++e::Y_)++(val::Q))).Perm (e.2::val::(c::(vals X++(vals Y_++Q)))):=by
 rw[BM,B7];have d:(vals X++e.2::vals Y_++val::Q).Perm (e.2::val::(vals X++(vals Y_++Q))):=by
  have a:(vals X++e.2::vals Y_++val::Q).Perm (e.2::(vals X++vals Y_++val::Q)):=Afr (val::Q) Afb;have b:(vals X++vals Y_++val::Q).Perm (val::(vals X++vals Y_++Q)):=Afb;rw[<-Aec];exact a.trans (Afe _ b)
 exact (Afe c d).trans ((AfR _ _ _).trans (Afe _ (AfR _ _ _)))
theorem OM{X Y_:List E}{k1:Int}{c c2:Nat}{Q:List Nat}:(c2::(c::(vals X++(vals Y_++Q)))).Perm (c::(vals (X++(k1,c2)::Y_)++Q)):=by
 rw[BM,B7];refine (AfR _ _ _).trans (Afe _ ?_);have:(vals X++c2::vals Y_++Q).Perm (c2::(vals X++vals Y_++Q)):=Afr Q Afb;rw[<-Aec];exact this.symm
theorem TH{X Y_:List E}{k1 kr:Int}{c c2 r:Nat}{Q:List Nat}:(c2::r::(c::(vals X++(vals Y_++Q)))).Perm (c::(vals (X++(k1,c2)::(kr,r)::Y_)++Q)):=by
 have a:(r::(c::(vals X++(vals Y_++Q)))).Perm (c::(vals (X++(kr,r)::Y_)++Q)):=OM;refine (Afe c2 a).trans ((AfR _ _ _).trans (Afe _ ?_));rw[BM,BM,B7,B7,B7];have:(vals X++c2::(r::vals Y_)++Q).Perm (c2::(vals X++(r::vals Y_)++Q)):=Afr Q Afb;exact this.symm
theorem Wd{N:Hm}{es:List E}{lo hi:Int}{key:Int}{val:Nat}{b:List UInt8}(hs:Srt es)(k:B0 lo hi es)(f:lo<=key/\key<hi)(h:∀e∈es,∃b,N e.2=some (.dt b))(j:N val=some (.dt b))(c:(vals es).Nodup)(a:val∉vals es):
  Bd N 0 (putE key val es) hi (putE key val es)/\B0 lo hi (putE key val es)/\(vals (putE key val es)).Nodup:=by
 refine ⟨⟨Z,λe l=>?_⟩,OL hs val k f,?_⟩
 ·rcases (putE_mem hs e).1 l with rfl|⟨d,_⟩
  ·exact ⟨b,j⟩
  exact h e d
 rcases key_split hs key with ⟨X,v,Y_,rfl,d⟩|⟨g,X,Y_,rfl,d,m⟩
 ·rw[Ec _ d,BM,B7]
  rw[BM,B7] at c a;simp only[Aek,Aei,not_or] at a;have i:(val::(vals X++vals Y_)).Nodup:=Afc.2 ⟨by simp[a.1,a.2.2],(Afc.1 (Afb.nodup_iff.1 c)).2⟩;exact Afb.nodup_iff.2 i
 exact (Hc hs val g).1.nodup_iff.2 (Afc.2 ⟨a,c⟩)
theorem Jz{lo hi:Int}{es:List E}(a:B0 lo hi es)(c:0<=lo)(d:hi<=1048576):∀e∈es,0<=e.1/\e.1<1048576:=λe b=>by have:=a e b;omega
theorem RN(pp mb n:Nat)(o:TB)(t:TS)(Q:List Nat)(a:Nat)(lf:Bool)(j l:Value)(es:List E)(A B:Af)(hA:Gm A j es)(x:Gn B l es)(key:Int)(val:Nat)(g:(0<=key/\key<1048576)/\1<=val/\val<1024)(d:CkN lf (kL es) (vL es))(hs:Srt es)(h:Nat)(lo hi:Int)(m:Nat)(L:List E)(e:Bd t.N h (putE key val es) hi L)(i:lf=decide (h=0))(c:B0 lo hi (putE key val es))(b:(vals (putE key val es)).Nodup)(y:t.C a=1)(hN:t.N a=none)(w:t.k<39)
  (hm:m<=(putE key val es).length)(p:0<=lo)(u:hi<=1048576):
  Cn prog 231 [Y pp,I (a:Int),DB lf j l,I key,I (val:Int)] [trA Tb pp mb n o (some (t,a::(vals (putE key val es)++Q))),A,B] (λv Γ=>(cnt t.F 0 1024=0/\∃s:TS×List Nat,v=.tuple #[.agg #[I 0,I 0,I 0],I 20]/\Γ=[trA Tb pp mb n o (some s),A,B])\/(∃t2:TS,(St t t2 Q 1 2/\Tr t2.N h a lo hi m L)/\v=.tuple #[.agg #[I (a:Int),I 0,I 0],I 0]/\Γ=[trA Tb pp mb n o (some (t2,a::Q)),A,B])\/
   ∃(t2:TS) (kr:Int) (r:Nat) (z L2:List E),(St t t2 Q 1 2/\L=z++L2/\lo<kr/\kr<hi/\Tr t2.N h a lo kr 4 z/\Tr t2.N h r kr hi 4 L2)/\v=.tuple #[.agg #[I (a:Int),I kr,I (r:Int)],I 0]/\Γ=[trA Tb pp mb n o (some (t2,a::r::Q)),A,B]):=by
 have f:=Jz c p u;have h8:es.length<=8:=by have:=d.l8;simpa [kL] using this
 by_cases hf:CC key es\/es.length<8
 ·have hl:(putE key val es).length<=8:=by
   rcases hf with q|q
   ·rcases key_split hs key with ⟨X,v,Y_,rfl,u⟩|⟨p,_⟩
    ·rw[Ec _ u];simpa using h8
    exact absurd q p
   have:=(Kc hs key val).2;omega
  refine Cn.mono (AbS pp mb n o t Q a lf j l es A B hA x key val g d hs h lo hi m L e i c b y hN w hm ⟨J9 hs,hl,f,λ_=>ZB _ _ _⟩ hf) ?_;rintro v Γ ⟨t2,⟨a1,a2⟩,rfl,rfl⟩;exact .inr (.inl ⟨t2,⟨a1.sub (λ_ q=>q) U U,a2⟩,Z,Z⟩)
 simp only[not_or] at hf;refine Cn.mono (AbT pp mb n o t Q a lf j l es A B hA x key val g d hs h lo hi m L e i c b y hN w f hf.1 U) ?_;rintro v Γ (q|q)
 ·exact .inl q
 exact .inr (.inr q)
structure InsPre(n:Nat)(t:TS)(Q:List Nat)(a h:Nat)(lo hi:Int)(m:Nat)(key:Int)(val:Nat)(L:List E):Prop where
 T:Tr t.N h a lo hi m L
 kk:lo<=key/\key<hi
 l0:0<=lo
 h1:hi<=1048576
 dt:∃b,t.N val=some (.dt b)
 nv:∀q d,t.N q=some (.nd d)->val∉vals d.es
 hk:t.k+3*h+3<40
 hb:Q.length+10*h+12+n<=980
abbrev JA(Tb:Af)(pp mb n:Nat)(o:TB)(t:TS)(Q:List Nat)(h:Nat)(lo hi:Int)(m:Nat)(key:Int)(val:Nat)(L:List E)(v:Value)(Γ:List Af):Prop:=
 (cnt t.F 0 1024<=2*h+1/\∃s:TS×List Nat,v=.tuple #[.agg #[.int .i64 0,.int .i64 0,.int .i64 0],.int .i64 20]/\Γ=[trA Tb pp mb n o (some s)])\/
 (∃(t2:TS) (c:Nat),(St t t2 Q (2*h+2) (3*h+3)/\Tr t2.N h c lo hi m (putE key val L))/\v=.tuple #[.agg #[.int .i64 (c:Int),.int .i64 0,.int .i64 0],.int .i64 0]/\Γ=[trA Tb pp mb n o (some (t2,c::Q))])\/
 ∃(t2:TS) (c:Nat) (kr:Int) (r:Nat) (L1 L2:List E),(St t t2 Q (2*h+2) (3*h+3)/\putE key val L=L1++L2/\lo<kr/\kr<hi/\Tr t2.N h c lo kr 4 L1/\Tr t2.N h r kr hi 4 L2)/\v=.tuple #[.agg #[.int .i64 (c:Int),.int .i64 kr,.int .i64 (r:Int)],.int .i64 0]/\Γ=[trA Tb pp mb n o (some (t2,c::r::Q))]
variable{t1 t2:TS}{X Y_ Q':List E}{e:E}{Q:List Nat}{c c2 r h d1 d2:Nat}{lo hi key kr:Int}{L0 Lc L2 M1 M2:List E}
theorem MM(S:St t1 t2 (c::(vals X++(vals Y_++Q))) d1 d2)(g:Sq (λc a b L=>Tr t1.N h c a b 4 L) X (min e.1 key) L0)(d:Sq (λc a b L=>Tr t1.N h c a b 4 L) Y_ hi L2):Sq (λc a b L=>Tr t2.N h c a b 4 L) X (min e.1 key) L0/\Sq (λc a b L=>Tr t2.N h c a b 4 L) Y_ hi L2:=
 ⟨Sq.imp g λx f _ _ q=>S.fr _ (by simp[Aeu f,vals]) _ _ _ _ _ q,Sq.imp d λx f _ _ q=>S.fr _ (by simp[Aeu f,vals]) _ _ _ _ _ q⟩
theorem ZD(S:St t1 t2 (c::(vals X++(vals Y_++Q))) d1 d2)(d:Sq (λc a b L=>Tr t1.N h c a b 4 L) X (min e.1 key) L0)(g:Sq (λc a b L=>Tr t1.N h c a b 4 L) Y_ hi L2)(m:Tr t2.N h c2 (min e.1 key) (nx Y_ hi) 4 Lc)(hs:Srt (X++e::Y_))(k:B0 lo hi (X++e::Y_))(n:X=[]\/e.1<=key)(f:lo<=min e.1 key):
  Bd t2.N (h+1) (X++(min e.1 key,c2)::Y_) hi (L0++(Lc++L2))/\(Srt (X++(min e.1 key,c2)::Y_)/\B0 lo hi (X++(min e.1 key,c2)::Y_))/\(vals (X++(min e.1 key,c2)::Y_)).Nodup:=by
 obtain ⟨a,b⟩:=MM S d g;have i:=Ke c2 hs k (k1:=min e.1 key) (n.imp id (λq=>by omega)) U f;have j:Bd t2.N (h+1) (X++(min e.1 key,c2)::Y_) hi (L0++(Lc++L2)):=Sq.mk a m b;exact ⟨j,i,j.nodup i.1 (λx l=>(i.2 x l).2)⟩
theorem ZE(S:St t1 t2 (c::(vals X++(vals Y_++Q))) d1 d2)(l:Sq (λc a b L=>Tr t1.N h c a b 4 L) X (min e.1 key) L0)(s:Sq (λc a b L=>Tr t1.N h c a b 4 L) Y_ hi L2)(z:Tr t2.N h c2 (min e.1 key) kr 4 M1)(p:Tr t2.N h r kr (nx Y_ hi) 4 M2)(hs:Srt (X++e::Y_))(y:B0 lo hi (X++e::Y_))(hX:X=[]\/e.1<=key)(m:lo<=min e.1 key)(n:min e.1 key<kr)(o:kr<nx Y_ hi)(j:nx Y_ hi<=hi):
  (Srt (X++(min e.1 key,c2)::Y_))/\putE kr r (X++(min e.1 key,c2)::Y_)=X++(min e.1 key,c2)::(kr,r)::Y_/\Bd t2.N (h+1) (putE kr r (X++(min e.1 key,c2)::Y_)) hi (L0++((M1++M2)++L2))/\B0 lo hi (putE kr r (X++(min e.1 key,c2)::Y_))/\(vals (putE kr r (X++(min e.1 key,c2)::Y_))).Nodup/\lo<=kr/\kr<hi:=by
 obtain ⟨a,b⟩:=MM S l s;have d:=Ke c2 hs y (k1:=min e.1 key) (hX.imp id (λq=>by omega)) U m;obtain ⟨hp,_,i,f⟩:=Wb (r:=r) d.1 n o d.2 j;have g:=OL d.1 r d.2 ⟨i,f⟩;have t:=J9 (k:=kr) (v:=r) d.1;have u:Bd t2.N (h+1) (putE kr r (X++(min e.1 key,c2)::Y_)) hi (L0++((M1++M2)++L2)):=by
  rw[hp];have:L0++((M1++M2)++L2)=L0++(M1++(M2++L2)):=by simp
  rw[this];exact Sq.mk (e:=(min e.1 key,c2)) (B:=(kr,r)::Y_) a z ⟨M2,L2,Z,p,b⟩
 exact ⟨d.1,hp,u,g,u.nodup t (λx w=>(g x w).2),i,f⟩
theorem We(b:B0 lo hi (X++e::Y_))(d:lo<=min e.1 key):∀x∈X++(min e.1 key,c)::Y_,lo<=x.1/\x.1<hi:=λx a=>by
 rcases Aek.1 a with a|a
 ·exact b x (by simp[a])
 rcases Aei.1 a with rfl|a
 ·have:=b e O;dsimp only;omega
 exact b x (by simp[a])
end
section
variable{Tb:Af}
set_option maxHeartbeats 2000000 in
theorem AbV (pp mb n:Nat) (o:TB) (t:TS) (Q:List Nat) (a:Nat) (lo hi:Int) (m:Nat) (key:Int) (val:Nat) (L:List E) (hP:InsPre n t Q a 0 lo hi m key val L):Cn prog 198 [Y pp,I (a:Int),I key,I (val:Int)] [trA Tb pp mb n o (some (t,a::val::Q))] (λv Γ=>JA Tb pp mb n o t Q 0 lo hi m key val L v Γ):=by
 intro z R w H;replace H:=H.l1;have K:=H.says 0 Z (λh a=>trA.k a);have hn:=K.hn;have c2:=hP.kk;have h0:=hP.l0;have a0:=hP.h1;have c5:=hP.nv;have d1:=hP.hk;have d3:=hP.hb;obtain ⟨b,b9⟩:=hP.dt;have d6:=K.i.rin val (by simp[CT]);obtain ⟨es,hN,hm,c3,l,a8,b6⟩:=hP.T;have b0:CkN true (kL es) (vL es):=K.i.vok U hn.2 hN;have c7:=(K.i.nds a _ hN).2.1;have a9:(0<=key/\key<1048576)/\1<=val/\val<1024:=by omega
 obtain rfl:es=L:=a8.symm;refine Ae func198 Z ntmps198 Z (Za 2 [] H Z ?_);intro b1 w H;refine Zc 7 Z (Aq Z (call230 _) (Jx pp mb n o t (val::Q) a true es hN U (by simp only[Aeb];omega)) H.f1 ?_);rintro _ w _ (⟨c6,v2,v3,s,rfl,rfl⟩|⟨t1,c,v2,v3,O_,rfl,rfl⟩) H'
 ·have H:=H'.l4;have a7:=H.sy 0 (·.slc)
  have a2:=H.sy 1 (·.slc);refine Za 4 [] H Z ?_;intro b4 w H;refine Zc 1 Z (Az Z Z (Ak 0 H Z Z Z Z (vs:=[.bool true,v2,v3]) Z (Ad Z (Ad a7.one (Ad a2.one Aw))) J O (out:=[.bool true,v2,v3]) Z) ?_);rintro w H;replace H:=H.l5;refine Z4 20 [3,4] H Z ?_;intro w H;refine Zl [4,3] H Z ?_;exact ⟨_,.inl ⟨U,_,Z,Z⟩,H.perm 5 [3] Z Z⟩
 have H:=H'.l4;have a7:=H.sy 0 (·.slc);have a2:=H.sy 1 (·.slc);refine Za 4 [] H Z ?_;intro b5 w H;refine Zc 1 Z (Az Z Z (Ak 0 H Z Z Z Z (vs:=[.bool true,v2,v3]) Z (Ad Z (Ad a7.one (Ad a2.one Aw))) J O (out:=[.bool true,v2,v3]) Z) ?_);rintro w H;replace H:=H.l5;refine Z0 15 [4] Z ?_;obtain ⟨b7,b3,b2⟩:=Wd (N:=t1.N) l.srt c3 c2 (λe he=>by obtain ⟨b,hb⟩:=b6 e he;exact ⟨b,O_.dv _ (Aeu he) b hb⟩) (O_.st.dt val O b b9) c7 (c5 a _ hN);refine Z2 11 [0,0,0,0,3] H Z (Aq Z (call161 _) (OK (es:=es) (λh q=>q.rd) (λh q=>q.rd) l.len l.srt key) H.f2.f2 ?_);rintro _ w _ (⟨X,v0,Y_,⟨a1,hX⟩,rfl,rfl⟩|⟨c4,i0,rfl,rfl⟩) H'
 ·have H:=H'.l5;refine Zc 14 Z ?_;have c0:∀d,t1.N v0≠some (.nd d):=λd q=>by obtain ⟨b,hb⟩:=b6 (key,v0) (by rw[a1];simp);rw[O_.dv v0 (by rw[a1];simp[vals]) b hb] at q;cases q
  obtain ⟨c9,d2,rfl⟩:=a2;have b8:=(H.rv 1 (·.rd)).at (j:=X.length) (u:=I (v0:Int)) (by rw[a1];simp[vL]);replace H:=(H.mono 3 (B:=trA Tb pp mb n o (some (t1,v0::(c::(vals (putE key val es)++Q))))) Z (λh q=>q.perm (by rw[a1];exact M4 hX))).l5;refine Z2 5 [2,2,0] H Z (Ab Z (Aj Z (z:=1) (j:=X.length) (r:=X.length) J Z Z Z (by rw[a1];simp) b8 U) (Ab Z (Ax Z Z J (Ay b8)) (Aq Z (call202 _) (GU pp mb n o t1 _ v0 c0) H.f3 ?_)));rintro _ w _ ⟨t2,⟨x,d4,d7,d0,d5⟩,rfl,rfl⟩ H;refine Z2 19 [4,3,3] H Z (Aq Z (call231 _) (RN pp mb n o t2 Q c true _ _ es _ _ (λh q=>q.rd) (λh q=>q.rd) key val a9 b0 l.srt 0 lo hi m (putE key val es) (x.bd (λv hv=>by simp[hv]) b7) Z b3 b2 (x.op c O O_.N0 O_.C1).2 (x.op c O O_.N0 O_.C1).1 (by have:=O_.st.k;have:=x.k;omega) (by have:=(Kc (es:=es) l.srt key val).1;omega) h0 a0) H ?_);rintro _ w _ (⟨c8,s3,rfl,rfl⟩|⟨t3,⟨g,y⟩,rfl,rfl⟩|⟨t3,c1,r3,L3,L4,⟨g,a5,a6,a3,y,a4⟩,rfl,rfl⟩) H'
  ·have H:=H'.l5;refine Z4 7 [4] H Z ?_;intro w H;refine Zl [4,3] H Z ?_;exact ⟨_,.inl ⟨(by have:=O_.st.f;have:=x.f;omega),_,Z,Z⟩,H.perm 5 [0] Z Z⟩
  ·have H:=H'.l5;refine Z4 7 [4] H Z ?_;intro w H;refine Zl [4,3] H Z ?_;exact ⟨_,.inr (.inl ⟨_,c,⟨((O_.st.sub (λp hp=>by simp[hp]) (Aed _) (Aed _)).trans x (R:=Q) (R1:=Q) (λp hp=>hp) (λp hp=>by simp[hp]) (e:=1) (f:=1) U U).trans g (λp hp=>hp) (λp hp=>hp) U U,y⟩,Z,Z⟩),H.perm 5 [0] Z Z⟩
  have H:=H'.l5;refine Z4 7 [4] H Z ?_;intro w H;refine Zl [4,3] H Z ?_;exact ⟨_,.inr (.inr ⟨_,c,_,_,_,_,⟨((O_.st.sub (λp hp=>by simp[hp]) (Aed _) (Aed _)).trans x (R:=Q) (R1:=Q) (λp hp=>hp) (λp hp=>by simp[hp]) (e:=1) (f:=1) U U).trans g (λp hp=>hp) (λp hp=>hp) U U,a5,a6,a3,y,a4⟩,Z,Z⟩),H.perm 5 [0] Z Z⟩
 have H:=H'.l5;refine Zc 16 Z ?_;replace H:=(H.mono 3 (B:=trA Tb pp mb n o (some (t1,c::(vals (putE key val es)++Q)))) Z (λh q=>q.perm (M3 l.srt c4))).l5;refine Z2 6 [2,3] H Z (Aq Z (call231 _) (RN pp mb n o t1 Q c true _ _ es _ _ (λh q=>q.rd) (λh q=>q.rd) key val a9 b0 l.srt 0 lo hi m (putE key val es) b7 Z b3 b2 O_.C1 O_.N0 (by have:=O_.st.k;omega) (by have:=(Kc (es:=es) l.srt key val).1;omega) h0 a0) H.f1.f1.f3 ?_);rintro _ w _ (⟨c8,s3,rfl,rfl⟩|⟨t3,⟨g,y⟩,rfl,rfl⟩|⟨t3,c1,r3,L3,L4,⟨g,a5,a6,a3,y,a4⟩,rfl,rfl⟩) H'
 ·have H:=H'.l5;refine Z4 7 [4] H Z ?_;intro w H;refine Zl [4,3] H Z ?_;exact ⟨_,.inl ⟨(by have:=O_.st.f;omega),_,Z,Z⟩,H.perm 5 [0] Z Z⟩
 ·have H:=H'.l5;refine Z4 7 [4] H Z ?_;intro w H;refine Zl [4,3] H Z ?_;exact ⟨_,.inr (.inl ⟨_,c,⟨(O_.st.sub (λp hp=>by simp[hp]) (Aed _) (Aed _)).trans g (R:=Q) (R1:=Q) (λp hp=>hp) (λp hp=>hp) U U,y⟩,Z,Z⟩),H.perm 5 [0] Z Z⟩
 have H:=H'.l5;refine Z4 7 [4] H Z ?_;intro w H;refine Zl [4,3] H Z ?_;exact ⟨_,.inr (.inr ⟨_,c,_,_,_,_,⟨(O_.st.sub (λp hp=>by simp[hp]) (Aed _) (Aed _)).trans g (R:=Q) (R1:=Q) (λp hp=>hp) (λp hp=>hp) U U,a5,a6,a3,y,a4⟩,Z,Z⟩),H.perm 5 [0] Z Z⟩
set_option maxHeartbeats 4000000 in
theorem AbW (pp mb n:Nat) (o:TB) (t:TS) (Q:List Nat) (h:Nat) (ih:∀(t:TS) (Q:List Nat) (a:Nat) (lo hi:Int) (m:Nat) (key:Int) (val:Nat) (L:List E),InsPre n t Q a h lo hi m key val L->Cn prog 198 [Y pp,I (a:Int),I key,I (val:Int)] [trA Tb pp mb n o (some (t,a::val::Q))] (λv Γ=>JA Tb pp mb n o t Q h lo hi m key val L v Γ)) (a:Nat) (lo hi:Int) (m:Nat) (key:Int) (val:Nat) (L:List E) (hP:InsPre n t Q a (h+1) lo hi m key val L):Cn prog 198 [Y pp,I (a:Int),I key,I (val:Int)] [trA Tb pp mb n o (some (t,a::val::Q))] (λv Γ=>JA Tb pp mb n o t Q (h+1) lo hi m key val L v Γ):=by
 intro z R w H;replace H:=H.l1;have K:=H.says 0 Z (λh a=>trA.k a);have f9:=hP.kk;have h0:=hP.l0;have a3:=hP.h1;have g0:=hP.nv;have i3:=hP.hk;have h7:=hP.hb;obtain ⟨b,e8⟩:=hP.dt;obtain ⟨es,hN,hm,f4,a6,g1⟩:=hP.T;refine Ae func198 Z ntmps198 Z (Za 2 [] H Z ?_);intro b1 w H;refine Zc 7 Z (Aq Z (call230 _) (Jx pp mb n o t (val::Q) a false es hN U (by simp only[Aeb];omega)) H.f1 ?_);rintro _ w _ (⟨f6,v2,v3,s,rfl,rfl⟩|⟨t1,c,v2,v3,O_,rfl,rfl⟩) H'
 ·have H:=H'.l4;have d4:=H.sy 0 (·.slc)
  have b3:=H.sy 1 (·.slc);refine Za 4 [] H Z ?_;intro b4 w H;refine Zc 1 Z (Az Z Z (Ak 0 H Z Z Z Z (vs:=[.bool false,v2,v3]) Z (Ad Z (Ad d4.one (Ad b3.one Aw))) J O (out:=[.bool false,v2,v3]) Z) ?_);rintro w H;replace H:=H.l5;refine Z4 20 [3,4] H Z ?_;intro w H;refine Zl [4,3] H Z ?_;exact ⟨_,.inl ⟨U,_,Z,Z⟩,H.perm 5 [3] Z Z⟩
 have H:=H'.l4;have d4:=H.sy 0 (·.slc);have b3:=H.sy 1 (·.slc);refine Za 4 [] H Z ?_;intro b5 w H;refine Zc 1 Z (Az Z Z (Ak 0 H Z Z Z Z (vs:=[.bool false,v2,v3]) Z (Ad Z (Ad d4.one (Ad b3.one Aw))) J O (out:=[.bool false,v2,v3]) Z) ?_);rintro w H;replace H:=H.l5;refine Z2 27 [4,0,0,0,0,3] H Z (Aq Z (call162 _) (LZ (es:=es) (λh q=>q.rd) (λh q=>q.rd) a6.len a6.srt (a6.ne Z) key) H.f2.f2 ?_);rintro _ w _ ⟨X,e,Y_,⟨g,hX,i1,hY⟩,rfl,rfl⟩ H;refine Zc 4 Z ?_;obtain ⟨h3,d9,rfl⟩:=b3;have e6:=(H.rv 1 (·.rd)).at (j:=X.length) (u:=I (e.2:Int)) (by rw[g];simp[vL]);replace H:=(H.mono 3 (B:=trA Tb pp mb n o (some (t1,e.2::val::(c::(vals X++(vals Y_++Q)))))) Z (λh q=>q.perm (by rw[g];exact ZC))).l5;have c8:Srt (X++e::Y_):=by rw[<-g];exact a6.srt
 have b0:B0 lo hi (X++e::Y_):=by rw[<-g];exact f4
 obtain ⟨L0,Lc,L2,⟨e3,g2,e0⟩,h4,d8,c7,f8,f5,e7⟩:=AbU val c8 b0 (by rw[<-g];exact O_.bd g1) hX hY f9;have h5:(vals X).length+(vals Y_).length+1=es.length:=by rw[g];simp[vals];omega
 have h2:es.length<=8:=a6.len;refine Z2 5 [2,2,0] H Z (Ab Z (Aj Z (z:=1) (j:=X.length) (r:=X.length) J Z Z Z (by rw[g];simp) e6 U) (Ab Z (Ax Z Z J (Ay e6)) (Zc 2 Z (Aq Z (call198 _) (ih t1 (c::(vals X++(vals Y_++Q))) e.2 (min e.1 key) (nx Y_ hi) 4 key val Lc ⟨g2,⟨f8,f5⟩,by omega,by omega,⟨b,O_.st.dt val O b e8⟩,λq d hq=>g0 q d (O_.sub q d hq),by have:=O_.st.k;omega,by simp only[Aeb,Ad9];omega⟩) H.f3 ?_))));rintro _ w _ (⟨i4,s2,rfl,rfl⟩|⟨t2,c2,⟨l,c9⟩,rfl,rfl⟩|⟨t2,c2,kr,r,M1,M2,⟨l,g5,g3,g6,c9,a4⟩,rfl,rfl⟩) H'
 ·have H:=H'.l5;refine Za 3 [] H Z ?_;intro b6 w H;refine Z4 21 [0,3,5] H Z ?_;intro w H;refine Zl [5,3] H Z ?_;exact ⟨_,.inl ⟨(by have:=O_.st.f;omega),_,Z,Z⟩,H.perm 6 [1] Z Z⟩
 ·have H:=H'.l5;refine Za 3 [] H Z ?_;intro b7 w H;refine Z4 15 [0,4] H Z ?_;intro w H;have f0:X.length<es.length:=by rw[g];simp
  have a8:0<(kL es).length:=by simp only[Aea];omega
  have a7:0<(vL es).length:=by simp only[Aea];omega
  obtain ⟨gk,a1,y,rfl,e1,d7,d6,H⟩:=H.ungrow 2 Z a8;replace H:=H.l6;obtain ⟨c1,a9,a0,d2,c6,c5,d0,H'⟩:=H.ungrow 3 Z a7;cases d2;clear H;have H:=H'.l6;refine Z2 6 [2,4,0,0,0,0] H Z (Ab Z (CH Z (z:=1) (j:=X.length) (r:=X.length) J Z Z Z (by simp only[Aea];omega) U) (Az Z Z (Ak 3 H Z Z Z Z (vs:=[I (c2:Int)]) Z (by simp[u8,u32,Value.oneCell']) J (by simp only[Ad9,Aea,Aeb,Aew];omega) (out:=(((vL es).set X.length (c2:Int)).map I++a0)) (Eb (by simp only[Aea];omega))) ?_));rintro w H;replace H:=H.l6;refine Zc 3 Z (BG 11 J J (A5 H λw H'=>?_));have H:=H'.l6;refine PN 6 [1,0,1,0] (AS (H.blk 4 Z) AN) Z J Z (B9 Z Z Z (CH Z (z:=1) (j:=X.length) (r:=X.length) J Z Z Z (by simp only[Aea];omega) U) (B9 Z Z Z (Bf Z Z J (Ay (H.cel 2 Z X.length (show ((kL es).map I++y)[X.length]?=some (I e.1) from (by rw[Aeg (by simp only[Aea];omega),Aej,Aej,g];simp))))) ?_));refine PO 1 [] Z J (B9 Z Z Z (Kn Z Z Z) (B9 Z Z Z (CH Z (z:=1) (j:=X.length) (r:=X.length) J Z Z Z (by simp only[Aea];omega) U) (CD (gw (Az Z Z (Ak 2 H Z Z Z Z (vs:=[I (min (e.1:Int) key)]) Z (by simp[u8,u32,Value.oneCell']) J (by simp only[Ad9,Aea,Aeb,Aew];omega) (out:=(((kL es).set X.length (min e.1 key)).map I++y)) (Eb (by simp only[Aea];omega))) ?_)))));rintro w H;replace H:=H.l6;refine Zc 4 Z ?_;have c3:(kL es).length=(kL (X++(min e.1 key,c2)::Y_)).length:=by rw[g];simp
  have c4:(vL es).length=(vL (X++(min e.1 key,c2)::Y_)).length:=by rw[g];simp
  have d1:(kL es).set X.length (min e.1 key)=kL (X++(min e.1 key,c2)::Y_):=by rw[g];simp[kL,AfT]
  have d3:(vL es).set X.length (c2:Int)=vL (X++(min e.1 key,c2)::Y_):=by rw[g];simp[vL,AfT]
  replace H:=(H.mono 2 (B:=grow 3 1 (.slice (some ⟨gk,0,none⟩) ((kL es).length) a1) ((kL es).length) ((kL (X++(min e.1 key,c2)::Y_)).map I)) Z (λh q=>q.grow U U (by simp only[Ad9,Aea,AeP];simp only[Aea] at *;omega) (by rw[AeK,AeA O,d1]))).l6;replace H:=(H.mono 3 (B:=grow 3 1 (.slice (some ⟨c1,0,none⟩) ((vL es).length) d9) ((vL es).length) ((vL (X++(min e.1 key,c2)::Y_)).map I)) Z (λh q=>q.grow U U (by simp only[Ad9,Aea,AeP];simp only[Aea] at *;omega) (by rw[AeK,AeA O,d3]))).l6;refine Z2 10 [2,0,0,4] H Z ?_;obtain ⟨c0,⟨b2,e4⟩,b9⟩:=ZD l e3 e0 c9 c8 b0 hX c7;have i8:((X++(min e.1 key,c2)::Y_):List E).length=es.length:=by rw[g];simp
  replace H:=(H.mono 1 (B:=trA Tb pp mb n o (some (t2,c::(vals (X++(min e.1 key,c2)::Y_)++Q)))) Z (λh q=>q.perm OM)).l6;refine Z2 6 [4,3] H Z (Aq Z (call232 _) (F3 pp mb n o t2 Q c false _ _ (X++(min e.1 key,c2)::Y_) _ _ (λh q=>by rw[<-c3];exact q.rd) (λh q=>by rw[<-c4];exact q.rd) (h+1) lo hi m (putE key val L) (by rw[d8];exact c0) O e4 U ⟨b2,by dsimp only;omega,Jz e4 h0 a3,λ_=>by simp⟩ b9 (l.op c O O_.N0 O_.C1).2 (l.op c O O_.N0 O_.C1).1 (by have:=O_.st.k;have:=l.k;omega)) H.f3.f3.f3 ?_);rintro _ w _ ⟨t3,⟨a2,a4,i6,h6⟩,rfl,rfl⟩ H;refine Z4 5 [5] H Z ?_;intro w H;refine Zl [5,3] H Z ?_;exact ⟨_,.inr (.inl ⟨_,c,⟨((O_.st.sub (R':=Q) (λp hp=>by simp[hp]) (Aed _) (Aed _)).trans l (R:=Q) (R1:=Q) (λp hp=>hp) (λp hp=>by simp[hp]) (Aed _) (Aed _)).trans a2 (λp hp=>hp) (λp hp=>hp) U U,a4⟩,Z,Z⟩),H.perm 6 [0] Z Z⟩
 have H:=H'.l5;refine Za 3 [] H Z ?_;intro b8 w H;refine Z4 15 [0,4] H Z ?_;intro w H;have f0:X.length<es.length:=by rw[g];simp
 have a8:0<(kL es).length:=by simp only[Aea];omega
 have a7:0<(vL es).length:=by simp only[Aea];omega
 obtain ⟨gk,a1,y,rfl,e1,d7,d6,H⟩:=H.ungrow 2 Z a8;replace H:=H.l6;obtain ⟨c1,a9,a0,d2,c6,c5,d0,H'⟩:=H.ungrow 3 Z a7;cases d2;clear H;have H:=H'.l6;refine Z2 6 [2,4,0,0,0,0] H Z (Ab Z (CH Z (z:=1) (j:=X.length) (r:=X.length) J Z Z Z (by simp only[Aea];omega) U) (Az Z Z (Ak 3 H Z Z Z Z (vs:=[I (c2:Int)]) Z (by simp[u8,u32,Value.oneCell']) J (by simp only[Ad9,Aea,Aeb,Aew];omega) (out:=(((vL es).set X.length (c2:Int)).map I++a0)) (Eb (by simp only[Aea];omega))) ?_));rintro w H;replace H:=H.l6;refine Zc 3 Z (BG 11 J J (A5 H λw H'=>?_));have H:=H'.l6;refine PN 6 [1,0,1,0] (AS (H.blk 4 Z) AN) Z J Z (B9 Z Z Z (CH Z (z:=1) (j:=X.length) (r:=X.length) J Z Z Z (by simp only[Aea];omega) U) (B9 Z Z Z (Bf Z Z J (Ay (H.cel 2 Z X.length (show ((kL es).map I++y)[X.length]?=some (I e.1) from (by rw[Aeg (by simp only[Aea];omega),Aej,Aej,g];simp))))) ?_));refine PO 1 [] Z J (B9 Z Z Z (Kn Z Z Z) (B9 Z Z Z (CH Z (z:=1) (j:=X.length) (r:=X.length) J Z Z Z (by simp only[Aea];omega) U) (CD (gw (Az Z Z (Ak 2 H Z Z Z Z (vs:=[I (min (e.1:Int) key)]) Z (by simp[u8,u32,Value.oneCell']) J (by simp only[Ad9,Aea,Aeb,Aew];omega) (out:=(((kL es).set X.length (min e.1 key)).map I++y)) (Eb (by simp only[Aea];omega))) ?_)))));rintro w H;replace H:=H.l6;refine Zc 4 Z ?_;have c3:(kL es).length=(kL (X++(min e.1 key,c2)::Y_)).length:=by rw[g];simp
 have c4:(vL es).length=(vL (X++(min e.1 key,c2)::Y_)).length:=by rw[g];simp
 have d1:(kL es).set X.length (min e.1 key)=kL (X++(min e.1 key,c2)::Y_):=by rw[g];simp[kL,AfT]
 have d3:(vL es).set X.length (c2:Int)=vL (X++(min e.1 key,c2)::Y_):=by rw[g];simp[vL,AfT]
 have i7:manyN n+1<=r:=by have K3:=H.says 1 Z (λh a=>trA.k a);exact (K3.i.rin r (by simp[CT])).1
 replace H:=(H.mono 2 (B:=grow 3 1 (.slice (some ⟨gk,0,none⟩) ((kL es).length) a1) ((kL es).length) ((kL (X++(min e.1 key,c2)::Y_)).map I)) Z (λh q=>q.grow U U (by simp only[Ad9,Aea,AeP];simp only[Aea] at *;omega) (by rw[AeK,AeA O,d1]))).l6;replace H:=(H.mono 3 (B:=grow 3 1 (.slice (some ⟨c1,0,none⟩) ((vL es).length) d9) ((vL es).length) ((vL (X++(min e.1 key,c2)::Y_)).map I)) Z (λh q=>q.grow U U (by simp only[Ad9,Aea,AeP];simp only[Aea] at *;omega) (by rw[AeK,AeA O,d3]))).l6;refine Z2 6 [2,0,0,0] H Z (Ag Z (λh1=>?_) (λh1=>?_))
 ·refine Zc 1 Z ?_;obtain ⟨b2,a5,c0,d5,b9,g9,g8⟩:=ZE (r:=r) l e3 e0 c9 a4 c8 b0 hX c7 g3 g6 e7;have i2:(putE kr r (X++(min e.1 key,c2)::Y_)).length=es.length+1:=by rw[a5,g];simp only[Ad9,Aeb];omega
  replace H:=(H.mono 1 (B:=trA Tb pp mb n o (some (t2,c::(vals (putE kr r (X++(min e.1 key,c2)::Y_))++Q)))) Z (λh q=>q.perm (by rw[a5];exact TH))).l6;have K2:=H.says 1 Z (λh a=>trA.k a);have e2:(0<=kr/\kr<1048576)/\1<=r/\r<1024:=by have:=K2.i.rin r (by simp[CT,a5,vals]);omega
  have e5:CkN false (kL (X++(min e.1 key,c2)::Y_)) (vL (X++(min e.1 key,c2)::Y_)):=CkN.of ⟨b2,by have:((X++(min e.1 key,c2)::Y_):List E).length=es.length:=(by rw[g];simp);dsimp only;omega,λx hx=>by have:=We b0 c7 (c:=c2) x hx;omega,λ_=>by simp⟩ (λv hv=>by have:=K2.i.rin v (by simp only[CT,a5,BM,B7] at hv ⊢;simp only[Aei,Aek] at hv ⊢;rcases hv with h|h|h<;>simp[h]);omega);refine Z2 8 [4,3,1,0,0,2,0,0] H Z (Aq Z (call231 _) (RN pp mb n o t2 Q c false _ _ (X++(min e.1 key,c2)::Y_) _ _ (λh q=>by rw[<-c3];exact q.rd) (λh q=>by rw[<-c4];exact q.rd) kr r e2 e5 b2 (h+1) lo hi m (putE key val L) (by rw[d8,g5];exact c0) O d5 b9 (l.op c O O_.N0 O_.C1).2 (l.op c O O_.N0 O_.C1).1 (by have:=O_.st.k;have:=l.k;omega) U h0 a3) H.f3.f3.f3 ?_);rintro _ w _ (⟨h9,s3,rfl,rfl⟩|⟨t3,⟨a2,a4⟩,rfl,rfl⟩|⟨t3,i5,r3,L3,L4,⟨a2,f7,g7,e9,a4,g4⟩,rfl,rfl⟩) H'
  ·have H:=H'.l6;refine Z4 7 [5] H Z ?_;intro w H;refine Zl [5,3] H Z ?_;exact ⟨_,.inl ⟨(by have:=O_.st.f;have:=l.f;omega),_,Z,Z⟩,H.perm 6 [0] Z Z⟩
  ·have H:=H'.l6;refine Z4 7 [5] H Z ?_;intro w H;refine Zl [5,3] H Z ?_;exact ⟨_,.inr (.inl ⟨_,c,⟨((O_.st.sub (R':=Q) (λp hp=>by simp[hp]) (Aed _) (Aed _)).trans l (R:=Q) (R1:=Q) (λp hp=>hp) (λp hp=>by simp[hp]) (Aed _) (Aed _)).trans a2 (λp hp=>hp) (λp hp=>hp) U U,a4⟩,Z,Z⟩),H.perm 6 [0] Z Z⟩
  have H:=H'.l6;refine Z4 7 [5] H Z ?_;intro w H;refine Zl [5,3] H Z ?_;exact ⟨_,.inr (.inr ⟨_,c,_,_,_,_,⟨((O_.st.sub (R':=Q) (λp hp=>by simp[hp]) (Aed _) (Aed _)).trans l (R:=Q) (R1:=Q) (λp hp=>hp) (λp hp=>by simp[hp]) (Aed _) (Aed _)).trans a2 (λp hp=>hp) (λp hp=>hp) U U,f7,g7,e9,a4,g4⟩,Z,Z⟩),H.perm 6 [0] Z Z⟩
 (exfalso;omega)
end
section
variable{Tb:Af}
theorem ON(pp mb n:Nat)(o:TB):∀(h:Nat) (t:TS) (Q:List Nat) (a:Nat) (lo hi:Int) (m:Nat) (key:Int) (val:Nat) (L:List E),InsPre n t Q a h lo hi m key val L->Cn prog 198 [Y pp,I (a:Int),I key,I (val:Int)] [trA Tb pp mb n o (some (t,a::val::Q))] (λv Γ=>JA Tb pp mb n o t Q h lo hi m key val L v Γ)
 | 0=>λt Q a lo hi m key val L hP=>AbV pp mb n o t Q a lo hi m key val L hP
 | h+1=>λt Q a lo hi m key val L hP=>AbW pp mb n o t Q h (ON pp mb n o h) a lo hi m key val L hP
theorem Tr.lo{N:Hm}{h r:Nat}{lo hi:Int}{m:Nat}{L es:List E}{lf:Bool}(t:Tr N h r lo hi m L)(hN:N r=some (.nd ⟨lf,es⟩))(k:1<=m):Tr N h r (nx es hi) hi m L/\lo<=nx es hi/\nx es hi<hi:=by
 obtain ⟨g,b,d,c,f,j⟩:=Tr.iff.1 t;rw[b] at hN;cases hN
 cases es with
 | nil=>simp at d;omega
 | cons e u=>
  have i:=c e O;refine ⟨Tr.iff.2 ⟨_,b,d,λx a=>⟨?_,(c x a).2⟩,f,j⟩,i⟩;rcases Aei.1 a with rfl|a
  ·exact Afg _
  exact AgM ((Srt.cons.1 f.srt).1 x a)
theorem root_two{N:Hm}{h c r:Nat}{kr:Int}{b L2:List E}{es:List E}{lf:Bool}(m:Tr N h c 0 kr 4 b)(hN:N c=some (.nd ⟨lf,es⟩))(f:Tr N h r kr 1048576 4 L2)(l:kr<1048576):
  Bd N (h+1) [(nx es kr,c),(kr,r)] 1048576 (b++L2)/\B0 0 1048576 [(nx es kr,c),(kr,r)]/\(Nd.mk false [(nx es kr,c),(kr,r)]).Ok/\(vals [(nx es kr,c),(kr,r)]).Nodup:=by
 obtain ⟨i,n,j⟩:=m.lo hN U;have hs:Srt [(nx es kr,c),(kr,r)]:=Srt.cons.2 ⟨λx a=>by simp at a;subst a;exact j,Srt.cons.2 ⟨by simp,by simp[Srt]⟩⟩;have d:B0 0 1048576 [(nx es kr,c),(kr,r)]:=λx a=>by
  simp at a;rcases a with rfl|rfl
  ·dsimp only;omega
  dsimp only;omega
 have g:Bd N (h+1) [(nx es kr,c),(kr,r)] 1048576 (b++L2):=⟨b,L2,Z,i,L2,[],by simp,f,Z⟩;exact ⟨g,d,⟨hs,by simp,λe k=>d e k,λ_=>by simp⟩,g.nodup hs (λx a=>(d x a).2)⟩
theorem Wf{N:Hm}{key:Int}{val:Nat}{b:List UInt8}(g:N val=some (.dt b))(f:0<=key/\key<1048576):Bd N 0 [(key,val)] 1048576 (putE key val [])/\B0 0 1048576 [(key,val)]/\(Nd.mk true [(key,val)]).Ok/\(vals [(key,val)]).Nodup:=by
 have c:B0 0 1048576 [(key,val)]:=λx d=>by simp at d;subst d;exact f
 exact ⟨⟨Z,λe a=>by simp at a;subst a;exact ⟨b,g⟩⟩,c,⟨by simp[Srt],by simp,λe a=>c e a,λq=>by cases q⟩,by simp[vals]⟩
def Root(N:Hm)(r:Nat)(L:List E):Prop:=(r=0/\L=[])\/(r≠0/\∃h,Tr N h r 0 1048576 (if h=0 then 1 else 2) L)
def Ba(r:Nat):List Nat:=if r=0 then [] else [r]
def CY(N:Hm):Nat->Nat->List Nat
 | 0,r=>[r]
 | h+1,r=>match N r with
  | some (.nd d)=>d.es.flatMap λe=>CY N h e.2
  | _=>[]
def QF(N:Hm)(r:Nat):List E:=match N r with
 | some (.nd d)=>d.es
 | _=>[]
theorem RO{N:Hm}{h r:Nat}{lo hi:Int}{m:Nat}{L:List E}(t:Tr N h r lo hi m L)(s:1<=m):(CY N h r).flatMap (QF N)=L/\(∀q∈CY N h r,QF N q≠[]/\∃d,N q=some (.nd d))/\m*4^(h-1)<=(CY N h r).length*(if h=0 then m else 1):=by
 induction h generalizing r lo hi m L with
 | zero=>
  obtain ⟨es,f,g,_,_,rfl,_⟩:=t;refine ⟨by simp[CY,QF,f],λq hq=>?_,by simp[CY]⟩;simp[CY] at hq;subst hq;refine ⟨?_,_,f⟩;simp only[QF,f];intro q;rw[q] at g;simp at g;omega
 | succ h ih=>
  obtain ⟨es,f,g,_,_,o⟩:=t;have k:CY N (h+1) r=es.flatMap λe=>CY N h e.2:=by simp[CY,f]
  rw[k];have key:∀(es:List E) (L:List E),Sq (λc a b L=>Tr N h c a b 4 L) es hi L->(es.flatMap λe=>CY N h e.2).flatMap (QF N)=L/\(∀q∈es.flatMap λe=>CY N h e.2,QF N q≠[]/\∃d,N q=some (.nd d))/\es.length*4^h<=(es.flatMap λe=>CY N h e.2).length:=by
   intro es
   induction es with
   | nil=>intro L q;have q:L=[]:=q;subst q;simp
   | cons e u ih2=>
    rintro _ ⟨L1,L2,rfl,j,l⟩;obtain ⟨a1,a2,a3⟩:=ih j U;obtain ⟨n,i,p⟩:=ih2 L2 l;have a4:4^h<=(CY N h e.2).length:=by
     cases h with
     | zero=>simp[CY]
     | succ h=>simp at a3;rw[Ahu,Ahv];exact a3
    refine ⟨by simp only[AeB,AfV,a1,n],λq hq=>?_,?_⟩
    ·rcases Aek.1 (by simpa using hq:q∈CY N h e.2++u.flatMap λe=>CY N h e.2) with hq|hq
     ·exact a2 q hq
     exact i q hq
    simp only[AeB,Ad9,Aeb];rw[AhD];omega
  obtain ⟨a1,a2,a3⟩:=key es L o;refine ⟨a1,a2,?_⟩;have:m*4^h<=es.length*4^h:=AfB _ g;rw[if_neg U,AeK,Nat.add_sub_cancel];omega
theorem K5{f:Nat->List E}:∀{ps:List Nat},Srt (ps.flatMap f)->(∀p∈ps,f p≠[])->ps.Nodup
 | [],_,_=>by simp
 | p::ps,hs,hne=>by
  rw[AeB] at hs;obtain ⟨s1,s2,s3⟩:=Srt.app.1 hs;rw[Afc];refine ⟨λhp=>?_,K5 s2 (λq hq=>hne q (by simp[hq]))⟩;obtain ⟨x,u,e⟩:=AfA (hne p O);have:=s3 x (by rw[e];simp) x (Af9.2 ⟨p,hp,by rw[e];simp⟩);omega
theorem OO{n:Nat}:∀{l:List Nat},l.Nodup->(∀x∈l,x<n)->l.length<=n:=λ{l} c b=>by
 have:=List.Nodup.length_le_of_subset (l₁:=l) (l₂:=List.range n) c (λx a=>AfL.2 (b x a));simpa using this
theorem RP{N:Hm}{h:Nat}{lo hi:Int}{L X Y_:List E}{e:E}{key:Int}(hs:Srt (X++e::Y_))(j:B0 lo hi (X++e::Y_))(i:Bd N (h+1) (X++e::Y_) hi L)(d:X=[]\/e.1<=key)(f:∀x∈Y_,key<x.1/\e.1<x.1):∃Lc,Tr N h e.2 e.1 (nx Y_ hi) 4 Lc/\∀v,(key,v)∈Lc↔(key,v)∈L:=by
 obtain ⟨L0,Lc,L2,rfl,a,m,b⟩:=Sq.at i;obtain ⟨k,l,g⟩:=Srt.app.1 hs;have a1:=Sq.srt a k (λx c=>g x c e O) (λ_ _ _ _ q=>Tr.srt q);have a3:=Sq.srt b (Srt.cons.1 l).2 (λx c=>(j x (by simp[c])).2) (λ_ _ _ _ q=>Tr.srt q);refine ⟨Lc,m,λv=>⟨λq=>by simp[q],λq=>?_⟩⟩;rcases Aek.1 q with q|q
 ·exfalso
  rcases d with rfl|d
  ·simp only[Sq] at a;subst a;simp at q
  have:=a1.2.1 _ q;dsimp only at this;omega
 rcases Aek.1 q with q|q
 ·exact q
 exfalso
 cases Y_ with
 | nil=>simp only[Sq] at b;subst b;simp at q
 | cons y t=>
  have:=a3.2.1 _ q;have:=f y O;simp only[nx] at *;omega
end
section
variable{Tb:Af}
theorem K6(pp mb n:Nat)(o:TB)(s:TS×List Nat):Cn prog 195 [Y pp] [trA Tb pp mb n o (some s)] (λv Γ=>v=I 0/\Γ=[trA Tb pp mb n o (some s)]):=by
 intro z R w H;replace H:=H.l1;refine Ae func195 Z ntmps195 Z (Zc 19 Z (z_E_ Z (call156 _) (HR pp mb n o _) H ?_));intro w H;replace H:=H.l1;refine AC 6 (v:=.bool true) Z Z (Zc 12 Z (Zr Z ?_));exact ⟨_,⟨Z,Z⟩,H⟩
theorem AbX(pp mb n:Nat)(o:TB)(t:TS)(Q:List Nat)(key:Int)(val:Nat)(b:List UInt8)(u:0<=key/\key<1048576)(l:t.N val=some (.dt b))(hk:t.k<40):Cn prog 158 [Y pp,I 0,I key,I (val:Int)] [trA Tb pp mb n o (some (t,val::Q))] (λv Γ=>(cnt t.F 0 1024<=0/\∃s:TS×List Nat,v=.tuple #[I 0,I 20]/\Γ=[trA Tb pp mb n o (some s)])\/∃(t2:TS) (r:Nat),(St t t2 Q 1 1/\Tr t2.N 0 r 0 1048576 1 (putE key val []))/\v=.tuple #[I (r:Int),I 0]/\Γ=[trA Tb pp mb n o (some (t2,r::Q))]):=by
 intro z R w H;replace H:=H.l1;have K:=H.says 0 Z (λh a=>trA.k a);have a1:=K.i.rin val (by simp[CT]);have d:=K.i.pos (p:=val) (by simp[CT]);have d:1<=t.C val:=d;obtain ⟨m,j,x,f⟩:=Wf l u;refine Ae func158 Z ntmps158 Z (Zc 10 Z (z_E_ Z (call195 _) (K6 pp mb n o _) H ?_));intro w H;refine Z0 18 [4,0] Z (Al 21 Z (λh1=>U) (λh1=>?_));refine Z0 4 [0] Z (Al 25 Z (λh2=>U) (λh2=>?_));refine Zc 2 Z (z_E_ Z (call196 _) (LT pp mb n o _ val U) H ?_);intro w H;replace H:=H.l1;refine AC 28 (v:=I (t.C val:Int)) Z Z (Z0 4 [0] Z (Ag Z (λh3=>U) (λh3=>?_)));refine Z0 14 [3] Z (AQ Z (AM H Z J Bz Z (by decide) (by decide) (out:=[I key]) J) ?_);rintro _ w ⟨b1,rfl,H⟩;replace H:=H.l2;refine Zc 1 Z (AQ Z (AM H Z J Bz Z (by decide) (by decide) (out:=[I (val:Int)]) J) ?_);rintro _ w ⟨b2,rfl,H⟩;replace H:=H.l3;refine Zc 1 Z (Aq Z (call197 _) (HT pp mb n o t Q true _ _ [(key,val)] _ _ (λh q=>q.rd U U O Z) (λh q=>q.rd U U O Z) 0 0 1048576 1 (putE key val []) m Z j O x f hk) H.f1.f2 ?_);rintro _ w _ (⟨a0,rfl,rfl⟩|⟨t2,g,⟨c,e,y⟩,rfl,rfl⟩) H'
 ·have H:=H'.l3;refine Zc 7 Z (Zr Z ?_);exact ⟨_,.inl ⟨by omega,_,Z,Z⟩,H.perm 3 [0] Z Z⟩
 have H:=H'.l3;refine Zc 7 Z (Zr Z ?_);exact ⟨_,.inr ⟨t2,g,⟨c,e⟩,Z,Z⟩,H.perm 3 [0] Z Z⟩
set_option maxHeartbeats 1000000 in
theorem AbY (pp mb n:Nat) (o:TB) (t:TS) (Q:List Nat) (h a:Nat) (m:Nat) (key:Int) (val:Nat) (L:List E) (hP:InsPre n t Q a h 0 1048576 m key val L):Cn prog 158 [Y pp,I (a:Int),I key,I (val:Int)] [trA Tb pp mb n o (some (t,a::val::Q))] (λv Γ=>(cnt t.F 0 1024<=2*h+2/\∃s:TS×List Nat,v=.tuple #[I 0,I 20]/\Γ=[trA Tb pp mb n o (some s)])\/∃(t2:TS) (r:Nat),(St t t2 Q (2*h+3) (3*h+4)/\(Tr t2.N h r 0 1048576 m (putE key val L)\/Tr t2.N (h+1) r 0 1048576 2 (putE key val L)))/\v=.tuple #[I (r:Int),I 0]/\Γ=[trA Tb pp mb n o (some (t2,r::Q))]):=by
 intro z R w H;replace H:=H.l1;have K:=H.says 0 Z (λh a=>trA.k a);have c7:=hP.kk;have d1:=K.i.rin val (by simp[CT]);have a8:=K.i.pos (p:=val) (by simp[CT]);have a8:1<=t.C val:=a8;have d3:=K.i.rin a (by simp[CT]);refine Ae func158 Z ntmps158 Z (Zc 10 Z (z_E_ Z (call195 _) (K6 pp mb n o _) H ?_));intro w H;refine Z0 18 [4,0] Z (Al 21 Z (λh1=>U) (λh1=>?_));refine Z0 4 [0] Z (Al 25 Z (λh2=>U) (λh2=>?_));refine Zc 2 Z (z_E_ Z (call196 _) (LT pp mb n o _ val U) H ?_);intro w H;replace H:=H.l1;refine AC 28 (v:=I (t.C val:Int)) Z Z (Z0 4 [0] Z (Ag Z (λh3=>U) (λh3=>?_)));refine Z0 9 [0] Z (Ag Z (λh4=>U) (λh4=>?_));refine Zc 8 Z (Aq Z (call198 _) (ON pp mb n o h t Q a 0 1048576 m key val L hP) H ?_);rintro _ w _ (⟨c6,s2,rfl,rfl⟩|⟨t2,c2,⟨b,g⟩,rfl,rfl⟩|⟨t2,c2,kr,r,M1,M2,⟨b,a9,d0,c1,g,c0⟩,rfl,rfl⟩) c
 ·have H:=c.l1;refine Za 3 [] H Z ?_;intro b1 w H;refine Z4 27 [0,3,0,0,0] H Z ?_;intro w H;refine Zr Z ?_;exact ⟨_,.inl ⟨by omega,_,Z,Z⟩,H.perm 2 [1] Z Z⟩
 ·have H:=c.l1;refine Za 3 [] H Z ?_;intro b2 w H;refine Z4 27 [0,4,2,0,0,3,0,0,0] H Z ?_;intro w H;refine Zr Z ?_;exact ⟨_,.inr ⟨t2,c2,⟨b.sub (λp hp=>hp) U U,.inl g⟩,Z,Z⟩,H.perm 2 [1] Z Z⟩
 have H:=c.l1;refine Za 3 [] H Z ?_;intro b3 w H;refine Z4 6 [0] H Z ?_;intro w H;have c8:manyN n+1<=r:=by have K3:=H.says 1 Z (λh a=>trA.k a);exact (K3.i.rin r (by simp[CT])).1
 refine Z2 10 [4,2,0,0,0] H Z (Ag Z (λh5=>U) (λh5=>?_));refine Zc 3 Z ?_;obtain ⟨es,a3,a4,c5,d2,c4⟩:=Tr.iff.1 g;obtain ⟨a2,a0,a5,x⟩:=root_two g a3 c0 c1;refine Z2 4 [0,0,0] H Z (Aq Z (call160 _) (HS pp mb n o (some (t2,c2::r::Q)) c2 (decide (h=0)) es a3) H.f1 ?_);rintro _ w _ ⟨v4,v5,rfl,rfl⟩ H;replace H:=H.l4;have b0:=H.sy 0 (·.slc);have b5:=H.sy 1 (·.slc);refine Za 3 [] H Z ?_;intro b6 w H;refine Az Z Z (Ak 0 H Z Z Z Z (vs:=[.bool (decide (h=0)),v4,v5]) Z (Ad Z (Ad b0.one (Ad b5.one Aw))) J O (out:=[.bool (decide (h=0)),v4,v5]) Z) ?_;rintro w H;replace H:=H.l5;refine Z0 14 [4] Z ?_;obtain ⟨y,a7,rfl⟩:=b0;have c3:=(H.rv 1 (·.rd)).at (j:=0) (u:=I (nx es kr)) (by rw[Aej,FC a4];rfl);replace H:=H.f1.f1.f4;refine AO (Sep z (blk b3 [I (c2:Int),I kr,I (r:Int)] 290::blk b6 [.bool (decide (h=0)),.slice y ((kL es).length) a7,v5] 249::grow 3 1 (.slice y ((kL es).length) a7) ((kL es).length) ((kL es).map I)::R)) 19 Z J (A5 H λw c=>?_);have H:=c.l5;refine AU [0,1,2] [1,1,0] [] (by exact H.pick 5 [0,1,2] Z) Z J Z (BO 3 Z J J J Z Z Z (Aj Z (z:=1) (j:=0) (r:=0) J Z Z Z (by simp only[Aea];omega) c3 U) (H.pick 5 [0,1,2] Z) (BO 4 Z J J J Z Z Z (Ax Z Z J (λ_ b4=>(b4.rv 2 (·.rd)).at (j:=0) (u:=I (nx es kr)) (by rw[Aej,FC a4];rfl))) (H.pick 5 [0,1,2] Z) ?_));refine AU [5,6,8,9,10,11] [1,0,0,0,0,0,2,0,0] [] (by exact H.pick 5 [0,1,2] Z) Z J Z (AB [7,12] J O (JO ?_ ?_))
 ·refine Ca Z Z Z Z (AM H Z J Bz Z (by decide) (by decide) (out:=[I (nx es kr),I kr]) J) ?_;rintro _ w ⟨b7,rfl,H⟩;replace H:=H.l6;refine Av (H.pick 6 [1,2,3] Z) (AB [12] J O (An (Ca Z Z Z Z (AM H Z J Bz Z (by decide) (by decide) (out:=[I (c2:Int),I (r:Int)]) J) ?_)));rintro _ w ⟨b8,rfl,H⟩;replace H:=H.l7;refine Av (H.pick 7 [2,3,4] Z) (AU [13] [] [] (by exact H.pick 7 [2,3,4] Z) Z J Z (AB [14] J O (An (Bo Z Z Z Z Z Z (λw=>call197 _ w) (HT pp mb n o t2 Q false _ _ [(nx es kr,c2),(kr,r)] _ _ (λh q=>q.rd U U O Z) (λh q=>q.rd U U O Z) (h+1) 0 1048576 2 (putE key val L) (by rw[a9];exact a2) O a0 O a5 x (by have:=b.k;have:=hP.hk;omega)) H.f1.f6 Z ?_))));rintro _ w _ (⟨a6,rfl,rfl⟩|⟨t3,l,⟨e,d,a1⟩,rfl,rfl⟩) c
  ·have H:=c.l7;refine Av (H.pick 7 [3,4,5] Z) (AU [15,16,17,18] [] [] (by exact H.pick 7 [3,4,5] Z) Z J Z (a_done J (gn (Zc 2 Z (Zr Z ?_)))));exact ⟨_,.inl ⟨by have:=b.f;omega,_,Z,Z⟩,H.perm 7 [0] Z Z⟩
  have H:=c.l7;refine Av (H.pick 7 [3,4,5] Z) (AU [15,16,17,18] [] [] (by exact H.pick 7 [3,4,5] Z) Z J Z (a_done J (gn (Zc 2 Z (Zr Z ?_)))));exact ⟨_,.inr ⟨t3,l,⟨b.trans e (λp hp=>hp) (λp hp=>hp) U U,.inr d⟩,Z,Z⟩,H.perm 7 [0] Z Z⟩
 refine Ca Z Z Z Z (AM H Z J Bz Z (by decide) (by decide) (out:=[I (c2:Int),I (r:Int)]) J) ?_;rintro _ w ⟨b9,rfl,H⟩;replace H:=H.l6;refine Av (H.pick 6 [1,2,3] Z) (AB [7] J O (An (Ca Z Z Z Z (AM H Z J Bz Z (by decide) (by decide) (out:=[I (nx es kr),I kr]) J) ?_)));rintro _ w ⟨c9,rfl,H⟩;replace H:=H.l7;refine Av (H.pick 7 [2,3,4] Z) (AU [13] [] [] (by exact H.pick 7 [2,3,4] Z) Z J Z (AB [14] J O (An (Bo Z Z Z Z Z Z (λw=>call197 _ w) (HT pp mb n o t2 Q false _ _ [(nx es kr,c2),(kr,r)] _ _ (λh q=>q.rd U U O Z) (λh q=>q.rd U U O Z) (h+1) 0 1048576 2 (putE key val L) (by rw[a9];exact a2) O a0 O a5 x (by have:=b.k;have:=hP.hk;omega)) H.f1.f1.f6 Z ?_))));rintro _ w _ (⟨a6,rfl,rfl⟩|⟨t3,l,⟨e,d,a1⟩,rfl,rfl⟩) c
 ·have H:=c.l7;refine Av (H.pick 7 [3,4,5] Z) (AU [15,16,17,18] [] [] (by exact H.pick 7 [3,4,5] Z) Z J Z (a_done J (gn (Zc 2 Z (Zr Z ?_)))));exact ⟨_,.inl ⟨by have:=b.f;omega,_,Z,Z⟩,H.perm 7 [0] Z Z⟩
 have H:=c.l7;refine Av (H.pick 7 [3,4,5] Z) (AU [15,16,17,18] [] [] (by exact H.pick 7 [3,4,5] Z) Z J Z (a_done J (gn (Zc 2 Z (Zr Z ?_)))));exact ⟨_,.inr ⟨t3,l,⟨b.trans e (λp hp=>hp) (λp hp=>hp) U U,.inr d⟩,Z,Z⟩,H.perm 7 [0] Z Z⟩
end
section
variable{Tb:Af}
theorem QG(pp mb n:Nat)(o:TB)(T:TT)(key:Int)(L:List E)(h0 r0:Nat)(a4 a3:Int)(m0:Nat)(a0:Tr (Dk o T) h0 r0 a4 a3 m0 L):Cn prog 115 [Y pp,I (r0:Int),I key] [trA Tb pp mb n o T] (λv Γ=>((∃v0:Nat,(key,v0)∈L/\v=.tuple #[I (v0:Int),I 0])\/(¬CC key L/\v=.tuple #[I 0,I 0]))/\Γ=[trA Tb pp mb n o T]):=by
 intro z R w H;replace H:=H.l1;have K:=H.says 0 Z (λh a=>trA.k a);refine Ae func115 Z ntmps115 Z (Zc 18 Z ?_);refine AD (σ:=Nat×Nat×List E) (λ⟨h,r,L1⟩=>[(1,I (r:Int)),(0,Y pp),(2,I key)])
   (λ⟨h,r,L1⟩ w=>Sep z (trA Tb pp mb n o T::R) w/\((∃lo hi m,Tr (Dk o T) h r lo hi m L1)/\∀v,(key,v)∈L1↔(key,v)∈L)) (λ⟨h,r,L1⟩=>h) ⟨h0,r0,L⟩
   (λ_ hF=>(hF.all Z)) ⟨H,⟨⟨_,_,_,a0⟩,λ_=>Ahp⟩⟩ ?_
 clear H;rintro ⟨h,r,L1⟩ w ⟨s,hI⟩;dsimp only at hI s ⊢;have H:=s.l1;obtain ⟨⟨lo,hi,m,hT⟩,f⟩:=hI;obtain ⟨es,hN,hm,a6,c,x⟩:=Tr.iff.1 hT;have b2:=K.i.nin r _ hN;refine Z0 7 [0] Z (Ag Z (λh1=>?_) (λh1=>?_))
 ·refine Zc 7 Z (Aq Z (call160 _) (HS pp mb n o T r (decide (h=0)) es hN) H ?_);rintro _ w _ ⟨v1,v2,rfl,rfl⟩ H;replace H:=H.l3;have a5:=H.sy 0 (·.slc)
  have t:=H.sy 1 (·.slc);refine Za 3 [] H Z ?_;intro b1 w H;refine Az Z Z (Ak 0 H Z Z Z Z (vs:=[.bool (decide (h=0)),v1,v2]) Z (Ad Z (Ad a5.one (Ad t.one Aw))) J O (out:=[.bool (decide (h=0)),v1,v2]) Z) ?_;rintro w H;replace H:=H.l4;refine Z2 20 [4,0,0,0] H Z (Ep Z (λh2=>?_) (λh2=>?_))
  ·have a9:h=0:=of_decide_eq_true h2
   have y:L1=es:=by subst a9;exact x.1
   refine Z2 5 [0,3] H Z (Aq Z (call161 _) (OK (es:=es) (λh q=>q.rd) (λh q=>q.rd) c.len c.srt key) H.f2.f2 ?_);rintro _ w _ (⟨X,v0,Y_,⟨b,hX⟩,rfl,rfl⟩|⟨a8,i0,rfl,rfl⟩) s
   ·have H:=s.l4;refine Zc 14 Z ?_;obtain ⟨l,p,rfl⟩:=t;have g:=(H.rv 1 (·.rd)).at (j:=X.length) (u:=I (v0:Int)) (by rw[b];simp[vL])
    refine Z2 4 [2,2,0] H Z (Ab Z (Aj Z (z:=1) (j:=X.length) (r:=X.length) J Z Z Z (by rw[b];simp) g U) (Ab Z (Ax Z Z J (Ay g)) (Zc 5 Z (Zr Z ?_))));exact ⟨_,⟨.inl ⟨v0,(f v0).1 (by rw[y,b];simp),Z⟩,Z⟩,H.perm 4 [3] Z Z⟩
   have H:=s.l4;refine Zc 22 Z (Zr Z ?_);exact ⟨_,⟨.inr ⟨λ⟨v,hv⟩=>a8 ⟨v,by rw[<-y];exact (f v).2 hv⟩,Z⟩,Z⟩,H.perm 4 [3] Z Z⟩
  obtain ⟨h',rfl⟩:∃h',h=h'+1:=⟨h-1,by have:=of_decide_eq_false h2;omega⟩;refine Zc 2 Z ?_;obtain ⟨l,p,rfl⟩:=t;replace H:=H.f2.f1;refine AO (Sep z (blk b1 [.bool (decide ((h'+1)=0)),v1,.slice l ((vL es).length) p] 249::grow 3 1 (.slice l ((vL es).length) p) ((vL es).length) ((vL es).map I)::R)) 8 Z J (A5 H λw s=>?_);have H:=s.l4;refine AU [0,1,2,3] [2,0,0,0,3] [] (by exact H.pick 4 [0,1] Z) Z J Z (AB [4] J O (An (Bo Z Z Z Z Z Z (λw=>call162 _ w) (LZ (es:=es) (λh q=>q.rd) (λh q=>q.rd) c.len c.srt (c.ne O) key) H.f1.f2 Z ?_)));rintro _ w _ ⟨X,e,Y_,⟨b,hX,b0,hY⟩,rfl,rfl⟩ H;replace H:=H.l4;obtain ⟨Lc,a7,a1⟩:=RP (by rw[<-b];exact c.srt) (by rw[<-b];exact a6) (by rw[<-b];exact x) hX hY;have g:=(H.rv 1 (·.rd)).at (j:=X.length) (u:=I (e.2:Int)) (by rw[b];simp[vL]);refine Av (H.pick 4 [2,1] Z) (BO 5 Z J J J Z Z Z (Aj Z (z:=1) (j:=X.length) (r:=X.length) J Z Z Z (by rw[b];simp) g U) (H.pick 4 [2,1] Z) (BO 6 Z J J J Z Z Z (Ax Z Z J (λ_ a2=>(a2.rv 1 (·.rd)).at (j:=X.length) (u:=I (e.2:Int)) (by rw[b];simp[vL]))) (H.pick 4 [2,1] Z) (AU [7] [] [] (by exact H.pick 4 [2,1] Z) Z J Z (a_done J (gn (Zc 1 Z ?_))))));replace H:=H.f2.d.f1.d.d;refine gf ?_;intro _ hF;refine ⟨⟨h',e.2,Lc⟩,(hF.all Z),⟨H,?_⟩,?_⟩
  ·exact ⟨⟨_,_,_,a7⟩,λv=>(a1 v).trans (f v)⟩
  (dsimp only;omega)
 (exfalso;omega)
theorem QH(pp:Nat)(key:Int):Cn prog 115 [Y pp,I 0,I key] [] (λv Γ=>v=.tuple #[I 0,I 0]/\Γ=[]):=by
 intro z R w H;replace H:=H.l0;refine Ae func115 Z ntmps115 Z (Zc 18 Z (GI 1 (DE (Z0 10 [4] Z (gx (Zc 9 Z (Zr Z ?_)))))));exact ⟨_,⟨Z,Z⟩,H⟩
end
section
variable{Tb:Af}
theorem Bd.nd{N:Hm}{h:Nat}{es:List E}{hi:Int}{L:List E}(q:Bd N h es hi L)(hs:Srt es)(a:∀e∈es,e.1<hi)(b:(vals L).Nodup):(vals es).Nodup:=by
 cases h with
 | zero=>obtain ⟨rfl,_⟩:=q;exact b
 | succ h=>exact Bd.nodup q hs a
theorem DK(a:Nat)(X Y_:List E):(vals (X++Y_)).count a=(vals X).count a+(vals Y_).count a:=by simp[vals]
theorem Eg(a:Nat)(e:E)(Y_:List E):(vals (e::Y_)).count a=(vals Y_).count a+if e.2==a then 1 else 0:=by rw[B7,Ae7]
theorem mp1(X Y_:List E)(e1 e2:E)(Q:List Nat):(vals (X++e1::e2::Y_)++Q).Perm (e1.2::(vals X++(e2.2::(vals Y_++Q)))):=
 Afx.2 λa=>by
  simp only[Afl,Ae7,DK,Eg];omega
theorem mp2(c1 c2:Nat)(A B D:List Nat):(c1::(A++(B++(c2::D)))).Perm (c2::(c1::(A++(B++D)))):=
 Afx.2 λa=>by simp only[Afl,Ae7];omega
theorem mp3(c1 c2:Nat)(es1 es2 x y:List E)(W:List Nat)(h:es1++es2=x++y):(c2::(vals es2++(c1::(vals es1++W)))).Perm (c1::(vals x++(c2::(vals y++W)))):=
 Afx.2 λa=>by
  have e:=congrArg (λl=>(vals l).count a) h;simp only[DK] at e;simp only[Afl,Ae7];omega
theorem AdM(c1 c2:Nat)(es1 es2:List E)(W:List Nat):(c2::(vals es2++(c1::(vals es1++W)))).Perm (c1::(vals (es1++es2)++(c2::W))):=
 Afx.2 λa=>by simp only[Afl,Ae7,DK];omega
theorem mp4(c1 c2:Nat)(A W:List Nat):(c1::(c2::(A++W))).Perm (c2::(A++(c1::W))):=
 Afx.2 λa=>by simp only[Afl,Ae7];omega
theorem mp5(c1:Nat)(k:Int)(X Y_:List E)(Q:List Nat):(c1::(vals X++(vals Y_++Q))).Perm (vals (X++(k,c1)::Y_)++Q):=
 Afx.2 λa=>by simp only[Afl,Ae7,DK,Eg];omega
theorem mp6(c1 c2:Nat)(k b:Int)(X Y_:List E)(Q:List Nat):(c2::(c1::(vals X++(vals Y_++Q)))).Perm (vals (X++(k,c1)::(b,c2)::Y_)++Q):=
 Afx.2 λa=>by simp only[Afl,Ae7,DK,Eg];omega
structure MnPre(n:Nat)(t:TS)(Q:List Nat)(h:Nat)(lo hi:Int)(X Y_:List E)(e1 e2:E)(m1 m2:Nat)(L0 La Lb L2:List E):Prop where
 ok:(Nd.mk false (X++e1::e2::Y_)).Ok
 r:B0 lo hi (X++e1::e2::Y_)
 q0:Sq (λc a b L=>Tr t.N h c a b 4 L) X e1.1 L0
 ta:Tr t.N h e1.2 e1.1 e2.1 m1 La
 tb:Tr t.N h e2.2 e2.1 (nx Y_ hi) m2 Lb
 q2:Sq (λc a b L=>Tr t.N h c a b 4 L) Y_ hi L2
 m3:3<=m1/\3<=m2/\7<=m1+m2
 l0:0<=lo
 h1:hi<=1048576
 d:(vals (La++Lb)).Nodup
 hk:t.k+5<40
 hb:Q.length+30+n<=980
variable{t t1 t2 t3:TS}{Q:List Nat}{h:Nat}{lo hi:Int}{X Y_:List E}{e1 e2:E}{L0 La Lb L2 es1 es2:List E}
theorem TI(a:Srt (X++e1::e2::Y_))(r:B0 lo hi (X++e1::e2::Y_)):e1.1<e2.1/\e2.1<nx Y_ hi/\nx Y_ hi<=hi/\lo<=e1.1:=by
 obtain ⟨_,d,_⟩:=Srt.app.1 a;obtain ⟨f,c⟩:=Srt.cons.1 d;have e:=r e2 O;refine ⟨f e2 O,?_,RL (λx b=>(r x (by simp[b])).2),(r e1 O).1⟩
 cases Y_ with
 | nil=>exact e.2
 | cons y u=>exact (Srt.cons.1 c).1 y O
theorem ZF{N:Hm}(n:Bd N h es1 e2.1 La)(g:Bd N h es2 (nx Y_ hi) Lb)(k:Srt es1)(l:Srt es2)(f:B0 e1.1 e2.1 es1)(d:B0 e2.1 (nx Y_ hi) es2)(e:es2≠[])(m:e1.1<e2.1)(o:e2.1<nx Y_ hi):
  Bd N h (es1++es2) (nx Y_ hi) (La++Lb)/\Srt (es1++es2)/\B0 e1.1 (nx Y_ hi) (es1++es2):=by
 refine ⟨Bd.app.2 ⟨La,Lb,Z,n.hi ?_,g⟩,Srt.app.2 ⟨k,l,λa i b j=>?_⟩,λx c=>?_⟩
 ·obtain ⟨y,u,rfl⟩:=AfA e
  exact (d y O).1
 ·have:=f a i;have:=d b j;omega
 rcases Aek.1 c with c|c
 ·have:=f x c;omega
 have:=d x c;omega
theorem QI{N:Hm}{c1:Nat}(f:(Nd.mk false (X++e1::e2::Y_)).Ok)(r:B0 lo hi (X++e1::e2::Y_))(t:Sq (λc a b L=>Tr N h c a b 4 L) X e1.1 L0)(o:Sq (λc a b L=>Tr N h c a b 4 L) Y_ hi L2)(T:Tr N h c1 e1.1 (nx Y_ hi) 4 (La++Lb)):
  Bd N (h+1) (X++(e1.1,c1)::Y_) hi (L0++(La++(Lb++L2)))/\B0 lo hi (X++(e1.1,c1)::Y_)/\(Nd.mk false (X++(e1.1,c1)::Y_)).Ok/\(vals (X++(e1.1,c1)::Y_)).Nodup:=by
 have hs:Srt (X++e1::e2::Y_):=f.srt;obtain ⟨p,s,m⟩:=Srt.app.1 hs;obtain ⟨q,s5⟩:=Srt.cons.1 s;have i:Srt (X++(e1.1,c1)::Y_):=Srt.app.2 ⟨p,Srt.cons.2 ⟨λx d=>q x (by simp[d]),(Srt.cons.1 s5).2⟩,λa k b j=>by
  rcases Aei.1 j with rfl|j
  ·exact m a k e1 O
  exact m a k b (by simp[j])⟩
 have g:B0 lo hi (X++(e1.1,c1)::Y_):=λx d=>by
  rcases Aek.1 d with d|d
  ·exact r x (by simp[d])
  rcases Aei.1 d with rfl|d
  ·exact r e1 O
  exact r x (by simp[d])
 have l:Bd N (h+1) (X++(e1.1,c1)::Y_) hi (L0++(La++(Lb++L2))):=by
  have e:L0++(La++(Lb++L2))=L0++((La++Lb)++L2):=by simp
  rw[e];exact Sq.mk (e:=(e1.1,c1)) t T o
 have n:(X++e1::e2::Y_).length<=8:=f.len;refine ⟨l,g,⟨i,by simp at n ⊢;omega,λx d=>?_,λ_=>by simp⟩,l.nodup i (λx d=>(g x d).2)⟩;rcases Aek.1 d with d|d
 ·exact f.key x (by simp[d])
 rcases Aei.1 d with rfl|d
 ·exact f.key e1 O
 exact f.key x (by simp[d])
theorem mn_share{N:Hm}{c1 c2:Nat}{f:Int}{M1 M2:List E}(j:(Nd.mk false (X++e1::e2::Y_)).Ok)(r:B0 lo hi (X++e1::e2::Y_))(q0:Sq (λc a b L=>Tr N h c a b 4 L) X e1.1 L0)(q2:Sq (λc a b L=>Tr N h c a b 4 L) Y_ hi L2)(w:Tr N h c1 e1.1 f 4 M1)(T2:Tr N h c2 f (nx Y_ hi) 4 M2)(hM:M1++M2=La++Lb)(n:e1.1<f)(m:f<nx Y_ hi)(h1:hi<=1048576):
  Bd N (h+1) (X++(e1.1,c1)::(f,c2)::Y_) hi (L0++(La++(Lb++L2)))/\B0 lo hi (X++(e1.1,c1)::(f,c2)::Y_)/\(Nd.mk false (X++(e1.1,c1)::(f,c2)::Y_)).Ok/\(vals (X++(e1.1,c1)::(f,c2)::Y_)).Nodup:=by
 have hs:Srt (X++e1::e2::Y_):=j.srt;obtain ⟨s1,s2,t⟩:=Srt.app.1 hs;obtain ⟨s4,s5⟩:=Srt.cons.1 s2;obtain ⟨_,_,v,a0⟩:=TI hs r;have i:=(Srt.cons.1 s5).2;have o:∀x∈Y_,f<x.1:=λx d=>by
  cases Y_ with
  | nil=>simp at d
  | cons y u=>
   simp only[nx] at m;rcases Aei.1 d with rfl|d
   ·exact m
   have:=(Srt.cons.1 i).1 x d;omega
 have k:Srt (X++(e1.1,c1)::(f,c2)::Y_):=Srt.app.2 ⟨s1,Srt.cons.2 ⟨λx d=>by
   rcases Aei.1 d with rfl|d
   ·exact n
   exact s4 x (by simp[d]),Srt.cons.2 ⟨o,i⟩⟩,λa s b l=>by
  have p:=t a s e1 O;rcases Aei.1 l with rfl|l
  ·exact p
  rcases Aei.1 l with rfl|l
  ·dsimp only;omega
  exact t a s b (by simp[l])⟩
 have g:∀x∈X++(e1.1,c1)::(f,c2)::Y_,lo<=x.1/\x.1<hi:=λx d=>by
  rcases Aek.1 d with d|d
  ·exact r x (by simp[d])
  rcases Aei.1 d with rfl|d
  ·exact r e1 O
  rcases Aei.1 d with rfl|d
  ·dsimp only;omega
  exact r x (by simp[d])
 have q:Bd N (h+1) (X++(e1.1,c1)::(f,c2)::Y_) hi (L0++(La++(Lb++L2))):=by
  have e:L0++(La++(Lb++L2))=L0++(M1++(M2++L2)):=by
   rw[<-Aec La,<-hM];simp
  rw[e];exact Sq.mk (e:=(e1.1,c1)) (B:=(f,c2)::Y_) q0 w ⟨M2,L2,Z,T2,q2⟩
 have z:(X++e1::e2::Y_).length<=8:=j.len;have k1:=j.key e1 O;refine ⟨q,g,⟨k,by simp at z ⊢;omega,λx d=>?_,λ_=>by simp⟩,q.nodup k (λx d=>(g x d).2)⟩;rcases Aek.1 d with d|d
 ·exact j.key x (by simp[d])
 rcases Aei.1 d with rfl|d
 ·exact k1
 rcases Aei.1 d with rfl|d
 ·dsimp only
  omega
 exact j.key x (by simp[d])
section
variable{lf:Bool}{kv1 vv1 kv2 vv2:Value}{es1 es2:List E}{A1 B1 A2 B2:Af}
theorem ZG(c:Gm A1 kv1 es1)(d:Gn B1 vv1 es1)(f:Gm A2 kv2 es2)(e:Gn B2 vv2 es2)(b:CkN lf (kL es1) (vL es1))(a:CkN lf (kL es2) (vL es2))(hs:Srt (es1++es2))(m:8<es1.length+es2.length)(x y:List E)(k:x=(es1++es2).take (FG es1 es2))(l:y=(es1++es2).drop (FG es1 es2)):
  Cn prog 260 [DB lf kv1 vv1,DB lf kv2 vv2] [A1,B1,A2,B2] (λv Γ=>∃h i j g:Value,v=.tuple #[DB lf h i,DB lf j g,I 0]/\Γ=[gK h x,gV i x,gK j y,gV g y,A1,B1,A2,B2]):=by
 subst k l;exact Zy c d f e b a hs m
end
theorem Kf(X:List E):(vals X).length=X.length:=by simp[vals]
theorem QJ{α:Type}(x:List α)(a b:α)(y:List α):(x++a::b::y).take (x.length+1)++(x++a::b::y).drop (x.length+1+1)=x++a::y:=by
 have e1:x++a::b::y=(x++[a])++(b::y):=by simp
 have e2:x++a::b::y=(x++[a,b])++y:=by simp
 have c:(x++a::b::y).take (x.length+1)=x++[a]:=by rw[e1];exact AeA O
 have d:(x++a::b::y).drop (x.length+1+1)=y:=by rw[e2];exact AfM O
 rw[c,d];simp
theorem ZH{lf:Bool}{d f:Value}{X Y_:List E}{a b:E}{A B:Af}(j:Gm A d (X++a::b::Y_))(k:Gn B f (X++a::b::Y_))(g:CkN lf (kL (X++a::b::Y_)) (vL (X++a::b::Y_)))(c:CkN lf (kL (X++a::Y_)) (vL (X++a::Y_))):
  Cn prog 234 [DB lf d f,I ((X.length+1:Nat):Int)] [A,B] (λv Γ=>∃i h:Value,v=.tuple #[DB lf i h,I 0]/\Γ=[gK i (X++a::Y_),gV h (X++a::Y_),A,B]):=
 Qx lf d f _ _ A B j k g (X.length+1) (by simp[kL]) (kL (X++a::Y_)) (vL (X++a::Y_)) (by simp only[kL,AeD,AeE];have:=QJ (X.map Prod.fst) a.1 b.1 (Y_.map Prod.fst);rw[Aea] at this;exact this) (by simp only[vL,AeD,AeE];have:=QJ (X.map λe=>(e.2:Int)) (a.2:Int) (b.2:Int) (Y_.map λe=>(e.2:Int));rw[Aea] at this;exact this) c
theorem Sq.st{t t':TS}{R:List Nat}{a b:Nat}(S:St t t' R a b){h:Nat}{X:List E}{hi:Int}{L:List E}(d:∀v∈vals X,v∈R)(q:Sq (λc a b L=>Tr t.N h c a b 4 L) X hi L):Sq (λc a b L=>Tr t'.N h c a b 4 L) X hi L:=
 Sq.imp q λx e _ _ q=>S.fr _ (d _ (Aeu e)) _ _ _ _ _ q
theorem St.t4{h t1 t2 t3 g:TS}{R1 R2 e f Q:List Nat}{i:Nat}(a:St h t1 R1 1 1)(b:St t1 t2 R2 1 1)(c:St t2 t3 e 0 1)(d:St t3 g f 0 i)(n:i<=1)(j:∀p∈Q,p∈R1)(l:∀p∈Q,p∈R2)(k:∀p∈Q,p∈e)(m:∀p∈Q,p∈f):St h g Q 2 4:=
 ((a.trans b j l (Aed _) (Aed _)).trans (c.trans d k m (Aed _) (Aed _)) (R:=Q) (R1:=Q) (R2:=Q) (λ_ q=>q) (λ_ q=>q) U U)
abbrev AbZ(Tb:Af)(pp mb n:Nat)(o:TB)(t:TS)(Q:List Nat)(h:Nat)(lo hi:Int)(N8:Nat)(L:List E)(v:Value)(Γ:List Af):Prop:=
 (cnt t.F 0 1024<=1/\∃(v1 v2:Value) (es':List E) (s:TS×List Nat),v=.tuple #[DB false v1 v2,.int .i64 20]/\Γ=[gK v1 es',gV v2 es',trA Tb pp mb n o (some s)])\/
 ∃(t2:TS) (es':List E) (v1 v2:Value),(St t t2 Q 2 4/\Bd t2.N (h+1) es' hi L/\B0 lo hi es'/\(Nd.mk false es').Ok/\(vals es').Nodup/\N8<=es'.length+1)/\v=.tuple #[DB false v1 v2,.int .i64 0]/\Γ=[gK v1 es',gV v2 es',trA Tb pp mb n o (some (t2,vals es'++Q))]
theorem Ab0{c1 c2:Nat}(d:(Nd.mk false (X++e1::e2::Y_)).Ok):(Nd.mk false (X++(e1.1,c1)::(e2.1,c2)::Y_)).Ok:=by
 have hs:Srt (X++e1::e2::Y_):=d.srt;obtain ⟨i,j,g⟩:=Srt.app.1 hs;obtain ⟨h,s5⟩:=Srt.cons.1 j;have k:(X++e1::e2::Y_).length<=8:=d.len;refine ⟨Srt.app.2 ⟨i,Srt.cons.2 ⟨λx c=>?_,Srt.cons.2 ⟨(Srt.cons.1 s5).1,(Srt.cons.1 s5).2⟩⟩,λa f b e=>?_⟩,by simp at k ⊢;omega,λx c=>?_,λ_=>by simp⟩
 ·rcases Aei.1 c with rfl|c
  ·exact h e2 O
  exact h x (by simp[c])
 ·rcases Aei.1 e with rfl|e
  ·exact g a f e1 O
  rcases Aei.1 e with rfl|e
  ·exact g a f e2 O
  exact g a f b (by simp[e])
 have c:x∈X++(e1.1,c1)::(e2.1,c2)::Y_:=c;rcases Aek.1 c with c|c
 ·exact d.key x (by simp[c])
 rcases Aei.1 c with rfl|c
 ·exact d.key e1 O
 rcases Aei.1 c with rfl|c
 ·exact d.key e2 O
 exact d.key x (by simp[c])
end
section
variable{Tb:Af}
set_option maxHeartbeats 4000000 in
theorem Ab1 (pp mb n:Nat) (o:TB) (t:TS) (Q:List Nat) (kv vv:Value) (h:Nat) (lo hi:Int) (X Y_:List E) (e1 e2:E) (m1 m2:Nat) (L0 La Lb L2:List E) (hP:MnPre n t Q h lo hi X Y_ e1 e2 m1 m2 L0 La Lb L2):Cn prog 235 [Y pp,.agg #[.bool false,kv,vv],I (X.length:Int)] [trA Tb pp mb n o (some (t,vals (X++e1::e2::Y_)++Q)),grow 3 1 kv ((kL (X++e1::e2::Y_)).length) ((kL (X++e1::e2::Y_)).map I),grow 3 1 vv ((vL (X++e1::e2::Y_)).length) ((vL (X++e1::e2::Y_)).map I)] (λv Γ=>AbZ Tb pp mb n o t Q h lo hi (X++e1::e2::Y_).length (L0++(La++(Lb++L2))) v Γ):=by
 intro z R w H;replace H:=H.l3;obtain ⟨gk,y,b0,rfl,e0,n1,e8,H⟩:=H.ungrow 1 Z (by simp only[Aea,Ad9,Aeb];omega);replace H:=H.l3;obtain ⟨gv,s,g,rfl,e4,m4,d9,H⟩:=H.ungrow 2 Z (by simp only[Aea,Ad9,Aeb];omega);replace H:=H.l3;have K:=H.says 0 Z (λh a=>trA.k a);have hn:=K.hn;obtain ⟨j3,j1,n7,n6⟩:=TI hP.ok.srt hP.r;obtain ⟨m7,n5,n3⟩:=hP.m3;have n2:=hP.hk;have m5:=hP.hb;have l4:(X++e1::e2::Y_).length<=8:=hP.ok.len;have m6:X.length+Y_.length+2<=8:=by simp only[Ad9,Aeb] at l4;omega
 obtain ⟨es1,l2,m9,j8,f2,k4⟩:=Tr.iff.1 hP.ta;have k8:es1.length<=8:=f2.len;replace H:=(H.mono 0 (B:=trA Tb pp mb n o (some (t,e1.2::(vals X++(e2.2::(vals Y_++Q)))))) Z (λh q=>q.perm (mp1 X Y_ e1 e2 Q))).l3;refine Ae func235 Z ntmps235 Z (Za 2 [] H Z ?_);intro b1 w H;refine Za 0 [] H Z ?_;intro b2 w H;refine Za 5 [] H Z ?_;intro b3 w H;refine Zc 9 Z (GI 3 (DE (Z3 25 [3,2,2,0] [(X.length:Int)] H Z U (Ab Z (CH Z (z:=1) (j:=X.length) (r:=X.length) J Z Z Z (by simp only[Aea,Ad9,Aeb];omega) U) (Ab Z (Bf Z Z J (Ay (H.cel 5 Z X.length (show ((vL (X++e1::e2::Y_)).map I++g)[X.length]?=some (I (e1.2:Int)) from (by rw[Aeg O,Aej];simp[vL]))))) ?_)))));refine Aq Z (call230 _) (Jx pp mb n o t (vals X++(e2.2::(vals Y_++Q))) e1.2 (decide (h=0)) es1 l2 U (by simp only[Aeb,Ad9,Kf];omega)) H.f3 ?_;rintro _ w _ (⟨i5,v4,v5,s1,rfl,rfl⟩|⟨t1,c1,v4,v5,O1,rfl,rfl⟩) H'
 ·have H:=H'.l8;have c6:=H.sy 0 (·.slc)
  have c3:=H.sy 1 (·.slc);refine Za 4 [] H Z ?_;intro b6 w H;refine Zc 1 Z (Az Z Z (Ak 0 H Z Z Z Z (vs:=[.bool (decide (h=0)),v4,v5]) Z (Ad Z (Ad c6.one (Ad c3.one Aw))) J O (out:=[.bool (decide (h=0)),v4,v5]) Z) ?_);rintro w H;replace H:=H.l9;refine Z4 20 [3,6,3,5] H Z ?_;intro w H;refine Zl [5,3] H Z ?_;replace H:=(H.mono 7 (B:=grow 3 1 (.slice (some ⟨gk,0,none⟩) ((kL (X++e1::e2::Y_)).length) y) ((kL (X++e1::e2::Y_)).length) ((kL (X++e1::e2::Y_)).map I)) Z (λh q=>by exact q.grow U U (by have a:=e8;have b:=e0;simp only[Ad9,Aea,Aeb] at a b ⊢;omega) (by rw[AeK,AeA O]))).l9;replace H:=(H.mono 8 (B:=grow 3 1 (.slice (some ⟨gv,0,none⟩) ((vL (X++e1::e2::Y_)).length) s) ((vL (X++e1::e2::Y_)).length) ((vL (X++e1::e2::Y_)).map I)) Z (λh q=>by exact q.grow U U (by have a:=d9;have b:=e4;simp only[Ad9,Aea,Aeb] at a b ⊢;omega) (by rw[AeK,AeA O]))).l9;exact ⟨_,.inl ⟨U,_,_,_,_,Z,Z⟩,H.perm 9 [7,8,3] Z Z⟩
 have H:=H'.l8;have c6:=H.sy 0 (·.slc);have c3:=H.sy 1 (·.slc);refine Za 4 [] H Z ?_;intro b7 w H;refine Zc 1 Z (Az Z Z (Ak 0 H Z Z Z Z (vs:=[.bool (decide (h=0)),v4,v5]) Z (Ad Z (Ad c6.one (Ad c3.one Aw))) J O (out:=[.bool (decide (h=0)),v4,v5]) Z) ?_);rintro w H;replace H:=H.l9;refine Z0 13 [4] Z ?_;obtain ⟨es2,i8,i0,i9,e3,j4⟩:=Tr.iff.1 (O1.st.fr e2.2 O _ _ _ _ _ hP.tb);have j7:es2.length<=8:=e3.len;replace H:=(H.mono 3 (B:=trA Tb pp mb n o (some (t1,e2.2::(c1::(vals es1++(vals X++(vals Y_++Q))))))) Z (λh q=>q.perm (mp2 c1 e2.2 (vals es1) (vals X) (vals Y_++Q)))).l9;replace H:=H.f6;refine AO (Sep z (blk b1 [.bool false,.slice (some ⟨gk,0,none⟩) ((kL (X++e1::e2::Y_)).length) y,.slice (some ⟨gv,0,none⟩) ((vL (X++e1::e2::Y_)).length) s] 249::blk b7 [.bool (decide (h=0)),v4,v5] 249::R)) 12 Z J (A5 H λw H'=>?_);have H:=H'.l9;refine HC [0,1,2,3,4,5,6,7] [2,0,0,1,3] [(X.length:Int)] (by exact H.pick 9 [0,1] Z) Z J U Z (BO 8 Z J J J Z Z Z (CH Z (z:=1) (j:=X.length) (r:=X.length) J Z Z Z (by simp only[Aea,Ad9,Aeb];omega) U) (H.pick 9 [0,1] Z) (AB [9] J O (An (Bg Z Z Z (Ak 8 H Z Z Z Z (vs:=[I (c1:Int)]) Z (Ad Z Aw) J (by simp only[Ad9,Aea,Aeb,Aew];omega) (out:=((vL (X++(e1.1,c1)::e2::Y_)).map I++g)) ((Eb O).trans (by rw[show (vL (X++e1::e2::Y_)).set (X.length) (c1:Int)=(vL (X++(e1.1,c1)::e2::Y_)) from by simp[vL,AfT]]))) ?_))));rintro w H;replace H:=H.l9;refine Av (H.pick 9 [0,1] Z) (HC [10] [2,3,0,0] [] (by exact H.pick 9 [0,1] Z) Z J U Z (AB [11] J O (An (Bg Z Z Z (Ak 5 H Z Z Z Z (vs:=[.bool (decide (h=0)),v4,v5]) Z (Ad Z (Ad c6.one (Ad c3.one Aw))) J O (out:=[.bool (decide (h=0)),v4,v5,.bool false,.slice none 0 0,.slice none 0 0]) Z) ?_))));rintro w H;replace H:=H.l9;refine Av (H.pick 9 [0,1] Z) (a_done J (gn (Z1 6 [] [1] Z U (gf (DE (Z3 25 [3,2,0,0] [(X.length:Int)+1] H Z U (Ab Z (CH Z (z:=1) (j:=(X.length+1)) (r:=(X.length+1)) J Z Z U (by simp only[Aea,Ad9,Aeb];omega) U) (Ab Z (Bf Z Z J (Ay (H.cel 8 Z (X.length+1) (show ((vL (X++(e1.1,c1)::e2::Y_)).map I++g)[X.length+1]?=some (I (e2.2:Int)) from (by rw[Aeg O,Aej];simp[vL]))))) ?_))))))));refine Aq Z (call230 _) (Jx pp mb n o t1 (c1::(vals es1++(vals X++(vals Y_++Q)))) e2.2 (decide (h=0)) es2 i8 (by have:=O1.st.k;omega) (by simp only[Aeb,Ad9,Kf];omega)) H.f4 ?_;rintro _ w _ (⟨i6,v8,v9,s2,rfl,rfl⟩|⟨t2,c2,v8,v9,O2,rfl,rfl⟩) H'
 ·have H:=H'.l11;have c5:=H.sy 0 (·.slc)
  have b9:=H.sy 1 (·.slc);refine Za 4 [] H Z ?_;intro n4 w H;refine Zc 1 Z (Az Z Z (Ak 0 H Z Z Z Z (vs:=[.bool (decide (h=0)),v8,v9]) Z (Ad Z (Ad c5.one (Ad b9.one Aw))) J O (out:=[.bool (decide (h=0)),v8,v9]) Z) ?_);rintro w H;replace H:=H.l12;refine Z4 20 [3,4,3,9] H Z ?_;intro w H;refine Zl [9,3] H Z ?_;replace H:=(H.mono 10 (B:=grow 3 1 (.slice (some ⟨gk,0,none⟩) ((kL (X++e1::e2::Y_)).length) y) ((kL (X++(e1.1,c1)::e2::Y_)).length) ((kL (X++(e1.1,c1)::e2::Y_)).map I)) Z (λh q=>by rw[show (kL (X++(e1.1,c1)::e2::Y_)).length=(kL (X++e1::e2::Y_)).length from by simp,show kL (X++(e1.1,c1)::e2::Y_)=kL (X++e1::e2::Y_) from by simp[kL]];exact q.grow U U (by have a:=e8;have b:=e0;simp only[Ad9,Aea,Aeb] at a b ⊢;omega) (by rw[AeK,AeA O]))).l12;replace H:=(H.mono 11 (B:=grow 3 1 (.slice (some ⟨gv,0,none⟩) ((vL (X++e1::e2::Y_)).length) s) ((vL (X++(e1.1,c1)::e2::Y_)).length) ((vL (X++(e1.1,c1)::e2::Y_)).map I)) Z (λh q=>by rw[show (vL (X++(e1.1,c1)::e2::Y_)).length=(vL (X++e1::e2::Y_)).length from by simp];exact q.grow U U (by have a:=d9;have b:=e4;simp only[Ad9,Aea,Aeb] at a b ⊢;omega) (by rw[AeK,AeA O]))).l12;exact ⟨_,.inl ⟨(by have:=O1.st.f;omega),_,_,_,_,Z,Z⟩,H.perm 12 [10,11,3] Z Z⟩
 have H:=H'.l11;have c5:=H.sy 0 (·.slc);have b9:=H.sy 1 (·.slc);refine Za 4 [] H Z ?_;intro l1 w H;refine Zc 1 Z (Az Z Z (Ak 0 H Z Z Z Z (vs:=[.bool (decide (h=0)),v8,v9]) Z (Ad Z (Ad c5.one (Ad b9.one Aw))) J O (out:=[.bool (decide (h=0)),v8,v9]) Z) ?_);rintro w H;replace H:=H.l12;refine Z0 13 [4] Z ?_;replace H:=H.f4;refine AO (Sep z (blk b1 [.bool false,.slice (some ⟨gk,0,none⟩) ((kL (X++e1::e2::Y_)).length) y,.slice (some ⟨gv,0,none⟩) ((vL (X++e1::e2::Y_)).length) s] 249::blk l1 [.bool (decide (h=0)),v8,v9] 249::R)) 12 Z J (A5 H λw H'=>?_);have H:=H'.l12;refine HC [0,1,2,3,4,5,6,7] [2,0,0,1,3] [(X.length:Int)+1] (by exact H.pick 12 [0,1] Z) Z J U Z (BO 8 Z J J J Z Z Z (CH Z (z:=1) (j:=(X.length+1)) (r:=(X.length+1)) J Z Z U (by simp only[Aea,Ad9,Aeb];omega) U) (H.pick 12 [0,1] Z) (AB [9] J O (An (Bg Z Z Z (Ak 11 H Z Z Z Z (vs:=[I (c2:Int)]) Z (Ad Z Aw) J (by simp only[Ad9,Aea,Aeb,Aew];omega) (out:=((vL (X++(e1.1,c1)::(e2.1,c2)::Y_)).map I++g)) ((Eb O).trans (by rw[show (vL (X++(e1.1,c1)::e2::Y_)).set (X.length+1) (c2:Int)=(vL (X++(e1.1,c1)::(e2.1,c2)::Y_)) from by simp[vL,AfT]]))) ?_))));rintro w H;replace H:=H.l12;refine Av (H.pick 12 [0,1] Z) (HC [10] [2,3,1,3] [] (by exact H.pick 12 [0,1] Z) Z J U Z (AB [11] J O (An (Bg Z Z Z (Ak 8 H Z Z Z Z (vs:=[.bool (decide (h=0)),v8,v9]) Z (Ad Z (Ad c5.one (Ad b9.one Aw))) J O (out:=[.bool (decide (h=0)),v4,v5,.bool (decide (h=0)),v8,v9]) Z) ?_))));rintro w H;replace H:=H.l12;refine Av (H.pick 12 [0,1] Z) (a_done J (gn (Z1 6 [] [2] Z U (gf (DE (Z0 9 [4] Z (gx (Zc 3 Z ?_))))))));have K2:=H.says 4 Z (λh a=>trA.k a);have h7:Bd t2.N h es1 e2.1 La:=O2.st.bd (λv m=>by simp[m]) (O1.bd k4);have i1:Bd t2.N h es2 (nx Y_ hi) Lb:=O2.bd j4;have d2:es2≠[]:=λq=>by rw[q] at i0;simp at i0;omega
 obtain ⟨c4,a1,a7⟩:=ZF h7 i1 f2.srt e3.srt j8 i9 d2 j3 j1;have b4:(vals (es1++es2)).Nodup:=c4.nd a1 (λx hx=>(a7 x hx).2) hP.d;have a3:=O2.st.op c1 O O1.N0 O1.C1;have f0:Sq (λc a b L=>Tr t2.N h c a b 4 L) X e1.1 L0:=Sq.imp hP.q0 λx hx _ _ q=>O2.st.fr _ (by simp[Aeu hx,vals]) _ _ _ _ _ (O1.st.fr _ (by simp[Aeu hx,vals]) _ _ _ _ _ q);have e6:Sq (λc a b L=>Tr t2.N h c a b 4 L) Y_ hi L2:=Sq.imp hP.q2 λx hx _ _ q=>O2.st.fr _ (by simp[Aeu hx,vals]) _ _ _ _ _ (O1.st.fr _ (by simp[Aeu hx,vals]) _ _ _ _ _ q);have k9:∀v∈vals es1,1<=v/\v<1024:=λv m=>by have:=K2.i.rin v (by simp[CT,m]);omega
 have k2:∀v∈vals es2,1<=v/\v<1024:=λv m=>by have:=K2.i.rin v (by simp[CT,m]);omega
 have a8:=CkN.of f2 k9;have a9:=CkN.of e3 k2;have b5:=Jz a7 (by have:=hP.l0;omega) (by have:=hP.h1;omega);refine Z3 5 [2,3,0,0,8,3,2,3,1,3,8,3] [] H Z U ?_;rcases Ael 8 (es1.length+es2.length) with hj|hj
 ·refine z_E_ Z (call259 _) (joinF_e (λh q=>q.rd) (λh q=>q.rd) (λh q=>q.rd) (λh q=>q.rd) a8 a9 a1 hj) H.f3.f3.f7.f7 ?_;intro w H;refine Za 3 [] H Z ?_;intro n0 w H;refine Z5 20 [0,4,2,3,0,0,9,3,2,3,1,3,9,3] [] H Z U ?_;intro w H;have h0:5<=FG es1 es2/\FG es1 es2<=8/\4<=(es1++es2).length-FG es1 es2/\(es1++es2).length-FG es1 es2<=8:=by unfold FG;simp only[Ad9];omega
  have e7:=AeI (FG es1 es2) (es1++es2);obtain ⟨x_,d8⟩:∃x_,x_=(es1++es2).take (FG es1 es2):=⟨_,Z⟩;obtain ⟨y_,e9⟩:∃y_,y_=(es1++es2).drop (FG es1 es2):=⟨_,Z⟩;refine Aq Z (call260 _) (ZG (λh q=>q.rd) (λh q=>q.rd) (λh q=>q.rd) (λh q=>q.rd) a8 a9 a1 hj x_ y_ d8 e9) H.f4.f4.f4.f4 ?_;rintro _ w _ ⟨g0,e5,i2,b8,rfl,rfl⟩ H;replace H:=H.l17;have h3:=H.sy 0 (·.slc);have i3:=H.sy 1 (·.slc);have d4:=H.sy 2 (·.slc);have g9:=H.sy 3 (·.slc);have c8:4<=x_.length/\x_.length<=8:=by rw[d8,Aes];simp only[Ad9] at h0 ⊢;omega
  have a5:4<=y_.length/\y_.length<=8:=by rw[e9,AeG];exact h0.2.2
  rw[<-d8,<-e9] at e7;rw[<-e7] at c4 a1 a7 b4 b5;have d0:x_≠[]:=λq=>by rw[q] at c8;simp at c8
  have d5:y_≠[]:=λq=>by rw[q] at a5;simp at a5
  obtain ⟨M1,M2,hM,g2,i7⟩:=Bd.app.1 c4;obtain ⟨g5,g4,c9,d1⟩:=OH a1 a7 d0 d5;obtain ⟨m0,j6,_⟩:=Srt.app.1 a1;rw[BM,Ae4] at b4;obtain ⟨ky,f9⟩:∃ky,ky=nx y_ (nx Y_ hi):=⟨_,Z⟩;rw[<-f9] at g2 g5 g4 c9 d1;have j5:(Nd.mk (decide (h=0)) x_).Ok:=⟨m0,c8.2,λe he=>b5 e (by simp[he]),λ_=>d0⟩;have k3:(Nd.mk (decide (h=0)) y_).Ok:=⟨j6,a5.2,λe he=>b5 e (by simp[he]),λ_=>d5⟩;have j0:(c2::(vals es2++(c1::(vals es1++(vals X++(vals Y_++Q)))))).Perm (c1::(vals x_++(c2::(vals y_++(vals X++(vals Y_++Q)))))):=mp3 c1 c2 es1 es2 x_ y_ _ e7.symm;refine Za 4 [] H Z ?_;intro k1 w H;refine Za 0 [] H Z ?_;intro g8 w H;refine Az Z Z (Ak 1 H Z Z Z Z (vs:=[.bool (decide (h=0)),g0,e5]) Z (Ad Z (Ad h3.one (Ad i3.one Aw))) J O (out:=[.bool (decide (h=0)),g0,e5]) Z) ?_;rintro w H;replace H:=H.l19;refine Az Z Z (Ak 0 H Z Z Z Z (vs:=[.bool (decide (h=0)),i2,b8]) Z (Ad Z (Ad d4.one (Ad g9.one Aw))) J O (out:=[.bool (decide (h=0)),i2,b8]) Z) ?_;rintro w H;replace H:=H.l19;refine Z0 15 [4] Z ?_;replace H:=(H.mono 13 (B:=trA Tb pp mb n o (some (t2,c1::(vals x_++(c2::(vals y_++(vals X++(vals Y_++Q)))))))) Z (λh q=>q.perm j0)).l19;replace H:=(H.pick 19 [11,1,18,0,2,3,4,5,6,7,8,9,10,12,13,14,15,16,17] Z).l19;refine AO (Sep z (blk b1 [.bool false,.slice (some ⟨gk,0,none⟩) ((kL (X++e1::e2::Y_)).length) y,.slice (some ⟨gv,0,none⟩) ((vL (X++e1::e2::Y_)).length) s] 249::blk k1 [.bool (decide (h=0)),g0,e5] 249::blk gv ((vL (X++(e1.1,c1)::(e2.1,c2)::Y_)).map I++g) 3::R)) 9 Z J (A5 H λw H'=>?_);have H:=H'.l19;refine AU [0,1,2,3] [2,0,0] [] (by exact H.pick 19 [0,1,2] Z) Z J Z (BO 4 Z J J J Z Z Z (CH Z (z:=1) (j:=X.length) (r:=X.length) J Z Z Z (by simp only[Aea,Ad9,Aeb];omega) U) (H.pick 19 [0,1,2] Z) (BO 5 Z J J J Z Z Z (Bf Z Z J (λ_ hx=>hx.cel 2 Z X.length (show ((vL (X++(e1.1,c1)::(e2.1,c2)::Y_)).map I++g)[X.length]?=some (I (c1:Int)) from (by rw[Aeg O,Aej];simp[vL])))) (H.pick 19 [0,1,2] Z) ?_));refine AU [6] [1,3] [] (by exact H.pick 19 [0,1,2] Z) Z J Z (AB [7] J O (An (PM Z Z Z Z Z Z (λw=>call232 _ w) (F3 pp mb n o t2 (c2::(vals y_++(vals X++(vals Y_++Q)))) c1 (decide (h=0)) _ _ x_ _ _ (λh q=>q.rd) (λh q=>q.rd) h e1.1 ky 4 M1 g2 Z g5 c8.1 j5 b4.1 a3.2 a3.1 (by have:=O1.st.k;have:=O2.st.k;omega)) H 15 [14,4,5,0,1,2,3,6,7,8,9,10,11,12,13] Z Z ?_)));rintro _ w _ ⟨t3,⟨l,c0,k7,j9⟩,rfl,rfl⟩ H;replace H:=H.l19;refine Av (H.pick 19 [3,4,5] Z) (AU [8] [] [] (by exact H.pick 19 [3,4,5] Z) Z J Z (a_done J (gn (Z0 11 [4] Z ?_))));obtain ⟨d6,a6,rfl⟩:=d4;have h6:=(H.rv 7 (·.rd)).at (j:=0) (u:=I ky) (by rw[Aej,FC (hi:=nx Y_ hi) a5.1,f9];rfl);replace H:=(H.pick 19 [3,6,7,0,1,2,4,5,8,9,10,11,12,13,14,15,16,17,18] Z).l19;refine AO (Sep z (blk b1 [.bool false,.slice (some ⟨gk,0,none⟩) ((kL (X++e1::e2::Y_)).length) y,.slice (some ⟨gv,0,none⟩) ((vL (X++e1::e2::Y_)).length) s] 249::blk g8 [.bool (decide (h=0)),.slice d6 ((kL y_).length) a6,b8] 249::grow 3 1 (.slice d6 ((kL y_).length) a6) ((kL y_).length) ((kL y_).map I)::R)) 10 Z J (A5 H λw H'=>?_);have H:=H'.l19;refine HC [0,1,2,3,4,5] [1,0,0,1,1,0] [(X.length:Int)+1] (by exact H.pick 19 [0,1,2] Z) Z J U Z (BO 6 Z J J J Z Z Z (Aj Z (z:=1) (j:=0) (r:=0) J Z Z Z (by simp only[Aea];omega) h6 U) (H.pick 19 [0,1,2] Z) (BO 7 Z J J J Z Z Z (Ax Z Z J (λ_ j2=>(j2.rv 2 (·.rd)).at (j:=0) (u:=I ky) (by rw[Aej,FC (hi:=nx Y_ hi) a5.1,f9];rfl))) (H.pick 19 [0,1,2] Z) ?_));refine BO 8 Z J J J Z Z Z (CH Z (z:=1) (j:=(X.length+1)) (r:=(X.length+1)) J Z Z U (by simp only[Aea,Ad9,Aeb];omega) U) (H.pick 19 [0,1,2] Z) (AB [9] J O (An (Bg Z Z Z (Ak 18 H Z Z Z Z (vs:=[I ky]) Z (Ad Z Aw) J (by simp only[Ad9,Aea,Aeb,Aew];omega) (out:=((kL (X++(e1.1,c1)::(ky,c2)::Y_)).map I++b0)) ((Eb O).trans (by rw[show (kL (X++e1::e2::Y_)).set (X.length+1) ky=(kL (X++(e1.1,c1)::(ky,c2)::Y_)) from by simp[kL,AfT]]))) ?_)));rintro w H;replace H:=H.l19;refine Av (H.pick 19 [0,1,2] Z) (a_done J (gn (Zc 2 Z ?_)));replace H:=(H.mono 3 (B:=trA Tb pp mb n o (some (t3,c2::(vals y_++(c1::(vals X++(vals Y_++Q))))))) Z (λh q=>q.perm (mp4 c1 c2 _ _))).l19;replace H:=(H.pick 19 [0,1,7,2,3,4,5,6,8,9,10,11,12,13,14,15,16,17,18] Z).l19;refine AO (Sep z (blk b1 [.bool false,.slice (some ⟨gk,0,none⟩) ((kL (X++e1::e2::Y_)).length) y,.slice (some ⟨gv,0,none⟩) ((vL (X++e1::e2::Y_)).length) s] 249::blk g8 [.bool (decide (h=0)),.slice d6 ((kL y_).length) a6,b8] 249::blk gv ((vL (X++(e1.1,c1)::(e2.1,c2)::Y_)).map I++g) 3::R)) 12 Z J (A5 H λw H'=>?_);have H:=H'.l19;refine HC [0,1,2,3,4,5] [0,3,2,0,0] [(X.length:Int)+1] (by exact H.pick 19 [0,1,2] Z) Z J U Z (BO 6 Z J J J Z Z Z (CH Z (z:=1) (j:=(X.length+1)) (r:=(X.length+1)) J Z Z U (by simp only[Aea,Ad9,Aeb];omega) U) (H.pick 19 [0,1,2] Z) (BO 7 Z J J J Z Z Z (Bf Z Z J (λ_ hx=>hx.cel 2 Z (X.length+1) (show ((vL (X++(e1.1,c1)::(e2.1,c2)::Y_)).map I++g)[X.length+1]?=some (I (c2:Int)) from (by rw[Aeg O,Aej];simp[vL])))) (H.pick 19 [0,1,2] Z) ?_));refine AU [8] [1,3] [] (by exact H.pick 19 [0,1,2] Z) Z J Z (AB [9] J O (An (PM Z Z Z Z Z Z (λw=>call232 _ w) (F3 pp mb n o t3 (c1::(vals X++(vals Y_++Q))) c2 (decide (h=0)) _ _ y_ _ _ (λh q=>q.rd) (λh q=>q.rd) h ky (nx Y_ hi) 4 M2 (l.bd (λv m=>by simp[m]) i7) Z g4 a5.1 k3 b4.2.1 (l.op c2 O O2.N0 O2.C1).2 (l.op c2 O O2.N0 O2.C1).1 (by have:=O1.st.k;have:=O2.st.k;have:=l.k;omega)) H 9 [4,3,8,0,1,2,5,6,7] Z Z ?_)));rintro _ w _ ⟨t4,⟨a4,l5,l7,k0⟩,rfl,rfl⟩ H;replace H:=H.l19;refine Av (H.pick 19 [3,4,5] Z) (AB [10] J O (An (Bg Z Z Z (Ak 17 H Z Z Z Z (vs:=[.bool false,.slice (some ⟨gk,0,none⟩) ((kL (X++e1::e2::Y_)).length) y,.slice (some ⟨gv,0,none⟩) ((vL (X++e1::e2::Y_)).length) s]) Z (by simp[u8,u32,Value.oneCell']) J O (out:=[.bool false,.slice (some ⟨gk,0,none⟩) ((kL (X++e1::e2::Y_)).length) y,.slice (some ⟨gv,0,none⟩) ((vL (X++e1::e2::Y_)).length) s]) Z) ?_)));rintro w H;replace H:=H.l19;refine Av (H.pick 19 [3,4,5] Z) (AU [11] [] [] (by exact H.pick 19 [3,4,5] Z) Z J Z (a_done J (gn (Zc 2 Z (Zl [17,3] H Z ?_)))));replace H:=(H.mono 18 (B:=grow 3 1 (.slice (some ⟨gk,0,none⟩) ((kL (X++e1::e2::Y_)).length) y) ((kL (X++(e1.1,c1)::(ky,c2)::Y_)).length) ((kL (X++(e1.1,c1)::(ky,c2)::Y_)).map I)) Z (λh q=>by rw[show (kL (X++(e1.1,c1)::(ky,c2)::Y_)).length=(kL (X++e1::e2::Y_)).length from by simp];exact q.grow U U (by have a:=e8;have b:=e0;simp only[Ad9,Aea,Aeb] at a b ⊢;omega) (by rw[AeK,AeA O]))).l19;replace H:=(H.mono 5 (B:=grow 3 1 (.slice (some ⟨gv,0,none⟩) ((vL (X++e1::e2::Y_)).length) s) ((vL (X++(e1.1,c1)::(ky,c2)::Y_)).length) ((vL (X++(e1.1,c1)::(ky,c2)::Y_)).map I)) Z (λh q=>by rw[show (vL (X++(e1.1,c1)::(ky,c2)::Y_)).length=(vL (X++e1::e2::Y_)).length from by simp,show vL (X++(e1.1,c1)::(ky,c2)::Y_)=vL (X++(e1.1,c1)::(e2.1,c2)::Y_) from by simp[vL]];exact q.grow U U (by have a:=d9;have b:=e4;simp only[Ad9,Aea,Aeb] at a b ⊢;omega) (by rw[AeK,AeA O]))).l19;replace H:=(H.mono 0 (B:=trA Tb pp mb n o (some (t4,vals (X++(e1.1,c1)::(ky,c2)::Y_)++Q))) Z (λh q=>q.perm (mp6 c1 c2 e1.1 ky X Y_ Q))).l19;have a0:=mn_share (c1:=c1) (c2:=c2) hP.ok hP.r (Sq.st a4 (λv m=>by simp[m]) (Sq.st l (λv m=>by simp[m]) f0)) (Sq.st a4 (λv m=>by simp[m]) (Sq.st l (λv m=>by simp[m]) e6)) (a4.fr c1 O _ _ _ _ _ c0) l5 hM.symm c9 d1 hP.h1;exact ⟨_,.inr ⟨t4,_,_,_,⟨St.t4 O1.st O2.st l a4 U (λp hp=>by simp[hp]) (λp hp=>by simp[hp]) (λp hp=>by simp[hp]) (λp hp=>by simp[hp]),a0.1,a0.2.1,a0.2.2.1,a0.2.2.2,by simp⟩,Z,Z⟩,H.perm 19 [18,5,0] Z Z⟩
 refine Aq Z (call259 _) (AbR (λh q=>q.rd) (λh q=>q.rd) (λh q=>q.rd) (λh q=>q.rd) a8 a9 a1 hj) H.f3.f3.f7.f7 ?_;rintro _ w _ ⟨d7,g1,rfl,rfl⟩ H;replace H:=H.l14;have h9:=H.sy 0 (·.slc);have i4:=H.sy 1 (·.slc);refine Za 3 [] H Z ?_;intro k5 w H;refine Az Z Z (Ak 0 H Z Z Z Z (vs:=[.bool (decide (h=0)),d7,g1]) Z (Ad Z (Ad h9.one (Ad i4.one Aw))) J O (out:=[.bool (decide (h=0)),d7,g1]) Z) ?_;rintro w H;replace H:=H.l15;refine Z0 13 [3] Z ?_;have l6:(Nd.mk (decide (h=0)) (es1++es2)).Ok:=⟨a1,by simp;omega,b5,λ_=>by simp[d2]⟩;replace H:=(H.mono 9 (B:=trA Tb pp mb n o (some (t2,c1::(vals (es1++es2)++(c2::(vals X++(vals Y_++Q))))))) Z (λh q=>q.perm (AdM c1 c2 es1 es2 _))).l15;replace H:=H.f14.f1.f8;refine AO (Sep z (blk b1 [.bool false,.slice (some ⟨gk,0,none⟩) ((kL (X++e1::e2::Y_)).length) y,.slice (some ⟨gv,0,none⟩) ((vL (X++e1::e2::Y_)).length) s] 249::blk k5 [.bool (decide (h=0)),d7,g1] 249::blk gv ((vL (X++(e1.1,c1)::(e2.1,c2)::Y_)).map I++g) 3::R)) 9 Z J (A5 H λw H'=>?_);have H:=H'.l15;refine AU [0,1,2,3] [2,0,0] [] (by exact H.pick 15 [0,1,2] Z) Z J Z (BO 4 Z J J J Z Z Z (CH Z (z:=1) (j:=X.length) (r:=X.length) J Z Z Z (by simp only[Aea,Ad9,Aeb];omega) U) (H.pick 15 [0,1,2] Z) (BO 5 Z J J J Z Z Z (Bf Z Z J (λ_ hx=>hx.cel 2 Z X.length (show ((vL (X++(e1.1,c1)::(e2.1,c2)::Y_)).map I++g)[X.length]?=some (I (c1:Int)) from (by rw[Aeg O,Aej];simp[vL])))) (H.pick 15 [0,1,2] Z) ?_));refine AU [6] [1,3] [] (by exact H.pick 15 [0,1,2] Z) Z J Z (AB [7] J O (An (Bo Z Z Z Z Z Z (λw=>call232 _ w) (F3 pp mb n o t2 (c2::(vals X++(vals Y_++Q))) c1 (decide (h=0)) _ _ (es1++es2) _ _ (λh q=>q.rd) (λh q=>q.rd) h e1.1 (nx Y_ hi) 4 (La++Lb) c4 Z a7 (by simp;omega) l6 b4 a3.2 a3.1 (by have:=O1.st.k;have:=O2.st.k;omega)) H.f4.f4.f10 Z ?_)));rintro _ w _ ⟨t3,⟨l,c0,k7,j9⟩,rfl,rfl⟩ H;replace H:=H.l15;refine Av (H.pick 15 [3,4,5] Z) (AU [8] [] [] (by exact H.pick 15 [3,4,5] Z) Z J Z (a_done J (gn (Z0 12 [4] Z ?_))));replace H:=(H.mono 0 (B:=trA Tb pp mb n o (some (t3,c2::(c1::(vals X++(vals Y_++Q)))))) Z (λh q=>q.perm (AfR _ _ _))).l15;refine Z3 6 [2,3,0] [(X.length:Int)+1] H Z U (Ab Z (CH Z (z:=1) (j:=(X.length+1)) (r:=(X.length+1)) J Z Z U (by simp only[Aea,Ad9,Aeb];omega) U) (Ab Z (Bf Z Z J (Ay (H.cel 5 Z (X.length+1) (show ((vL (X++(e1.1,c1)::(e2.1,c2)::Y_)).map I++g)[X.length+1]?=some (I (c2:Int)) from (by rw[Aeg O,Aej];simp[vL]))))) ?_));refine Aq Z (call202 _) (GU pp mb n o t3 _ c2 (λd q=>by rw[(l.op c2 O O2.N0 O2.C1).1] at q;cases q)) H ?_;rintro _ w _ ⟨t4,⟨a2,m8,l7,k0,n8⟩,rfl,rfl⟩ H;refine Z0 13 [4] Z ?_;have K4:=H.says 0 Z (λh a=>trA.k a);have c7:∀v∈vals X++vals Y_,1<=v/\v<1024:=λv m=>by have:=K4.i.rin v (by simp only[CT,Aei,Aek] at m ⊢;rcases m with h|h<;>simp[h]);omega
 have d3:1<=c1/\c1<1024:=by have:=K4.i.rin c1 (by simp[CT]);omega
 have g3:1<=c2/\c2<1024:=by have:=K2.i.rin c2 (by simp[CT]);omega
 have k6:=QI (N:=t4.N) (c1:=c1) hP.ok hP.r (Sq.st a2 (λv m=>by simp[m]) (Sq.st l (λv m=>by simp[m]) f0)) (Sq.st a2 (λv m=>by simp[m]) (Sq.st l (λv m=>by simp[m]) e6)) (a2.fr c1 O _ _ _ _ _ c0);have h8:CkN false (kL (X++(e1.1,c1)::Y_)) (vL (X++(e1.1,c1)::Y_)):=CkN.of k6.2.2.1 (λv m=>by rw[BM,B7] at m;simp only[Aek,Aei] at m;rcases m with q|q|q;exact c7 v (by simp[q]);rw[q];exact d3;exact c7 v (by simp[q]));have g7:CkN false (kL (X++(e1.1,c1)::(e2.1,c2)::Y_)) (vL (X++(e1.1,c1)::(e2.1,c2)::Y_)):=CkN.of (Ab0 hP.ok) (λv m=>by rw[BM,B7,B7] at m;simp only[Aek,Aei] at m;rcases m with q|q|q|q;exact c7 v (by simp[q]);rw[q];exact d3;rw[q];exact g3;exact c7 v (by simp[q]));refine Z3 4 [3,3] [((X.length+1:Nat):Int)] H Z U (Aq Z (call234 _) (ZH (λh q=>by rw[show kL (X++(e1.1,c1)::(e2.1,c2)::Y_)=kL (X++e1::e2::Y_) from by simp[kL]];exact q.rd U U (by simp only[Ad9,Aea,Aeb];omega) (by rw[Aep,AeK,AeA O])) (λh q=>by rw[show (vL (X++(e1.1,c1)::(e2.1,c2)::Y_)).length=(vL (X++e1::e2::Y_)).length from by simp];exact q.rd U U (by simp only[Ad9,Aea,Aeb];omega) (by rw[Aep,AeK,AeA O])) g7 h8) H.f5.f14 ?_);rintro _ w _ ⟨h2,g6,rfl,rfl⟩ H;replace H:=H.l17;have h4:=H.sy 0 (·.slc);have h5:=H.sy 1 (·.slc);refine Zc 2 Z (Az Z Z (Ak 16 H Z Z Z Z (vs:=[.bool false,h2,g6]) Z (Ad Z (Ad h4.one (Ad h5.one Aw))) J O (out:=[.bool false,h2,g6]) Z) ?_);rintro w H;replace H:=H.l17;refine Zc 4 Z (Zl [16,3] H Z ?_);replace H:=(H.mono 4 (B:=trA Tb pp mb n o (some (t4,vals (X++(e1.1,c1)::Y_)++Q))) Z (λh q=>q.perm (mp5 c1 e1.1 X Y_ Q))).l17;have a0:=QI (c1:=c1) hP.ok hP.r (Sq.st a2 (λv m=>by simp[m]) (Sq.st l (λv m=>by simp[m]) f0)) (Sq.st a2 (λv m=>by simp[m]) (Sq.st l (λv m=>by simp[m]) e6)) (a2.fr c1 O _ _ _ _ _ c0);exact ⟨_,.inr ⟨t4,_,_,_,⟨St.t4 O1.st O2.st l a2 U (λp hp=>by simp[hp]) (λp hp=>by simp[hp]) (λp hp=>by simp[hp]) (λp hp=>by simp[hp]),a0.1,a0.2.1,a0.2.2.1,a0.2.2.2,by simp;omega⟩,Z,Z⟩,H.perm 17 [0,1,4] Z Z⟩
end
section
variable{Tb:Af}
structure RmPre(n:Nat)(t:TS)(Q:List Nat)(a h:Nat)(lo hi:Int)(m:Nat)(key:Int)(v0:Nat)(L:List E):Prop where
 T:Tr t.N h a lo hi m L
 kin:(key,v0)∈L
 l0:0<=lo
 h1:hi<=1048576
 d:(vals L).Nodup
 mm:1<=m/\(h≠0->2<=m)
 hk:t.k+6*h+4<40
 hb:Q.length+10*h+42+n<=980
abbrev K7(Tb:Af)(pp mb n:Nat)(o:TB)(t:TS)(Q:List Nat)(h:Nat)(lo hi:Int)(m:Nat)(key:Int)(L:List E)(v:Value)(Γ:List Af):Prop:=
 (cnt t.F 0 1024<=3*h/\∃s:TS×List Nat,v=.tuple #[.int .i64 0,.int .i64 0,.int .i64 20]/\Γ=[trA Tb pp mb n o (some s)])\/
 ∃(t2:TS) (c:Nat) (es':List E),(St t t2 Q (3*h+1) (6*h+2)/\Tr t2.N h c lo hi es'.length (BU key L)/\t2.N c=some (.nd ⟨decide (h=0),es'⟩)/\t2.C c=1/\m<=es'.length+1)/\v=.tuple #[.int .i64 (c:Int),.int .i64 (es'.length:Int),.int .i64 0]/\Γ=[trA Tb pp mb n o (some (t2,c::Q))]
theorem K8{key:Int}{L:List E}(h:(vals L).Nodup):(vals (BU key L)).Nodup:=by
 unfold vals BU;exact List.Nodup.sublist (List.Sublist.map _ List.filter_sublist) h
theorem ZI{X Y_:List E}{key:Int}{v0 c:Nat}{Q:List Nat}:(c::(vals (X++(key,v0)::Y_)++Q)).Perm (v0::(c::(vals (X++Y_)++Q))):=
 Afx.2 λa=>by simp only[Afl,Ae7,DK,Eg];omega
theorem Wg{X Y_:List E}{e:E}{c:Nat}{Q:List Nat}:(c::(vals (X++e::Y_)++Q)).Perm (e.2::(c::(vals X++(vals Y_++Q)))):=
 Afx.2 λa=>by simp only[Afl,Ae7,DK,Eg];omega
theorem TJ{X Y_:List E}{k:Int}{c c2:Nat}{Q:List Nat}:(c2::(c::(vals X++(vals Y_++Q)))).Perm (vals (X++(k,c2)::Y_)++(c::Q)):=
 Afx.2 λa=>by simp only[Afl,Ae7,DK,Eg];omega
theorem MN{es:List E}{c:Nat}{Q:List Nat}:(vals es++(c::Q)).Perm (c::(vals es++Q)):=Afb
theorem Wh{N:Hm}{X Y_:List E}{lo hi:Int}{key:Int}{v0:Nat}(d:(Nd.mk true (X++(key,v0)::Y_)).Ok)(n:B0 lo hi (X++(key,v0)::Y_))(h:∀e∈X++(key,v0)::Y_,∃b,N e.2=some (.dt b))(c:(vals (X++(key,v0)::Y_)).Nodup):
  BU key (X++(key,v0)::Y_)=X++Y_/\Bd N 0 (X++Y_) hi (X++Y_)/\B0 lo hi (X++Y_)/\(Nd.mk true (X++Y_)).Ok/\(vals (X++Y_)).Nodup:=by
 have hs:Srt (X++(key,v0)::Y_):=d.srt;obtain ⟨o,p,l⟩:=Srt.app.1 hs;have g:∀x∈X++Y_,x∈X++(key,v0)::Y_:=λx f=>by
  rcases Aek.1 f with q|q<;>simp[q]
 have m:(X++(key,v0)::Y_).length<=8:=d.len;refine ⟨LR hs,⟨Z,λe i=>h e (g e i)⟩,λx f=>n x (g x f),⟨Srt.app.2 ⟨o,(Srt.cons.1 p).2,λa j b k=>l a j b (by simp[k])⟩,by simp at m ⊢;omega,λe i=>d.key e (g e i),λq=>by cases q⟩,?_⟩;rw[BM,B7] at c;rw[BM];exact (Afc.1 (Afb.nodup_iff.1 c)).2
theorem Ac9{N:Hm}{h:Nat}{lo hi:Int}{L X Y_:List E}{e:E}{key:Int}{v0:Nat}(hs:Srt (X++e::Y_))(i:B0 lo hi (X++e::Y_))(p:Bd N (h+1) (X++e::Y_) hi L)(l:X=[]\/e.1<=key)(n:∀x∈Y_,key<x.1/\e.1<x.1)(m:(key,v0)∈L):
  ∃L0 Lc L2,(Sq (λc a b L=>Tr N h c a b 4 L) X e.1 L0/\Tr N h e.2 e.1 (nx Y_ hi) 4 Lc/\Sq (λc a b L=>Tr N h c a b 4 L) Y_ hi L2)/\L=L0++(Lc++L2)/\BU key L=L0++(BU key Lc++L2)/\(key,v0)∈Lc/\lo<=e.1/\nx Y_ hi<=hi:=by
 obtain ⟨L0,Lc,L2,rfl,f,u,g⟩:=Sq.at p;obtain ⟨r,s,o⟩:=Srt.app.1 hs;have a1:=Sq.srt f r (λx d=>o x d e O) (λ_ _ _ _ q=>Tr.srt q);have a3:=Sq.srt g (Srt.cons.1 s).2 (λx d=>(i x (by simp[d])).2) (λ_ _ _ _ q=>Tr.srt q);have k:∀x∈L0,x.1≠key:=λx d=>by
  rcases l with rfl|l
  ·simp only[Sq] at f;subst f;simp at d
  have:=a1.2.1 x d;omega
 have j:∀x∈L2,x.1≠key:=λx d=>by
  cases Y_ with
  | nil=>simp only[Sq] at g;subst g;simp at d
  | cons y t=>
   have:=a3.2.1 x d;have:=n y O;simp only[nx] at *;omega
 refine ⟨L0,Lc,L2,⟨f,u,g⟩,Z,?_,?_,(i e O).1,RL (λx d=>(i x (by simp[d])).2)⟩
 ·rw[Ka,Ka,Gv k,Gv j]
 rcases Aek.1 m with q|q
 ·exact absurd Z (k _ q)
 rcases Aek.1 q with q|q
 ·exact q
 exact absurd Z (j _ q)
theorem rm_node{lo hi:Int}{X Y_:List E}{e:E}(c2:Nat)(b:(Nd.mk false (X++e::Y_)).Ok)(c:B0 lo hi (X++e::Y_)):(Nd.mk false (X++(e.1,c2)::Y_)).Ok/\B0 lo hi (X++(e.1,c2)::Y_):=by
 have hs:Srt (X++e::Y_):=b.srt;have d:=Ke (k1:=e.1) c2 hs c (.inr Z) (Afg _) (c e O).1;have f:(X++e::Y_).length<=8:=b.len;refine ⟨⟨d.1,by simp at f ⊢;omega,λx a=>?_,λ_=>by simp⟩,d.2⟩;have a:x∈X++(e.1,c2)::Y_:=a;rcases Aek.1 a with a|a
 ·exact b.key x (by simp[a])
 rcases Aei.1 a with rfl|a
 ·exact b.key e O
 exact b.key x (by simp[a])
theorem rm_pick{n:Nat}{t:TS}{Q:List Nat}{h c2:Nat}{lo hi:Int}{X Y_:List E}{k:Int}{L0 Lc L2:List E}{e:Nat}(f:(Nd.mk false (X++(k,c2)::Y_)).Ok)(r:B0 lo hi (X++(k,c2)::Y_))(j:Sq (λc a b L=>Tr t.N h c a b 4 L) X k L0)(m:Tr t.N h c2 k (nx Y_ hi) e Lc)(p:Sq (λc a b L=>Tr t.N h c a b 4 L) Y_ hi L2)
  (h3:3<=e)(h2:2<=(X++(k,c2)::Y_).length)(i:0<=lo)(l:hi<=1048576)(d:(vals (L0++(Lc++L2))).Nodup)(g:t.k+5<40)(o:Q.length+30+n<=980):
  ∃U_ V u q w m3 M0 Ma Mb M2,X++(k,c2)::Y_=U_++u::q::V/\min (X.length:Int) (((X++(k,c2)::Y_).length:Int)-2)=(U_.length:Int)/\L0++(Lc++L2)=M0++(Ma++(Mb++M2))/\MnPre n t Q h lo hi U_ V u q w m3 M0 Ma Mb M2:=by
 cases Y_ with
 | cons y Y_=>
  obtain ⟨Ly,L3,rfl,z,q3⟩:=p;refine ⟨X,Y_,(k,c2),y,e,4,L0,Lc,Ly,L3,Z,?_,Z,f,r,j,m,z,q3,by omega,i,l,?_,g,o⟩
  ·simp only[Ad9,Aeb];omega
  rw[BM,BM,BM,Ae4] at d;have s:=d.2.1;rw[<-Aec,Ae4] at s;rw[BM];exact s.1
 | nil=>
  have e2:L2=[]:=p;subst e2;rcases AhJ X with rfl|⟨X',x,rfl⟩
  ·simp at h2
  rw[AhK] at *;obtain ⟨La,Lb,rfl,qa,Lx,L5,rfl,hx,v⟩:=Sq.app.1 j;have e5:L5=[]:=v;subst e5;refine ⟨X',[],x,(k,c2),4,e,La,Lx,Lc,[],by simp,?_,by simp,?_,?_,qa,hx,m,Z,by omega,i,l,?_,g,o⟩
  ·simp only[Ad9,Aeb,Aew];omega
  ·rw[Aec] at f;exact f
  ·rw[Aec] at r;exact r
  simp only[BM,AeQ,Aec,Ae4] at d ⊢;simp only[vals,Aft,AeL] at d ⊢;exact ⟨d.2.1.1,d.2.1.2.1,d.2.1.2.2⟩
end
section
variable{Tb:Af}
set_option maxHeartbeats 2000000 in
theorem Ab2 (pp mb n:Nat) (o:TB) (t:TS) (Q:List Nat) (a:Nat) (lo hi:Int) (m:Nat) (key:Int) (v0:Nat) (L:List E) (y:RmPre n t Q a 0 lo hi m key v0 L):Cn prog 201 [Y pp,I (a:Int),I key] [trA Tb pp mb n o (some (t,a::Q))] (λv Γ=>K7 Tb pp mb n o t Q 0 lo hi m key L v Γ):=by
 intro z R w H;replace H:=H.l1;have K:=H.says 0 Z (λh a=>trA.k a);have hn:=K.hn;have a5:=y.kin;have hdL:=y.d;have d1:=y.hk;have d3:=y.hb;obtain ⟨c8,c7⟩:=y.mm;obtain ⟨es,hN,hm,b8,a0,a2,a8⟩:=y.T;have c0:CkN true (kL es) (vL es):=K.i.vok U hn.2 hN;have c4:=(K.i.nds a _ hN).2.1;obtain rfl:es=L:=a2.symm;refine Ae func201 Z ntmps201 Z (Zc 11 Z (Aq Z (call230 _) (Jx pp mb n o t Q a true es hN U U) H ?_));rintro _ w _ (⟨c1,v1,v2,s,rfl,rfl⟩|⟨t1,c,v1,v2,O_,rfl,rfl⟩) H'
 ·have H:=H'.l3;have a1:=H.sy 0 (·.slc)
  have x:=H.sy 1 (·.slc);refine Za 4 [] H Z ?_;intro b3 w H;refine Zc 1 Z (Az Z Z (Ak 0 H Z Z Z Z (vs:=[.bool true,v1,v2]) Z (Ad Z (Ad a1.one (Ad x.one Aw))) J O (out:=[.bool true,v1,v2]) Z) ?_);rintro w H;replace H:=H.l4;refine Z0 20 [3] Z (Zr Z ?_);exact ⟨_,.inl ⟨by omega,_,Z,Z⟩,H.perm 4 [3] Z Z⟩
 have H:=H'.l3;have a1:=H.sy 0 (·.slc);have x:=H.sy 1 (·.slc);refine Za 4 [] H Z ?_;intro b4 w H;refine Zc 1 Z (Az Z Z (Ak 0 H Z Z Z Z (vs:=[.bool true,v1,v2]) Z (Ad Z (Ad a1.one (Ad x.one Aw))) J O (out:=[.bool true,v1,v2]) Z) ?_);rintro w H;replace H:=H.l4;refine Z2 25 [4,0,0,0,0,3] H Z (Aq Z (call161 _) (OK (es:=es) (λh q=>q.rd) (λh q=>q.rd) a0.len a0.srt key) H.f2.f2 ?_);rintro _ w _ (⟨X,vd,Y_,⟨g,hX⟩,rfl,rfl⟩|⟨b9,i0,rfl,rfl⟩) H'
 ·have H:=H'.l4;refine Zc 9 Z ?_;have c3:∀d,t1.N vd≠some (.nd d):=λd q=>by obtain ⟨b,hb⟩:=a8 (key,vd) (by rw[g];simp);rw[O_.dv vd (by rw[g];simp[vals]) b hb] at q;cases q
  obtain ⟨a6,a9,b2,a4,b6⟩:=Wh (N:=t1.N) (by rw[<-g];exact a0) (by rw[<-g];exact b8) (λe he=>by obtain ⟨b,hb⟩:=a8 e (by rw[g];exact he);exact ⟨b,O_.dv _ (by rw[g];exact Aeu he) b hb⟩) (by rw[<-g];exact c4);obtain ⟨c9,d2,rfl⟩:=x;have b0:=(H.rv 1 (·.rd)).at (j:=X.length) (u:=I (vd:Int)) (by rw[g];simp[vL]);replace H:=(H.mono 3 (B:=trA Tb pp mb n o (some (t1,vd::(c::(vals (X++Y_)++Q))))) Z (λh q=>q.perm (by rw[g];exact ZI))).l4;refine Z2 5 [2,2,0] H Z (Ab Z (Aj Z (z:=1) (j:=X.length) (r:=X.length) J Z Z Z (by rw[g];simp) b0 U) (Ab Z (Ax Z Z J (Ay b0)) (Aq Z (call202 _) (GU pp mb n o t1 _ vd c3) H.f3 ?_)));rintro _ w _ ⟨t2,⟨l,d4,d6,d0,d5⟩,rfl,rfl⟩ H;refine Z2 16 [4,3,3] H Z ?_;have c5:∀v∈vals (X++Y_),1<=v/\v<1024:=λv hv=>by have K2:=H.says 0 Z (λh a=>trA.k a);have:=K2.i.rin v (by simp[CT,hv]);omega
  refine Aq Z (call234 _) (AbQ (lf:=true) (X:=X) (e:=(key,vd)) (Y_:=Y_) (by rw[<-g];exact (λh q=>q.rd)) (by rw[<-g];exact (λh q=>q.rd)) (by rw[<-g];exact c0) (CkN.of a4 c5)) H.f2.f2 ?_;rintro _ w _ ⟨v5,v6,rfl,rfl⟩ H;replace H:=H.l6;have a3:=H.sy 0 (·.slc);have b5:=H.sy 1 (·.slc);refine Zc 3 Z (Az Z Z (Ak 5 H Z Z Z Z (vs:=[.bool true,v5,v6]) Z (Ad Z (Ad a3.one (Ad b5.one Aw))) J O (out:=[.bool true,v5,v6]) Z) ?_);rintro w H;replace H:=H.l6;refine Z0 14 [4] Z ?_;replace H:=H.f5;refine AO (Sep z (blk b4 [.bool true,v5,v6] 249::R)) 11 Z J (A5 H λw H'=>?_);have H:=H'.l6;refine AU [0,1,2] [1,0,0] [] (by exact H.pick 6 [0] Z) Z J Z (BO 3 Z J J J Z Z Z (Ed Z (sz:=1) J Z a3) (H.pick 6 [0] Z) (AU [4,5,6] [0,3] [] (by exact H.pick 6 [0] Z) Z J Z (AB [7] J O (An (Bo Z Z Z Z Z Z (λw=>call232 _ w) (F3 pp mb n o t2 Q c true _ _ (X++Y_) _ _ (λh q=>q.rd) (λh q=>q.rd) 0 lo hi (X++Y_).length (X++Y_) (l.bd (λv hv=>by simp[hv]) a9) Z b2 (Aed _) a4 b6 (l.op c O O_.N0 O_.C1).2 (l.op c O O_.N0 O_.C1).1 (by have:=O_.st.k;have:=l.k;omega)) H.f2.f2.f5 Z ?_)))));rintro _ w _ ⟨t3,⟨a7,c6,b7,c2⟩,rfl,rfl⟩ H;replace H:=H.l6;refine Av (H.pick 6 [3] Z) (AU [8,9,10] [] [] (by exact H.pick 6 [3] Z) Z J Z (a_done J (gn (Zc 2 Z (Zr Z ?_)))));exact ⟨_,.inr ⟨t3,c,X++Y_,⟨((O_.st.sub (R':=Q) (λp hp=>hp) (Aed _) (Aed _)).trans l (R:=Q) (R1:=Q) (λp hp=>hp) (λp hp=>by simp[hp]) (e:=1) (f:=1) U U).trans a7 (λp hp=>hp) (λp hp=>hp) U U,by rw[g,a6];exact c6,by rw[c2];exact BI _ _ _,by rw[b7];exact (l.op c O O_.N0 O_.C1).2,by have:es.length=X.length+Y_.length+1:=(by rw[g];simp;omega);simp only[Ad9];omega⟩,congrArg (λq:Int=>Value.tuple #[I (c:Int),I q,I 0]) O,Z⟩,H.perm 6 [0] Z Z⟩
 exact absurd ⟨v0,a5⟩ b9
set_option maxHeartbeats 4000000 in
theorem Ab3 (pp mb n:Nat) (o:TB) (t:TS) (Q:List Nat) (h:Nat) (ih:∀(t:TS) (Q:List Nat) (a:Nat) (lo hi:Int) (m:Nat) (key:Int) (v0:Nat) (L:List E),RmPre n t Q a h lo hi m key v0 L->Cn prog 201 [Y pp,I (a:Int),I key] [trA Tb pp mb n o (some (t,a::Q))] (λv Γ=>K7 Tb pp mb n o t Q h lo hi m key L v Γ)) (a:Nat) (lo hi:Int) (m:Nat) (key:Int) (v0:Nat) (L:List E) (hP:RmPre n t Q a (h+1) lo hi m key v0 L):Cn prog 201 [Y pp,I (a:Int),I key] [trA Tb pp mb n o (some (t,a::Q))] (λv Γ=>K7 Tb pp mb n o t Q (h+1) lo hi m key L v Γ):=by
 intro z R w H;replace H:=H.l1;have K:=H.says 0 Z (λh a=>trA.k a);have d5:=hP.kin;have h0:=hP.l0;have b2:=hP.h1;have hdL:=hP.d;have i0:=hP.hk;have h6:=hP.hb;obtain ⟨g6,c7⟩:=hP.mm;obtain ⟨es,hN,hm,e0,y,f6⟩:=hP.T;refine Ae func201 Z ntmps201 Z (Zc 11 Z (Aq Z (call230 _) (Jx pp mb n o t Q a false es hN U U) H ?_));rintro _ w _ (⟨e2,v1,v2,s,rfl,rfl⟩|⟨t1,c,v1,v2,O_,rfl,rfl⟩) l
 ·have H:=l.l3;have a0:=H.sy 0 (·.slc)
  have b0:=H.sy 1 (·.slc);refine Za 4 [] H Z ?_;intro b3 w H;refine Zc 1 Z (Az Z Z (Ak 0 H Z Z Z Z (vs:=[.bool false,v1,v2]) Z (Ad Z (Ad a0.one (Ad b0.one Aw))) J O (out:=[.bool false,v1,v2]) Z) ?_);rintro w H;replace H:=H.l4;refine Z0 20 [3] Z (Zr Z ?_);exact ⟨_,.inl ⟨by omega,_,Z,Z⟩,H.perm 4 [3] Z Z⟩
 have H:=l.l3;have a0:=H.sy 0 (·.slc);have b0:=H.sy 1 (·.slc);refine Za 4 [] H Z ?_;intro b4 w H;refine Zc 1 Z (Az Z Z (Ak 0 H Z Z Z Z (vs:=[.bool false,v1,v2]) Z (Ad Z (Ad a0.one (Ad b0.one Aw))) J O (out:=[.bool false,v1,v2]) Z) ?_);rintro w H;replace H:=H.l4;refine Z2 27 [4,0,0,0,0,3] H Z (Aq Z (call162 _) (LZ (es:=es) (λh q=>q.rd) (λh q=>q.rd) y.len y.srt (y.ne Z) key) H.f2.f2 ?_);rintro _ w _ ⟨X,e,Y_,⟨i,hX,h9,hY⟩,rfl,rfl⟩ H;refine Zc 4 Z ?_;obtain ⟨g7,c0,rfl⟩:=b0;have d7:=(H.rv 1 (·.rd)).at (j:=X.length) (u:=I (e.2:Int)) (by rw[i];simp[vL]);replace H:=(H.mono 3 (B:=trA Tb pp mb n o (some (t1,e.2::(c::(vals X++(vals Y_++Q)))))) Z (λh q=>q.perm (by rw[i];exact Wg))).l4;have f5:Srt (X++e::Y_):=by rw[<-i];exact y.srt
 have c8:B0 lo hi (X++e::Y_):=by rw[<-i];exact e0
 have e9:(Nd.mk false (X++e::Y_)).Ok:=by rw[<-i];exact y
 obtain ⟨L0,Lc,L2,⟨e8,f7,e4⟩,d9,b1,g0,i2,g8⟩:=Ac9 f5 c8 (by rw[<-i];exact O_.bd f6) hX hY d5;have h4:X.length+Y_.length+1=es.length:=by rw[i];simp;omega
 have g5:es.length<=8:=y.len;have e7:(vals Lc).Nodup:=by rw[d9,BM,BM,Ae4] at hdL;have h5:=hdL.2.1;rw[Ae4] at h5;exact h5.1
 refine Z2 5 [2,2,0] H Z (Ab Z (Aj Z (z:=1) (j:=X.length) (r:=X.length) J Z Z Z (by rw[i];simp) d7 U) (Ab Z (Ax Z Z J (Ay d7)) (Zc 1 Z (Aq Z (call201 _) (ih t1 (c::(vals X++(vals Y_++Q))) e.2 e.1 (nx Y_ hi) 4 key v0 Lc ⟨f7,g0,by omega,by omega,e7,⟨by omega,λ_=>by omega⟩,by have:=O_.st.k;omega,by simp only[Aeb,Ad9,Kf];omega⟩) H.f3 ?_))));rintro _ w _ (⟨i1,s2,rfl,rfl⟩|⟨t2,c2,g3,⟨g,d4,g9,h8,i3⟩,rfl,rfl⟩) l
 ·have H:=l.l4;refine Z0 26 [3] Z (Zr Z ?_);exact ⟨_,.inl ⟨by have:=O_.st.f;omega,_,Z,Z⟩,H.perm 4 [0] Z Z⟩
 have H:=l.l4;refine Z0 20 [4] Z ?_;have h3:X.length<es.length:=by rw[i];simp
 have d2:0<(vL es).length:=by simp only[Aea];omega
 obtain ⟨b9,d6,a1,g2,e6,e5,f9,l⟩:=H.ungrow 2 Z d2;cases g2;clear H;have H:=l.l4;refine Z2 5 [2,3,0] H Z (Ab Z (CH Z (z:=1) (j:=X.length) (r:=X.length) J Z Z Z (by simp only[Aea];omega) U) (Az Z Z (Ak 2 H Z Z Z Z (vs:=[I (c2:Int)]) Z (by simp[u8,u32,Value.oneCell']) J (by simp only[Ad9,Aea,Aeb,Aew];omega) (out:=(((vL es).set X.length (c2:Int)).map I++a1)) (Eb (by simp only[Aea];omega))) ?_));rintro w H;replace H:=H.l4;refine Zc 4 Z ?_;have d0:(vL es).length=(vL (X++(e.1,c2)::Y_)).length:=by rw[i];simp
 have g4:(vL es).set X.length (c2:Int)=vL (X++(e.1,c2)::Y_):=by rw[i];simp[vL,AfT]
 have a7:kL es=kL (X++(e.1,c2)::Y_):=by rw[i];simp[kL]
 have f4:(kL es).length=es.length:=by simp
 obtain ⟨b8,b5⟩:=rm_node c2 e9 c8;have d1:Sq (λc a b L=>Tr t2.N h c a b 4 L) X e.1 L0:=Sq.st g (λv hv=>by simp[hv]) e8;have c6:Sq (λc a b L=>Tr t2.N h c a b 4 L) Y_ hi L2:=Sq.st g (λv hv=>by simp[hv]) e4;have b6:(X++(e.1,c2)::Y_).length=es.length:=by simp only[Ad9,Aeb];omega
 have a2:=g.op c O O_.N0 O_.C1;have c5:(vals (L0++(BU key Lc++L2))).Nodup:=by rw[<-b1];exact K8 hdL
 replace H:=(H.mono 2 (B:=grow 3 1 (.slice (some ⟨b9,0,none⟩) ((vL es).length) c0) ((vL es).length) ((vL (X++(e.1,c2)::Y_)).map I)) Z (λh q=>q.grow U U (by simp only[Ad9,Aea,AeP];simp only[Aea] at *;omega) (by rw[AeK,AeA O,g4]))).l4;replace H:=(H.mono 0 (B:=trA Tb pp mb n o (some (t2,vals (X++(e.1,c2)::Y_)++(c::Q)))) Z (λh q=>q.perm TJ)).l4;refine Z0 4 [0] Z (Al 87 Z (λh1=>?_) (λh1=>?_))
 ·refine Z2 2 [1,3,0] H Z (Ab Z (Ed Z (sz:=1) J Z a0) (Z0 4 [0] Z (Ag Z (λh2=>?_) (λh2=>?_))))
  ·refine Zc 1 Z ?_;have d3:3<=g3.length:=by omega
   obtain ⟨U_,V,f1,f2,m2,m3,M0,Ma,Mb,M2,hU,c9,f8,f0⟩:=rm_pick (n:=n) (t:=t2) (Q:=c::Q) b8 b5 d1 d4 c6 d3 U h0 b2 c5 (by have:=O_.st.k;have:=g.k;omega) (by simp only[Aeb];omega);replace H:=(H.mono 1 (B:=grow 3 1 v1 ((kL (U_++f1::f2::V)).length) ((kL (U_++f1::f2::V)).map I)) Z (λh q=>by rw[<-hU,<-a7];exact q)).l4;replace H:=(H.mono 2 (B:=grow 3 1 (.slice (some ⟨b9,0,none⟩) ((vL es).length) c0) ((vL (U_++f1::f2::V)).length) ((vL (U_++f1::f2::V)).map I)) Z (λh q=>by rw[<-hU,<-d0];exact q)).l4;replace H:=(H.mono 0 (B:=trA Tb pp mb n o (some (t2,vals (U_++f1::f2::V)++(c::Q)))) Z (λh q=>by rw[<-hU];exact q)).l4;refine Z2 6 [3,3,1,3,0] H Z (Ab Z (Ed Z (sz:=1) J Z a0) (Z1 1 [] [(((kL es).length:Nat):Int)-2] Z U (Ab Z (Kn Z Z Z) (AC 101 (v:=I (U_.length:Int)) Z (congrArg I (by rw[<-c9,b6,f4])) (Aq Z (call235 _) (Ab1 pp mb n o t2 (c::Q) _ _ h lo hi U_ V f1 f2 m2 m3 M0 Ma Mb M2 f0) H ?_)))));rintro _ w _ (⟨h7,v5,v6,a3,s3,rfl,rfl⟩|⟨t3,a3,v5,v6,⟨a6,a9,e3,g1,d8,e1⟩,rfl,rfl⟩) l
   ·have H:=l.l4;have a8:=H.sy 0 (·.slc)
    have b7:=H.sy 1 (·.slc);refine Zc 3 Z (Az Z Z (Ak 3 H Z Z Z Z (vs:=[.bool false,v5,v6]) Z (Ad Z (Ad a8.one (Ad b7.one Aw))) J O (out:=[.bool false,v5,v6]) Z) ?_);rintro w H;replace H:=H.l4;refine Z0 19 [3] Z (Zr Z ?_);exact ⟨_,.inl ⟨by have:=O_.st.f;have:=g.f;omega,_,Z,Z⟩,H.perm 4 [2] Z Z⟩
   have H:=l.l4;have a8:=H.sy 0 (·.slc);have b7:=H.sy 1 (·.slc);refine Zc 3 Z (Az Z Z (Ak 3 H Z Z Z Z (vs:=[.bool false,v5,v6]) Z (Ad Z (Ad a8.one (Ad b7.one Aw))) J O (out:=[.bool false,v5,v6]) Z) ?_);rintro w H;replace H:=H.l4;refine Z0 13 [4] Z ?_;have a4:=a6.op c O a2.1 a2.2;replace H:=(H.mono 2 (B:=trA Tb pp mb n o (some (t3,c::(vals a3++Q)))) Z (λh q=>q.perm MN)).l4;replace H:=H.f3;refine AO (Sep z (blk b4 [.bool false,v5,v6] 249::R)) 11 Z J (A5 H λw l=>?_);have H:=l.l4;refine AU [0,1,2] [1,0,0] [] (by exact H.pick 4 [0] Z) Z J Z (BO 3 Z J J J Z Z Z (Ed Z (sz:=1) J Z a8) (H.pick 4 [0] Z) (AU [4,5,6] [0,3] [] (by exact H.pick 4 [0] Z) Z J Z (AB [7] J O (An (Bo Z Z Z Z Z Z (λw=>call232 _ w) (F3 pp mb n o t3 Q c false _ _ a3 _ _ (λh q=>q.rd) (λh q=>q.rd) (h+1) lo hi a3.length (BU key L) (by rw[b1,f8];exact a9) O e3 (Aed _) g1 d8 a4.2 a4.1 (by have:=O_.st.k;have:=g.k;have:=a6.k;omega)) H.f2.f2.f3 Z ?_)))));rintro _ w _ ⟨t4,⟨a5,c3,c4,c1⟩,rfl,rfl⟩ H;replace H:=H.l4;refine Av (H.pick 4 [3] Z) (AU [8,9,10] [] [] (by exact H.pick 4 [3] Z) Z J Z (a_done J (gn (Zc 2 Z (Zr Z ?_)))));exact ⟨_,.inr ⟨t4,c,a3,⟨(((O_.st.sub (R':=Q) (λp hp=>hp) (Aed _) (Aed _)).trans g (R:=Q) (R1:=Q) (λp hp=>hp) (λp hp=>by simp[hp]) (Aed _) (Aed _)).trans a6 (R:=Q) (R1:=Q) (λp hp=>hp) (λp hp=>by simp[hp]) (Aed _) (Aed _)).trans a5 (λp hp=>hp) (λp hp=>hp) U U,c3,by rw[c1];simp[BI],by rw[c4];exact a4.2,by rw[<-hU,b6] at e1;omega⟩,congrArg (λq:Int=>Value.tuple #[I (c:Int),I q,I 0]) O,Z⟩,H.perm 4 [0] Z Z⟩
  (exfalso;have:=c7 U;simp only[Aea] at *;omega)
 refine Zc 11 Z ?_;have a9:Bd t2.N (h+1) (X++(e.1,c2)::Y_) hi (L0++(BU key Lc++L2)):=Sq.mk (e:=(e.1,c2)) d1 (d4.mono (Afg _) (Afg _) U) c6;replace H:=(H.mono 0 (B:=trA Tb pp mb n o (some (t2,c::(vals (X++(e.1,c2)::Y_)++Q)))) Z (λh q=>q.perm MN)).l4;replace H:=(H.mono 1 (B:=grow 3 1 v1 ((kL es).length) ((kL (X++(e.1,c2)::Y_)).map I)) Z (λh q=>by rw[<-a7];exact q)).l4;replace H:=H.f3;refine AO (Sep z (blk b4 [.bool false,v1,.slice (some ⟨b9,0,none⟩) ((vL es).length) c0] 249::R)) 11 Z J (A5 H λw l=>?_);have H:=l.l4;refine AU [0,1,2] [1,0,0] [] (by exact H.pick 4 [0] Z) Z J Z (BO 3 Z J J J Z Z Z (Ed Z (sz:=1) J Z a0) (H.pick 4 [0] Z) (AU [4,5,6] [0,3] [] (by exact H.pick 4 [0] Z) Z J Z (AB [7] J O (An (Bo Z Z Z Z Z Z (λw=>call232 _ w) (F3 pp mb n o t2 Q c false _ _ (X++(e.1,c2)::Y_) _ _ (λh q=>by rw[<-a7];rw[<-a7] at q;exact q.rd) (λh q=>by rw[<-d0];exact q.rd) (h+1) lo hi (X++(e.1,c2)::Y_).length (BU key L) (by rw[b1];exact a9) O b5 (Aed _) b8 (a9.nodup b8.srt (λx hx=>(b5 x hx).2)) a2.2 a2.1 (by have:=O_.st.k;have:=g.k;omega)) H.f3.f3.f3 Z ?_)))));rintro _ w _ ⟨t4,⟨a5,c3,c4,c1⟩,rfl,rfl⟩ H;replace H:=H.l4;refine Av (H.pick 4 [3] Z) (AU [8,9,10] [] [] (by exact H.pick 4 [3] Z) Z J Z (a_done J (gn (Zc 2 Z (Zr Z ?_)))));exact ⟨_,.inr ⟨t4,c,(X++(e.1,c2)::Y_),⟨((O_.st.sub (R':=Q) (λp hp=>hp) (Aed _) (Aed _)).trans g (R:=Q) (R1:=Q) (λp hp=>hp) (λp hp=>by simp[hp]) (Aed _) (Aed _)).trans a5 (λp hp=>hp) (λp hp=>hp) U U,c3,by rw[c1];simp[BI],by rw[c4];exact a2.2,by rw[b6];omega⟩,congrArg (λq:Int=>Value.tuple #[I (c:Int),I q,I 0]) (by simp only[Aea];omega),Z⟩,H.perm 4 [0] Z Z⟩
end
section
variable{Tb:Af}
theorem OP(pp mb n:Nat)(o:TB):∀(h:Nat) (t:TS) (Q:List Nat) (a:Nat) (lo hi:Int) (m:Nat) (key:Int) (v0:Nat) (L:List E),RmPre n t Q a h lo hi m key v0 L->Cn prog 201 [Y pp,I (a:Int),I key] [trA Tb pp mb n o (some (t,a::Q))] (λv Γ=>K7 Tb pp mb n o t Q h lo hi m key L v Γ)
 | 0=>λt Q a lo hi m key v0 L hP=>Ab2 pp mb n o t Q a lo hi m key v0 L hP
 | h+1=>λt Q a lo hi m key v0 L hP=>Ab3 pp mb n o t Q h (OP pp mb n o h) a lo hi m key v0 L hP
abbrev rootM(h:Nat):Nat:=if h=0 then 1 else 2
theorem Tr.data{N:Hm}{h r:Nat}{lo hi:Int}{m:Nat}{L:List E}(t:Tr N h r lo hi m L):∀e∈L,∃b,N e.2=some (.dt b):=by
 induction h generalizing r lo hi m L with
 | zero=>obtain ⟨es,_,_,_,_,rfl,h⟩:=t;exact h
 | succ h ih=>
  obtain ⟨es,_,_,_,_,i⟩:=t;have key:∀(es:List E) (L:List E),Sq (λc a b L=>Tr N h c a b 4 L) es hi L->∀e∈L,∃b,N e.2=some (.dt b):=by
   intro es
   induction es with
   | nil=>intro L q;have q:L=[]:=q;subst q;simp
   | cons e u ih2=>
    rintro _ ⟨L1,L2,rfl,f,g⟩ x d;rcases Aek.1 d with d|d
    ·exact ih f x d
    exact ih2 L2 g x d
  exact key es L i
theorem delR_none{N:Hm}{h c:Nat}{lo hi:Int}{m:Nat}{L es:List E}{lf:Bool}(t:Tr N h c lo hi m L)(hN:N c=some (.nd ⟨lf,es⟩))(a:es.length=0):L=[]:=by
 have e:es=[]:=Af7.1 a;subst e;obtain ⟨d,b,_,_,f,g⟩:=Tr.iff.1 t;rw[b] at hN;cases hN
 cases h with
 | zero=>exact g.1
 | succ h=>exact absurd Z (f.ne O)
theorem Wi{N:Hm}{h c:Nat}{m:Nat}{L es:List E}{lf:Bool}(t:Tr N h c 0 1048576 m L)(hN:N c=some (.nd ⟨lf,es⟩))(d:es.length=1)(k:h≠0):∃e h',es=[e]/\h=h'+1/\Tr N h' e.2 0 1048576 4 L:=by
 obtain ⟨e,rfl⟩:=List.length_eq_one_iff.1 d;obtain ⟨h',rfl⟩:∃h',h=h'+1:=⟨h-1,by omega⟩;obtain ⟨g,i,_,f,l,j⟩:=t;rw[i] at hN;cases hN;obtain ⟨L1,L2,rfl,b,a⟩:=j;have a:L2=[]:=a;subst a;have:=f e O;refine ⟨e,h',Z,Z,?_⟩;rw[AeQ];exact b.mono this.1 (Afg _) (Aed _)
theorem root_of{N:Hm}{h r:Nat}{m:Nat}{L:List E}(t:Tr N h r 0 1048576 m L)(b:rootM h<=m)(a:r≠0):Root N r L:=.inr ⟨a,h,t.mono (Afg _) (Afg _) b⟩
theorem DP{r:Nat}(h:r≠0):Ba r=[r]:=by simp[Ba,h]
end
section
variable{Tb:Af}
theorem Wj{n:Nat}{o:TB}{T:TT}(K:TrK n o T){h r:Nat}{lo hi:Int}{m:Nat}{L:List E}(t:Tr (Dk o T) h r lo hi m L){key:Int}{v0:Nat}(a:(key,v0)∈L):1<=v0:=by
 have:∃b,Dk o T v0=some (.dt b):=Tr.data t (key,v0) a;obtain ⟨b,c⟩:=this;have:=(K.i.nin v0 _ c).1;omega
set_option maxHeartbeats 2000000 in
theorem Ab4 (pp mb n:Nat) (o:TB) (t:TS) (Q:List Nat) (h a:Nat) (key:Int) (L:List E) (hT:Tr t.N h a 0 1048576 (rootM h) L) (hd:(vals L).Nodup) (hk:t.k+6*h+4<40) (hb:Q.length+10*h+42+n<=980):Cn prog 163 [Y pp,I (a:Int),I key] [trA Tb pp mb n o (some (t,a::Q))] (λv Γ=>(¬CC key L/\v=.tuple #[I (a:Int),.bool false,I 0]/\Γ=[trA Tb pp mb n o (some (t,a::Q))])\/(cnt t.F 0 1024<=3*h/\∃s:TS×List Nat,v=.tuple #[I 0,.bool false,I 20]/\Γ=[trA Tb pp mb n o (some s)])\/∃(t2:TS) (r:Nat),(CC key L/\St t t2 Q (3*h+2) (6*h+3)/\Root t2.N r (BU key L))/\v=.tuple #[I (r:Int),.bool true,I 0]/\Γ=[trA Tb pp mb n o (some (t2,Ba r++Q))]):=by
 intro z R w H;replace H:=H.l1;have K:=H.says 0 Z (λh a=>trA.k a);refine Ae func163 Z ntmps163 Z (Zc 11 Z (z_E_ Z (call195 _) (K6 pp mb n o _) H ?_));intro w H;refine Z0 17 [4] Z (Aq Z (call115 _) (QG pp mb n o (some (t,a::Q)) key L h a _ _ _ hT) H ?_);rintro _ w _ ⟨(⟨v0,b,rfl⟩|⟨b4,rfl⟩),rfl⟩ H'
 ·have H:=H'.l1;refine Zc 9 Z ?_;have b8:1<=v0:=Wj K hT b
  refine Z0 9 [4,0] Z (Ag Z (λh1=>U) (λh1=>?_));refine Zc 7 Z (Aq Z (call201 _) (OP pp mb n o h t Q a 0 1048576 (rootM h) key v0 L ⟨hT,b,by omega,by omega,hd,⟨by unfold rootM;split<;>omega,λq=>by unfold rootM;rw[if_neg q];omega⟩,hk,hb⟩) H ?_);rintro _ w _ (⟨a8,s2,rfl,rfl⟩|⟨t2,c,f,⟨l,y,g,a0,b9⟩,rfl,rfl⟩) H'
  ·have H:=H'.l1;refine Z0 26 [3] Z (Zr Z ?_);exact ⟨_,.inr (.inl ⟨a8,_,Z,Z⟩),H.perm 1 [0] Z Z⟩
  have H:=H'.l1;refine Z0 23 [4] Z (Aq Z (call160 _) (HS pp mb n o (some (t2,c::Q)) c (decide (h=0)) f g) H ?_);rintro _ w _ ⟨v1,v2,rfl,rfl⟩ H;replace H:=H.l3;have b0:=H.sy 0 (·.slc);have a5:=H.sy 1 (·.slc);refine Za 3 [] H Z ?_;intro b3 w H;refine Az Z Z (Ak 0 H Z Z Z Z (vs:=[.bool (decide (h=0)),v1,v2]) Z (Ad Z (Ad b0.one (Ad a5.one Aw))) J O (out:=[.bool (decide (h=0)),v1,v2]) Z) ?_;rintro w H;replace H:=H.l4;refine Z0 20 [4,0] Z (Ag Z (λh2=>?_) (λh2=>?_))
  ·refine Zc 1 Z ?_;have a3:f=[]:=Af7.1 U
   have O2:=LW (show TInv n (manyN n+1) t2.N t2.C (c::Q) from (H.says 3 Z (λh a=>trA.k a)).i) a0 g;replace H:=(H.mono 3 (B:=trA Tb pp mb n o (some ({t2 with N:=fup t2.N c none},c::(vals f++Q)))) Z (λh q=>q.opens a0 g)).l4;refine Zc 3 Z (Aq Z (call202 _) (GU pp mb n o _ _ c (λd q=>by simp[fup] at q)) H.f3 ?_);rintro _ w _ ⟨t3,⟨x,b2,b1,a6,a9⟩,rfl,rfl⟩ H;refine Zc 6 Z (Zr Z ?_);exact ⟨_,.inr (.inr ⟨t3,0,⟨⟨v0,b⟩,(l.trans O2.st (R:=Q) (R1:=Q) (λp hp=>hp) (λp hp=>hp) (Aed _) (Aed _)).trans x (λp hp=>hp) (λp hp=>by simp[hp]) U U,.inl ⟨Z,delR_none y g U⟩⟩,Z,by rw[a3];rfl⟩),H.perm 4 [0] Z Z⟩
  refine Z2 6 [0,0,0] H Z (FN 66 Z (λh3=>?_) (λh3=>?_))
  ·have b5:h≠0:=by simpa using h3
   refine Z0 6 [0] Z (Ag Z (λh4=>?_) (λh4=>?_))
   ·refine Zc 1 Z ?_;obtain ⟨e,h',m,c1,b7⟩:=Wi y g U b5;have O2:=LW (show TInv n (manyN n+1) t2.N t2.C (c::Q) from (H.says 3 Z (λh a=>trA.k a)).i) a0 g
    replace H:=(H.mono 3 (B:=trA Tb pp mb n o (some ({t2 with N:=fup t2.N c none},c::(vals f++Q)))) Z (λh q=>q.opens a0 g)).l4;obtain ⟨a1,a2,rfl⟩:=a5;have b6:=(H.rv 2 (·.rd)).at (j:=0) (u:=I (e.2:Int)) (by rw[m];simp[vL]);replace H:=(H.mono 3 (B:=trA Tb pp mb n o (some ({t2 with N:=fup t2.N c none},c::(e.2::Q)))) Z (λh q=>by rw[m] at q;exact q)).l4;replace H:=H.f2.f1;refine AO (Sep z (blk b3 [.bool (decide (h=0)),v1,.slice a1 ((vL f).length) a2] 249::grow 3 1 (.slice a1 ((vL f).length) a2) ((vL f).length) ((vL f).map I)::R)) 10 Z J (A5 H λw H'=>?_);have H:=H'.l4;refine AU [0,1] [2,0,0] [] (by exact H.pick 4 [0,1] Z) Z J Z (BO 2 Z J J J Z Z Z (Aj Z (z:=1) (j:=0) (r:=0) J Z Z Z (by simp only[Aea];omega) b6 U) (H.pick 4 [0,1] Z) (BO 3 Z J J J Z Z Z (Ax Z Z J (λ_ a7=>(a7.rv 1 (·.rd)).at (j:=0) (u:=I (e.2:Int)) (by rw[m];simp[vL]))) (H.pick 4 [0,1] Z) (AU [4,5] [] [] (by exact H.pick 4 [0,1] Z) Z J Z (AB [6] J O (An (Bo Z Z Z Z Z Z (λw=>call202 _ w) (GU pp mb n o _ _ c (λd q=>by simp[fup] at q)) H.f3 Z ?_))))));rintro _ w _ ⟨t3,⟨x,b2,b1,a6,a9⟩,rfl,rfl⟩ H;replace H:=H.l4;refine Av (H.pick 4 [1,2] Z) (AU [7,8,9] [] [] (by exact H.pick 4 [1,2] Z) Z J Z (a_done J (gn (Zc 2 Z (Zr Z ?_)))));have a4:manyN n+1<=e.2:=by have K3:=H.says 0 Z (λh a=>trA.k a);exact (K3.i.rin e.2 (by simp[CT])).1
    exact ⟨_,.inr (.inr ⟨t3,e.2,⟨⟨v0,b⟩,(l.trans O2.st (R:=Q) (R1:=Q) (λp hp=>hp) (λp hp=>hp) (Aed _) (Aed _)).trans x (λp hp=>hp) (λp hp=>by simp[hp]) U U,root_of (x.fr e.2 O _ _ _ _ _ (O2.fv e.2 (by rw[m];simp[vals]) _ _ _ _ _ b7)) (by unfold rootM;split<;>omega) U⟩,Z,by rw[DP (show e.2≠0 by omega)];rfl⟩),H.perm 4 [0] Z Z⟩
   refine Zc 12 Z (Zr Z ?_);have a4:manyN n+1<=c:=by have K3:=H.says 3 Z (λh a=>trA.k a);exact (K3.i.rin c (by simp[CT])).1
   exact ⟨_,.inr (.inr ⟨t2,c,⟨⟨v0,b⟩,l.sub (λp hp=>hp) U U,root_of y (by unfold rootM;split<;>omega) U⟩,Z,by rw[DP (show c≠0 by omega)];rfl⟩),H.perm 4 [3] Z Z⟩
  have c0:h=0:=by simpa using h3
  refine Zc 19 Z (Zr Z ?_);have a4:manyN n+1<=c:=by have K3:=H.says 3 Z (λh a=>trA.k a);exact (K3.i.rin c (by simp[CT])).1
  exact ⟨_,.inr (.inr ⟨t2,c,⟨⟨v0,b⟩,l.sub (λp hp=>hp) U U,root_of y (by unfold rootM;split<;>omega) U⟩,Z,by rw[DP (show c≠0 by omega)];rfl⟩),H.perm 4 [3] Z Z⟩
 have H:=H'.l1;refine Z0 29 [4,3] Z (Zr Z ?_);exact ⟨_,.inl ⟨b4,Z,Z⟩,H.perm 1 [0] Z Z⟩
theorem Ab5(pp mb n:Nat)(o:TB)(s:TS×List Nat)(key:Int):Cn prog 163 [Y pp,I 0,I key] [trA Tb pp mb n o (some s)] (λv Γ=>v=.tuple #[I 0,.bool false,I 0]/\Γ=[trA Tb pp mb n o (some s)]):=by
 intro z R w H;replace H:=H.l1;refine Ae func163 Z ntmps163 Z (Zc 11 Z (z_E_ Z (call195 _) (K6 pp mb n o _) H ?_));intro w H;refine Z0 17 [4] Z (z_E_ Z (call115 _) (QH _ _) H ?_);intro w H;refine Z0 29 [4,3] Z (Zr Z ?_);exact ⟨_,⟨Z,Z⟩,H⟩
end
section
variable{Tb:Af}
def pkI(c:Int)(N:Nat):Nat:=((if c<0 then -(c+1) else c).tmod N).toNat
theorem OQ(c:Int){N:Nat}(h:0<N):pkI c N<N:=by
 unfold pkI;have a:(0:Int)<=if c<0 then -(c+1) else c:=by split<;>omega
 have d:=Ahc (if c<0 then -(c+1) else c) (by omega:(0:Int)<(N:Int));have b:=AhC (N:Int) a;omega
theorem Ab6{n:Nat}(h:16<=n/\n<=1024):(CA (n:Int) 1030 128 2).Ok ((1200:Nat):Int):=
 Sup.ok_mk (by show 0<=(2:Int)/\(2:Int)<=1099511627776;omega) (by show 0<=(1:Int)/\(1:Int)<=1099511627776;omega) (by show 16<=(n:Int)/\(n:Int)<=1024;omega) (by show 2+(n:Int)<=1030/\(1030:Int)<=1099511627776;omega) (by show 64<=(128:Int)/\(128:Int)<=1099511627776;omega) (by show 0<=(0:Int)/\(0:Int)<128;omega) (by show 0<=(1:Int)/\(1:Int)<=1099511627776;omega) (by show (1030:Int)<=((1200:Nat):Int)-128/\(128:Int)<=((1200:Nat):Int);omega)
theorem TK{n:Nat}{bs:List UInt8}(a:bs.length=256){M:Nat->Pg}(b:M=Ej (λ_=>noPg) (some (gF n (bs.take 240) (manyN n),1+manyN n))):M 0=⟨1,bs.take 240⟩/\∀i,i<manyN n->M (1+i)=DA (C1 (manyN n+1)) n i:=by
 subst b;refine ⟨Z,λi hi=>?_⟩;simp only[Ej,gF];rw[if_neg U,if_pos U,show 1+i-1=i by omega];rfl
def FH(n:Nat):TB:=⟨λ_=>none,C1 (manyN n+1),[]⟩
theorem I2(p:Nat):∀n,FB (λ_=>none) p n=0
 | 0=>rfl
 | n+1=>by simp only[FB,I2 p n];rfl
theorem ZJ(n:Nat)(M:Nat->Pg):Rel n M (FH n).N (FH n).C (FH n).R:=
 ⟨λp c h=>(by cases h),⟨λp a b=>(by show C1 (manyN n+1) p=_;unfold C1;rw[if_neg U];simp[FH,I2]),λp h=>(by cases h),λq c h=>(by cases h),λq d h=>(by cases h),λq d h=>(by cases h)⟩⟩
end
section
def cutZ(z:Nat)(ao:Option Addr)(c p:Nat):Option Addr:=if c=p then ao else ao.map (·.add (p*z))
theorem rdH.cutZ{z:Nat}{f:Option Addr}{n c p m:Nat}{xs:List Value}{h:Hp}(r:rdH z (.slice f n c) n xs h)(hz:0<z)(l:p+m<=n)(y:n<=c):rdH z (.slice (YtnifkcmmanmbbaaGreatDoor.cutZ z f c p) m (c-p)) m ((xs.drop (p*z)).take (m*z)) h:=by
 obtain ⟨g,c',e,v,x,w,t⟩:=r;cases e;have q:p*z+m*z<=n*z:=by rw[<-AhD];exact AfB _ l
 refine ⟨_,_,Z,by omega,by omega,by simp;omega,λj u a=>?_⟩;have d:j<m*z:=by
  have:=(Ad6.1 a).1;simp at this;omega
 obtain ⟨b,o,rfl,s⟩:=t (p*z+j) u (by
  rw[AeS,if_pos d,Aff] at a;exact a)
 have k:0<m:=Nat.pos_of_ne_zero λe=>by subst e;omega
 refine ⟨b,o+p*z,?_,by rw[Af5];exact s⟩;unfold YtnifkcmmanmbbaaGreatDoor.cutZ;rw[if_neg U];simp only[AeN];unfold Addr.add;split
 ·rename_i i;simp[i]
 rfl
theorem rdH.slcapZ{z:Nat}{b:Option Addr}{n c:Nat}{xs:List Value}{h:Hp}(r:rdH z (.slice b n c) n xs h):n<=c/\c<=9223372036854775807/\xs.length=n*z:=by
 obtain ⟨a,c',e,d,g,f,i⟩:=r;cases e;exact ⟨d,g,f⟩
section
variable{P:Program}{C:World->Prop}{o:Oper}{n:Nat}{ds:List Deferred}{L:List (Nat×Value)}{x y:Operand}
theorem FU{z:Nat}{t:TypeId}{lo hi:Option Operand}{f:Option Addr}{l c p q l' c':Nat}(r:o.op=.slice t x lo hi none)(g:Dm P t=some z)
  (j:ev L x=some (.slice f l c))(d:(lo=none/\p=0)\/∃y k i,lo=some y/\ev L y=some (.int k i)/\i=(p:Int))(b:(hi=none/\q=l)\/∃y k i,hi=some y/\ev L y=some (.int k i)/\i=(q:Int))(e:p<=q)(a:q<=c)
  (m:q-p=l')(h:c-p=c'):Ar P C n ds L o (.slice (cutZ z f c p) l' c'):=by
 subst m h;exact Jb r g j d b e a
end
def EL(L:List E):List Value:=L.flatMap λe=>[.int .i64 e.1,.int .i64 (e.2:Int)]
theorem ZK(A B:List E):EL (A++B)=EL A++EL B:=by simp[EL]
def getE(k:Int):List E->Nat
 | []=>0
 | e::t=>if e.1=k then e.2 else getE k t
theorem Wk{L:List E}(hs:Srt L)(key:Int)(val:Nat):putE key val (BU key L)=putE key val L:=by
 rcases key_split hs key with ⟨X,v,Y_,rfl,a⟩|⟨f,X,Y_,rfl,a,d⟩
 ·rw[LR hs,Ec _ a]
  have c:∀e∈Y_,key<e.1:=λe b=>(Srt.cons.1 (Srt.app.1 hs).2.1).1 e b;exact putE_new a c
 rw[Gv (λe b=>by
  rcases Aek.1 b with q|q
  ·have:=a e q;omega
  have:=d e q;omega)]
theorem Ab7{L:List E}(hs:Srt L)(key:Int)(val:Nat){i:Nat}(g:∀(j:Nat) (e:E),j<i->(BU key L)[j]?=some e->e.1<key)(h:∀e,(BU key L)[i]?=some e->key<=e.1):
  putE key val L=(BU key L).take i++(key,val)::(BU key L).drop i:=by
 have c:Srt (BU key L):=AhL List.filter_sublist hs;have f:∀e∈BU key L,e.1≠key:=λe a=>by simpa [BU] using (Ae6.1 a).2
 rw[<-Wk hs];refine (congrArg (putE key val) (AeI i _).symm).trans (putE_new (λe a=>?_) (λe a=>?_))
 ·obtain ⟨j,b⟩:=AeV a
  rw[AeS] at b;split at b
  ·exact g j e (by assumption) b
  cases b
 have k:=f e (Afo a);have d:Srt ((BU key L).drop i):=AhL (List.drop_sublist _ _) c
 cases hd:(BU key L).drop i with
 | nil=>rw[hd] at a;cases a
 | cons x t=>
  rw[hd] at a d;have l:key<=x.1:=h x (by
   have:((BU key L).drop i)[0]?=some x:=by rw[hd];rfl
   rwa[Aff,AgY] at this)
  rcases Aei.1 a with rfl|q
  ·omega
  have:=(Srt.cons.1 d).1 e q;omega
end
section
variable{Tb:Af}
variable{z w:World}{Γ:List Af}{pp mb n:Nat}{o:TB}{t t':TS}{R:List Nat}{T:TT}
structure LwI(n:Nat)(o:TB)(a:Nat)(L:List E)(Q:List Nat):Prop where
 n:n<=639
 q:Q.length<=100
 root:Root o.N a L
 nd:(vals L).Nodup
 r:o.R=Ba a++Q
theorem Tr.many{N:Hm}{h r:Nat}{lo hi:Int}{m:Nat}{L:List E}(t:Tr N h r lo hi m L):m*4^h<=L.length:=by
 induction h generalizing r lo hi m L with
 | zero=>obtain ⟨es,g,d,_,_,rfl,_⟩:=t;simpa using d
 | succ h ih=>
  obtain ⟨es,g,d,_,_,k⟩:=t;have f:4^(h+1)=4*4^h:=by rw[Ahu,Ahv]
  have key:∀(es:List E) (L:List E),Sq (λc a b L=>Tr N h c a b 4 L) es hi L->es.length*4^(h+1)<=L.length:=by
   intro es
   induction es with
   | nil=>intro L q;simp
   | cons e u ih2=>
    rintro _ ⟨L1,L2,rfl,i,j⟩;have a:=ih i;have b:=ih2 L2 j;rw[Aeb,Ad9,AhD,Nat.one_mul,f];rw[f] at b;omega
  exact Agl (AfB _ d) (key es L k)
theorem Tr.low3{f:Nat}{N:Hm}{C:Nat->Nat}(I_:TInv n f N C R){h r:Nat}{lo hi:Int}{m:Nat}{L:List E}(t:Tr N h r lo hi m L)(l:(if h=0 then 1 else 2)<=m)(a:(vals L).Nodup)(w:n<=639):h<=3:=by
 rcases Ael h 4 with q|q
 ·omega
 exfalso;rw[if_neg U] at l;obtain ⟨a1,a2,a3⟩:=RO t U;have hs:=t.srt.1;rw[<-a1] at hs;have i:=K5 hs (λp hp=>(a2 p hp).1);have c:=t.data;have g:(CY N h r++vals L).Nodup:=by
  rw[Ae4];refine ⟨i,a,λx v y s e=>?_⟩;obtain ⟨d,a⟩:=(a2 x v).2;obtain ⟨k,o,rfl⟩:=Aeh.1 s;obtain ⟨b,j⟩:=c k o;rw[e,j] at a;cases a
 have u:=OO g (λp hp=>by
  rcases Aek.1 hp with hp|hp
  ·obtain ⟨d,a⟩:=(a2 p hp).2;exact (I_.nin p _ a).2.1
  obtain ⟨k,o,rfl⟩:=Aeh.1 hp;obtain ⟨b,j⟩:=c k o;exact (I_.nin _ _ j).2.1)
 have a4:=t.many;have z:4^4<=4^h:=Ag5 U q;have p2:4^3<=4^(h-1):=Ag5 U U;have h2:2*4^h<=m*4^h:=AfB _ l;have h3:2*4^(h-1)<=m*4^(h-1):=AfB _ l;rw[if_neg U,AeK] at a3;simp only[Ad9,vals,Aea] at u;omega
theorem Root.low3{N:Hm}{C:Nat->Nat}{f a:Nat}{L:List E}(I_:TInv n f N C R)(h:Root N a L)(c:a≠0)(g:(vals L).Nodup)(d:n<=639):∃h,Tr N h a 0 1048576 (rootM h) L/\h<=3:=by
 rcases h with ⟨e,_⟩|⟨_,h,b⟩
 ·exact absurd e c
 exact ⟨h,b,b.low3 I_ (Aed _) g d⟩
theorem Root.srt{N:Hm}{a:Nat}{L:List E}(h:Root N a L):Srt L/\B0 0 1048576 L:=by
 rcases h with ⟨_,rfl⟩|⟨_,h,b⟩
 ·exact ⟨by simp[Srt],by simp[B0]⟩
 exact b.srt
theorem Root.data{N:Hm}{a:Nat}{L:List E}(h:Root N a L):∀e∈L,∃b,N e.2=some (.dt b):=by
 rcases h with ⟨_,rfl⟩|⟨_,h,c⟩
 ·simp
 exact c.data
def Kp(N N':Hm)(Q:List Nat):Prop:=∀c∈Q,∀L,Root N c L->Root N' c L
theorem Kp.of{N a:Hm}{Q:List Nat}(h:∀c∈Q,∀h lo hi m L,Tr N h c lo hi m L->Tr a h c lo hi m L):Kp N a Q:=λc d L q=>by
 rcases q with q|⟨b,e,f⟩
 ·exact .inl q
 exact .inr ⟨b,e,h c d _ _ _ _ _ f⟩
theorem OR{F G:Nat->Bool}(h:∀q,F q=true->G q=true)(a:Nat):∀n,cnt F a n<=cnt G a n
 | 0=>Aed _
 | n+1=>by
  have:=OR h a n;have b:(F (a+n)).toNat<=(G (a+n)).toNat:=by
   cases e:F (a+n) with
   | false=>simp
   | true=>rw[h _ e];simp
  simp only[cnt];omega
theorem TrK.free{n:Nat}{o:TB}{t:TS}{R:List Nat}(K:TrK n o (some (t,R))):cnt t.F 0 1024<=cnt (AV n t.C) 0 1024:=
 OR (λq hq=>by
  obtain ⟨a,b,_⟩:=K.fr q hq;simp only[AV];exact decide_eq_true ⟨a,b⟩) 0 1024
theorem Xw(pp mb n:Nat)(o:TB)(t:TS)(Q:List Nat)(a:Nat)(key:Int)(val:Nat)(b:List UInt8)(L:List E)(y:Root t.N a L)(hn:n<=639)(hd:(vals L).Nodup)(l:0<=key/\key<1048576)(j:t.N val=some (.dt b))(u:∀q d,t.N q=some (.nd d)->val∉vals d.es)(hk:t.k<=20)(hb:Q.length<=100):
  Cn prog 158 [Y pp,I (a:Int),I key,I (val:Int)] [trA Tb pp mb n o (some (t,val::(Ba a++Q)))] (λv Γ=>(cnt t.F 0 1024<=10/\∃s:TS×List Nat,v=.tuple #[I 0,I 20]/\Γ=[trA Tb pp mb n o (some s)])\/
   ∃(t2:TS) (r:Nat),(St t t2 Q 11 16/\Root t2.N r (putE key val L)/\cnt t2.F 0 1024<=cnt (AV n t2.C) 0 1024)/\v=.tuple #[I (r:Int),I 0]/\Γ=[trA Tb pp mb n o (some (t2,Ba r++Q))]):=by
 intro z R' w H;have K:=H.says 0 Z (λh a=>trA.k a);by_cases ha:a=0
 ·subst ha
  have hL:L=[]:=by rcases y with ⟨_,e⟩|⟨e,_⟩;exact e;exact absurd Z e
  subst hL;refine Ret.mono (Cn.at (AbX pp mb n o t Q key val b l j U) H 1 [0] Z Z) ?_;rintro v w' ⟨Γ',(⟨h0,s,rfl,rfl⟩|⟨t2,r,⟨m,f⟩,rfl,rfl⟩),c⟩
  ·exact ⟨_,.inl ⟨by omega,s,Z,Z⟩,c⟩
  have K2:=c.says 0 Z (λh a=>trA.k a);have g:r≠0:=by have:=(K2.i.rin r (by simp[CT])).1;omega
  exact ⟨_,.inr ⟨t2,r,⟨m.sub (λp hp=>hp) U U,.inr ⟨g,0,f⟩,K2.free⟩,Z,by rw[DP g];rfl⟩,c⟩
 obtain ⟨h,hT,hh⟩:=y.low3 K.i ha hd hn;have H2:=H.mono 0 (B:=trA Tb pp mb n o (some (t,a::val::Q))) Z (λh q=>q.perm (by rw[DP ha];exact AfR _ _ _));have x:t.k+3*h+3<40:=by omega
 refine Ret.mono (Cn.at (AbY pp mb n o t Q h a (rootM h) key val L ⟨hT,l,by omega,by omega,⟨b,j⟩,u,x,by omega⟩) H2 1 [0] Z Z) ?_;rintro v w' ⟨Γ',(⟨h0,s,rfl,rfl⟩|⟨t2,r,⟨m,f⟩,rfl,rfl⟩),c⟩
 ·exact ⟨_,.inl ⟨by omega,s,Z,Z⟩,c⟩
 have K2:=c.says 0 Z (λh a=>trA.k a);have g:r≠0:=by have:=(K2.i.rin r (by simp[CT])).1;omega
 refine ⟨_,.inr ⟨t2,r,⟨m.sub (λp hp=>hp) U U,?_,K2.free⟩,Z,by rw[DP g];rfl⟩,c⟩;rcases f with f|f
 ·exact root_of f (Aed _) g
 exact root_of f (by unfold rootM;rw[if_neg U];omega) g
theorem Ada(pp mb n:Nat)(o:TB)(t:TS)(Q:List Nat)(a:Nat)(key:Int)(L:List E)(d:Root t.N a L)(f:(vals L).Nodup)(j:n<=639)(y:t.k<=10)(hb:Q.length<=100):
  Cn prog 163 [Y pp,I (a:Int),I key] [trA Tb pp mb n o (some (t,Ba a++Q))] (λv Γ=>(¬CC key L/\v=.tuple #[I (a:Int),.bool false,I 0]/\Γ=[trA Tb pp mb n o (some (t,Ba a++Q))])\/(cnt t.F 0 1024<=12/\∃s:TS×List Nat,v=.tuple #[I 0,.bool false,I 20]/\Γ=[trA Tb pp mb n o (some s)])\/
   ∃(t2:TS) (r:Nat),(CC key L/\St t t2 Q 12 27/\Root t2.N r (BU key L)/\cnt t2.F 0 1024<=cnt (AV n t2.C) 0 1024)/\v=.tuple #[I (r:Int),.bool true,I 0]/\Γ=[trA Tb pp mb n o (some (t2,Ba r++Q))]):=by
 intro z R' w H;have K:=H.says 0 Z (λh a=>trA.k a);by_cases ha:a=0
 ·subst ha
  have m:L=[]:=by rcases d with ⟨_,e⟩|⟨e,_⟩;exact e;exact absurd Z e
  subst m;refine Ret.mono (Cn.at (Ab5 pp mb n o _ key) H 1 [0] Z Z) ?_;rintro v x ⟨Γ',⟨rfl,rfl⟩,b⟩;exact ⟨_,.inl ⟨λ⟨v,g⟩=>(by cases g),Z,Z⟩,b⟩
 obtain ⟨h,u,hh⟩:=d.low3 K.i ha f j;have e:Ba a++Q=a::Q:=by rw[DP ha];rfl
 rw[e] at H;rw[e];refine Ret.mono (Cn.at (Ab4 pp mb n o t Q h a key L u f U U) H 1 [0] Z Z) ?_;rintro v x ⟨Γ',(⟨c,rfl,rfl⟩|⟨c,s,rfl,rfl⟩|⟨t2,r,⟨c,l,q⟩,rfl,rfl⟩),b⟩
 ·exact ⟨_,.inl ⟨c,Z,Z⟩,b⟩
 ·exact ⟨_,.inr (.inl ⟨by omega,s,Z,Z⟩),b⟩
 exact ⟨_,.inr (.inr ⟨t2,r,⟨c,l.sub (λp hp=>hp) U U,q,(b.says 0 Z (λh a=>trA.k a)).free⟩,Z,Z⟩),b⟩
theorem FV{L:List E}{key:Int}(h:∀e∈L,1<=e.2):(getE key L≠0↔CC key L)/\(∀v,(key,v)∈L->Srt L->getE key L=v):=by
 induction L with
 | nil=>exact ⟨⟨λq=>absurd Z q,λ⟨v,q⟩=>by cases q⟩,λv q=>by cases q⟩
 | cons e t ih=>
  have ih:=ih (λx c=>h x (by simp[c]));have d:=h e O;simp only[getE];split
  ·rename_i a
   refine ⟨⟨λ_=>⟨e.2,?_⟩,λ_=>by omega⟩,λv b hs=>?_⟩
   ·rw[<-a];simp
   rcases Aei.1 b with q|q
   ·rw[<-q]
   have:=(Srt.cons.1 hs).1 _ q;dsimp only at this;omega
  rename_i a;refine ⟨ih.1.trans ⟨λ⟨v,q⟩=>⟨v,by simp[q]⟩,λ⟨v,q⟩=>?_⟩,λv b hs=>?_⟩
  ·rcases Aei.1 q with q|q
   ·subst q;exact absurd Z a
   exact ⟨v,q⟩
  rcases Aei.1 b with q|q
  ·subst q;exact absurd Z a
  exact ih.2 v q (Srt.cons.1 hs).2
theorem Ld{L:List E}(hs:Srt L){key:Int}{val:Nat}(g:(vals L).Nodup)(f:val∉vals L):(vals (putE key val L)).Nodup:=by
 rcases key_split hs key with ⟨X,v,Y_,rfl,k⟩|⟨j,_⟩
 ·rw[Ec _ k]
  rw[BM,B7] at g f ⊢;simp only[Aek,Aei,not_or] at f;rw[Ae4,Afc] at g ⊢;obtain ⟨a,⟨b,c⟩,d⟩:=g;refine ⟨a,⟨f.2.2,c⟩,λx i y h=>?_⟩;rcases Aei.1 h with rfl|h
  ·exact λe=>f.1 (by rw[<-e];exact i)
  exact d x i y (by simp[h])
 rw[(Hc hs val j).1.nodup_iff,Afc];exact ⟨f,g⟩
theorem GV{n f:Nat}{N:Hm}{C:Nat->Nat}(I_:TInv n f N C R)(g:1<=f){L:List E}(d:∀e∈L,∃b,N e.2=some (.dt b)):∀e∈L,1<=e.2/\e.2<n:=λe a=>by
 obtain ⟨b,c⟩:=d e a;have:=I_.nin _ _ c;omega
theorem JB{n f:Nat}{N:Hm}{C:Nat->Nat}(I_:TInv n f N C R)(c:1<=f){L:List E}(g:∀e∈L,∃b,N e.2=some (.dt b))(d:(vals L).Nodup):L.length<=n:=by
 have:=OO d (λp hp=>by
  obtain ⟨e,a,rfl⟩:=Aeh.1 hp;exact (GV I_ c g e a).2)
 simpa [vals] using this
theorem LwI.done{a r:Nat}{L L2:List E}{Q:List Nat}{o2:TB}(h:LwI n o a L Q)(b:Root o2.N r L2)(c:(vals L2).Nodup)(d:o2.R=Ba r++Q):LwI n o2 r L2 Q:=⟨h.n,h.q,b,c,d⟩
end
section
variable{Tb:Af}
end
section
variable{Tb:Af}
theorem Adb{P:Nat->Int->Int->List E->Prop}{es:List E}{i:Nat}{e:E}{hi:Int}{L2:List E}(b:es[i]?=some e)(h:Sq P (es.drop i) hi L2):∃Lc L3,L2=Lc++L3/\P e.2 e.1 (nx (es.drop (i+1)) hi) Lc/\Sq P (es.drop (i+1)) hi L3:=by
 obtain ⟨a,rfl⟩:=Ad6.1 b;rw[AeX a] at h;exact h
theorem Adc{es:List E}{i:Nat}(hi:Int)(h:i+1<es.length):((kL es).map I)[i+1]?=some (I (nx (es.drop (i+1)) hi)):=by
 rw[AeX h];simp[kL,nx,Ad7 h]
end
section
variable{Tb:Af}
end
section
variable{Tb:Af}
variable{z w:World}{Γ:List Af}{pp mb n f:Nat}{o:TB}{T:TT}{N:Hm}{C:Nat->Nat}{R:List Nat}
theorem TL(pp mb n:Nat)(o:TB)(T:TT)(a:Nat)(key:Int)(L:List E)(f:Root (Dk o T) a L):Cn prog 115 [Y pp,I (a:Int),I key] [trA Tb pp mb n o T] (λv Γ=>v=.tuple #[I (getE key L:Int),I 0]/\Γ=[trA Tb pp mb n o T]):=by
 intro z R' w H;have K:=H.says 0 Z (λh a=>trA.k a);have hp:∀e∈L,1<=e.2:=λe j=>(GV K.i U f.data e j).1;have g:=FV (key:=key) hp;have d:¬CC key L->getE key L=0:=λq=>Ae8 λr=>q (g.1.1 r);by_cases ha:a=0
 ·subst ha
  have l:L=[]:=by rcases f with ⟨_,e⟩|⟨e,_⟩;exact e;exact absurd Z e
  subst l;refine Ret.mono (Cn.at (QH pp key) H 0 [] Z Z) ?_;rintro v m ⟨Γ',⟨rfl,rfl⟩,b⟩;exact ⟨_,⟨Z,Z⟩,b⟩
 rcases f with ⟨e,_⟩|⟨_,h,t⟩
 ·exact absurd e ha
 refine Ret.mono (Cn.at (QG pp mb n o T key L h a _ _ _ t) H 1 [0] Z Z) ?_;rintro v m ⟨Γ',⟨(⟨v0,c,rfl⟩|⟨c,rfl⟩),rfl⟩,b⟩
 ·exact ⟨_,⟨by rw[g.2 v0 c t.srt.1],Z⟩,b⟩
 exact ⟨_,⟨by rw[d c];rfl,Z⟩,b⟩
theorem Sep.trTab(H:Sep z (trA Tb pp mb n o none::Γ) w):Hk Tb/\Sep z (Tb::Γ) w:=by
 obtain ⟨M0,_,H⟩:=H.tr0;obtain ⟨X,a,H⟩:=H.po;refine ⟨a.tab.2▸a.tab.1,?_⟩;have h:=H.pick 7 [6] Z;rw[<-a.tab.2];exact h
end
section
variable{Tb:Af}
end
section
variable{Tb:Af}
abbrev Bk:=Int×List UInt8
def TM:Option Pc->List UInt8
 | some (.dt b)=>b
 | _=>[]
def AZ(N:Hm)(L:List E):List Bk:=L.map λe=>(e.1,(TM (N e.2)).take 64)
def Le:List UInt8:=List.replicate 64 0
def B5(k:Int):List Bk->List UInt8
 | []=>Le
 | b::t=>if b.1=k then b.2 else B5 k t
def GW(k:Int)(V:List Bk):Prop:=∃b∈V,b.1=k
instance(k:Int)(V:List Bk):Decidable (GW k V):=inferInstanceAs (Decidable (∃b∈V,b.1=k))
def Bx(k:Int)(V:List Bk):List Bk:=V.filter λb=>decide (b.1≠k)
def BW(V:List Bk):List Value:=V.flatMap λb=>[.int .i64 b.1,Cj b.2]
theorem L6(A B:List Bk):BW (A++B)=BW A++BW B:=by simp[BW]
theorem CN:∀{V:List Bk} {j:Nat} {e:Bk},V[j]?=some e->(BW V)[j*2]?=some (I e.1)/\(BW V)[j*2+1]?=some (Cj e.2)
 | x::L,0,e,h=>by simp at h;subst h;exact ⟨Z,Z⟩
 | x::L,j+1,e,h=>by
  have:=CN (V:=L) (j:=j) (by simpa using h);have e1:BW (x::L)=I x.1::Cj x.2::BW L:=rfl;rw[e1,show (j+1)*2=j*2+1+1 by omega];simp only[Aet];exact this
theorem OS:∀(L:List Bk) (p:Nat),(BW L).drop (p*2)=BW (L.drop p)
 | L,0=>by simp
 | [],p+1=>by simp[BW]
 | x::L,p+1=>by
  have e1:BW (x::L)=I x.1::Cj x.2::BW L:=rfl;rw[e1,show (p+1)*2=p*2+1+1 by omega,AeY,AeY,AeY];exact OS L p
theorem OT:∀(L:List Bk) (p:Nat),(BW L).take (p*2)=BW (L.take p)
 | L,0=>by simp[BW]
 | [],p+1=>by simp[BW]
 | x::L,p+1=>by
  have e1:BW (x::L)=I x.1::Cj x.2::BW L:=rfl;rw[e1,show (p+1)*2=p*2+1+1 by omega,Ae0,Ae0,Ae0,OT L p];rfl
theorem Gw(L:List Bk):∀c∈BW L,c.oneCell'=true:=λc b=>by
 simp only[BW,Af9] at b;obtain ⟨e,_,a⟩:=b;simp at a;rcases a with rfl|rfl<;>rfl
theorem rdH.cutB{a:Option Addr}{n c p m:Nat}{L:List Bk}{h:Hp}(r:rdH 2 (.slice a n c) n (BW L) h)(b:p+m<=n)(d:n<=c):rdH 2 (.slice (YtnifkcmmanmbbaaGreatDoor.cutZ 2 a c p) m (c-p)) m (BW ((L.drop p).take m)) h:=by
 have:=r.cutZ U b d;rw[OS,OT] at this;exact this
theorem MO{L:List Bk}{i:Nat}{e:Bk}{k:Int}(h:L[i]?=some e):B5 k (L.drop i)=if e.1=k then e.2 else B5 k (L.drop (i+1)):=by
 obtain ⟨hi,rfl⟩:=Ad6.1 h;rw[AeX hi];rfl
theorem MP{L:List Bk}{i:Nat}{e:Bk}{k:Int}(h:L[i]?=some e):GW k (L.drop i)↔e.1=k\/GW k (L.drop (i+1)):=by
 obtain ⟨hi,rfl⟩:=Ad6.1 h;rw[AeX hi];simp only[GW,Aei,exists_eq_or_imp]
theorem MQ{L:List Bk}{i:Nat}{e:Bk}(k:Int)(h:L[i]?=some e):Bx k (L.take (i+1))=if e.1=k then Bx k (L.take i) else Bx k (L.take i)++[e]:=by
 have b:L.take (i+1)=L.take i++[e]:=by rw[AeH,h];rfl
 rw[b];unfold Bx;rw[AfI];split
 ·rename_i a;simp[a]
 rename_i a;simp[a]
theorem JC(k:Int)(V:List Bk):(Bx k V).length<=V.length:=AfO _ _
def PutAt(k:Int)(d:List UInt8)(V V2:List Bk):Prop:=∃i,(∀(j:Nat) (e:Bk),j<i->(Bx k V)[j]?=some e->e.1<k)/\(∀e,(Bx k V)[i]?=some e->k<=e.1)/\V2=(Bx k V).take i++(k,d)::(Bx k V).drop i

variable{N N2:Hm}{L:List E}{k:Int}
@[simp] theorem Kg:(AZ N L).length=L.length:=by simp[AZ]
theorem volB_del:Bx k (AZ N L)=AZ N (BU k L):=by
 simp only[Bx,AZ,BU,Agc];rfl
theorem I3(h:∀e∈L,N2 e.2=N e.2):AZ N2 L=AZ N L:=Afw λe a=>by rw[h e a]
theorem Wl(hp:∀e∈L,1<=e.2):GW k (AZ N L)↔getE k L≠0:=by
 rw[(FV hp).1];constructor
 ·rintro ⟨b,d,rfl⟩
  obtain ⟨e,a,rfl⟩:=Aeh.1 d;exact ⟨e.2,a⟩
 rintro ⟨v,c⟩;exact ⟨_,Aeh.2 ⟨_,c,Z⟩,Z⟩
theorem Kh:∀{L:List E},(∀e∈L,1<=e.2)->B5 k (AZ N L)=if getE k L=0 then Le else (TM (N (getE k L))).take 64
 | [],_=>rfl
 | e::t,hp=>by
  have ih:=Kh (L:=t) (λx a=>hp x (by simp[a]));have b:=hp e O;simp only[AZ,AeE,B5,getE] at ih ⊢;split
  ·rw[if_neg U]
  exact ih
def Dt(N N2:Hm):Prop:=∀v b b2,N v=some (.dt b)->N2 v=some (.dt b2)->N2 v=N v
theorem Dt.vol(h:Dt N N2){a a2:Nat}(f:Root N a L)(g:Root N2 a2 L):AZ N2 L=AZ N L:=I3 λe d=>by
 obtain ⟨b,i⟩:=f.data e d;obtain ⟨j,c⟩:=g.data e d;exact h _ _ _ i c
theorem MR{n:Nat}{o:TB}(K:TrK n o none){v:Nat}{c:Pc}(h:o.N v=some c):AV n o.C v=false:=by
 have a:1<=o.C v:=(K.i.nin v c h).2.2;simp only[AV];exact decide_eq_false U
theorem St.dtd{n:Nat}{o:TB}(K:TrK n o none){t2:TS}{R:List Nat}{d f:Nat}(x:St ⟨o.N,o.C,AV n o.C,0⟩ t2 R d f):Dt o.N t2.N:=λv b a h c=>by
 have e:o.N v=some (.dt a):=x.ev v a (MR K h) c;rw[c,e]
theorem TN{n a:Nat}{o:TB}(K:TrK n o none){x:List UInt8}{t2 t3:TS}{R:List Nat}{f j:Nat}(i:o.N a=none)(m:t2.N=fup o.N a (some (.dt x)))(k:∀q,t2.F q=true->AV n o.C q=true)(y:St t2 t3 R f j):Dt o.N t3.N:=λv b g h c=>by
 have l:t2.F v=false:=by
  cases e:t2.F v with
  | false=>rfl
  | true=>have:=k v e;rw[MR K h] at this;cases this
 have d:=y.ev v g l c;rw[m,fup_ne _ _ (λe=>by rw[e,i] at h;cases h)] at d;rw[c,d]
theorem QK(k:Int)(v:Nat):∀L:List E,(k,v)∈putE k v L
 | []=>by simp[putE]
 | e::t=>by
  simp only[putE];split
  ·exact Agh _ (QK k v t)
  split<;>simp
theorem delE_put(v:Nat){e:E}:∀{L:List E},e∈BU k L->e∈putE k v L
 | x::t,h=>by
  obtain ⟨h1,a⟩:=Ae6.1 h;have a:e.1≠k:=by simpa using a
  simp only[putE];rcases Aei.1 h1 with rfl|h1
  ·split
   ·simp
   simp
  split
  ·exact Agh _ (delE_put v (Ae6.2 ⟨h1,by simpa using a⟩))
  split
  ·exact Agh _ h1
  exact Agh _ (Agh _ h1)
theorem ZL{n a r:Nat}{o:TB}(K:TrK n o none){x:List UInt8}{t2 t3:TS}{R:List Nat}{df dk:Nat}{v:List Bk}{ra:Nat}(ha:o.N a=none)(z:t2.N=fup o.N a (some (.dt x)))(t:t2.F a=false)(hF:∀q,t2.F q=true->AV n o.C q=true)(y:St t2 t3 R df dk)(u:Root o.N ra L)(h:Root t3.N r (putE k a L))(hp:PutAt k (x.take 64) (AZ o.N L) v):v=AZ t3.N (putE k a L):=by
 have hs:=u.srt.1;have m:(k,a)∈putE k a L:=QK k a L;obtain ⟨b,l⟩:=h.data _ m;have l:t3.N a=some (.dt b):=l;have d:=y.ev a b t l;rw[z,BI] at d;cases d;have f:∀e∈BU k L,t3.N e.2=o.N e.2:=λe c=>by
  have hm:e∈putE k a L:=delE_put a c;obtain ⟨b1,p⟩:=u.data e ((Ae6.1 c).1);obtain ⟨b3,s⟩:=h.data e hm;exact TN K ha z hF y _ _ _ p s
 obtain ⟨i,w,g,rfl⟩:=hp;rw[volB_del] at w g;have e1:∀(j:Nat) (e:E),j<i->(BU k L)[j]?=some e->e.1<k:=λj e hj c=>w j (e.1,(TM (o.N e.2)).take 64) hj (by simp[AZ,c]);have e2:∀e:E,(BU k L)[i]?=some e->k<=e.1:=λe c=>g (e.1,(TM (o.N e.2)).take 64) (by simp[AZ,c]);rw[Ab7 hs k a e1 e2,volB_del,<-I3 (N2:=t3.N) (N:=o.N) (L:=BU k L) f];simp[AZ,l,TM,Afj,AfP]

def InB(A:Af)(u:Value)(V:List Bk):Prop:=∀h,A h->rdH 2 u V.length (BW V) h
def both(G A:Af):Af:=λh=>seps [G,A] h
theorem OU(h:Hp)(own:Nat->Nat)(i:Nat):CJ (h.part own i) h:=λk o e=>(El e).2
theorem InB.grow{A:Af}{u:Value}{V:List Bk}:InB (both (grow 79 2 u V.length (BW V)) A) u V:=λh ⟨own,q⟩=>(q 0 _ Z).rd.le (OU h own 0)
theorem InB.old{G A:Af}{u:Value}{V:List Bk}(x:InB A u V):InB (both G A) u V:=λh ⟨own,q⟩=>(x _ (q 1 _ Z)).le (OU h own 1)
def Ink(A A2:Af):Prop:=∀u V,InB A u V->InB A2 u V
theorem Ink.refl(A:Af):Ink A A:=λ_ _ q=>q
theorem Ink.both(G A:Af):Ink A (both G A):=λ_ _ q=>q.old
theorem Ink.trans{A B D:Af}(x:Ink A B)(y:Ink B D):Ink A D:=λu V q=>y u V (x u V q)
theorem OV(pp mb n:Nat)(o:TB)(t:TS)(R:List Nat)(x:List UInt8)(g:x.length=240)(b:Nat)(y:t.k<40):
  Cn prog 157 [Y pp,.agg #[I 5,.slice (some ⟨b,0,none⟩) 240 240]] [trA Tb pp mb n o (some (t,R)),blk b (x.map u8) 5] (λv Γ=>(cnt t.F 0 1024=0/\v=.tuple #[I 0,I 20]/\Γ=[trA Tb pp mb n o (some (t,R)),blk b (x.map u8) 5])\/
   ∃(a:Nat) (t2:TS),((t.N a=none/\t2.N=fup t.N a (some (.dt x))/\t2.F a=false/\∀q,t2.F q=true->t.F q=true)/\(∀q d,t2.N q=some (.nd d)->a∉vals d.es)/\(∀h c lo hi m L,Tr t.N h c lo hi m L->Tr t2.N h c lo hi m L)/\t2.k<=t.k+1/\cnt t.F 0 1024=cnt t2.F 0 1024+1)/\v=.tuple #[I (a:Int),I 0]/\Γ=[trA Tb pp mb n o (some (t2,a::R)),blk b (x.map u8) 5]):=by
 intro z R' w H;have K:=H.says 0 Z (λh a=>trA.k a);have I_:TInv n (manyN n+1) t.N t.C R:=K.i;refine Ret.mono (Cn.at (OI pp mb n o t R R ⟨5,x⟩ ⟨⟨by show (1:Int)<=5;omega,by show (5:Int)<=5;omega⟩,g⟩ _ _ (λh q=>q.rd U U (by simp[g]) (by simp only[AeK,Aep];exact Aee (by rw[Aea,g];omega))) y (some (.dt x)) (λq hq=>by cases hq;rfl) (λa f j p=>(I_.freshD p ⟨f,j⟩).2.1)) H 2 [0,1] Z Z) ?_;rintro v w' ⟨Γ',(⟨h0,rfl,rfl⟩|⟨a,F,k,⟨f,j,p,h4,h5,h6,h7⟩,rfl,rfl⟩),r⟩
 ·exact ⟨_,.inl ⟨h0,Z,Z⟩,r⟩
 obtain ⟨u,f2,l⟩:=I_.freshD (b:=x) j ⟨f.1,f.2⟩;refine ⟨_,.inr ⟨a,⟨_,_,F,k⟩,⟨⟨u,Z,h5,h4⟩,λq d hq=>?_,λh c lo hi m L q=>q.fup l (λe=>?_),h6,h7⟩,Z,Z⟩,r⟩
 ·have hq:fup t.N a (some (.dt x)) q=some (.nd d):=hq
  by_cases e:q=a
  ·subst e;rw[BI] at hq;cases hq
  rw[fup_ne _ _ e] at hq;exact l q d hq
 subst e;obtain ⟨d,s⟩:=q.node;rw[u] at s;cases s
end
section
variable{Tb:Af}
theorem Ab8{bs:List UInt8}{i:Nat}{x:UInt8}(h:i<bs.length):(bs.map u8).take i++[u8 x]++(bs.map u8).drop (i+[u8 x].length)=(bs.set i x).map u8:=by
 rw[Ae5,if_pos h];simp
theorem TO(id sz q k:Int)(u:Value)(V:List Bk)(A:Af)(d:InB A u V):Cn prog 36 [.agg #[I id,I sz,I q,u],I k] [A] (λv Γ=>v=Cj (B5 k V)/\Γ=[A]):=by
 intro z R w H;replace H:=H.l1;obtain ⟨m,x,rfl⟩:=H.sy 0 (λq=>(d _ q).slc);have o:=H.sy 0 (λq=>(d _ q).slcapZ);refine Ae func36 Z ntmps36 Z (Za 2 [] H Z ?_);intro h w H;refine Zc 10 Z ?_;refine AD (σ:=Nat) (λi=>[(5,I (i:Int)),(1,I k),(2,Y h)])
   (λi w=>Sep z (blk h [I id,I sz,I q,.slice m V.length x] 74::A::R) w/\(i<=V.length/\B5 k V=B5 k (V.drop i))) (λi=>V.length-i) 0
   fr_z ⟨H,⟨AeJ _,Z⟩⟩ ?_
 clear H;rintro i w ⟨t,p⟩;have H:=t.l2;obtain ⟨hi,g⟩:=p;refine Z2 10 [3,0,0,0] H Z (Ag Z (λn=>?_) (λn=>?_))
 ·refine Zc 5 Z ?_;obtain ⟨e,c⟩:∃e,V[i]?=some e:=⟨_,Ad7 U⟩;have a:=(H.rv 1 (d _)).at (CN c).1
  have b:=(H.rv 1 (d _)).at (CN c).2;refine Z2 4 [3,0,0] H Z (Ab Z (Aj Z (z:=2) (j:=i) (r:=i*2) J Z Z Z U a U) (Ab Z (Bj Z (k:=0) (r:=i*2) J Z a Z) (Ab Z (Ax Z Z J (Ay a)) (Z0 4 [0] Z (Ag Z (λy=>?_) (λy=>?_))))))
  ·refine Z2 5 [3,0,0] H Z (Ab Z (Aj Z (z:=2) (j:=i) (r:=i*2) J Z Z Z U a U) (Ab Z (Bj Z (k:=1) (r:=i*2+1) J Z a Z) (Ab Z (Ax Z Z J (Ay b)) (Zc 4 Z (Zr Z ?_)))));have f:B5 k V=e.2:=by rw[g,MO c,if_pos U]
   exact ⟨_,⟨by rw[f],Z⟩,H.pick 2 [1] Z⟩
  refine Z1 8 [] [(i:Int)+1] Z U (gf ?_);intro _ s;refine ⟨(i+1),s.cz,⟨H,?_⟩,?_⟩
  ·exact ⟨by omega,by rw[g,MO c,if_neg U]⟩
  omega
 refine Zc 2 Z (gx (Zc 4 Z (AQ Z (Em (k:=64) H Z J CK Z Z Z U) ?_)));rintro _ w ⟨b2,rfl,H⟩;replace H:=H.l3;refine Ab Z (Co (l:=Le) Z J J Z (Ay (H.rv 0 (·.rd U U O (by rfl))))) (Zc 4 Z (Zr Z ?_));have f:B5 k V=Le:=by rw[g,AeF U];rfl
 exact ⟨_,⟨by rw[f],Z⟩,H.pick 3 [2] Z⟩
theorem Ab9(id sz q k:Int)(u:Value)(V:List Bk)(A:Af)(c:InB A u V):Cn prog 59 [.agg #[I id,I sz,I q,u],I k] [A] (λv Γ=>v=.bool (decide (GW k V))/\Γ=[A]):=by
 intro z R w H;replace H:=H.l1;obtain ⟨m,x,rfl⟩:=H.sy 0 (λq=>(c _ q).slc);have o:=H.sy 0 (λq=>(c _ q).slcapZ);refine Ae func59 Z ntmps59 Z (Za 2 [] H Z ?_);intro l w H;refine Zc 10 Z ?_;refine AD (σ:=Nat) (λi=>[(5,I (i:Int)),(1,I k),(2,Y l)])
   (λi w=>Sep z (blk l [I id,I sz,I q,.slice m V.length x] 74::A::R) w/\(i<=V.length/\(GW k V↔GW k (V.drop i)))) (λi=>V.length-i) 0
   fr_z ⟨H,⟨AeJ _,Ahp⟩⟩ ?_
 clear H;rintro i w ⟨t,p⟩;have H:=t.l2;obtain ⟨hi,f⟩:=p;refine Z2 10 [3,0,0,0] H Z (Ag Z (λn=>?_) (λn=>?_))
 ·refine Zc 5 Z ?_;obtain ⟨e,b⟩:∃e,V[i]?=some e:=⟨_,Ad7 U⟩;have a:=(H.rv 1 (c _)).at (CN b).1
  refine Z2 4 [3,0,0] H Z (Ab Z (Aj Z (z:=2) (j:=i) (r:=i*2) J Z Z Z U a U) (Ab Z (Bj Z (k:=0) (r:=i*2) J Z a Z) (Ab Z (Ax Z Z J (Ay a)) (Z0 4 [0] Z (Ag Z (λy=>?_) (λy=>?_))))))
  ·refine Zc 6 Z (Zr Z ?_);have d:decide (GW k V)=true:=decide_eq_true (f.2 (by rw[MP b];exact .inl U))
   exact ⟨_,⟨by rw[d],Z⟩,H.pick 2 [1] Z⟩
  refine Z1 8 [] [(i:Int)+1] Z U (gf ?_);intro _ s;refine ⟨(i+1),s.cz,⟨H,?_⟩,?_⟩
  ·exact ⟨by omega,f.trans ((MP b).trans ⟨λq=>q.resolve_left U,.inr⟩)⟩
  omega
 refine Zc 2 Z (gx (Zc 8 Z (Zr Z ?_)));have d:decide (GW k V)=false:=decide_eq_false (λq=>by have:=f.1 q;rw[AeF U] at this;obtain ⟨_,h,_⟩:=this;cases h);exact ⟨_,⟨by rw[d],Z⟩,H.pick 2 [1] Z⟩
theorem QL(id sz q k:Int)(u:Value)(V:List Bk)(A:Af)(l:InB A u V)(hV:V.length<=1048576):Cn prog 113 [.agg #[I id,I sz,I q,u],I k] [A] (λv Γ=>∃b:Value,v=.agg #[I id,I sz,I q,b]/\Γ=[grow 79 2 b (Bx k V).length (BW (Bx k V)),A]):=by
 intro z R w H;replace H:=H.l1;obtain ⟨x,oc,rfl⟩:=H.sy 0 (λq=>(l _ q).slc);have a1:=H.sy 0 (λq=>(l _ q).slcapZ);refine Ae func113 Z ntmps113 Z (Za 2 [] H Z ?_);intro n w H;refine Za 0 [] H Z ?_;intro o w H;refine Zc 9 Z ?_;replace H:=(H.nilg 79 2).l4;refine Zc 5 Z ?_;refine AD (σ:=Nat×Value) (λ⟨i,b⟩=>[(6,I (i:Int)),(5,b),(1,I k),(2,Y n),(4,Y o)])
   (λ⟨i,b⟩ w=>Sep z (grow 79 2 b ((Bx k (V.take i)).length) (BW (Bx k (V.take i)))::blk o [I 0,I 0,I 0,.slice none 0 0] 74::blk n [I id,I sz,I q,.slice x V.length oc] 74::A::R) w/\(i<=V.length)) (λ⟨i,b⟩=>V.length-i) ⟨0,.slice none 0 0⟩
   (λ_ g=>(g.co Z (by go_num) g.cz)) ⟨H,AeJ _⟩ ?_
 clear H;rintro ⟨i,b⟩ w ⟨f,p⟩;dsimp only at p f ⊢;have H:=f.l4;have c:=H.sy 0 (·.slc);have hi:=p;clear p;refine Z2 10 [3,2,0,0] H Z (Ag Z (λh1=>?_) (λh1=>?_))
 ·refine Zc 5 Z ?_;obtain ⟨e,h⟩:∃e,V[i]?=some e:=⟨_,Ad7 U⟩;have a:=(H.rv 3 (l _)).at (CN h).1
  have y:=(H.rv 3 (l _)).at (CN h).2;have a0:(Bx k (V.take i)).length<=i:=Agl (JC _ _) (by rw[Aes];omega);refine Z2 4 [3,2,0] H Z (Ab Z (Aj Z (z:=2) (j:=i) (r:=i*2) J Z Z Z U a U) (Ab Z (Bj Z (k:=0) (r:=i*2) J Z a Z) (Ab Z (Ax Z Z J (Ay a)) (Z0 4 [0] Z (Ag Z (λh2=>?_) (λh2=>?_))))))
  ·refine Z2 5 [3,2,0] H Z (Ab Z (Aj Z (z:=2) (j:=i) (r:=i*2) J Z Z Z U a U) (Ab Z (Bq Z Z (vs:=[I e.1,Cj e.2]) J O (Ay (λk u s=>by rcases k with _|_|k<;>simp at s<;>subst s<;>assumption))) (AQ Z (AM H Z J A0 Z (by decide) (by decide) (out:=[I e.1,Cj e.2]) J) ?_)));rintro _ w ⟨b3,rfl,H⟩;replace H:=H.l5;refine AQ Z (AY 1 H Z Z J A0 Z Z (H.rv 0 (·.rd U U O Z)) (by simp[Cj,Value.oneCell']) U) ?_;rintro t w f;have f:Sep z (blk b3 [I e.1,Cj e.2] 79::grow 79 2 t ((Bx k (V.take i)).length+1) (BW (Bx k (V.take i))++[I e.1,Cj e.2])::blk o [I 0,I 0,I 0,.slice none 0 0] 74::blk n [I id,I sz,I q,.slice x V.length oc] 74::A::R) w:=f
   have m:(BW (Bx k (V.take i))++[I e.1,Cj e.2]:List Value)=BW (Bx k (V.take i)++[e]):=by rw[L6];rfl
   rw[m] at f;have H:=f.l5;refine Z1 9 [] [(i:Int)+1] Z U ?_;replace H:=H.d;refine gf ?_;intro _ g;refine ⟨⟨i+1,t⟩,g.cz,⟨(by rw[MQ k h,if_neg U,Ad9];exact H),?_⟩,?_⟩
   ·show i+1<=V.length;omega
   (dsimp only;omega)
  refine Z1 8 [] [(i:Int)+1] Z U (gf ?_);intro _ g;refine ⟨⟨i+1,b⟩,g.cz,⟨(by rw[MQ k h,if_pos U];exact H),?_⟩,?_⟩
  ·show i+1<=V.length;omega
  (dsimp only;omega)
 refine Zc 2 Z (gx (Z0 6 [3] Z (Az Z Z (Ns 2 H Z Z Z Z c.cells c.one J) ?_)));rintro w H;replace H:=H.l4;refine Z2 5 [2,4] H Z (Az Z Z (Ak 1 H Z Z Z Z (vs:=[I id,I sz,I q,b]) Z (Ad Z (Ad Z (Ad Z (Ad c.one Aw)))) J O (out:=[I id,I sz,I q,b]) Z) ?_);rintro w H;replace H:=H.l4;refine Zc 3 Z (Zl [1,4] H Z ?_);rw[show i=V.length by omega,Ae2] at H;exact ⟨_,⟨b,Z,Z⟩,H.pick 4 [0,3] Z⟩
theorem TP(id sz q k:Int)(u:Value)(V:List Bk)(A:Af)(hA:InB A u V)(d:List UInt8)(hV:V.length<=1048576):Cn prog 60 [.agg #[I id,I sz,I q,u],I k,Cj d] [A] (λv Γ=>∃(u2:Value) (y:List Bk),PutAt k d V y/\v=.agg #[I id,I sz,I q,u2]/\Γ=[grow 79 2 u2 y.length (BW y),A]):=by
 intro z R w H;replace H:=H.l1;obtain ⟨ao,oc,rfl⟩:=H.sy 0 (λq=>(hA _ q).slc);have a2:=H.sy 0 (λq=>(hA _ q).slcapZ);have a1:=JC k V;refine Ae func60 Z ntmps60 Z (Za 2 [] H Z ?_);intro b1 w H;refine Za 0 [] H Z ?_;intro b2 w H;refine Z2 6 [1,4] H Z (Aq Z (call113 _) (QL _ _ _ _ _ _ _ hA hV) H.f2 ?_);rintro _ w _ ⟨u2,rfl,rfl⟩ H;replace H:=H.l4;have x:=H.sy 0 (·.rd.slc);obtain ⟨am,o,rfl⟩:=x;have a0:=H.sy 0 (·.rd.slcapZ);refine Z4 10 [3] H Z ?_;intro w H;refine AD (σ:=Nat) (λi=>[(7,I (i:Int)),(1,I k),(2,Cj d),(3,Y b1),(6,Y b2)])
   (λi w=>Sep z (grow 79 2 (.slice am ((Bx k V).length) o) ((Bx k V).length) (BW (Bx k V))::A::blk b2 [I 0,I 0,I 0,.slice none 0 0] 74::blk b1 [I id,I sz,I q,.slice am ((Bx k V).length) o] 74::R) w/\(i<=(Bx k V).length/\∀(j:Nat) (e:Bk),j<i->(Bx k V)[j]?=some e->e.1<k)) (λi=>(Bx k V).length-i) 0
   fr_z ⟨H,⟨AeJ _,λj e h=>by omega⟩⟩ ?_
 clear H;rintro i w ⟨H',hI⟩;have H:=H'.l4;obtain ⟨hi,c⟩:=hI;refine Z2 9 [3,3,0,0] H Z (Al 17 Z (λh1=>?_) (λh1=>?_))
 ·refine Z2 3 [3,3,0] H Z ?_;obtain ⟨e,t⟩:∃e,(Bx k V)[i]?=some e:=⟨_,Ad7 U⟩;have g:=(H.rv 0 (·.rd)).at (CN t).1
  refine Ab Z (Aj Z (z:=2) (j:=i) (r:=i*2) J Z Z Z U g U) (Ab Z (Bj Z (k:=0) (r:=i*2) J Z g Z) (Ab Z (Ax Z Z J (Ay g)) (Z0 5 [0] Z (Ag Z (λh2=>?_) (λh2=>?_)))))
  ·refine Z1 9 [] [(i:Int)+1] Z U (gf ?_);intro _ hF;refine ⟨(i+1),hF.cz,⟨H,?_⟩,?_⟩
   ·refine ⟨by omega,λj m hj a=>?_⟩;rcases Ael j i with q|q
    ·exact c j m q a
    obtain rfl:j=i:=by omega
    rw[t] at a;cases a;omega
   omega
  refine Zc 2 Z (gx (Z2 13 [3,3,0] H Z (Ab Z (FU (z:=2) (p:=0) (q:=i) (l':=i) (c':=o) Z J Z (.inl ⟨Z,Z⟩) (.inr ⟨_,_,_,Z,Z,Z⟩) U U Z Z) ?_)));replace H:=(H.nilg 79 2).l5;refine AQ Z (AY 0 H Z Z J A0 Z Z (H.rv 1 (·.rd.cutB U U)) (Gw _) U) ?_;rintro v3 w H;replace H:=H.l5;refine Zc 8 Z (Ab Z (Bc Z Z (out:=[I k,Cj d]) J) (AQ Z (AM H Z J A0 Z (by decide) (by decide) (out:=[I k,Cj d]) J) ?_));rintro _ w ⟨b4,rfl,H⟩;replace H:=H.l6;refine AQ Z (AY 1 H Z Z J A0 Z Z (H.rv 0 (·.rd U U O Z)) (by simp[Cj,Value.oneCell']) U) ?_;rintro v5 w H;replace H:=H.l6;refine Z2 9 [3,5,0] H Z (Ab Z (FU (z:=2) (p:=i) (q:=(Bx k V).length) (l':=((Bx k V).length)-i) (c':=o-i) Z J Z (.inr ⟨_,_,_,Z,Z,Z⟩) (.inl ⟨Z,Z⟩) U U Z Z) (AQ Z (AY 1 H Z Z J A0 Z Z (H.rv 2 (·.rd.cutB U U)) (Gw _) U) ?_));rintro v6 w H;replace H:=H.l6;have n:=H.sy 1 (·.slc);refine Z0 7 [3] Z (Az Z Z (Ns 5 H Z Z Z Z n.cells n.one J) ?_);rintro w H;replace H:=H.l6;refine Z2 5 [5,4] H Z (Az Z Z (Ak 4 H Z Z Z Z (vs:=[I id,I sz,I q,v6]) Z (Ad Z (Ad Z (Ad Z (Ad n.one Aw)))) J O (out:=[I id,I sz,I q,v6]) Z) ?_);rintro w H;replace H:=H.l6;refine Zc 3 Z (Zl [4,4] H Z ?_);have b:∀m,(Bx k V)[i]?=some m->k<=m.1:=λm a=>by first|(have:=(Ad6.1 a).1;omega)|(rw[t] at a;cases a;omega)
  rw[show (0+i+1+((Bx k V).length-i):Nat)=((Bx k V).take i++(k,d)::(Bx k V).drop i).length from by simp only[Ad9,Aes,Aeb,AeG];omega,show ([]++BW (((Bx k V).drop 0).take i)++List.take (1*2) (List.drop 0 [I k,Cj d])++BW (((Bx k V).drop i).take ((Bx k V).length-i)):List Value)=BW ((Bx k V).take i++(k,d)::(Bx k V).drop i) from by rw[L6,Aep,Aee (l:=(Bx k V).drop i) (by rw[AeG];omega)];simp[BW]] at H;exact ⟨_,⟨_,_,⟨i,c,b,rfl⟩,rfl,rfl⟩,H.pick 6 [1,3] rfl⟩
 refine Zc 14 Z (gx (Z2 13 [3,3,0] H Z (Ab Z (FU (z:=2) (p:=0) (q:=i) (l':=i) (c':=o) Z J Z (.inl ⟨Z,Z⟩) (.inr ⟨_,_,_,Z,Z,Z⟩) U U Z Z) ?_)));replace H:=(H.nilg 79 2).l5;refine AQ Z (AY 0 H Z Z J A0 Z Z (H.rv 1 (·.rd.cutB U U)) (Gw _) U) ?_;rintro v7 w H;replace H:=H.l5;refine Zc 8 Z (Ab Z (Bc Z Z (out:=[I k,Cj d]) J) (AQ Z (AM H Z J A0 Z (by decide) (by decide) (out:=[I k,Cj d]) J) ?_));rintro _ w ⟨b8,rfl,H⟩;replace H:=H.l6;refine AQ Z (AY 1 H Z Z J A0 Z Z (H.rv 0 (·.rd U U O Z)) (by simp[Cj,Value.oneCell']) U) ?_;rintro v9 w H;replace H:=H.l6;refine Z2 9 [3,5,0] H Z (Ab Z (FU (z:=2) (p:=i) (q:=(Bx k V).length) (l':=((Bx k V).length)-i) (c':=o-i) Z J Z (.inr ⟨_,_,_,Z,Z,Z⟩) (.inl ⟨Z,Z⟩) U U Z Z) (AQ Z (AY 1 H Z Z J A0 Z Z (H.rv 2 (·.rd.cutB U U)) (Gw _) U) ?_));rintro s w H;replace H:=H.l6;have f:=H.sy 1 (·.slc);refine Z0 7 [3] Z (Az Z Z (Ns 5 H Z Z Z Z f.cells f.one J) ?_);rintro w H;replace H:=H.l6;refine Z2 5 [5,4] H Z (Az Z Z (Ak 4 H Z Z Z Z (vs:=[I id,I sz,I q,s]) Z (Ad Z (Ad Z (Ad Z (Ad f.one Aw)))) J O (out:=[I id,I sz,I q,s]) Z) ?_);rintro w H;replace H:=H.l6;refine Zc 3 Z (Zl [4,4] H Z ?_);have b:∀m,(Bx k V)[i]?=some m->k<=m.1:=λm a=>by first|(have:=(Ad6.1 a).1;omega)|(rw[t] at a;cases a;omega)
 rw[show (0+i+1+((Bx k V).length-i):Nat)=((Bx k V).take i++(k,d)::(Bx k V).drop i).length from by simp only[Ad9,Aes,Aeb,AeG];omega,show ([]++BW (((Bx k V).drop 0).take i)++List.take (1*2) (List.drop 0 [I k,Cj d])++BW (((Bx k V).drop i).take ((Bx k V).length-i)):List Value)=BW ((Bx k V).take i++(k,d)::(Bx k V).drop i) from by rw[L6,Aep,Aee (l:=(Bx k V).drop i) (by rw[AeG];omega)];simp[BW]] at H;exact ⟨_,⟨_,_,⟨i,c,b,rfl⟩,rfl,rfl⟩,H.pick 6 [1,3] rfl⟩
end
def D6(id st sz q r mp:Int):Prop:=(1<=id/\id<=1073741824)/\(st=1\/st=2)/\(1<=sz/\sz<=1048576)/\(0<=q/\q<=1048576)/\(0<=r/\r<=1023)/\0<=mp/\mp<=1024
instance(id st sz q r mp:Int):Decidable (D6 id st sz q r mp):=by unfold D6;exact inferInstance
def CQ(id st sz q r mp blk:Int):Int:=if D6 id st sz q r mp then (if 0<=blk/\blk<=sz-1 then 0 else 34) else 1
theorem Dw(k l m:Int):Cn prog 159 [I k,I l,I m] [] (λv Γ=>v=.bool (decide (l<=k/\k<=m))/\Γ=[]):=by
 intro z R w H;replace H:=H.l0;refine Ae func159 Z ntmps159 Z (Z0 11 [0] Z (Al 10 Z (λa=>?_) (λa=>?_)))
 ·refine Z0 8 [0] Z (Zr Z ?_);exact ⟨_,⟨congrArg Value.bool (by first|(rw[Aer];simp<;>omega)|(simp<;>omega)),Z⟩,H⟩
 refine Zc 8 Z (Zr Z ?_);exact ⟨_,⟨congrArg Value.bool (by first|(rw[Aer];simp<;>omega)|(simp<;>omega)),Z⟩,H⟩
theorem tmay_c(pp:Nat)(id b sz q r d c:Int):Cn prog 114 [Y pp,.agg #[I id,I b,I sz,I q,I r,I d],I c] [] (λv Γ=>v=I (CQ id b sz q r d c)/\Γ=[]):=by
 intro z R w H;replace H:=H.l0;refine Ae func114 Z ntmps114 Z (Za 2 [] H Z ?_);intro t w H;refine Z2 12 [0,0,0] H Z (z_E_ Z (call159 _) (Dw _ _ _) H ?_);intro w H;replace H:=H.l1;refine Ab Z (AE Z Z) (Zc 2 Z (Al 16 Z (λj=>?_) (λj=>?_)))
 ·refine Zc 19 Z (Zr Z ?_);have a:CQ id b sz q r d c=1:=by unfold CQ;rw[if_neg (by unfold D6;omega)]
  exact ⟨_,⟨by rw[a],Z⟩,H.perm 1 [] Z Z⟩
 refine Z2 4 [1,0,0,0] H Z (Al 20 Z (λm=>?_) (λm=>?_))
 ·refine Z2 8 [1,0,0,0] H Z (Ag Z (λk=>?_) (λk=>?_))
  ·refine Zc 6 Z (Zr Z ?_);have a:CQ id b sz q r d c=1:=by unfold CQ;rw[if_neg (by unfold D6;omega)]
   exact ⟨_,⟨by rw[a],Z⟩,H.perm 1 [] Z Z⟩
  refine Z2 4 [2,0,0] H Z (z_E_ Z (call159 _) (Dw _ _ _) H ?_);intro w H;replace H:=H.l1;refine Ab Z (AE Z Z) (Zc 1 Z (Al 31 Z (λn=>?_) (λn=>?_)))
  ·refine Zc 15 Z (Zr Z ?_);have a:CQ id b sz q r d c=1:=by unfold CQ;rw[if_neg (by unfold D6;omega)]
   exact ⟨_,⟨by rw[a],Z⟩,H.perm 1 [] Z Z⟩
  refine Z2 2 [3,0,0] H Z (z_E_ Z (call159 _) (Dw _ _ _) H ?_);intro w H;replace H:=H.l1;refine Ab Z (AE Z Z) (Zc 4 Z (Ag Z (λo=>?_) (λo=>?_)))
  ·refine Zc 6 Z (Zr Z ?_);have a:CQ id b sz q r d c=1:=by unfold CQ;rw[if_neg (by unfold D6;omega)]
   exact ⟨_,⟨by rw[a],Z⟩,H.perm 1 [] Z Z⟩
  refine Z2 4 [4,0,0] H Z (z_E_ Z (call159 _) (Dw _ _ _) H ?_);intro w H;replace H:=H.l1;refine Ab Z (AE Z Z) (Zc 1 Z (Al 42 Z (λi=>?_) (λi=>?_)))
  ·refine Zc 15 Z (Zr Z ?_);have a:CQ id b sz q r d c=1:=by unfold CQ;rw[if_neg (by unfold D6;omega)]
   exact ⟨_,⟨by rw[a],Z⟩,H.perm 1 [] Z Z⟩
  refine Z2 2 [5,0,0] H Z (z_E_ Z (call159 _) (Dw _ _ _) H ?_);intro w H;replace H:=H.l1;refine Ab Z (AE Z Z) (Zc 4 Z (Ag Z (λl=>?_) (λl=>?_)))
  ·refine Zc 6 Z (Zr Z ?_);have a:CQ id b sz q r d c=1:=by unfold CQ;rw[if_neg (by unfold D6;omega)]
   exact ⟨_,⟨by rw[a],Z⟩,H.perm 1 [] Z Z⟩
  refine Z3 6 [2,0,0] [sz-1] H Z U (z_E_ Z (call159 _) (Dw _ _ _) H ?_);intro w H;replace H:=H.l1;refine Ab Z (AE Z Z) (Zc 3 Z (Ag Z (λp=>?_) (λp=>?_)))
  ·refine Zc 6 Z (Zr Z ?_);have a:CQ id b sz q r d c=34:=by unfold CQ;rw[if_pos (by unfold D6;omega),if_neg U]
   exact ⟨_,⟨by rw[a],Z⟩,H.perm 1 [] Z Z⟩
  refine Zc 9 Z (Zr Z ?_);have a:CQ id b sz q r d c=0:=by unfold CQ;rw[if_pos (by unfold D6;omega),if_pos U]
  exact ⟨_,⟨by rw[a],Z⟩,H.perm 1 [] Z Z⟩
 refine Z2 13 [2,0,0] H Z (z_E_ Z (call159 _) (Dw _ _ _) H ?_);intro w H;replace H:=H.l1;refine Ab Z (AE Z Z) (Zc 1 Z (Al 31 Z (λs=>?_) (λs=>?_)))
 ·refine Zc 15 Z (Zr Z ?_);have a:CQ id b sz q r d c=1:=by unfold CQ;rw[if_neg (by unfold D6;omega)]
  exact ⟨_,⟨by rw[a],Z⟩,H.perm 1 [] Z Z⟩
 refine Z2 2 [3,0,0] H Z (z_E_ Z (call159 _) (Dw _ _ _) H ?_);intro w H;replace H:=H.l1;refine Ab Z (AE Z Z) (Zc 4 Z (Ag Z (λg=>?_) (λg=>?_)))
 ·refine Zc 6 Z (Zr Z ?_);have a:CQ id b sz q r d c=1:=by unfold CQ;rw[if_neg (by unfold D6;omega)]
  exact ⟨_,⟨by rw[a],Z⟩,H.perm 1 [] Z Z⟩
 refine Z2 4 [4,0,0] H Z (z_E_ Z (call159 _) (Dw _ _ _) H ?_);intro w H;replace H:=H.l1;refine Ab Z (AE Z Z) (Zc 1 Z (Al 42 Z (λe=>?_) (λe=>?_)))
 ·refine Zc 15 Z (Zr Z ?_);have a:CQ id b sz q r d c=1:=by unfold CQ;rw[if_neg (by unfold D6;omega)]
  exact ⟨_,⟨by rw[a],Z⟩,H.perm 1 [] Z Z⟩
 refine Z2 2 [5,0,0] H Z (z_E_ Z (call159 _) (Dw _ _ _) H ?_);intro w H;replace H:=H.l1;refine Ab Z (AE Z Z) (Zc 4 Z (Ag Z (λh=>?_) (λh=>?_)))
 ·refine Zc 6 Z (Zr Z ?_);have a:CQ id b sz q r d c=1:=by unfold CQ;rw[if_neg (by unfold D6;omega)]
  exact ⟨_,⟨by rw[a],Z⟩,H.perm 1 [] Z Z⟩
 refine Z3 6 [2,0,0] [sz-1] H Z U (z_E_ Z (call159 _) (Dw _ _ _) H ?_);intro w H;replace H:=H.l1;refine Ab Z (AE Z Z) (Zc 3 Z (Ag Z (λf=>?_) (λf=>?_)))
 ·refine Zc 6 Z (Zr Z ?_);have a:CQ id b sz q r d c=34:=by unfold CQ;rw[if_pos (by unfold D6;omega),if_neg U]
  exact ⟨_,⟨by rw[a],Z⟩,H.perm 1 [] Z Z⟩
 refine Zc 9 Z (Zr Z ?_);have a:CQ id b sz q r d c=0:=by unfold CQ;rw[if_pos (by unfold D6;omega),if_pos U]
 exact ⟨_,⟨by rw[a],Z⟩,H.perm 1 [] Z Z⟩
section
variable{Tb:Af}
theorem OW(pp:Nat)(id a sz q r b blk:Int)(d:D6 id a sz q r b):Cn prog 114 [Y pp,.agg #[I id,I a,I sz,I q,I r,I b],I blk] [] (λv Γ=>((0<=blk/\blk<sz)/\v=I 0/\Γ=[])\/(¬(0<=blk/\blk<sz)/\v=I 34/\Γ=[])):=by
 intro z R w H;refine Ret.mono (tmay_c pp id a sz q r b blk z R w H) ?_;rintro v e ⟨Γ',⟨rfl,rfl⟩,c⟩;unfold CQ;rw[if_pos d];by_cases hb:0<=blk/\blk<sz
 ·exact ⟨_,.inl ⟨hb,by rw[if_pos U],Z⟩,c⟩
 exact ⟨_,.inr ⟨hb,by rw[if_neg U],Z⟩,c⟩
set_option maxHeartbeats 2000000 in
theorem ZM (pp mb n:Nat) (o:TB) (T:TT) (id st sz q mp c:Int) (ra:Nat) (L:List E) (y:Root (Dk o T) ra L) (hv:D6 id st sz q (ra:Int) mp):Cn prog 62 [Y pp,.agg #[I id,I st,I sz,I q,I (ra:Int),I mp],I c] [trA Tb pp mb n o T] (λv Γ=>((0<=c/\c<sz)/\∃b:Nat,(B5 c (AZ (Dk o T) L)).length=64/\v=.tuple #[.slice (some ⟨b,0,none⟩) 64 64,I 0]/\Γ=[blk b ((B5 c (AZ (Dk o T) L)).map u8) 5,trA Tb pp mb n o T])\/(¬(0<=c/\c<sz)/\v=.tuple #[.slice none 0 0,I 34]/\Γ=[trA Tb pp mb n o T])):=by
 intro z R w H;replace H:=H.l1;have K:=H.says 0 Z (λh a=>trA.k a);have l:∀e∈L,1<=e.2:=λe u=>(GV K.i U (show ∀e∈L,∃b,Dk o T e.2=some (.dt b) from y.data) e u).1;refine Ae func62 Z ntmps62 Z (Za 2 [] H Z ?_);intro b1 w H;refine Z2 10 [0,6] H Z (Aq Z (call114 _) (OW _ _ _ _ _ _ _ _ hv) H ?_);rintro _ w _ (⟨hb,rfl,rfl⟩|⟨hb,rfl,rfl⟩) p
 ·have H:=p.l2;refine Z2 18 [4,4,0,0] H Z (z_E_ Z (call115 _) (TL pp mb n o T ra c L y) H.f1 ?_);intro w H;refine Z0 19 [4] Z (AQ Z (Em (k:=64) H Z J CK Z Z Z U) ?_);rintro _ w ⟨b2,rfl,H⟩;replace H:=H.l3;refine Z0 10 [0] Z (Ag Z (λh1=>?_) (λh1=>?_))
  ·refine Zc 8 Z (Zr Z ?_);have f:B5 c (AZ (Dk o T) L)=Le:=by rw[Kh (λe u=>l e u),if_pos U]
   exact ⟨_,.inl ⟨hb,b2,by rw[f];rfl,Z,Z⟩,H.pick 3 [0,1] Z |>.mono 0 rfl (λh q=>by rw[f];exact q)⟩
  refine Zc 3 Z ?_;obtain ⟨vv,t⟩:=(FV l).1.1 (show getE c L≠0 by omega);have a0:=(FV l).2 vv t y.srt.1;obtain ⟨r,d⟩:=y.data _ t;have d:Dk o T (getE c L)=some (.dt r):=by rw[a0];exact d
  have a4:=K.i.nin _ _ d;obtain ⟨M0,uu,⟨_,_,_,hm⟩,p,s⟩:=(H.pick 3 [1,0,2] Z).trP;obtain ⟨X,x,p⟩:=p.po;have a1:(⟨5,r⟩:Pg)=Ej X.G.M (TA X.g uu) (getE c L):=by have h1:=(hm _ _ d).1;rcases uu with _|T';exact h1.symm.trans (x.m0 _ (.inr U));exact h1.symm.trans ((x.tx T' Z).m _ (.inr U))
  have j:r.length=240:=(hm _ _ d).2.2;have f:B5 c (AZ (Dk o T) L)=r.take 64:=by rw[Kh (λe u=>l e u),if_neg U,d];rfl
  clear H;have H:=p.l9;refine Z2 7 [0,0,0,0] H Z (Aq Z (call98 _) (KX X.ps X.pd X.D X.G (TA X.g uu) (getE c L) (by rw[x.pg];omega) x.fine.clean.f1 ⟨5,r⟩ a1) H.f1 ?_);rintro _ w _ (⟨a2,rfl,rfl⟩|⟨a3,rv,rfl,rfl⟩) p
  ·(exfalso;have h0:noPg.kind=(⟨5,r⟩:Pg).kind:=(by rw[a2]);cases h0)
  have H:=p.l10;obtain ⟨gb,a5,rest,rfl,c1,c2,c3,H⟩:=H.ungrow 0 Z U;replace H:=H.l10;refine Za 3 [] H Z ?_;intro b3 w H;refine Z4 30 [0,4,0,0,0,4,1,0,0] H Z ?_;intro w H;refine AQ Z (F4 9 H Z Z J Z Z (m:=240) (news:=(r.map u8)) (.inl (H.rv 1 (·.rd U U (by rw[Ad9,Aea,j];omega) (by rw[Aep,AeK,AeA (by rw[Aea,j])])))) (by simp[u8,Value.oneCell']) O (k:=64) (by decide) (out:=((B5 c (AZ (Dk o T) L)).map u8)) (by rw[f];simp[j,Afj,Aee])) ?_;rintro _ w ⟨rfl,H⟩;replace H:=H.l11;refine Zc 10 Z (Zr Z ?_);have H8:=s _ _ ((H.pick 11 [3,2,4,5,6,7,8,9] Z).toPo (X:=X) x Z);exact ⟨_,.inl ⟨hb,b2,by rw[f];simp[j],Z,Z⟩,H8.pick 2 [1,0] Z⟩
 have H:=p.l2;refine Z0 18 [3] Z (Zr Z ?_);exact ⟨_,.inr ⟨hb,Z,Z⟩,H.pick 2 [1] Z⟩
end
section
variable{Tb:Af}
theorem trA.k0{n pp mb:Nat}{o:TB}{T:TT}{h:Hp}(a:trA Tb pp mb n o T h):TrK n o none:=by
 have key:∀(M0:Nat->Pg) (u:Option PoT),Rel n M0 o.N o.C o.R->poA Tb pp mb n M0 o.C u h->TrK n o none:=λM0 u c a=>by
  have d:=a.hn;refine ⟨d,c.i,a.c0.2,λp hp=>?_⟩;have b:AV n o.C p=true:=hp;simp[AV] at b;refine ⟨b.1,b.2,?_⟩;rcases Ael (manyN n) p with h|h
  ·exact h
  have:=a.c0.2 p h;omega
 cases T with
 | none=>obtain ⟨M0,c,a⟩:=a;exact key M0 _ c a
 | some s=>obtain ⟨M0,M,⟨c,_⟩,a⟩:=a;exact key M0 _ c a
structure WrF(n:Nat)(o:TB)(t3:TS)(ra r:Nat)(Q:List Nat)(kk:Int)(val:Nat)(bs:List UInt8)(L:List E):Prop where
 root:Root t3.N r (putE kk val L)
 nd:(vals (putE kk val L)).Nodup
 kp:Kp o.N t3.N Q
 dt:Dt o.N t3.N
 vol:∀V2,PutAt kk bs (AZ o.N L) V2->V2=AZ t3.N (putE kk val L)
 k:t3.k<=17
 f:cnt (AV n o.C) 0 1024<=cnt t3.F 0 1024+12
 g:cnt t3.F 0 1024<=cnt (AV n t3.C) 0 1024
theorem WrF.of{n:Nat}{o:TB}{t2 t3:TS}{l r:Nat}{Q:List Nat}{g:Int}{val:Nat}{bs:List UInt8}{L:List E}(K:TrK n o none)(w:bs.length=64)(p:o.N val=none)(s:t2.N=fup o.N val (some (.dt (bs++List.replicate 176 0))))(j:t2.F val=false)(a:∀q,t2.F q=true->AV n o.C q=true)(e:∀h c lo hi m L,Tr o.N h c lo hi m L->Tr t2.N h c lo hi m L)(y:St t2 t3 Q 11 16)(t:Root o.N l L)(b:Root t3.N r (putE g val L))(d:(vals (putE g val L)).Nodup)(z:t2.k<=0+1)(v:cnt (AV n o.C) 0 1024=cnt t2.F 0 1024+1)(i:cnt t3.F 0 1024<=cnt (AV n t3.C) 0 1024):WrF n o t3 l r Q g val bs L:=by
 have hk:=y.k;have hf:=y.f;refine ⟨b,d,Kp.of λc u h lo hi m L x=>y.fr c u h lo hi m L (e h c lo hi m L x),TN K p s a y,λV2 hp=>?_,by omega,by omega,i⟩;exact ZL K p s j a y t b (by rw[AeA w];exact hp)
set_option maxHeartbeats 4000000 in
theorem Wm (pp mb n:Nat) (o:TB) (id st sz q mp j:Int) (g:Nat) (L:List E) (Q:List Nat) (D:Af) (dv:Value) (bs:List UInt8) (p:LwI n o g L Q) (hv:D6 id st sz q (g:Int) mp) (hD:∀h,D h->rdH 1 dv bs.length (bs.map u8) h):Cn prog 112 [Y pp,.agg #[I id,I st,I sz,I q,I (g:Int),I mp],I j,dv] [trA Tb pp mb n o (some ((⟨o.N,o.C,AV n o.C,0⟩:TS),Ba g++Q)),D] (λv Γ=>(¬(0<=j/\j<sz)/\v=.tuple #[.agg #[I 0,I 0,I 0,I 0,I 0,I 0],I 34]/\Γ=[trA Tb pp mb n o (some (⟨o.N,o.C,AV n o.C,0⟩,Ba g++Q)),D])\/((0<=j/\j<sz)/\bs.length≠64/\v=.tuple #[.agg #[I 0,I 0,I 0,I 0,I 0,I 0],I 1]/\Γ=[trA Tb pp mb n o (some (⟨o.N,o.C,AV n o.C,0⟩,Ba g++Q)),D])\/(((0<=j/\j<sz)/\bs.length=64)/\(getE j L=0/\q<=mp)/\v=.tuple #[.agg #[I 0,I 0,I 0,I 0,I 0,I 0],I 30]/\Γ=[trA Tb pp mb n o (some (⟨o.N,o.C,AV n o.C,0⟩,Ba g++Q)),D])\/(((0<=j/\j<sz)/\bs.length=64/\¬(getE j L=0/\q<=mp))/\cnt (AV n o.C) 0 1024<=11/\∃s3,v=.tuple #[.agg #[I 0,I 0,I 0,I 0,I 0,I 0],I 20]/\Γ=[trA Tb pp mb n o (some s3),D])\/(((0<=j/\j<sz)/\bs.length=64/\¬(getE j L=0/\q<=mp))/\∃(t3:TS) (r val:Nat),WrF n o t3 g r Q j val bs L/\v=.tuple #[.agg #[I id,I st,I sz,I q,I (r:Int),I (if getE j L=0 then mp+1 else mp)],I 0]/\Γ=[trA Tb pp mb n o (some (t3,Ba r++Q)),D])):=by
 intro z R w H;replace H:=H.l2;obtain ⟨c6,dc,rfl⟩:=H.sy 1 (λq=>(hD _ q).slc);have c5:=H.sy 1 (λq=>(hD _ q).slcap);have K0:=H.says 0 Z (λh a=>trA.k0 a);have K:=H.says 0 Z (λh a=>trA.k a);refine Ae func112 Z ntmps112 Z (Za 2 [] H Z ?_);intro b1 w H;refine Za 0 [] H Z ?_;intro b2 w H;refine Z2 9 [1,6] H Z (Aq Z (call114 _) (OW _ _ _ _ _ _ _ _ hv) H ?_);rintro _ w _ (⟨t,rfl,rfl⟩|⟨t,rfl,rfl⟩) u
 ·have H:=u.l4;refine Z0 17 [4] Z (z_E_ Z (call156 _) (HR pp mb n o _) H.f2 ?_);intro w H;replace H:=H.l4;refine AC 25 (v:=.bool true) Z Z (Z0 13 [0] Z (Ag Z (λh1=>?_) (λh1=>?_)))
  ·refine Zc 2 Z (Ab Z (Bc Z Z (out:=[I 0,I 0,I 0,I 0,I 0,I 0]) J) (Z4 5 [1] H Z ?_));intro w H;refine Zl [1,6] H Z ?_;exact ⟨_,.inr (.inl ⟨t,by omega,Z,Z⟩),H.pick 4 [0,3] Z⟩
  refine Z2 9 [4,2,0] H Z (z_E_ Z (call115 _) (TL pp mb n o (some ((⟨o.N,o.C,AV n o.C,0⟩:TS),Ba g++Q)) g j L p.root) H ?_);intro w H;refine Z0 23 [4,0] Z (Al 47 Z (λh2=>?_) (λh2=>?_))
  ·refine Z2 8 [5,2,0,3,2,0,0] H Z (Ag Z (λh3=>?_) (λh3=>?_))
   ·refine Zc 2 Z (Ab Z (Bc Z Z (out:=[I 0,I 0,I 0,I 0,I 0,I 0]) J) (Z4 5 [1] H Z ?_));intro w H;refine Zl [1,6] H Z ?_;exact ⟨_,.inr (.inr (.inl ⟨⟨t,by omega⟩,⟨by omega,by omega⟩,Z,Z⟩)),H.pick 4 [0,3] Z⟩
   refine Zc 3 Z ?_;have s:bs.length=64:=by omega
   refine Zc 1 Z (AQ Z (Em (k:=240) H Z J CK Z Z Z U) ?_);rintro _ w ⟨b3,rfl,H⟩;replace H:=H.l5;refine Zc 7 Z (AQ Z (F4 0 H Z Z J Z Z (m:=bs.length) (news:=(bs.map u8)) (.inl (H.rv 4 (hD _))) (by simp[u8,Value.oneCell']) (by rw[Afd];omega) (k:=64) U (out:=((bs++List.replicate 176 0).map u8)) (by rw[Aee (l:=bs.map u8) (by rw[Aea];omega)];simp[u8])) ?_);rintro _ w ⟨rfl,H⟩;replace H:=H.l5;refine Zc 7 Z (Aq Z (call157 _) (OV pp mb n o (⟨o.N,o.C,AV n o.C,0⟩:TS) (Ba g++Q) (bs++List.replicate 176 0) (by simp[s]) b3 (by show 0<40;omega)) H.f1 ?_);rintro _ w _ (⟨a9,rfl,rfl⟩|⟨val,t2,⟨⟨a0,x,a8,a5⟩,a7,y,a3,a1⟩,rfl,rfl⟩) u
   ·have H:=u.l5;have c2:cnt (AV n o.C) 0 1024=0:=a9
    have b0:cnt (AV n o.C) 0 1024<=11:=by omega
    refine Z0 17 [3] Z (Ab Z (Bc Z Z (out:=[I 0,I 0,I 0,I 0,I 0,I 0]) J) (Z4 6 [2] H Z ?_));intro w H;refine Zl [2,6] H Z ?_;exact ⟨_,.inr (.inr (.inr (.inl ⟨⟨t,by omega,by omega⟩,by omega,_,Z,Z⟩))),H.pick 5 [0,4] Z⟩
   have H:=u.l5;have b0:cnt (AV n o.C) 0 1024=cnt t2.F 0 1024+1:=a1;have c4:t2.k<=0+1:=a3;refine Z2 25 [4,4,3,0] H Z ?_;have a6:Root t2.N g L:=Kp.of (Q:=[g]) (λc _ h=>y h c) g O L p.root;have b8:sz<=1048576:=by have:=hv;unfold D6 at this;omega
   have a2:t2.N val=some (.dt (bs++List.replicate 176 0)):=by rw[x,BI]
   refine Aq Z (call158 _) (Xw pp mb n o t2 Q g j val _ L a6 p.n p.nd U a2 a7 U p.q) H ?_;rintro _ w _ (⟨c1,s3,rfl,rfl⟩|⟨t3,r,⟨d,b5,b6⟩,rfl,rfl⟩) u
   ·have H:=u.l5;have b7:cnt (AV n o.C) 0 1024<=11:=by omega
    refine Z4 17 [4,3,3] H Z ?_;intro w H;refine Ab Z (Bc Z Z (out:=[I 0,I 0,I 0,I 0,I 0,I 0]) J) (Z4 6 [2] H Z ?_);intro w H;refine Zl [2,6] H Z ?_;exact ⟨_,.inr (.inr (.inr (.inl ⟨⟨t,by omega,by omega⟩,by omega,_,Z,Z⟩))),H.pick 5 [0,4] Z⟩
   have H:=u.l5;have a4:(vals (putE j val L)).Nodup:=Ld p.root.srt.1 p.nd (λq=>by obtain ⟨e,he,rfl⟩:=Aeh.1 q;obtain ⟨b,t⟩:=p.root.data e he;rw[show o.N e.2=none from a0] at t;cases t);refine Z4 24 [4,3,4,0] H Z ?_;intro w H;refine Ag Z (λh4=>?_) (λh4=>?_)
   ·have c3:=hv
    unfold D6 at c3;refine Z5 16 [5,3,0,5,3,3,6,2] [mp+1] H Z U ?_;intro w H;refine Zl [2,6] H Z ?_;exact ⟨_,.inr (.inr (.inr (.inr ⟨⟨t,by omega,by omega⟩,t3,r,val,WrF.of K0 s a0 x a8 a5 y d p.root b5 a4 a3 a1 b6,by rw[if_pos U],Z⟩))),H.pick 5 [0,4] Z⟩
   exact absurd h2 h4
  refine Zc 12 Z ?_;have s:bs.length=64:=by omega
  refine Zc 1 Z (AQ Z (Em (k:=240) H Z J CK Z Z Z U) ?_);rintro _ w ⟨b4,rfl,H⟩;replace H:=H.l5;refine Zc 7 Z (AQ Z (F4 0 H Z Z J Z Z (m:=bs.length) (news:=(bs.map u8)) (.inl (H.rv 4 (hD _))) (by simp[u8,Value.oneCell']) (by rw[Afd];omega) (k:=64) U (out:=((bs++List.replicate 176 0).map u8)) (by rw[Aee (l:=bs.map u8) (by rw[Aea];omega)];simp[u8])) ?_);rintro _ w ⟨rfl,H⟩;replace H:=H.l5;refine Zc 7 Z (Aq Z (call157 _) (OV pp mb n o (⟨o.N,o.C,AV n o.C,0⟩:TS) (Ba g++Q) (bs++List.replicate 176 0) (by simp[s]) b4 (by show 0<40;omega)) H.f1 ?_);rintro _ w _ (⟨a9,rfl,rfl⟩|⟨val,t2,⟨⟨a0,x,a8,a5⟩,a7,y,a3,a1⟩,rfl,rfl⟩) u
  ·have H:=u.l5;have c2:cnt (AV n o.C) 0 1024=0:=a9
   have b0:cnt (AV n o.C) 0 1024<=11:=by omega
   refine Z0 17 [3] Z (Ab Z (Bc Z Z (out:=[I 0,I 0,I 0,I 0,I 0,I 0]) J) (Z4 6 [2] H Z ?_));intro w H;refine Zl [2,6] H Z ?_;exact ⟨_,.inr (.inr (.inr (.inl ⟨⟨t,by omega,by omega⟩,by omega,_,Z,Z⟩))),H.pick 5 [0,4] Z⟩
  have H:=u.l5;have b0:cnt (AV n o.C) 0 1024=cnt t2.F 0 1024+1:=a1;have c4:t2.k<=0+1:=a3;refine Z2 25 [4,4,3,0] H Z ?_;have a6:Root t2.N g L:=Kp.of (Q:=[g]) (λc _ h=>y h c) g O L p.root;have b8:sz<=1048576:=by have:=hv;unfold D6 at this;omega
  have a2:t2.N val=some (.dt (bs++List.replicate 176 0)):=by rw[x,BI]
  refine Aq Z (call158 _) (Xw pp mb n o t2 Q g j val _ L a6 p.n p.nd U a2 a7 U p.q) H ?_;rintro _ w _ (⟨c1,s3,rfl,rfl⟩|⟨t3,r,⟨d,b5,b6⟩,rfl,rfl⟩) u
  ·have H:=u.l5;have b7:cnt (AV n o.C) 0 1024<=11:=by omega
   refine Z4 17 [4,3,3] H Z ?_;intro w H;refine Ab Z (Bc Z Z (out:=[I 0,I 0,I 0,I 0,I 0,I 0]) J) (Z4 6 [2] H Z ?_);intro w H;refine Zl [2,6] H Z ?_;exact ⟨_,.inr (.inr (.inr (.inl ⟨⟨t,by omega,by omega⟩,by omega,_,Z,Z⟩))),H.pick 5 [0,4] Z⟩
  have H:=u.l5;have a4:(vals (putE j val L)).Nodup:=Ld p.root.srt.1 p.nd (λq=>by obtain ⟨e,he,rfl⟩:=Aeh.1 q;obtain ⟨b,t⟩:=p.root.data e he;rw[show o.N e.2=none from a0] at t;cases t);refine Z4 24 [4,3,4,0] H Z ?_;intro w H;refine Ag Z (λh5=>?_) (λh5=>?_)
  ·exact absurd h5 h2
  refine Z4 10 [3,6,2] H Z ?_;intro w H;refine Zl [2,6] H Z ?_;exact ⟨_,.inr (.inr (.inr (.inr ⟨⟨t,by omega,by omega⟩,t3,r,val,WrF.of K0 s a0 x a8 a5 y d p.root b5 a4 a3 a1 b6,by rw[if_neg U],Z⟩))),H.pick 5 [0,4] Z⟩
 have H:=u.l4;refine Z0 12 [3] Z (Ab Z (Bc Z Z (out:=[I 0,I 0,I 0,I 0,I 0,I 0]) J) (Z4 6 [0] H Z ?_));intro w H;refine Zl [0,6] H Z ?_;exact ⟨_,.inl ⟨t,Z,Z⟩,H.pick 4 [2,3] Z⟩
end
section
variable{Tb:Af}
structure UnF(n:Nat)(o:TB)(t3:TS)(r:Nat)(Q:List Nat)(kk:Int)(L:List E):Prop where
 root:Root t3.N r (BU kk L)
 nd:(vals (BU kk L)).Nodup
 kp:Kp o.N t3.N Q
 dt:Dt o.N t3.N
 k:t3.k<=0+27
 f:cnt (AV n o.C) 0 1024<=cnt t3.F 0 1024+12
 g:cnt t3.F 0 1024<=cnt (AV n t3.C) 0 1024
set_option maxHeartbeats 4000000 in
theorem Wn (pp mb n:Nat) (o:TB) (id p sz q i b:Int) (e:Nat) (L:List E) (Q:List Nat) (j:LwI n o e L Q) (hv:D6 id p sz q (e:Int) i):Cn prog 117 [Y pp,.agg #[I id,I p,I sz,I q,I (e:Int),I i],I b] [trA Tb pp mb n o (some ((⟨o.N,o.C,AV n o.C,0⟩:TS),Ba e++Q))] (λv Γ=>(¬(0<=b/\b<sz)/\v=.tuple #[.agg #[I 0,I 0,I 0,I 0,I 0,I 0],I 34]/\Γ=[trA Tb pp mb n o (some (⟨o.N,o.C,AV n o.C,0⟩,Ba e++Q))])\/(((0<=b/\b<sz)/\¬CC b L)/\v=.tuple #[.agg #[I id,I p,I sz,I q,I (e:Int),I i],I 0]/\Γ=[trA Tb pp mb n o (some (⟨o.N,o.C,AV n o.C,0⟩,Ba e++Q))])\/(((0<=b/\b<sz)/\cnt (AV n o.C) 0 1024<=12)/\∃s3,v=.tuple #[.agg #[I 0,I 0,I 0,I 0,I 0,I 0],I 20]/\Γ=[trA Tb pp mb n o (some s3)])\/(((0<=b/\b<sz)/\CC b L)/\∃(t3:TS) (r:Nat),UnF n o t3 r Q b L/\v=.tuple #[.agg #[I id,I p,I sz,I q,I (r:Int),I (i-1)],I 0]/\Γ=[trA Tb pp mb n o (some (t3,Ba r++Q))])):=by
 intro z R w H;replace H:=H.l1;have K0:=H.says 0 Z (λh a=>trA.k0 a);refine Ae func117 Z ntmps117 Z (Za 2 [] H Z ?_);intro b1 w H;refine Za 0 [] H Z ?_;intro b2 w H;refine Z2 9 [1,6] H Z (Aq Z (call114 _) (OW _ _ _ _ _ _ _ _ hv) H ?_);rintro _ w _ (⟨l,rfl,rfl⟩|⟨l,rfl,rfl⟩) g
 ·have H:=g.l3;refine Z0 16 [4] Z (z_E_ Z (call156 _) (HR pp mb n o _) H.f2 ?_);intro w H;replace H:=H.l3;refine AC 21 (v:=.bool true) Z Z (Z2 12 [4,2,0] H Z (Aq Z (call163 _) (Ada pp mb n o (⟨o.N,o.C,AV n o.C,0⟩:TS) Q e b L j.root j.nd j.n (by show 0<=10;omega) j.q) H ?_));rintro _ w _ (⟨a0,rfl,rfl⟩|⟨u,s3,rfl,rfl⟩|⟨t3,r,⟨s,d,a1,a2⟩,rfl,rfl⟩) g
  ·have H:=g.l3;refine Z4 43 [4,4,2,2,6,1] H Z ?_;intro w H;refine Zl [1,6] H Z ?_;exact ⟨_,.inr (.inl ⟨⟨l,a0⟩,Z,Z⟩),H.pick 3 [0] Z⟩
  ·have H:=g.l3;have t:cnt (AV n o.C) 0 1024<=12:=u
   refine Z0 19 [3] Z (Ab Z (Bc Z Z (out:=[I 0,I 0,I 0,I 0,I 0,I 0]) J) (Z4 6 [1] H Z ?_));intro w H;refine Zl [1,6] H Z ?_;exact ⟨_,.inr (.inr (.inl ⟨⟨l,t⟩,_,Z,Z⟩)),H.pick 3 [0] Z⟩
  have H:=g.l3;refine Z4 33 [4,4,2] H Z ?_;intro w H;have y:=hv;unfold D6 at y;refine Z5 16 [5,2,0,5,2,2,6,1] [i-1] H Z U ?_;intro w H;refine Zl [1,6] H Z ?_;exact ⟨_,.inr (.inr (.inr ⟨⟨l,s⟩,t3,r,⟨a1,K8 j.nd,Kp.of λc hc h lo hi m L x=>d.fr c hc h lo hi m L x,d.dtd K0,d.k,d.f,a2⟩,Z,Z⟩)),H.pick 3 [0] Z⟩
 have H:=g.l3;refine Z0 12 [3] Z (Ab Z (Bc Z Z (out:=[I 0,I 0,I 0,I 0,I 0,I 0]) J) (Z4 6 [0] H Z ?_));intro w H;refine Zl [0,6] H Z ?_;exact ⟨_,.inl ⟨l,Z,Z⟩,H.pick 3 [2] Z⟩
end
section
variable{Tb:Af}
section
variable{P:Program}{C:World->Prop}{o:Oper}{n:Nat}{ds:List Deferred}{L:List (Nat×Value)}{x y:Operand}{xt yt:TypeId}
end
theorem Pz{L:List E}(hs:Srt L)(hp:∀e∈L,1<=e.2)(k:Int)(v:Nat):((putE k v L).length:Int)=if getE k L=0 then (L.length:Int)+1 else L.length:=by
 rcases key_split hs k with ⟨X,v0,Y_,rfl,a⟩|⟨b,X,Y_,rfl,a,c⟩
 ·rw[if_neg ((FV hp).1.2 ⟨v0,by simp⟩),Ec _ a];simp
 rw[if_pos (Ae8 λq=>b ((FV hp).1.1 q)),putE_new a c];simp<;>omega
theorem PA{L:List E}(hs:Srt L){k:Int}(h:CC k L):(L.length:Int)-1=((BU k L).length:Int):=by
 rcases key_split hs k with ⟨X,v0,Y_,rfl,b⟩|⟨a,_⟩
 ·rw[LR hs];simp<;>omega
 exact absurd h a
theorem UnF.vol{n:Nat}{o:TB}{t3:TS}{i r:Nat}{Q:List Nat}{c:Int}{L:List E}(h:UnF n o t3 r Q c L)(g:Root o.N i L):AZ t3.N (BU c L)=Bx c (AZ o.N L):=by
 rw[volB_del];refine I3 λe d=>?_;obtain ⟨b,f⟩:=g.data e (Ae6.1 d).1;obtain ⟨j,a⟩:=h.root.data e d;exact h.dt _ _ _ f a
end
end Go.Proofs.YtnifkcmmanmbbaaGreatDoor
