/-
  No page that is in use is taken, none twice No condition.
-/
import Derived.Test.YthbbejpbkglmlaaGreatDoorPart4
set_option maxRecDepth 100000
set_option linter.unusedSimpArgs false
set_option linter.unusedVariables false
open Go.Proofs.Tryz
namespace Go.Proofs.YthbbejpbkglmlaaGreatDoor
open Go.RowKit
def Ds(C:Nat->Nat)(n:Nat)(p:Int):Int:=if 0<=p/\p<n then (C p.toNat:Int) else 0
theorem HI(b a bw n:Nat)(C:Nat->Nat)(p:Int)(c:16<=n/\n<=1024):Aj 112 [V b,Aa p] [blk b [.slice (some ⟨a,0,none⟩) n n,.slice (some ⟨bw,0,none⟩) n n] 166,Aw a C n] (λv G=>v=Aa (Ds C n p)/\G=[blk b [.slice (some ⟨a,0,none⟩) n n,.slice (some ⟨bw,0,none⟩) n n] 166,Aw a C n]):=by
 unfold Ds;by_cases h:0<=p/\p<n
 ·rw[if_pos h]
  have:=FA b a bw n C p.toNat U c;rwa[show ((p.toNat:Nat):Int)=p by omega] at this
 rw[if_neg h];exact Ny b a bw n C p U c
def CS(T:Nat->Bool)(n:Nat):List Value:=(List.range n).map λp=>.bool (T p)
theorem Dg(T:Nat->Bool)(n:Nat):(CS T n).length=n:=by simp[CS]
theorem tkB_at(T:Nat->Bool){n i:Nat}(h:i<n):(CS T n)[i]?=some (.bool (T i)):=by simp[CS,h]
theorem Yp(T:Nat->Bool){n i:Nat}(h:i<n):(CS T n).take (i*1)++[Value.bool true]++(CS T n).drop (i*1+1)=CS (insP T i) n:=by
 have e:=AcK (l:=CS T n) (i:=i) (a:=Value.bool true);rw[if_pos (by rw[Dg];exact h)] at e;rw[AcD,AbK,Adc,<-e];refine AcF λj=>?_;rw[AcE];rcases AbX j n with b|b
 ·rw[tkB_at (insP T i) b]
  split
  ·rename_i c;subst c;rw[if_pos (by rw[Dg];exact h)];simp[insP]
  rename_i c;rw[tkB_at T b];simp[insP,Ada c]
 rw[Ab5 (by rw[Dg];exact b),Ab5 (by rw[Dg];exact b)];split
 ·rename_i c;subst c;rw[if_neg (by rw[Dg];omega)]
 rfl
theorem Qd(pq pt f d:Nat)(x:Sup)(c a ov:Value)(e:Value)(g:Int)(b:Value)(bs:List UInt8)(B:Ah)(i:∀h,B h->rdH 1 b 240 (bs.map u8) h):Aj 54 [V pq,.agg #[Aa g,b]] [blk pq [V pt,V d,e] 76,blk pt [V f,Aa x.gen,Aa x.epoch,Aa x.pages,Aa x.start,Aa x.len,Aa x.head,Aa x.seq,c,a,.bool false,ov] 128,B] (λv G=>v=.tuple #[Aa 0,Aa 18]/\G=[blk pq [V pt,V d,e] 76,blk pt [V f,Aa x.gen,Aa x.epoch,Aa x.pages,Aa x.start,Aa x.len,Aa x.head,Aa x.seq,c,a,.bool false,ov] 128,B]):=by
 intro z R w H;replace H:=H.l3;obtain ⟨j,k,rfl⟩:=H.sy 2 (λq=>(i _ q).slc);refine Ac func54 Z ntmps54 Z (Za 2 [] H Z ?_);intro l w H;refine Z2 25 [0,1,0,10,2,0] H Z (Zr Z ?_);exact ⟨_,⟨Z,Z⟩,H.pick 4 [1,2,3] Z⟩
theorem Qe(pq pt k g bn bw n:Nat)(x:Sup)(f e ov:Value)(b:Option Addr)(a:Nat)(c:Nat->Bool)(hn:16<=n/\n<=1024)(d:∀q,q<n->c q=true)(m:Int)(o:Value)(bs:List UInt8)(B:Ah)(hB:∀h,B h->rdH 1 o 240 (bs.map u8) h):Aj 54 [V pq,.agg #[Aa m,o]] [blk pq [V pt,V g,.slice b n a] 76,grow 4 1 (.slice b n a) n (CS c n),blk pt [V k,Aa x.gen,Aa x.epoch,Aa x.pages,Aa x.start,Aa x.len,Aa x.head,Aa x.seq,f,e,.bool true,ov] 128,B] (λv G=>v=.tuple #[Aa 0,Aa 20]/\G=[blk pq [V pt,V g,.slice b n a] 76,grow 4 1 (.slice b n a) n (CS c n),blk pt [V k,Aa x.gen,Aa x.epoch,Aa x.pages,Aa x.start,Aa x.len,Aa x.head,Aa x.seq,f,e,.bool true,ov] 128,B]):=by
 intro z R w H;replace H:=H.l4;obtain ⟨bo,bc,rfl⟩:=H.sy 3 (λq=>(hB _ q).slc);refine Ac func54 Z ntmps54 Z (Za 2 [] H Z ?_);intro p w H;refine Z2 27 [0,1,0,10,3,0] H Z ?_;refine Ay (σ:=Nat) (λi=>[(6,Aa (i:Int)),(0,V pq),(3,V p)])
   (λi w=>Sep z (blk p [Aa m,.slice bo 240 bc] 40::blk pq [V pt,V g,.slice b n a] 76::grow 4 1 (.slice b n a) n (CS c n)::blk pt [V k,Aa x.gen,Aa x.epoch,Aa x.pages,Aa x.start,Aa x.len,Aa x.head,Aa x.seq,f,e,.bool true,ov] 128::B::R) w/\(i<=n)) (λi=>n-i) 0
   fr_z ⟨H,AbV _⟩ ?_
 clear H;rintro i w ⟨t,l⟩;have H:=t.l5;have hi:=l;clear l;refine Z2 12 [2,1,0,0] H Z (Ag Z (λy=>?_) (λy=>?_))
 ·refine Z2 12 [2,1,0] H Z (Ad Z (Az Z (z:=1) (j:=i) (r:=i) J Z Z Z U ((H.rv 2 (·.rd)).at (tkB_at c (show i<n by omega))) U) (Ad Z (AM Z Z J (AB ((H.rv 2 (·.rd)).at (tkB_at c (show i<n by omega))))) (Zc 2 Z (DP Z (λs=>?_) (λs=>?_)))))
  ·refine Z1 9 [] [(i:Int)+1] Z U (gf ?_);intro _ u;refine ⟨(i+1),u.cz,⟨H,?_⟩,?_⟩
   ·omega
   omega
  (exfalso;have h9:=d i U;simp_all)
 refine Zc 2 Z (gx (Zc 9 Z (Zr Z ?_)));exact ⟨_,⟨Z,Z⟩,H.pick 5 [1,2,3,4] Z⟩
set_option maxHeartbeats 1000000 in
theorem Sx (pq pt pr f g bw n:Nat) (x:Sup) (s l ov:Value) (C:Nat->Nat) (b:Option Addr) (a:Nat) (c:Nat->Bool) (hn:16<=n/\n<=1024) (p:Nat) (hp:p<n) (o:c p=false) (k:∀q,q<p->c q=true) (hC:C p=0) (y:Ah) (t:Int) (u:Value) (bs:List UInt8) (B:Ah) (hB:∀h,B h->rdH 1 u 240 (bs.map u8) h) (Q:Int->Ah->Prop) (hW:Aj 92 [V pt,Aa (p:Int),.agg #[Aa t,u]] [blk pt [V pr,Aa x.gen,Aa x.epoch,Aa x.pages,Aa x.start,Aa x.len,Aa x.head,Aa x.seq,s,l,.bool true,ov] 128,y,B] (λv G=>∃(e:Int) (d:Ah),Q e d/\v=Aa e/\G=[d,B])):Aj 54 [V pq,.agg #[Aa t,u]] [blk pq [V pt,V f,.slice b n a] 76,grow 4 1 (.slice b n a) n (CS c n),blk f [.slice (some ⟨g,0,none⟩) n n,.slice (some ⟨bw,0,none⟩) n n] 166,Aw g C n,blk pt [V pr,Aa x.gen,Aa x.epoch,Aa x.pages,Aa x.start,Aa x.len,Aa x.head,Aa x.seq,s,l,.bool true,ov] 128,y,B] (λv G=>∃(e:Int) (d:Ah),Q e d/\((e=0/\v=.tuple #[Aa (p:Int),Aa 0]/\G=[blk pq [V pt,V f,.slice b n a] 76,grow 4 1 (.slice b n a) n (CS (insP c p) n),blk f [.slice (some ⟨g,0,none⟩) n n,.slice (some ⟨bw,0,none⟩) n n] 166,Aw g (updN C p 1) n,d,B])\/(e≠0/\v=.tuple #[Aa 0,Aa e]/\G=[blk pq [V pt,V f,.slice b n a] 76,grow 4 1 (.slice b n a) n (CS (insP c p) n),blk f [.slice (some ⟨g,0,none⟩) n n,.slice (some ⟨bw,0,none⟩) n n] 166,Aw g C n,d,B]))):=by
 intro z R w H;replace H:=H.l7;obtain ⟨bo,bc,rfl⟩:=H.sy 6 (λq=>(hB _ q).slc);refine Ac func54 Z ntmps54 Z (Za 2 [] H Z ?_);intro b1 w H;refine Z2 27 [0,1,0,10,5,0] H Z ?_;refine Ay (σ:=Nat) (λi=>[(6,Aa (i:Int)),(0,V pq),(3,V b1)])
   (λi w=>Sep z (blk b1 [Aa t,.slice bo 240 bc] 40::blk pq [V pt,V f,.slice b n a] 76::grow 4 1 (.slice b n a) n (CS c n)::blk f [.slice (some ⟨g,0,none⟩) n n,.slice (some ⟨bw,0,none⟩) n n] 166::Aw g C n::blk pt [V pr,Aa x.gen,Aa x.epoch,Aa x.pages,Aa x.start,Aa x.len,Aa x.head,Aa x.seq,s,l,.bool true,ov] 128::y::B::R) w/\(i<=p)) (λi=>n-i) 0
   fr_z ⟨H,AbV _⟩ ?_
 clear H;rintro i w ⟨m,hI⟩;have H:=m.l8;have hi:=hI;clear hI;refine Z2 12 [2,1,0,0] H Z (Ag Z (λh1=>?_) (λh1=>?_))
 ·refine Z2 12 [2,1,0] H Z (Ad Z (Az Z (z:=1) (j:=i) (r:=i) J Z Z Z U ((H.rv 2 (·.rd)).at (tkB_at c (show i<n by omega))) U) (Ad Z (AM Z Z J (AB ((H.rv 2 (·.rd)).at (tkB_at c (show i<n by omega))))) (Zc 2 Z (DP Z (λh2=>?_) (λh2=>?_)))))
  ·have a1:i<p:=Nat.lt_of_le_of_ne hi (λe=>by subst e;simp_all)
   refine Z1 9 [] [(i:Int)+1] Z U (gf ?_);intro _ hF;refine ⟨(i+1),hF.cz,⟨H,?_⟩,?_⟩
   ·omega
   omega
  obtain rfl:i=p:=AcQ λa0=>(by have h9:=k i U;simp_all);refine Z2 9 [2,1,0] H Z (Ad Z (Az Z (z:=1) (j:=i) (r:=i) J Z Z Z U ((H.rv 2 (·.rd)).at (tkB_at c (show i<n by omega))) U) (A9 Z Z (Vd 2 H Z Z Z (AcD _) Z Z (j:=i) (vs:=[.bool true]) (by simp[Value.oneCell']) J Z U (out:=CS (insP c i) n) (Yp c U)) ?_));rintro w H;replace H:=H.l8;refine Zc 3 Z (Bh 6 J J (A4 H λw m=>?_));have H:=m.l8;refine Ld 6 [0,1,0,0,2] [] H Z J (BY (gw (AA Z (call92 _) (hW) H.f7.f7.f7 ?_)));rintro _ w _ ⟨e,d,hQ,rfl,rfl⟩ H;refine Z0 10 [0] Z (Ag Z (λh3=>?_) (λh3=>?_))
  ·refine Zc 8 Z (Zr Z ?_);exact ⟨_,⟨e,d,hQ,.inr ⟨(by assumption),Z,Z⟩⟩,H.pick 7 [3,4,5,6,0,1] Z⟩
  refine Z2 9 [1,3,0] H Z (Ai Z (call95 _) (IQ _ _ _ _ C i 1 1 U U (by rw[hC];rfl) U U) H.f6.f6 ?_);intro w H;refine Zc 10 Z (Zr Z ?_);exact ⟨_,⟨e,d,hQ,.inl ⟨U,Z,Z⟩⟩,H.pick 7 [5,6,0,1,2,3] Z⟩
 (exfalso;omega)
theorem Qf(pq pt f d:Nat)(x:Sup)(c a ov:Value)(e:Value)(p:Int)(g:Int)(b:Value)(bs:List UInt8)(B:Ah)(i:∀h,B h->rdH 1 b 240 (bs.map u8) h):Aj 56 [V pq,Aa p,.agg #[Aa g,b]] [blk pq [V pt,V d,e] 76,blk pt [V f,Aa x.gen,Aa x.epoch,Aa x.pages,Aa x.start,Aa x.len,Aa x.head,Aa x.seq,c,a,.bool false,ov] 128,B] (λv G=>v=Aa 18/\G=[blk pq [V pt,V d,e] 76,blk pt [V f,Aa x.gen,Aa x.epoch,Aa x.pages,Aa x.start,Aa x.len,Aa x.head,Aa x.seq,c,a,.bool false,ov] 128,B]):=by
 intro z R w H;replace H:=H.l3;obtain ⟨j,k,rfl⟩:=H.sy 2 (λq=>(i _ q).slc);refine Ac func56 Z ntmps56 Z (Za 2 [] H Z ?_);intro l w H;refine Z2 23 [0,1,0,10,2,0] H Z (Zr Z ?_);exact ⟨_,⟨Z,Z⟩,H.pick 4 [1,2,3] Z⟩
theorem Qg(pq pt j a b bw n:Nat)(x:Sup)(e d ov:Value)(C:Nat->Nat)(f:Value)(u:16<=n/\n<=1024)(c:x.pages=n)(p:Int)(m: -9223372036854775808<=p/\p<=9223372036854775807)(i:Ds C n p=0\/(0<p/\p<=(manyN n:Int)))(o:Int)(g:Value)(bs:List UInt8)(B:Ah)(t:∀h,B h->rdH 1 g 240 (bs.map u8) h):Aj 56 [V pq,Aa p,.agg #[Aa o,g]] [blk pq [V pt,V a,f] 76,blk a [.slice (some ⟨b,0,none⟩) n n,.slice (some ⟨bw,0,none⟩) n n] 166,Aw b C n,blk pt [V j,Aa x.gen,Aa x.epoch,Aa x.pages,Aa x.start,Aa x.len,Aa x.head,Aa x.seq,e,d,.bool true,ov] 128,B] (λv G=>v=Aa 2/\G=[blk pq [V pt,V a,f] 76,blk a [.slice (some ⟨b,0,none⟩) n n,.slice (some ⟨bw,0,none⟩) n n] 166,Aw b C n,blk pt [V j,Aa x.gen,Aa x.epoch,Aa x.pages,Aa x.start,Aa x.len,Aa x.head,Aa x.seq,e,d,.bool true,ov] 128,B]):=by
 intro z R w H;replace H:=H.l5;obtain ⟨y,bc,rfl⟩:=H.sy 4 (λq=>(t _ q).slc);have r:manyN n=(n+119)/120:=rfl;refine Ac func56 Z ntmps56 Z (Za 2 [] H Z ?_);intro b1 w H;refine Z2 27 [0,1,0,10,4,0,1,1,0] H Z (Ai Z (call112 _) (HI _ _ _ _ _ p U) H.f3.f3 ?_);intro w H;refine Z0 2 [0] Z (Ak 22 Z (λs=>?_) (λs=>?_))
 ·refine Zc 25 Z (Zr Z ?_);exact ⟨_,⟨Z,Z⟩,H.pick 6 [3,0,1,4,5] Z⟩
 refine Z0 3 [0] Z (Ak 25 Z (λk=>?_) (λk=>?_))
 ·refine Z2 9 [0,3,0,1,3,4,0] H Z (k_updA 34 (v:=Aa (n:Int)) Z (congrArg Aa c) (Ai Z (call94 _) (CV _ U) H ?_));intro w H;refine Z0 5 [0] Z (Ag Z (λl=>?_) (λl=>?_))
  ·refine Zc 6 Z (Zr Z ?_);exact ⟨_,⟨Z,Z⟩,H.pick 6 [3,0,1,4,5] Z⟩
  (exfalso;omega)
 (exfalso;omega)
theorem Qh(pq pt t b c bw n:Nat)(x:Sup)(l k ov:Value)(C:Nat->Nat)(o:Value)(hn:16<=n/\n<=1024)(g:x.pages=n)(p:Int)(a0: -9223372036854775808<=p/\p<=9223372036854775807)(i:¬(Ds C n p=0\/(0<p/\p<=(manyN n:Int))))(r:Ah)(m:Int)(j:Value)(bs:List UInt8)(B:Ah)(hB:∀h,B h->rdH 1 j 240 (bs.map u8) h)(Q:Int->Ah->Prop)(s:Aj 92 [V pt,Aa p,.agg #[Aa m,j]] [blk pt [V t,Aa x.gen,Aa x.epoch,Aa x.pages,Aa x.start,Aa x.len,Aa x.head,Aa x.seq,l,k,.bool true,ov] 128,r,B] (λv G=>∃(e:Int) (a:Ah),Q e a/\v=Aa e/\G=[a,B])):Aj 56 [V pq,Aa p,.agg #[Aa m,j]] [blk pq [V pt,V b,o] 76,blk b [.slice (some ⟨c,0,none⟩) n n,.slice (some ⟨bw,0,none⟩) n n] 166,Aw c C n,blk pt [V t,Aa x.gen,Aa x.epoch,Aa x.pages,Aa x.start,Aa x.len,Aa x.head,Aa x.seq,l,k,.bool true,ov] 128,r,B] (λv G=>∃(e:Int) (a:Ah),Q e a/\v=Aa e/\G=[blk pq [V pt,V b,o] 76,blk b [.slice (some ⟨c,0,none⟩) n n,.slice (some ⟨bw,0,none⟩) n n] 166,Aw c C n,a,B]):=by
 intro z R w H;replace H:=H.l6;obtain ⟨bo,bc,rfl⟩:=H.sy 5 (λq=>(hB _ q).slc);have a1:manyN n=(n+119)/120:=rfl;refine Ac func56 Z ntmps56 Z (Za 2 [] H Z ?_);intro b1 w H;refine Z2 27 [0,1,0,10,4,0,1,1,0] H Z (Ai Z (call112 _) (HI _ _ _ _ _ p U) H.f3.f3 ?_);intro w H;refine Z0 2 [0] Z (Ak 22 Z (λh1=>U) (λh1=>?_));refine Z0 3 [0] Z (Ak 25 Z (λu=>?_) (λu=>?_))
 ·refine Z2 9 [0,3,0,1,3,4,0] H Z (k_updA 34 (v:=Aa (n:Int)) Z (congrArg Aa g) (Ai Z (call94 _) (CV _ U) H ?_));intro w H;refine Z0 5 [0] Z (Ag Z (λy=>U) (λy=>?_))
  refine Zc 3 Z (Bh 6 J J (A4 H λw f=>?_));have H:=f.l7;refine Ld 6 [0,3,0,2,2] [] H Z J (BY (gw (AA Z (call92 _) (s) H.f6.f6.f6 ?_)));rintro _ w _ ⟨e,a,d,rfl,rfl⟩ H;refine Zc 4 Z (Zr Z ?_);exact ⟨_,⟨e,a,d,Z,Z⟩,H.pick 6 [5,2,3,0,1] Z⟩
 refine Zc 19 Z (Bh 6 J J (A4 H λw f=>?_));have H:=f.l7;refine Ld 6 [0,3,0,2,2] [] H Z J (BY (gw (AA Z (call92 _) (s) H.f6.f6.f6 ?_)));rintro _ w _ ⟨e,a,d,rfl,rfl⟩ H;refine Zc 4 Z (Zr Z ?_);exact ⟨_,⟨e,a,d,Z,Z⟩,H.pick 6 [5,2,3,0,1] Z⟩
theorem Ve(pq pt e c:Nat)(x:Sup)(b a ov:Value)(d:Value)(p:Int):Aj 57 [V pq,Aa p] [blk pq [V pt,V c,d] 76,blk pt [V e,Aa x.gen,Aa x.epoch,Aa x.pages,Aa x.start,Aa x.len,Aa x.head,Aa x.seq,b,a,.bool false,ov] 128] (λv G=>v=Aa 18/\G=[blk pq [V pt,V c,d] 76,blk pt [V e,Aa x.gen,Aa x.epoch,Aa x.pages,Aa x.start,Aa x.len,Aa x.head,Aa x.seq,b,a,.bool false,ov] 128]):=by
 intro z R w H;replace H:=H.l2;refine Ac func57 Z ntmps57 Z (Z2 25 [0,0,0,10,1,0] H Z (Zr Z ?_));exact ⟨_,⟨Z,Z⟩,H.pick 2 [0,1] Z⟩
theorem Vf(pq pt h a b bw n:Nat)(x:Sup)(f d ov:Value)(C:Nat->Nat)(g:Value)(m:16<=n/\n<=1024)(c:x.pages=n)(p:Int)(l: -9223372036854775808<=p/\p<=9223372036854775807)(e:Ds C n p=0\/p<=(manyN n:Int)):Aj 57 [V pq,Aa p] [blk pq [V pt,V a,g] 76,blk a [.slice (some ⟨b,0,none⟩) n n,.slice (some ⟨bw,0,none⟩) n n] 166,Aw b C n,blk pt [V h,Aa x.gen,Aa x.epoch,Aa x.pages,Aa x.start,Aa x.len,Aa x.head,Aa x.seq,f,d,.bool true,ov] 128] (λv G=>v=Aa 2/\G=[blk pq [V pt,V a,g] 76,blk a [.slice (some ⟨b,0,none⟩) n n,.slice (some ⟨bw,0,none⟩) n n] 166,Aw b C n,blk pt [V h,Aa x.gen,Aa x.epoch,Aa x.pages,Aa x.start,Aa x.len,Aa x.head,Aa x.seq,f,d,.bool true,ov] 128]):=by
 intro z R w H;replace H:=H.l4;have j:manyN n=(n+119)/120:=rfl;refine Ac func57 Z ntmps57 Z (Z2 29 [0,0,0,10,3,0,1,0,0] H Z (Ai Z (call112 _) (HI _ _ _ _ _ p U) H.f2.f2 ?_));intro w H;refine Z0 2 [0] Z (Ak 20 Z (λk=>?_) (λk=>?_))
 ·refine Zc 21 Z (Zr Z ?_);exact ⟨_,⟨Z,Z⟩,H.pick 4 [2,0,1,3] Z⟩
 refine Z2 9 [0,2,0,1,3,3,0] H Z (k_updA 29 (v:=Aa (n:Int)) Z (congrArg Aa c) (Ai Z (call94 _) (CV _ U) H ?_));intro w H;refine Z0 4 [0] Z (Ag Z (λi=>?_) (λi=>?_))
 ·refine Zc 6 Z (Zr Z ?_);exact ⟨_,⟨Z,Z⟩,H.pick 4 [2,0,1,3] Z⟩
 (exfalso;omega)
theorem Vg(pq pt g a b bw n:Nat)(x:Sup)(e d ov:Value)(C:Nat->Nat)(f:Value)(l:16<=n/\n<=1024)(c:x.pages=n)(p:Nat)(hp:manyN n<p/\p<n)(k:C p=1000):Aj 57 [V pq,Aa (p:Int)] [blk pq [V pt,V a,f] 76,blk a [.slice (some ⟨b,0,none⟩) n n,.slice (some ⟨bw,0,none⟩) n n] 166,Aw b C n,blk pt [V g,Aa x.gen,Aa x.epoch,Aa x.pages,Aa x.start,Aa x.len,Aa x.head,Aa x.seq,e,d,.bool true,ov] 128] (λv G=>v=Aa 21/\G=[blk pq [V pt,V a,f] 76,blk a [.slice (some ⟨b,0,none⟩) n n,.slice (some ⟨bw,0,none⟩) n n] 166,Aw b C n,blk pt [V g,Aa x.gen,Aa x.epoch,Aa x.pages,Aa x.start,Aa x.len,Aa x.head,Aa x.seq,e,d,.bool true,ov] 128]):=by
 intro z R w H;replace H:=H.l4;have i:manyN n=(n+119)/120:=rfl;refine Ac func57 Z ntmps57 Z (Z2 29 [0,0,0,10,3,0,1,0,0] H Z (Ai Z (call112 _) (FA _ _ _ _ _ p U U) H.f2.f2 ?_));intro w H;replace H:=H.l4;refine Z0 2 [0] Z (Ak 20 Z (λj=>U) (λj=>?_));refine Z2 9 [0,2,0,1,3,3,0] H Z (k_updA 29 (v:=Aa (n:Int)) Z (congrArg Aa c) (Ai Z (call94 _) (CV _ U) H ?_));intro w H;replace H:=H.l4;refine Z0 4 [0] Z (Ag Z (λh=>U) (λh=>?_));refine Z2 9 [1,2,0] H Z (Ai Z (call95 _) (U8 _ _ _ _ C p U U k) H ?_);intro w H;replace H:=H.l4;refine Zc 4 Z (Zr Z ?_);exact ⟨_,⟨Z,Z⟩,H.pick 4 [2,0,1,3] Z⟩
theorem Yq(pq pt g a b bw n:Nat)(x:Sup)(e d ov:Value)(C:Nat->Nat)(f:Value)(k:16<=n/\n<=1024)(c:x.pages=n)(p:Nat)(hp:manyN n<p/\p<n)(l:(C p<1000/\1<=C p)):Aj 57 [V pq,Aa (p:Int)] [blk pq [V pt,V a,f] 76,blk a [.slice (some ⟨b,0,none⟩) n n,.slice (some ⟨bw,0,none⟩) n n] 166,Aw b C n,blk pt [V g,Aa x.gen,Aa x.epoch,Aa x.pages,Aa x.start,Aa x.len,Aa x.head,Aa x.seq,e,d,.bool true,ov] 128] (λv G=>v=Aa 0/\G=[blk pq [V pt,V a,f] 76,blk a [.slice (some ⟨b,0,none⟩) n n,.slice (some ⟨bw,0,none⟩) n n] 166,Aw b (updN C p (C p+1)) n,blk pt [V g,Aa x.gen,Aa x.epoch,Aa x.pages,Aa x.start,Aa x.len,Aa x.head,Aa x.seq,e,d,.bool true,ov] 128]):=by
 intro z R w H;replace H:=H.l4;have i:manyN n=(n+119)/120:=rfl;refine Ac func57 Z ntmps57 Z (Z2 29 [0,0,0,10,3,0,1,0,0] H Z (Ai Z (call112 _) (FA _ _ _ _ _ p U U) H.f2.f2 ?_));intro w H;replace H:=H.l4;refine Z0 2 [0] Z (Ak 20 Z (λj=>U) (λj=>?_));refine Z2 9 [0,2,0,1,3,3,0] H Z (k_updA 29 (v:=Aa (n:Int)) Z (congrArg Aa c) (Ai Z (call94 _) (CV _ U) H ?_));intro w H;replace H:=H.l4;refine Z0 4 [0] Z (Ag Z (λh=>U) (λh=>?_));refine Z2 9 [1,2,0] H Z (Ai Z (call95 _) (IQ _ _ _ _ C p (C p+1) 1 U U U U U) H ?_);intro w H;replace H:=H.l4;refine Zc 4 Z (Zr Z ?_);exact ⟨_,⟨Z,Z⟩,H.pick 4 [2,0,1,3] Z⟩
theorem Qi(pq pt e c:Nat)(x:Sup)(b a ov:Value)(d:Value)(p:Int):Aj 58 [V pq,Aa p] [blk pq [V pt,V c,d] 76,blk pt [V e,Aa x.gen,Aa x.epoch,Aa x.pages,Aa x.start,Aa x.len,Aa x.head,Aa x.seq,b,a,.bool false,ov] 128] (λv G=>v=Aa 18/\G=[blk pq [V pt,V c,d] 76,blk pt [V e,Aa x.gen,Aa x.epoch,Aa x.pages,Aa x.start,Aa x.len,Aa x.head,Aa x.seq,b,a,.bool false,ov] 128]):=by
 intro z R w H;replace H:=H.l2;refine Ac func58 Z ntmps58 Z (Z2 25 [0,0,0,10,1,0] H Z (Zr Z ?_));exact ⟨_,⟨Z,Z⟩,H.pick 2 [0,1] Z⟩
theorem Qj(pq pt h a b bw n:Nat)(x:Sup)(f d ov:Value)(C:Nat->Nat)(g:Value)(m:16<=n/\n<=1024)(c:x.pages=n)(p:Int)(l: -9223372036854775808<=p/\p<=9223372036854775807)(e:Ds C n p=0\/p<=(manyN n:Int)):Aj 58 [V pq,Aa p] [blk pq [V pt,V a,g] 76,blk a [.slice (some ⟨b,0,none⟩) n n,.slice (some ⟨bw,0,none⟩) n n] 166,Aw b C n,blk pt [V h,Aa x.gen,Aa x.epoch,Aa x.pages,Aa x.start,Aa x.len,Aa x.head,Aa x.seq,f,d,.bool true,ov] 128] (λv G=>v=Aa 2/\G=[blk pq [V pt,V a,g] 76,blk a [.slice (some ⟨b,0,none⟩) n n,.slice (some ⟨bw,0,none⟩) n n] 166,Aw b C n,blk pt [V h,Aa x.gen,Aa x.epoch,Aa x.pages,Aa x.start,Aa x.len,Aa x.head,Aa x.seq,f,d,.bool true,ov] 128]):=by
 intro z R w H;replace H:=H.l4;have j:manyN n=(n+119)/120:=rfl;refine Ac func58 Z ntmps58 Z (Z2 29 [0,0,0,10,3,0,1,0,0] H Z (Ai Z (call112 _) (HI _ _ _ _ _ p U) H.f2.f2 ?_));intro w H;refine Z0 2 [0] Z (Ak 20 Z (λk=>?_) (λk=>?_))
 ·refine Zc 21 Z (Zr Z ?_);exact ⟨_,⟨Z,Z⟩,H.pick 4 [2,0,1,3] Z⟩
 refine Z2 9 [0,2,0,1,3,3,0] H Z (k_updA 29 (v:=Aa (n:Int)) Z (congrArg Aa c) (Ai Z (call94 _) (CV _ U) H ?_));intro w H;refine Z0 4 [0] Z (Ag Z (λi=>?_) (λi=>?_))
 ·refine Zc 6 Z (Zr Z ?_);exact ⟨_,⟨Z,Z⟩,H.pick 4 [2,0,1,3] Z⟩
 (exfalso;omega)
theorem Sy(pq pt g a b bw n:Nat)(x:Sup)(e d ov:Value)(C:Nat->Nat)(f:Value)(k:16<=n/\n<=1024)(c:x.pages=n)(p:Nat)(hp:manyN n<p/\p<n)(l:(1<=C p/\C p<=1000)):Aj 58 [V pq,Aa (p:Int)] [blk pq [V pt,V a,f] 76,blk a [.slice (some ⟨b,0,none⟩) n n,.slice (some ⟨bw,0,none⟩) n n] 166,Aw b C n,blk pt [V g,Aa x.gen,Aa x.epoch,Aa x.pages,Aa x.start,Aa x.len,Aa x.head,Aa x.seq,e,d,.bool true,ov] 128] (λv G=>v=Aa 0/\G=[blk pq [V pt,V a,f] 76,blk a [.slice (some ⟨b,0,none⟩) n n,.slice (some ⟨bw,0,none⟩) n n] 166,Aw b (updN C p (C p-1)) n,blk pt [V g,Aa x.gen,Aa x.epoch,Aa x.pages,Aa x.start,Aa x.len,Aa x.head,Aa x.seq,e,d,.bool true,ov] 128]):=by
 intro z R w H;replace H:=H.l4;have i:manyN n=(n+119)/120:=rfl;refine Ac func58 Z ntmps58 Z (Z2 29 [0,0,0,10,3,0,1,0,0] H Z (Ai Z (call112 _) (FA _ _ _ _ _ p U U) H.f2.f2 ?_));intro w H;replace H:=H.l4;refine Z0 2 [0] Z (Ak 20 Z (λj=>U) (λj=>?_));refine Z2 9 [0,2,0,1,3,3,0] H Z (k_updA 29 (v:=Aa (n:Int)) Z (congrArg Aa c) (Ai Z (call94 _) (CV _ U) H ?_));intro w H;replace H:=H.l4;refine Z0 4 [0] Z (Ag Z (λh=>U) (λh=>?_));refine Z2 9 [1,2,0] H Z (Ai Z (call95 _) (IQ _ _ _ _ C p (C p-1) (-1) U U U U U) H ?_);intro w H;replace H:=H.l4;refine Zc 4 Z (Zr Z ?_);exact ⟨_,⟨Z,Z⟩,H.pick 4 [2,0,1,3] Z⟩
theorem LL(pq pt c:Nat)(d:Value)(b:Ah)(Q:Int->Ah->Prop)(g:Aj 90 [V pt] [b] (λv G=>∃(e:Int) (a:Ah),Q e a/\v=Aa e/\G=[a])):Aj 53 [V pq] [blk pq [V pt,V c,d] 76,b] (λv G=>∃(e:Int) (a:Ah),Q e a/\v=Aa e/\G=[blk pq [V pt,V c,d] 76,a]):=by
 intro z R w H;replace H:=H.l2;refine Ac func53 Z ntmps53 Z (Z2 11 [0,0,0] H Z (AA Z (call90 _) (g) H.f1 ?_));rintro _ w _ ⟨e,a,f,rfl,rfl⟩ H;refine Zc 4 Z (Zr Z ?_);exact ⟨_,⟨e,a,f,Z,Z⟩,H.pick 2 [1,0] Z⟩
theorem Sz(pq pt h i bw n:Nat)(C W:Nat->Nat)(m:Value)(o:16<=n/\n<=1024)(j:Ah)(Q:Sup->Nat->Value->Value->Bool->Value->Ah->Prop)(l:Aj 67 [V pt] [j] (λv G=>∃(x:Sup) (e:Nat) (d b:Value) (a:Bool) (ov:Value) (c:Ah),(x.pages=n/\Q x e d b a ov c)/\v=.tuple #[]/\G=[blk pt [V e,Aa x.gen,Aa x.epoch,Aa x.pages,Aa x.start,Aa x.len,Aa x.head,Aa x.seq,d,b,.bool a,ov] 128,c])):Aj 26 [V pq] [blk pq [V pt,V h,m] 76,blk h [.slice (some ⟨i,0,none⟩) n n,.slice (some ⟨bw,0,none⟩) n n] 166,Aw i C n,Aw bw W n,j] (λv G=>∃(x:Sup) (e:Nat) (d b:Value) (a:Bool) (ov:Value) (c:Ah) (g:Value),(x.pages=n/\Q x e d b a ov c)/\v=.tuple #[]/\G=[blk pq [V pt,V h,g] 76,grow 4 1 g n (FV W n),blk h [.slice (some ⟨i,0,none⟩) n n,.slice (some ⟨bw,0,none⟩) n n] 166,Aw i W n,Aw bw W n,blk pt [V e,Aa x.gen,Aa x.epoch,Aa x.pages,Aa x.start,Aa x.len,Aa x.head,Aa x.seq,d,b,.bool a,ov] 128,c]):=by
 intro z R w H;replace H:=H.l5;refine Ac func26 Z ntmps26 Z (Z2 6 [0,0,0] H Z (AA Z (call67 _) (l) H.f4 ?_));rintro _ w _ ⟨x,e,d,b,a,ov,c,⟨f,k⟩,rfl,rfl⟩ H;refine Z2 8 [1,2,0] H Z (Ai Z (call68 _) (U7 _ _ _ _ _ _ U) H.f5.f5.f5 ?_);intro w H;refine Zc 4 Z (AA Z (call69 _) (HG _ _ _ _ _ _ n _ _ _ _ _ _ _ _ U f) H.f3.f3.f3.f3.f5 ?_);rintro _ w _ ⟨g,rfl,rfl⟩ H;refine Zc 1 Z (Zf Z ?_);exact ⟨_,⟨x,e,d,b,a,ov,c,g,⟨f,k⟩,Z,Z⟩,H.pick 7 [0,1,2,3,4,5,6] Z⟩
theorem IT(b a m n:Nat)(C:Nat->Nat)(p:Int)(c:16<=n/\n<=1024):Aj 50 [V b,Aa p] [coB b a n m,Aw a C n] (λv G=>v=Aa (Ds C n p)/\G=[coB b a n m,Aw a C n]):=by
 unfold Ds;by_cases h:0<=p/\p<n
 ·rw[if_pos h]
  have:=Ez b a m n C p.toNat U c;rwa[show ((p.toNat:Nat):Int)=p by omega] at this
 rw[if_neg h];exact XP b a m n C p U c
theorem SA(pp ps c b n:Nat)(d:Ah)(Q:Int->Ah->Prop)(g:Aj 39 [V ps] [d] (λv G=>∃(e:Int) (a:Ah),Q e a/\v=Aa e/\G=[a])):Aj 11 [V pp] [plB pp ps c b n true,d] (λv G=>∃(e:Int) (a:Ah),Q e a/\v=Aa e/\G=[plB pp ps c b n true,a]):=by
 intro z R w H;replace H:=H.l2;refine Ac func11 Z ntmps11 Z (Z2 12 [0,0,0,0] H Z (AA Z (call39 _) (g) H.f1 ?_));rintro _ w _ ⟨e,a,f,rfl,rfl⟩ H;refine Z4 26 [4,1,0,4,1] H Z ?_;intro w H;refine Zr Z ?_;exact ⟨_,⟨e,a,f,Z,Z⟩,H.pick 2 [1,0] Z⟩
theorem SB(pp ps c a n:Nat)(p:Int)(d:Int)(b:Value)(bs:List UInt8)(B:Ah)(e:∀h,B h->rdH 1 b 240 (bs.map u8) h):Aj 22 [V pp,Aa p,.agg #[Aa d,b]] [plB pp ps c a n false,B] (λv G=>v=Aa 18/\G=[plB pp ps c a n false,B]):=by
 intro z R w H;replace H:=H.l2;obtain ⟨f,g,rfl⟩:=H.sy 1 (λq=>(e _ q).slc);refine Ac func22 Z ntmps22 Z (Za 2 [] H Z ?_);intro i w H;refine Z2 22 [4,1,0] H Z (Zr Z ?_);exact ⟨_,⟨Z,Z⟩,H.pick 3 [1,2] Z⟩
theorem SC(pp ps a b m c n:Nat)(C:Nat->Nat)(r:16<=n/\n<=1024)(p:Int)(o: -9223372036854775808<=p/\p<=9223372036854775807)(e:Ds C n p=0\/(0<p/\p<=(manyN n:Int)))(i:Int)(d:Value)(bs:List UInt8)(B:Ah)(l:∀h,B h->rdH 1 d 240 (bs.map u8) h):Aj 22 [V pp,Aa p,.agg #[Aa i,d]] [plB pp ps a c n true,coB a b n m,Aw b C n,B] (λv G=>v=Aa 2/\G=[plB pp ps a c n true,coB a b n m,Aw b C n,B]):=by
 intro z R w H;replace H:=H.l4;obtain ⟨s,t,rfl⟩:=H.sy 3 (λq=>(l _ q).slc);have g:manyN n=(n+119)/120:=rfl;refine Ac func22 Z ntmps22 Z (Za 2 [] H Z ?_);intro u w H;refine Z2 23 [4,1,0,1,1,0] H Z (Ai Z (call50 _) (IT _ _ _ _ _ p U) H.f3.f3 ?_);intro w H;refine Z0 2 [0] Z (Ak 21 Z (λk=>?_) (λk=>?_))
 ·refine Zc 22 Z (Zr Z ?_);exact ⟨_,⟨Z,Z⟩,H.pick 5 [3,0,1,4] Z⟩
 refine Z0 3 [0] Z (Ak 24 Z (λf=>?_) (λf=>?_))
 ·refine Z2 5 [3,3,0] H Z (Ai Z (call51 _) (DR _ U) H ?_);intro w H;refine Z0 6 [0] Z (Ag Z (λj=>?_) (λj=>?_))
  ·refine Zc 6 Z (Zr Z ?_);exact ⟨_,⟨Z,Z⟩,H.pick 5 [3,0,1,4] Z⟩
  (exfalso;omega)
 (exfalso;omega)
theorem LM(pp ps b c m k n:Nat)(C:Nat->Nat)(hn:16<=n/\n<=1024)(p:Int)(t: -9223372036854775808<=p/\p<=9223372036854775807)(g:¬(Ds C n p=0\/(0<p/\p<=(manyN n:Int))))(l:Ah)(j:Int)(i:Value)(bs:List UInt8)(B:Ah)(y:∀h,B h->rdH 1 i 240 (bs.map u8) h)(Q:Int->Ah->Prop)(o:Aj 41 [V ps,Aa p,.agg #[Aa j,i]] [l,B] (λv G=>∃(e:Int) (a:Ah),Q e a/\v=Aa e/\G=[a,B])):Aj 22 [V pp,Aa p,.agg #[Aa j,i]] [plB pp ps b k n true,coB b c n m,Aw c C n,l,B] (λv G=>∃(e:Int) (a:Ah),Q e a/\v=Aa e/\G=[plB pp ps b k n true,coB b c n m,Aw c C n,a,B]):=by
 intro z R w H;replace H:=H.l5;obtain ⟨bo,bc,rfl⟩:=H.sy 4 (λq=>(y _ q).slc);have u:manyN n=(n+119)/120:=rfl;refine Ac func22 Z ntmps22 Z (Za 2 [] H Z ?_);intro b1 w H;refine Z2 23 [4,1,0,1,1,0] H Z (Ai Z (call50 _) (IT _ _ _ _ _ p U) H.f3.f3 ?_);intro w H;refine Z0 2 [0] Z (Ak 21 Z (λx=>U) (λx=>?_));refine Z0 3 [0] Z (Ak 24 Z (λr=>?_) (λr=>?_))
 ·refine Z2 5 [3,3,0] H Z (Ai Z (call51 _) (DR _ U) H ?_);intro w H;refine Z0 6 [0] Z (Ag Z (λs=>U) (λs=>?_))
  refine Zc 4 Z (Bh 7 J J (A4 H λw f=>?_));have H:=f.l6;refine Ld 7 [0,0,3,0,2,2] [] H Z J (BY (gw (AA Z (call41 _) (o) H.f5.f5 ?_)));rintro _ w _ ⟨e,a,d,rfl,rfl⟩ H;refine Zc 4 Z (Zr Z ?_);exact ⟨_,⟨e,a,d,Z,Z⟩,H.pick 6 [5,2,3,0,1] Z⟩
 refine Zc 17 Z (Bh 7 J J (A4 H λw f=>?_));have H:=f.l6;refine Ld 7 [0,0,3,0,2,2] [] H Z J (BY (gw (AA Z (call41 _) (o) H.f5.f5 ?_)));rintro _ w _ ⟨e,a,d,rfl,rfl⟩ H;refine Zc 4 Z (Zr Z ?_);exact ⟨_,⟨e,a,d,Z,Z⟩,H.pick 6 [5,2,3,0,1] Z⟩
theorem Yr(pp ps b a n:Nat)(p:Int):Aj 17 [V pp,Aa p] [plB pp ps b a n false] (λv G=>v=Aa 18/\G=[plB pp ps b a n false]):=by
 intro z R w H;replace H:=H.l1;refine Ac func17 Z ntmps17 Z (Z2 24 [4,0,0] H Z (Zr Z ?_));exact ⟨_,⟨Z,Z⟩,H.pick 1 [0] Z⟩
theorem Ys(pp ps a b m c n:Nat)(C:Nat->Nat)(i:16<=n/\n<=1024)(p:Int)(h: -9223372036854775808<=p/\p<=9223372036854775807)(d:Ds C n p=0\/p<=(manyN n:Int)):Aj 17 [V pp,Aa p] [plB pp ps a c n true,coB a b n m,Aw b C n] (λv G=>v=Aa 2/\G=[plB pp ps a c n true,coB a b n m,Aw b C n]):=by
 intro z R w H;replace H:=H.l3;have f:manyN n=(n+119)/120:=rfl;refine Ac func17 Z ntmps17 Z (Z2 25 [4,0,0,1,0,0] H Z (Ai Z (call50 _) (IT _ _ _ _ _ p U) H.f2.f2 ?_));intro w H;refine Z0 2 [0] Z (Ak 19 Z (λg=>?_) (λg=>?_))
 ·refine Zc 18 Z (Zr Z ?_);exact ⟨_,⟨Z,Z⟩,H.pick 3 [2,0,1] Z⟩
 refine Z2 5 [3,2,0] H Z (Ai Z (call51 _) (DR _ U) H ?_);intro w H;refine Z0 5 [0] Z (Ag Z (λe=>?_) (λe=>?_))
 ·refine Zc 6 Z (Zr Z ?_);exact ⟨_,⟨Z,Z⟩,H.pick 3 [2,0,1] Z⟩
 (exfalso;omega)
theorem SD(pp ps b a n:Nat)(p:Int):Aj 15 [V pp,Aa p] [plB pp ps b a n false] (λv G=>v=Aa 18/\G=[plB pp ps b a n false]):=by
 intro z R w H;replace H:=H.l1;refine Ac func15 Z ntmps15 Z (Z2 24 [4,0,0] H Z (Zr Z ?_));exact ⟨_,⟨Z,Z⟩,H.pick 1 [0] Z⟩
theorem SE(pp ps a b m c n:Nat)(C:Nat->Nat)(i:16<=n/\n<=1024)(p:Int)(h: -9223372036854775808<=p/\p<=9223372036854775807)(d:Ds C n p=0\/p<=(manyN n:Int)):Aj 15 [V pp,Aa p] [plB pp ps a c n true,coB a b n m,Aw b C n] (λv G=>v=Aa 2/\G=[plB pp ps a c n true,coB a b n m,Aw b C n]):=by
 intro z R w H;replace H:=H.l3;have f:manyN n=(n+119)/120:=rfl;refine Ac func15 Z ntmps15 Z (Z2 25 [4,0,0,1,0,0] H Z (Ai Z (call50 _) (IT _ _ _ _ _ p U) H.f2.f2 ?_));intro w H;refine Z0 2 [0] Z (Ak 20 Z (λg=>?_) (λg=>?_))
 ·refine Zc 18 Z (Zr Z ?_);exact ⟨_,⟨Z,Z⟩,H.pick 3 [2,0,1] Z⟩
 refine Z2 5 [3,2,0] H Z (Ai Z (call51 _) (DR _ U) H ?_);intro w H;refine Z0 5 [0] Z (Ag Z (λe=>?_) (λe=>?_))
 ·refine Zc 6 Z (Zr Z ?_);exact ⟨_,⟨Z,Z⟩,H.pick 3 [2,0,1] Z⟩
 (exfalso;omega)
theorem Yt(b a m n:Nat)(C:Nat->Nat)(p:Nat)(hp:p<n)(f:16<=n/\n<=1024)(g:C p=1000):Aj 43 [V b,Aa (p:Int),Aa 1] [coB b a n m,Aw a C n] (λv G=>v=Aa 21/\G=[coB b a n m,Aw a C n]):=by
 intro z R w H;replace H:=H.l2;refine Ac func43 Z ntmps43 Z (Z0 11 [0] Z (Ak 11 Z (λe=>U) (λe=>?_)));refine Z2 10 [0,0,0,0] H Z (Ag Z (λc=>U) (λc=>?_));refine Z3 12 [0,0,0,1,p,p] [] H Z U (Ad Z (AY Z Z J (AB (H.cel 1 Z p (cnL_at _ U)))) (Z1 3 [0] [1000-(C p:Int)] Z U (Ak 30 Z (λd=>?_) (λd=>?_))))
 ·refine Zc 20 Z (Zr Z ?_);exact ⟨_,⟨Z,Z⟩,H.pick 2 [0,1] Z⟩
 (exfalso;omega)
theorem Yu(pp ps a b m c n:Nat)(C:Nat->Nat)(g:16<=n/\n<=1024)(p:Nat)(hp:manyN n<p/\p<n)(f:C p=1000):Aj 17 [V pp,Aa (p:Int)] [plB pp ps a c n true,coB a b n m,Aw b C n] (λv G=>v=Aa 21/\G=[plB pp ps a c n true,coB a b n m,Aw b C n]):=by
 intro z R w H;replace H:=H.l3;refine Ac func17 Z ntmps17 Z (Z2 25 [4,0,0,1,0,0] H Z (Ai Z (call50 _) (Ez _ _ _ _ _ _ U U) H.f2.f2 ?_));intro w H;replace H:=H.l3;refine Z0 2 [0] Z (Ak 19 Z (λe=>U) (λe=>?_));refine Z2 5 [3,2,0] H Z (Ai Z (call51 _) (DR _ U) H ?_);intro w H;replace H:=H.l3;refine Z0 5 [0] Z (Ag Z (λd=>U) (λd=>?_));refine Z2 10 [1,2,0] H Z (Ai Z (call43 _) (Yt _ _ _ _ _ _ U U f) H ?_);intro w H;replace H:=H.l3;refine Zc 4 Z (Zr Z ?_);exact ⟨_,⟨Z,Z⟩,H.pick 3 [2,0,1] Z⟩
theorem Qk(pp ps b a n:Nat):Aj 14 [V pp] [plB pp ps b a n false] (λv G=>v=Aa 18/\G=[plB pp ps b a n false]):=by
 intro z R w H;replace H:=H.l1;refine Ac func14 Z ntmps14 Z (Z2 22 [4,0,0] H Z (Zr Z ?_));exact ⟨_,⟨Z,Z⟩,H.pick 1 [0] Z⟩
theorem Yv(pp ps c a n:Nat)(F b S:Nat->Bool)(e:16<=n/\n<=1024)(p:Nat)(hp:p<n)(d:b p=false):Aj 42 [V pp,Aa (p:Int)] [plB pp ps c a n true,alB a n (BI F p) b S] (λv G=>v=.tuple #[]/\G=[plB pp ps c a n true,alB a n (BI F p) (insP b p) S]):=by
 intro z R w H;replace H:=H.l2;refine Ac func42 Z ntmps42 Z (Z2 6 [2,0,0] H Z (Ai Z (call52 _) (OP _ _ _ _ _ p U U (by simp[BI]) d) H.f1 ?_));intro w H;refine Zc 1 Z (Zf Z ?_);exact ⟨_,⟨Z,Z⟩,H.pick 2 [1,0] Z⟩
set_option maxHeartbeats 1000000 in
theorem pfreshE_c (pp ps l c n:Nat) (F b S:Nat->Bool) (y:16<=n/\n<=1024) (p:Nat) (hp:p<n) (i:F p=true) (f:∀q,q<p->F q=false) (t:b p=false) (A:Ah) (s:Fw A) (o:Ah) (k:Int) (d:Value) (bs:List UInt8) (B:Ah) (u:∀h,B h->rdH 1 d 240 (bs.map u8) h) (Q:Int->Ah->Prop) (g:∀e a,Q e a->e≠0) (x:Aj 41 [V ps,Aa (p:Int),.agg #[Aa k,d]] [o,B] (λv G=>∃(e:Int) (a:Ah),Q e a/\v=Aa e/\G=[a,B])):Aj 12 [V pp,.agg #[Aa k,d]] [plB pp ps l c n true,alB c n F b S,A,o,B] (λv G=>∃(e:Int) (a:Ah),Q e a/\v=.tuple #[Aa 0,Aa e]/\G=[plB pp ps l c n true,alB c n (BI F p) (insP b p) S,A,a,B]):=by
 intro z R w H;replace H:=H.l5;obtain ⟨bo,bc,rfl⟩:=H.sy 4 (λq=>(u _ q).slc);refine Ac func12 Z ntmps12 Z (Za 2 [] H Z ?_);intro b1 w H;refine Z2 23 [4,1,0,2,1,0] H Z (Ai Z (call40 _) (RT _ _ _ _ _ p U U i f _ s) H.f3.f3 ?_);intro w H;refine Zc 19 Z (Bh 7 J J (A4 H λw r=>?_));have H:=r.l6;refine Ld 7 [0,0,3,0,2,2] [] H Z J (BY (gw (AA Z (call41 _) (x) H.f5.f5 ?_)));rintro _ w _ ⟨e,a,j,rfl,rfl⟩ H;refine Z0 9 [0] Z (Ag Z (λm=>?_) (λm=>?_))
 ·refine Zc 4 Z (Ai Z (call42 _) (Yv _ _ _ _ _ F b S U p U t) H.f2.f5 ?_);intro w H;refine Zc 10 Z (Zr Z ?_);exact ⟨_,⟨e,a,j,Z,Z⟩,H.pick 6 [0,1,4,2,3] Z⟩
 exact absurd (Ad7.1 m) (g _ _ j)
theorem SF(pp ps d a n:Nat)(F e S:Nat->Bool)(b:∀q,q<1024->F q=false)(f:Int)(c:Value)(bs:List UInt8)(B:Ah)(g:∀h,B h->rdH 1 c 240 (bs.map u8) h):Aj 12 [V pp,.agg #[Aa f,c]] [plB pp ps d a n true,alB a n F e S,B] (λv G=>v=.tuple #[Aa 0,Aa 20]/\G=[plB pp ps d a n true,alB a n F e S,B]):=by
 intro z R w H;replace H:=H.l3;obtain ⟨i,j,rfl⟩:=H.sy 2 (λq=>(g _ q).slc);refine Ac func12 Z ntmps12 Z (Za 2 [] H Z ?_);intro k w H;refine Z2 23 [4,1,0,2,1,0] H Z (Ai Z (call40 _) (OR _ _ _ _ _ b) H.f2 ?_);intro w H;refine Zc 22 Z (Zr Z ?_);exact ⟨_,⟨Z,Z⟩,H.perm 4 [2,0,3] Z Z⟩
theorem Ql(pp ps c a n:Nat)(d:Int)(b:Value)(bs:List UInt8)(B:Ah)(e:∀h,B h->rdH 1 b 240 (bs.map u8) h):Aj 12 [V pp,.agg #[Aa d,b]] [plB pp ps c a n false,B] (λv G=>v=.tuple #[Aa 0,Aa 18]/\G=[plB pp ps c a n false,B]):=by
 intro z R w H;replace H:=H.l2;obtain ⟨f,g,rfl⟩:=H.sy 1 (λq=>(e _ q).slc);refine Ac func12 Z ntmps12 Z (Za 2 [] H Z ?_);intro i w H;refine Z2 22 [4,1,0] H Z (Zr Z ?_);exact ⟨_,⟨Z,Z⟩,H.perm 3 [1,2] Z Z⟩
set_option maxHeartbeats 1000000 in
theorem Qm (pp ps pd c f m e n:Nat) (D:Dsk) (G:StG) (mb:Nat) (t:A0) (k0:Nat) (C C0:Nat->Nat) (l:List IE) (clk:Nat) (F Dd S:Nat->Bool) (W:WasOk C C0 n l clk) (hn:16<=n/\n<=1024) (hG:G.x.pages=n) (hg:∀i,i<manyN n->t (1+i)=none) (a5:∀k,C k<=1000) (hF:Fine D G mb) (hm:mb<=1000000000):Aj 14 [V pp] [stoA ps pd D G (some (t,k0)),plB pp ps c e n true,coB c f n m,Aw f C n,AE m l clk,alB e n F Dd S] (λv X=>(∃(y:Dsk) (s:StG) (g:A0) (k:Nat) (zs:List Int),CmI n C zs t k0 zs.length g k/\(∀x:Int,x∈zs↔∃k:Nat,k<n/\C k≠C0 k/\x=((k/120:Nat):Int))/\Fine y s (mb+2)/\y.n=D.n/\s.M=Cb G.M (some (g,k))/\(s.x=G.x\/s.x=Ew G.x G.a G.q)/\v=Aa 0/\X=[stoA ps pd y s none,plB pp ps c e n false,coB c f n m,Aw f C n,AE m ([]) clk,alB e n (Cu F Dd) By (Cu F Dd)])\/((∃(i:Nat) (g:A0) (k:Nat),i<manyN n/\(g (1+i)=none/\40<=k)/\∃(zs:List Int) (j:Nat),CmI n C zs t k0 j g k/\zs[j]?=some (i:Int)/\∀x:Int,x∈zs↔∃k:Nat,k<n/\C k≠C0 k/\x=((k/120:Nat):Int))/\v=Aa 16/\X=[stoA ps pd D G none,plB pp ps c e n false,coB c f n m,Aw f C0 n,AE m ([]) clk,alB e n S By S])):=by
 intro z R w H;replace H:=H.l6;refine Ac func14 Z ntmps14 Z (Z2 25 [4,1,0,1,1,0] H Z (AA Z (call44 _) (Ly _ _ _ _ _ C0 _ _ U W) H.f4.f4.f4 ?_));rintro v1 w _ ⟨v2,zs,Z_,⟨b3,p,a0⟩,rfl,rfl⟩ H;replace H:=H.l7;obtain ⟨za,zc,rfl⟩:=H.sy 0 (λq=>(a0 _ q).slc);refine Zc 5 Z ?_;refine Ay (σ:=Nat×A0×Nat) (λ⟨j,g,k⟩=>[(18,Aa (j:Int)),(0,V pp),(16,.slice za zs.length zc),(17,Aa (zs.length:Int))])
   (λ⟨j,g,k⟩ w=>Sep z (Z_::coB c f n m::Aw f C n::AE m l clk::stoA ps pd D G (some (g,k))::plB pp ps c e n true::alB e n F Dd S::R) w/\(CmI n C zs t k0 j g k)) (λ⟨j,g,k⟩=>zs.length-j) ⟨0,t,k0⟩
   fr_z ⟨H,CmI.start hg⟩ ?_
 clear H;rintro ⟨j,g,k⟩ w ⟨o,hI⟩;dsimp only at hI o ⊢;have H:=o.l7;have hC:=hI;clear hI;have b5:=hC.jl;refine Z0 6 [0] Z (Ag Z (λh1=>?_) (λh1=>?_))
 ·obtain ⟨z_,b⟩:∃z_,zs[j]?=some z_:=⟨_,AbF U⟩;obtain ⟨q_,a9,b4,a1⟩:=(p z_).1 (AbG b);obtain ⟨i,a2⟩:∃i,i=q_/120:=⟨_,Z⟩;rw[<-a2] at a1;subst a1;have hi:i<manyN n:=a2▸OV a9
  have b2:manyN n<n:=by unfold manyN;omega
  refine Zc 6 Z ?_;have a3:=(H.rd 0 Z a0).at (j:=j) (u:=Aa (i:Int)) (by simp[b]);refine Ad Z (Az Z (z:=1) (j:=j) (r:=j) J Z Z Z U a3 U) (Ad Z (AM Z Z J (AB a3)) (Zc 4 Z ?_));replace H:=H.f5;refine BV (Sep z (plB pp ps c e n true::R)) 16 Z J (A4 H λw o=>?_);have H:=o.l7;refine Oj [0,1,2,3,4,5,6,7,8,9,10,11] [0,0,0,0,1,0,0] [((1+i:Nat):Int)] (by exact H.pick 7 [0] Z) Z J U Z (Cs [12] J O (Ar (Ba Z Z Z Z Z Z (λw=>call45 _ w) (KP _ _ _ _ _ i hi U a5) H.f3.f3 Z ?_)));rintro _ w _ ⟨pw,rfl,rfl⟩ H;replace H:=H.l8;refine BZ (H.pick 8 [3] Z) (CG [13] [] [] (by exact H.pick 8 [3] Z) Z J Z (Cs [14] J O (Ar (Ba Z Z Z Z Z Z (λw=>call41 _ w) (Fu _ _ _ _ _ _ (1+i) U (CO C n i) (Dq _ _ _) _ _ (λh q=>q.rd U U (Jv (Dq _ _ _).2) (KQ (Dq _ _ _).2))) H.f6 Z ?_))));rintro _ w _ (⟨a4,rfl,rfl⟩|⟨_,rfl,rfl⟩) o
  ·have H:=o.l8;refine BZ (H.pick 8 [4] Z) (CG [15] [] [] (by exact H.pick 8 [4] Z) Z J Z (a_done J (gn (Z0 11 [3] Z (Ai Z (call20 _) (Nj _ _ _ _ _ _ _ _ _ _ g k _ _ _ _ _ _ _ W) H.f7.f7.f5.f5.f6.f5 ?_)))));intro w H;refine Zc 9 Z (Zr Z ?_);exact ⟨_,.inr ⟨⟨i,g,k,hi,a4,zs,j,hC,b,p⟩,Z,Z⟩,H.pick 8 [0,1,2,3,4,5] Z⟩
  have H:=o.l8;refine BZ (H.pick 8 [4] Z) (CG [15] [] [] (by exact H.pick 8 [4] Z) Z J Z (a_done J (gn (Z1 15 [4] [(j:Int)+1] Z U ?_))));replace H:=H.f1.d.f6.f4.f2.f6.f5.f5.f6;refine gf ?_;intro _ hF;refine ⟨⟨j+1,pgSet g (1+i) (CO C n i),k+(if (g (1+i)).isSome then 0 else 1)⟩,hF.cz,⟨H,?_⟩,?_⟩
  ·exact hC.put hi b
  (dsimp only;omega)
 obtain rfl:j=zs.length:=by omega
 refine Zc 2 Z (gx (Z2 10 [0,0,5,0] H Z (AA Z (call46 _) (Jo _ _ _ _ _ _ mb hF hm) H.f4 ?_)));rintro _ w _ ⟨y,s,b0,a6,⟨a7,b1⟩,a8,rfl,rfl⟩ H;refine Z4 26 [4,4,5,1,5,0] H Z ?_;intro w H;refine Ai Z (call48 _) (Lx _ _ _ _ _ _) H.f4.f3 ?_;intro w H;refine Z2 8 [2,5,0] H Z (Ai Z (call49 _) (Ik _ _ _ _ _) H.f6 ?_);intro w H;refine Zc 8 Z (Zr Z ?_);exact ⟨_,.inl ⟨y,s,g,k,zs,hC,p,b0,a6,a7,a8,Z,Z⟩,H.pick 7 [3,6,1,5,2,0] Z⟩
section
section
variable{Tb:Ah}
variable{z w:World}{Γ:List Ah}{pp mb n ps pd:Nat}{M0:Nat->Pg}{C0:Nat->Nat}{t:Option PoT}{T:PoT}{D:Dsk}{G:StG}{own:C7}

theorem Vh(ps pd:Nat)(D:Dsk)(G:StG)(o:A0×Nat):Aj 39 [V ps] [stoA ps pd D G (some o)] (λv X=>v=Aa 17/\X=[stoA ps pd D G (some o)]):=by
 intro z R w H;obtain ⟨X,b,H⟩:=H.sto;refine Ret.mono (Cn.at (TW ps pd X.pt X.md G.x _ _) H 7 [0,1,2,3,4,5,6] Z Z) ?_;rintro v w' ⟨Γ',⟨rfl,rfl⟩,a⟩;exact ⟨_,⟨Z,Z⟩,(a.pick 7 [0,1,2,3,4,5,6] Z).toSto 7 b Z⟩
theorem Yw(ps pd:Nat)(D:Dsk)(G:StG)(o:A0×Nat):Aj 28 [V ps] [stoA ps pd D G (some o)] (λv X=>v=Aa 17/\X=[stoA ps pd D G (some o)]):=by
 intro z R w H;obtain ⟨X,b,H⟩:=H.sto;refine Ret.mono (Cn.at (U6 ps pd X.pt X.md G.x _ _) H 7 [0,1,2,3,4,5,6] Z Z) ?_;rintro v w' ⟨Γ',⟨rfl,rfl⟩,a⟩;exact ⟨_,⟨Z,Z⟩,(a.pick 7 [0,1,2,3,4,5,6] Z).toSto 7 b Z⟩
theorem Yx(ps pd:Nat)(D:Dsk)(G:StG)(own:C7)(p:Int)(hp:p<0\/G.x.pages<=p):Aj 21 [V ps,Aa p] [stoA ps pd D G own] (λv X=>v=.tuple #[.agg #[Aa 0,.slice none 0 0],Aa 2]/\X=[stoA ps pd D G own]):=by
 intro z R w H;obtain ⟨X,b,H⟩:=H.sto
 cases own with
 | none=>
  refine Ret.mono (Cn.at (NF ps pd X.pt X.md G.x _ _ _ p hp) H 6 [0,1,2,3,4,5] Z Z) ?_;rintro v w' ⟨Γ',⟨rfl,rfl⟩,a⟩;exact ⟨_,⟨Z,Z⟩,(a.pick 6 [0,1,2,3,4,5] Z).toSto 6 b Z⟩
 | some o=>
  refine Ret.mono (Cn.at (NF ps pd X.pt X.md G.x _ _ _ p hp) H 7 [0,1,2,3,4,5,6] Z Z) ?_;rintro v w' ⟨Γ',⟨rfl,rfl⟩,a⟩;exact ⟨_,⟨Z,Z⟩,(a.pick 7 [0,1,2,3,4,5,6] Z).toSto 7 b Z⟩
theorem NI(ps pd:Nat)(D:Dsk)(G:StG)(g:A0)(k:Nat)(p:Nat)(d:(p:Int)<G.x.pages)(a:Int)(f:a<1\/5<a)(c:Value)(b:c.oneCell'=true):Aj 41 [V ps,Aa (p:Int),.agg #[Aa a,c]] [stoA ps pd D G (some (g,k))] (λv X=>v=Aa 1/\X=[stoA ps pd D G (some (g,k))]):=by
 intro z R w H;obtain ⟨X,h,H⟩:=H.sto;refine Ret.mono (Cn.at (Sn ps pd X.pt X.md X.mm G.x _ g k X.hq p d a f c b) H 7 [0,6,1,2,3,4,5] Z Z) ?_;rintro v w' ⟨Γ',⟨rfl,rfl⟩,e⟩;exact ⟨_,⟨Z,Z⟩,(e.pick 7 [0,2,3,4,5,6,1] Z).toSto (X:=X) (ps:=ps) (pd:=pd) (D:=D) (G:=G) (own:=some (g,k)) 7 h Z⟩

theorem Vi(pp mb n:Nat)(M0:Nat->Pg)(C0:Nat->Nat)(T:PoT):Aj 11 [V pp] [poA Tb pp mb n M0 C0 (some T)] (λv G=>v=Aa 17/\G=[poA Tb pp mb n M0 C0 (some T)]):=by
 intro z R w H;obtain ⟨X,d,H⟩:=H.po;refine Ret.mono (Cn.at (SA pp X.ps X.pc X.pa n (stoA X.ps X.pd X.D X.G (some (X.g,T.k))) (λe S2=>e=17/\S2=stoA X.ps X.pd X.D X.G (some (X.g,T.k))) ((Vh _ _ _ _ _).mono λv Γ ⟨c,a⟩=>⟨17,_,⟨Z,Z⟩,c,a⟩)) H 7 [0,1,2,3,4,5,6] Z Z) ?_;rintro v w' ⟨Γ',⟨e,S2,⟨rfl,rfl⟩,rfl,rfl⟩,b⟩;exact ⟨_,⟨Z,Z⟩,(b.pick 7 [0,1,2,3,4,5,6] Z).toPo d Z⟩
theorem PoQ.f{X:PoX}(Q:PoQ n C0 T X)(p:Nat)(hp:T.F p=true):PoQ n C0 {T with F:=BI T.F p} {X with Dd:=insP X.Dd p} :=by
 refine ⟨Q.m,Q.gn,Q.W,Q.c,?_,λq hq=>?_,Q.one⟩
 ·show Cu (BI T.F p) (insP X.Dd p)=frC n T.C
  rw[<-Q.df];funext q;unfold Cu BI insP;by_cases e:q=p
  ·subst e;simp[hp]
  simp[e]
 have a:insP X.Dd p q=true:=hq;show BI T.F p q=false;unfold insP at a;unfold BI;by_cases e:q=p
 ·subst e;simp
 simp[e] at a;rw[Q.dj q a];rfl
theorem SG{F:Nat->Bool}(h:∃q,F q=true):∃p,F p=true/\∀q,q<p->F q=false:=by
 obtain ⟨q,hq⟩:=h;have:∀m q,q<=m->F q=true->∃p,F p=true/\∀q,q<p->F q=false:=λm=>by
  induction m with
  | zero=>intro q d a;exact ⟨q,a,λr b=>by omega⟩
  | succ m ih=>
   intro q d a;by_cases h3:∃r,r<q/\F r=true
   ·obtain ⟨r,f,c⟩:=h3
    exact ih r U c
   refine ⟨q,a,λr b=>?_⟩
   cases e:F r with
   | false=>rfl
   | true=>exact absurd ⟨r,b,e⟩ h3
 exact this q q (Ab9 _) hq
def FrX(T:PoT)(v:Value)(T2:PoT):Prop:=
 (∃e:Int,e≠0/\v=.tuple #[.int .i64 0,.int .i64 e]/\(T2=T\/∃p,T.F p=true/\T2= {T with F:=BI T.F p}))\/
 ∃(p k2:Nat) (x:Pg),(T.F p=true/\∀q,q<p->T.F q=false)/\v=.tuple #[.int .i64 (p:Int),.int .i64 0]/\T2=⟨BS T.M p x,BS T.C p 1,BI T.F p,k2⟩
theorem NJ(pp mb n:Nat)(M0:Nat->Pg)(C0:Nat->Nat)(T:PoT)(p:Nat)(i:T.F p=true)(b:∀q,q<p->T.F q=false)(e:Int)(u:e≠0)(d:Int)(bs:List UInt8)(j:Value)(B:Ah)(hB:∀h,B h->rdH 1 j 240 (bs.map u8) h)
  (hW:∀X:PoX,PoP Tb mb n M0 C0 (some T) X->Aj 41 [.pointer (some ⟨X.ps,0,none⟩),Aa (p:Int),.agg #[Aa d,j]] [stoA X.ps X.pd X.D X.G (some (X.g,T.k)),B] (λv K=>v=Aa e/\K=[stoA X.ps X.pd X.D X.G (some (X.g,T.k)),B])\/((1<=d/\d<=5)/\bs.length=240/\¬(X.g p=none/\40<=T.k))):
  Aj 12 [V pp,.agg #[Aa d,j]] [poA Tb pp mb n M0 C0 (some T),B] (λv G=>∃T2,FrX T v T2/\G=[poA Tb pp mb n M0 C0 (some T2),B]):=by
 intro z R w H;obtain ⟨X,a,H⟩:=H.po;have Q:=a.tx T Z;have K:=Q.k a.hn.1;have hn:=a.hn;obtain ⟨y,k2,k3⟩:=K.free p i;have hd:X.Dd p=false:=by
  cases e:X.Dd p with
  | false=>rfl
  | true=>have:=Q.dj p e;rw[i] at this;cases this
 rcases hW X a with h|h
 ·refine Ret.mono (Cn.at (pfreshE_c pp X.ps X.pc X.pa n T.F X.Dd (frC n C0) a.hn p y i b hd X.A a.tab.1 (stoA X.ps X.pd X.D X.G (some (X.g,T.k))) d j bs B hB (λs S2=>s=e/\S2=stoA X.ps X.pd X.D X.G (some (X.g,T.k))) (λs S2 h=>by rw[h.1];exact u) (h.mono λv Γ ⟨h1,h2⟩=>⟨e,_,⟨Z,Z⟩,h1,h2⟩)) H 8 [0,5,6,1,7,2,3,4] Z Z) ?_
  rintro v w' ⟨Γ',⟨_,S2,⟨rfl,rfl⟩,rfl,rfl⟩,r⟩;exact ⟨_,⟨_,.inl ⟨_,u,Z,.inr ⟨p,i,Z⟩⟩,Z⟩,(r.pick 8 [0,3,5,6,7,1,2,4] Z).toPo (X:= {X with Dd:=insP X.Dd p}) (t:=some {T with F:=BI T.F p}) ⟨a.hn,a.fine,a.pg,a.tab,a.m0,a.cp,a.c0,a.one,λe=>(by cases e),λT' e=>by cases e;exact Q.f p i⟩ Z⟩
 obtain ⟨hk,hb,hg⟩:=h;refine Ret.mono (Cn.at (Nk pp X.ps X.pd X.pc X.bn X.mm X.pa n X.D X.G X.g T.k T.C C0 X.l X.clk T.F X.Dd (frC n C0) Q.W a.hn a.pg p ⟨d,bs⟩ ⟨hk,hb⟩ j B hB hg y i b k2 X.A a.tab.1) H 8 [1,0,2,3,4,5,6,7] Z Z) ?_;rintro v w' ⟨Γ',⟨l2,o,W2,rfl,rfl⟩,r⟩;refine ⟨_,⟨_,.inr ⟨p,_,_,⟨i,b⟩,Z,Z⟩,Z⟩,((r.pick 8 [1,0,2,3,4,5,6,7] Z).toPo (X:= {X with g:=pgSet X.g p ⟨d,bs⟩,l:=l2,clk:=o}) (t:=some ⟨BS T.M p ⟨d,bs⟩,BS T.C p 1,BI T.F p,T.k+(if (X.g p).isSome then 0 else 1)⟩) ⟨a.hn,a.fine,a.pg,a.tab,a.m0,a.cp,a.c0,a.one,λe=>(by cases e),λT' e=>?_⟩ Z)⟩;cases e;have Q2:=Q.put (x:=⟨d,bs⟩) (.inr k3) 0;refine ⟨Q2.m,Q2.gn,W2,λk=>?_,?_,λq hq=>?_,λq hq=>?_⟩
 ·show BS T.C p 1 k<=1000
  unfold BS;split
  ·omega
  exact Q.c k
 ·show Cu (BI T.F p) X.Dd=frC n (BS T.C p 1)
  funext q;have:Cu T.F X.Dd q=frC n T.C q:=by rw[Q.df]
  unfold Cu frC at this;unfold Cu BI frC BS;by_cases e:q=p
  ·subst e;simp[hd]
  simp[e];simpa using this
 ·have:=Q.dj q hq
  show BI T.F p q=false;unfold BI;rw[this];rfl
 show BS T.C p 1 q=1;rw[Im _ _ U];exact Q.one q hq
theorem NK(pp mb n:Nat)(M0:Nat->Pg)(C0:Nat->Nat)(T:PoT)(a:Int)(bs:List UInt8)(d:bs.length=240)(c:Value)(B:Ah)(f:∀h,B h->rdH 1 c 240 (bs.map u8) h):
  Aj 12 [V pp,.agg #[Aa a,c]] [poA Tb pp mb n M0 C0 (some T),B] (λv G=>∃T2,FrX T v T2/\G=[poA Tb pp mb n M0 C0 (some T2),B]):=λz R w H=>by
 by_cases hno:∀q,q<1024->T.F q=false
 ·obtain ⟨X,b,H⟩:=H.po
  by_cases hk:1<=a/\a<=5
  ·refine Ret.mono (Cn.at (Lz pp X.ps X.pc X.pa n ⟨a,bs⟩ ⟨hk,d⟩ c B f T.F X.Dd (frC n C0) hno) H 8 [0,5,7,1,2,3,4,6] Z Z) ?_
   rintro v w' ⟨Γ',⟨rfl,rfl⟩,i⟩;exact ⟨_,⟨T,.inl ⟨20,by omega,Z,.inl Z⟩,Z⟩,(i.pick 8 [0,3,4,5,6,1,7,2] Z).toPo b Z⟩
  refine Ret.mono (Cn.at (SF pp X.ps X.pc X.pa n T.F X.Dd (frC n C0) hno a c bs B f) H 8 [0,5,7,1,2,3,4,6] Z Z) ?_;rintro v w' ⟨Γ',⟨rfl,rfl⟩,i⟩;exact ⟨_,⟨T,.inl ⟨20,by omega,Z,.inl Z⟩,Z⟩,(i.pick 8 [0,3,4,5,6,1,7,2] Z).toPo b Z⟩
 obtain ⟨p,j,s⟩:=SG (F:=T.F) (AcQ λh=>hno (λq _=>by
  cases e:T.F q with
  | false=>rfl
  | true=>exact absurd ⟨q,e⟩ h))
 by_cases hk:1<=a/\a<=5
 ·refine NJ pp mb n M0 C0 T p j s 16 U a bs c B f (λX b=>?_) z R w H
  have K:=(b.tx T Z).k b.hn.1;have r:=(K.free p j).1;have m:=b.pg;by_cases hg:X.g p=none/\40<=T.k
  ·exact .inl ((Fu X.ps X.pd X.D X.G X.g T.k p U ⟨a,bs⟩ ⟨hk,d⟩ c B f).mono λv Γ h=>by
    rcases h with ⟨_,l,t⟩|⟨l,_⟩
    ·exact ⟨l,t⟩
    exact absurd hg l)
  exact .inr ⟨hk,d,hg⟩
 refine NJ pp mb n M0 C0 T p j s 1 U a bs c B f (λX b=>?_) z R w H;have K:=(b.tx T Z).k b.hn.1;have r:=(K.free p j).1;have m:=b.pg;exact .inl λz R w H=>by
  obtain ⟨u,x,o⟩:Slc c 240:=H.sy 1 (λq=>(f _ q).slc);refine Ret.mono (Cn.at (NI X.ps X.pd X.D X.G X.g T.k p U a U c (by rw[o];rfl)) H 2 [0,1] Z Z) ?_;rintro v w' ⟨Γ',⟨rfl,rfl⟩,i⟩;exact ⟨_,⟨Z,Z⟩,i⟩
end
end
section
section
variable{z w:World}{Γ:List Ah}{pt dn mb n:Nat}{K:Nat->Pg}{t:C7}{hq:Hp}
def rsR(dn:Nat)(hq:Hp)(X:RsX):Ah:=seps [Pc X.pl X.pr X.sl X.a X.q X.u,rdkA X.pr dn X.F X.m,poolA hq]
theorem Sep.rso2(H:Sep z (rsoA pt dn mb n K t hq::Γ) w):∃X,RsP dn mb n K t hq X/\Sep z (rsB pt X.pr X.pl X.x X.pv t.isSome X.ov::rsR dn hq X::Γ) w:=by
 obtain ⟨X,P,H⟩:=H.rso;refine ⟨X,P,?_⟩;have H2:=H.pick 4 [1,2,3,0] Z;have H3:Sep z (rsR dn hq X::rsB pt X.pr X.pl X.x X.pv t.isSome X.ov::Γ) w:=Sep.shut (As:=[Pc X.pl X.pr X.sl X.a X.q X.u,rdkA X.pr dn X.F X.m,poolA hq]) H2;exact H3.pick 2 [1,0] Z
theorem Sep.toRso2{X:RsX}(H:Sep z (rsB pt X.pr X.pl X.x X.pv t.isSome X.ov::rsR dn hq X::Γ) w)(P:RsP dn mb n K t hq X):Sep z (rsoA pt dn mb n K t hq::Γ) w:=by
 have H2:=(H.pick 2 [1,0] Z);have H3:=Sep.opened (As:=[Pc X.pl X.pr X.sl X.a X.q X.u,rdkA X.pr dn X.F X.m,poolA hq]) H2;exact (H3.pick 4 [3,0,1,2] Z).toRso P Z
def wrO(o:A0×Nat)(p:Nat)(x:Pg):Int×(A0×Nat):=if (o.1 p).isSome=false/\40<=o.2 then (16,o) else (0,(pgSet o.1 p x,o.2+(if (o.1 p).isSome then 0 else 1)))
def En(o:A0×Nat)(p:Nat)(kd:Int)(bs:List UInt8):Int×(A0×Nat):=if 1<=kd/\kd<=5 then wrO o p ⟨kd,bs⟩ else (1,o)
theorem NL(ps dn mb n:Nat)(K:Nat->Pg)(o:A0×Nat)(hq:Hp)(p:Nat)(hp:p<n)(a:Int)(bs:List UInt8)(b:bs.length=240)(c:Value)(B:Ah)(i:∀h,B h->rdH 1 c 240 (bs.map u8) h):Aj 92 [V ps,Aa (p:Int),.agg #[Aa a,c]] [rsoA ps dn mb n K (some o) hq,B] (λv G=>∃e,v=Aa (En o p a bs).1/\G=[rsoA ps dn mb n K (some (En o p a bs).2) e,B]):=by
 obtain ⟨g,k⟩:=o;unfold En;by_cases hk:1<=a/\a<=5
 ·rw[if_pos hk]
  unfold wrO;by_cases h:(g p).isSome=false/\40<=k
  ·rw[if_pos h]
   exact (Vb ps dn mb n K g k hq p hp ⟨a,bs⟩ ⟨hk,b⟩ c B i ⟨by simpa using h.1,h.2⟩).mono λv Γ ⟨f,d⟩=>⟨hq,f,d⟩
  rw[if_neg h];exact Yn ps dn mb n K g k hq p hp ⟨a,bs⟩ ⟨hk,b⟩ c B i (λq=>h ⟨by simpa using q.1,q.2⟩)
 rw[if_neg hk];exact (Va ps dn mb n K (g,k) hq (p:Int) a ⟨by omega,by omega⟩ c bs B i U).mono λv Γ ⟨f,d⟩=>⟨hq,f,d⟩
theorem LN{X:RsX}{o:A0×Nat}(P:RsP dn mb n K (some o) hq X)(p:Nat)(hp:p<n)(b:Int)(bs:List UInt8)(c:bs.length=240)(d:Value)(B:Ah)(i:∀h,B h->rdH 1 d 240 (bs.map u8) h):
  Aj 92 [V pt,Aa (p:Int),.agg #[Aa b,d]] [rsB pt X.pr X.pl X.x X.pv true X.ov,rsR dn hq X,B] (λv G=>∃(e:Int) (f:Ah),(e=(En o p b bs).1/\∃a,f=rsoA pt dn mb n K (some (En o p b bs).2) a)/\v=Aa e/\G=[f,B]):=λz R w H=>by
 refine Ret.mono (NL pt dn mb n K o hq p hp b bs c d B i z R w (Sep.toRso2 (t:=some o) H P)) ?_;rintro v w' ⟨Γ',⟨a,rfl,rfl⟩,g⟩;exact ⟨_,⟨_,_,⟨Z,a,Z⟩,Z,Z⟩,g⟩
abbrev pqB(pq pt pc:Nat)(tk:Value):Ah:=blk pq [.pointer (some ⟨pt,0,none⟩),.pointer (some ⟨pc,0,none⟩),tk] 76
abbrev Iv(pc bn bw n:Nat):Ah:=blk pc [.slice (some ⟨bn,0,none⟩) n n,.slice (some ⟨bw,0,none⟩) n n] 166
theorem LO(pq pt a b bw dn mb n:Nat)(K:Nat->Pg)(t:C7)(hq:Hp)(C W:Nat->Nat)(h:Value)(j:16<=n/\n<=1024):
  Aj 26 [V pq] [pqB pq pt a h,Iv a b bw n,Aw b C n,Aw bw W n,rsoA pt dn mb n K t hq]
   (λv G=>∃c:Value,v=.tuple #[]/\G=[pqB pq pt a c,grow 4 1 c n (FV W n),Iv a b bw n,Aw b W n,Aw bw W n,rsoA pt dn mb n K none hq]):=λz R w H=>by
 refine Ret.mono (Sz pq pt a b bw n C W h j (rsoA pt dn mb n K t hq) (λx i g f e ov S2=>∃X,RsP dn mb n K none hq X/\x=X.x/\i=X.pr/\g=.pointer (some ⟨X.pl,0,none⟩)/\f=X.pv/\e=false/\ov=X.ov/\S2=rsR dn hq X) (λz R w H=>?_) z R w H) ?_
 ·refine Ret.mono (Yl pt dn mb n K t hq z R w H) ?_
  rintro v w' ⟨Γ',⟨rfl,rfl⟩,d⟩;obtain ⟨X,P,H2⟩:=Sep.rso2 d;exact ⟨_,⟨X.x,X.pr,_,X.pv,false,X.ov,_,⟨P.pg,X,P,Z,Z,Z,Z,Z,Z,Z⟩,Z,Z⟩,H2⟩
 rintro v w' ⟨Γ',⟨x,i,g,f,e,ov,S2,c,⟨_,X,P,rfl,rfl,rfl,rfl,rfl,rfl,rfl⟩,rfl,rfl⟩,d⟩;have H2:=d.pick 7 [5,6,0,1,2,3,4] Z;exact ⟨_,⟨c,Z,Z⟩,(Sep.toRso2 (t:=none) H2 P).pick 6 [1,2,3,4,5,0] Z⟩
end

def He(C:Nat->Nat)(n:Nat):A0×Nat->List Int->Int×(A0×Nat)
 | o,[]=>(0,o)
 | o,q::l=>if (En o (1+q.toNat) 2 (DG (Cc C n q.toNat))).1=0 then He C n (En o (1+q.toNat) 2 (DG (Cc C n q.toNat))).2 l else En o (1+q.toNat) 2 (DG (Cc C n q.toNat))
theorem Vj{C W:Nat->Nat}{n i:Nat}{x:Int}(h:x∈Ce C W n i):0<=x/\x<i:=by
 obtain ⟨q,hq,rfl⟩:=AbP.1 h;have:=AcL.1 (Aei.1 hq).1;omega
end
theorem N9(pq pt e c:Nat)(x:Sup)(b a ov:Value)(d:Value):Aj 55 [V pq] [blk pq [V pt,V c,d] 76,blk pt [V e,Aa x.gen,Aa x.epoch,Aa x.pages,Aa x.start,Aa x.len,Aa x.head,Aa x.seq,b,a,.bool false,ov] 128] (λv G=>v=Aa 18/\G=[blk pq [V pt,V c,d] 76,blk pt [V e,Aa x.gen,Aa x.epoch,Aa x.pages,Aa x.start,Aa x.len,Aa x.head,Aa x.seq,b,a,.bool false,ov] 128]):=by
 intro z R w H;replace H:=H.l2;refine Ac func55 Z ntmps55 Z (Z2 25 [0,0,0,10,1,0] H Z (Zr Z ?_));exact ⟨_,⟨Z,Z⟩,H.pick 2 [0,1] Z⟩
set_option maxHeartbeats 4000000 in
theorem Qn (pq pt c g bw dn mb n:Nat) (K:Nat->Pg) (o:A0×Nat) (hq:Hp) (C W:Nat->Nat) (s:Value) (hn:16<=n/\n<=1024) (hC:∀k,C k<=1000) (a7:mb<=1100000):Aj 55 [V pq] [blk pq [V pt,V c,s] 76,blk c [.slice (some ⟨g,0,none⟩) n n,.slice (some ⟨bw,0,none⟩) n n] 166,Aw g C n,Aw bw W n,rsoA pt dn mb n K (some o) hq] (λv G=>∃(m:Value) (b:Hp),((He C n o (Ce C W n (manyN n))).1=0/\v=Aa 0/\G=[blk pq [V pt,V c,m] 76,grow 4 1 m n (FV C n),blk c [.slice (some ⟨g,0,none⟩) n n,.slice (some ⟨bw,0,none⟩) n n] 166,Aw g C n,Aw bw C n,rsoA pt dn (mb+1) n (Cb K (some ((He C n o (Ce C W n (manyN n))).2.1,(He C n o (Ce C W n (manyN n))).2.2))) none b])\/((He C n o (Ce C W n (manyN n))).1≠0/\v=Aa (He C n o (Ce C W n (manyN n))).1/\G=[blk pq [V pt,V c,m] 76,grow 4 1 m n (FV W n),blk c [.slice (some ⟨g,0,none⟩) n n,.slice (some ⟨bw,0,none⟩) n n] 166,Aw g W n,Aw bw W n,rsoA pt dn mb n K none b])):=by
 intro z R w H;replace H:=H.l5;have a9:manyN n=(n+119)/120:=rfl;have b2:=DO hn.2;refine Ac func55 Z ntmps55 Z (Zc 7 Z ?_);replace H:=H.f4;obtain ⟨X,PX,e⟩:=H.rso2;clear H;have e:Sep z (blk pt [.pointer (some ⟨X.pr,0,none⟩),Aa X.x.gen,Aa X.x.epoch,Aa X.x.pages,Aa X.x.start,Aa X.x.len,Aa X.x.head,Aa X.x.seq,.pointer (some ⟨X.pl,0,none⟩),X.pv,.bool true,X.ov] 128::rsR dn hq X::blk pq [V pt,V c,s] 76::blk c [.slice (some ⟨g,0,none⟩) n n,.slice (some ⟨bw,0,none⟩) n n] 166::Aw g C n::Aw bw W n::R) w:=e;have H:=e.l6;refine Z2 15 [0,2,0,10,0,0] H Z ?_;replace H:=(Sep.toRso2 (t:=(some o)) H PX).l5;refine Z2 5 [1,1,0] H Z (AA Z (call111 _) (N5 _ _ _ _ _ _ U) H.f4.f4.f4 ?_);rintro zv w _ ⟨_,rfl,rfl⟩ H;replace H:=H.l6;have a1:=NH C W n (manyN n);have p:∀x∈(Ce C W n (manyN n)),0<=x/\x<manyN n:=λx f=>Vj f;generalize hzs:(Ce C W n (manyN n))=zs at H a1 p;have a0:=H.sy 0 (·.slc);obtain ⟨zo,zc,rfl⟩:=a0;refine Zc 10 Z ?_;refine Ay (σ:=Nat×(A0×Nat)×Hp) (λ⟨i,l,b⟩=>[(4,Aa (i:Int)),(0,V pq),(3,.slice zo zs.length zc)])
   (λ⟨i,l,b⟩ w=>Sep z (grow 3 1 (.slice zo zs.length zc) zs.length (zs.map Aa)::blk c [.slice (some ⟨g,0,none⟩) n n,.slice (some ⟨bw,0,none⟩) n n] 166::Aw g C n::Aw bw W n::rsoA pt dn mb n K (some l) b::blk pq [V pt,V c,s] 76::R) w/\(i<=zs.length/\He C n o zs=He C n l (zs.drop i))) (λ⟨i,l,b⟩=>zs.length-i) ⟨0,o,hq⟩
   fr_z ⟨H,⟨AbV _,Z⟩⟩ ?_
 clear H;rintro ⟨i,l,b⟩ w ⟨e,hI⟩;dsimp only at hI e ⊢;have H:=e.l6;obtain ⟨hi,hw⟩:=hI;refine Z0 9 [0] Z (Ag Z (λh1=>?_) (λh1=>?_))
 ·refine Zc 5 Z ?_;obtain ⟨x,f⟩:∃x,zs[i]?=some x:=⟨_,AbF U⟩;have b0:=p x (AbG f)
  obtain ⟨q,rfl⟩:∃q:Nat,x=(q:Int):=⟨x.toNat,by omega⟩;have y:zs.drop i=(q:Int)::zs.drop (i+1):=by rw[Add U,(AbE.1 f).2]
  have b1:120*q<n/\1+q<n:=by omega
  replace H:=H.f5;refine AK (Sep z (blk pq [V pt,V c,s] 76::grow 3 1 (.slice zo zs.length zc) zs.length (zs.map Aa)::R)) 21 Z J (A4 H λw e=>?_);have H:=e.l6;refine A6 [0,1,2,3,4,5] [0,0] J (λ_ f=>(AQ (f.blk 0 Z) AJ)) (by exact H.pick 6 [0,1] Z) Z J Z Z (AR 6 J Z Z J J J Z Z Z (Az Z (z:=1) (j:=i) (r:=i) J Z Z Z U ((H.rv 1 (·.rd)).at (j:=i) (u:=Aa (q:Int)) (by simp[f])) U) (H.pick 6 [0,1] Z) (AR 7 J Z Z J J J Z Z Z (AM Z Z J (λ_ hs=>(hs.rv 1 (·.rd)).at (j:=i) (u:=Aa (q:Int)) (by simp[f]))) (H.pick 6 [0,1] Z) (AR 8 J Z Z J J J Z Z Z (CA Z Z Z (r:=((1+q:Nat):Int)) U U) (H.pick 6 [0,1] Z) (A6 [9,10,11,12,13,14] [1,0] J (λ_ f=>(AQ (f.blk 0 Z) AJ)) (by exact H.pick 6 [0,1] Z) Z J Z Z (AR 15 J Z Z J J J Z Z Z (Az Z (z:=1) (j:=i) (r:=i) J Z Z Z U ((H.rv 1 (·.rd)).at (j:=i) (u:=Aa (q:Int)) (by simp[f])) U) (H.pick 6 [0,1] Z) (AR 16 J Z Z J J J Z Z Z (AM Z Z J (λ_ hs=>(hs.rv 1 (·.rd)).at (j:=i) (u:=Aa (q:Int)) (by simp[f]))) (H.pick 6 [0,1] Z) (An [17] J O (Ar (Ba Z Z Z Z Z Z (λw=>call96 _ w) (Nz _ _ _ _ _ q U U hC) H.f3.f3 Z ?_)))))))));rintro u2 w _ ⟨_,rfl,rfl⟩ H;replace H:=H.l7;rw[show (DG (Cc C n q)).length=240 from Fx (CU _ _ _)] at H;have a2:=H.sy 0 (·.slc);obtain ⟨a5,a6,rfl⟩:=a2;refine Am (λ_=>(H.pick 7 [3,4] Z)) (AR 18 J Z Z J J J Z Z Z (AX Z Z (out:=[Aa 2,.slice a5 240 a6]) J) (H.pick 7 [3,4] Z) (An [19] J O (Ar (Ba Z Z Z Z Z Z (λw=>call92 _ w) (NL _ dn mb n K l _ (1+q) U 2 (DG (Cc C n q)) (Fx (CU _ _ _)) _ _ (λh q=>q.rd)) H.f6 Z ?_))));rintro _ w _ ⟨a3,rfl,rfl⟩ H;replace H:=H.l7;refine Am (λ_=>(H.pick 7 [4,5] Z)) (An [20] J O (Ar (B5 Z Z Z Z (AS Z Z) (Am (λh=>absurd Z h) (AT J (gn (Z0 7 [0] Z (Ag Z (λh2=>?_) (λh2=>?_)))))))))
  ·refine Zc 3 Z (AA Z (call26 _) (LO _ _ _ _ _ _ _ _ _ _ _ _ _ _ U) H.f6.f4.f4.f5 ?_);rintro _ w _ ⟨m,rfl,rfl⟩ H;refine Zc 9 Z (Zr Z ?_);have a:He C n o zs=(En l (1+q) 2 (DG (Cc C n q))):=by rw[hw,y];simp only[He,Acg];rw[if_neg (by assumption)]
   exact ⟨_,⟨_,_,.inr ⟨by rw[a];assumption,by rw[a],Z⟩⟩,H.pick 8 [0,1,2,3,4,5] Z⟩
  refine Z1 8 [] [(i:Int)+1] Z U ?_;replace H:=H.f1.d.f3.f1.f5.f4.f4.f5;refine gf ?_;intro _ hF;refine ⟨⟨i+1,(En l (1+q) 2 (DG (Cc C n q))).2,a3⟩,hF.cz,⟨H,?_⟩,?_⟩
  ·exact ⟨by show i+1<=zs.length;omega,by rw[hw,y];simp only[He,Acg];rw[if_pos U]⟩
  (dsimp only;omega)
 refine Zc 2 Z (gx (Z2 8 [0,5,0] H Z (AA Z (call97 _) (Vc _ _ _ _ _ l.1 l.2 _ a7) H.f4 ?_)));rintro _ w _ ⟨a8,rfl,rfl⟩ H;refine Z0 14 [4] Z ?_;obtain ⟨Y,PY,e⟩:=H.rso2;clear H;have e:Sep z (blk pt [.pointer (some ⟨Y.pr,0,none⟩),Aa Y.x.gen,Aa Y.x.epoch,Aa Y.x.pages,Aa Y.x.start,Aa Y.x.len,Aa Y.x.head,Aa Y.x.seq,.pointer (some ⟨Y.pl,0,none⟩),Y.pv,.bool false,Y.ov] 128::rsR dn a8 Y::grow 3 1 (.slice zo zs.length zc) zs.length (zs.map Aa)::blk c [.slice (some ⟨g,0,none⟩) n n,.slice (some ⟨bw,0,none⟩) n n] 166::Aw g C n::Aw bw W n::blk pq [V pt,V c,s] 76::R) w:=e;have H:=e.l7;have a4:=PY.pg;refine Zc 2 Z (AA Z (call69 _) (HG _ _ _ _ _ _ n _ _ _ _ _ _ _ _ U a4) H.f5.f5.f5.f6 ?_);rintro _ w _ ⟨m,rfl,rfl⟩ H;refine Zc 8 Z (Zr Z ?_);have a:He C n o zs=(0,l):=by rw[hw,Ab6 U];rfl
 have H8:=Sep.toRso2 (t:=none) (H.pick 8 [5,6,0,1,2,3,4] Z) PY;exact ⟨_,⟨_,_,.inl ⟨congrArg Prod.fst a,Z,by rw[a];rfl⟩⟩,H8.pick 6 [1,2,3,4,5,0] Z⟩
section
structure RqT where
 g:A0
 k:Nat
 C:Nat->Nat
 Tk:Nat->Bool
def FW(C0:Nat->Nat):Option RqT->Nat->Nat
 | none=>C0
 | some T=>T.C
def HJ(C0:Nat->Nat):Option RqT->Nat->Bool
 | none=>λp=>decide (0<(C0 p:Int))
 | some T=>T.Tk
def Iw:Option RqT->C7
 | none=>none
 | some T=>some (T.g,T.k)
structure RqY where
 pt:Nat
 pc:Nat
 bn:Nat
 bw:Nat
 tv:Value
structure RqP(n:Nat)(C0:Nat->Nat)(t:Option RqT):Prop where
 hn:16<=n/\n<=1024
 c0:∀k,C0 k<=1000
 one:∀p,p<=manyN n->C0 p≠0
 c:∀k,FW C0 t k<=1000
 tk:∀p,HJ C0 t p=false->FW C0 t p=0
def Pd(pq dn mb n:Nat)(K:Nat->Pg)(C0:Nat->Nat)(t:Option RqT)(hq:Hp)(Y:RqY):List Ah:=
 [pqB pq Y.pt Y.pc Y.tv,grow 4 1 Y.tv n (CS (HJ C0 t) n),Iv Y.pc Y.bn Y.bw n,Aw Y.bn (FW C0 t) n,Aw Y.bw C0 n,rsoA Y.pt dn mb n K (Iw t) hq]
def rqA(pq dn mb n:Nat)(K:Nat->Pg)(C0:Nat->Nat)(t:Option RqT)(hq:Hp):Ah:=λh=>∃Y,RqP n C0 t/\seps (Pd pq dn mb n K C0 t hq Y) h
section
variable{z w:World}{Γ:List Ah}{pq dn mb n:Nat}{K:Nat->Pg}{C0:Nat->Nat}{t:Option RqT}{hq:Hp}
theorem Sep.rq(H:Sep z (rqA pq dn mb n K C0 t hq::Γ) w):∃Y,RqP n C0 t/\Sep z (Pd pq dn mb n K C0 t hq Y++Γ) w:=
 H.into (p:=λ_=>RqP n C0 t) (As:=λY=>Pd pq dn mb n K C0 t hq Y) (λ_ q=>q)
theorem Sep.toRq{Y:RqY}(H:Sep z Γ w)(a:RqP n C0 t)(b:Γ.take 6=Pd pq dn mb n K C0 t hq Y):Sep z (rqA pq dn mb n K C0 t hq::Γ.drop 6) w:=
 H.made 6 (λh q=>⟨Y,a,by rwa[b] at q⟩)
theorem RqP.idle(b:16<=n/\n<=1024)(a:∀k,C0 k<=1000)(c:∀p,p<=manyN n->C0 p≠0):RqP n C0 none:=⟨b,a,c,a,λp h=>by
 show C0 p=0;have:¬(0<(C0 p:Int)):=of_decide_eq_false h;omega⟩
def rq0(C0:Nat->Nat):RqT:=⟨CD,0,C0,HJ C0 none⟩
theorem Yy(pq dn mb n:Nat)(K:Nat->Pg)(C0:Nat->Nat)(hq:Hp):Aj 53 [V pq] [rqA pq dn mb n K C0 none hq] (λv G=>v=Aa 0/\G=[rqA pq dn mb n K C0 (some (rq0 C0)) hq]):=λz R w H=>by
 obtain ⟨Y,P,H⟩:=H.rq;refine Ret.mono (Cn.at (LL pq Y.pt Y.pc Y.tv (rsoA Y.pt dn mb n K none hq) (λe S2=>e=0/\S2=rsoA Y.pt dn mb n K (some (CD,0)) hq) ((Yk Y.pt dn mb n K hq).mono λv Γ ⟨c,a⟩=>⟨0,_,⟨Z,Z⟩,c,a⟩)) H 6 [0,5,1,2,3,4] Z Z) ?_;rintro v w' ⟨Γ',⟨e,S2,⟨rfl,rfl⟩,rfl,rfl⟩,b⟩;exact ⟨_,⟨Z,Z⟩,(b.pick 6 [0,2,3,4,5,1] Z).toRq (Y:=Y) ⟨P.hn,P.c0,P.one,P.c0,P.tk⟩ Z⟩
theorem Vk(pq dn mb n:Nat)(K:Nat->Pg)(C0:Nat->Nat)(T:RqT)(hq:Hp):Aj 53 [V pq] [rqA pq dn mb n K C0 (some T) hq] (λv G=>v=Aa 17/\G=[rqA pq dn mb n K C0 (some T) hq]):=λz R w H=>by
 obtain ⟨Y,P,H⟩:=H.rq;refine Ret.mono (Cn.at (LL pq Y.pt Y.pc Y.tv (rsoA Y.pt dn mb n K (some (T.g,T.k)) hq) (λe S2=>e=17/\S2=rsoA Y.pt dn mb n K (some (T.g,T.k)) hq) ((U9 Y.pt dn mb n K (T.g,T.k) hq).mono λv Γ ⟨c,a⟩=>⟨17,_,⟨Z,Z⟩,c,a⟩)) H 6 [0,5,1,2,3,4] Z Z) ?_;rintro v w' ⟨Γ',⟨e,S2,⟨rfl,rfl⟩,rfl,rfl⟩,b⟩;exact ⟨_,⟨Z,Z⟩,(b.pick 6 [0,2,3,4,5,1] Z).toRq (Y:=Y) P Z⟩
theorem Yz(pq dn mb n:Nat)(K:Nat->Pg)(C0:Nat->Nat)(t:Option RqT)(hq:Hp):Aj 26 [V pq] [rqA pq dn mb n K C0 t hq] (λv G=>v=.tuple #[]/\G=[rqA pq dn mb n K C0 none hq]):=λz R w H=>by
 obtain ⟨Y,P,H⟩:=H.rq;refine Ret.mono (Cn.at (LO pq Y.pt Y.pc Y.bn Y.bw dn mb n K (Iw t) hq (FW C0 t) C0 Y.tv P.hn) H 6 [0,2,3,4,5,1] Z Z) ?_;rintro v w' ⟨Γ',⟨b,rfl,rfl⟩,a⟩;exact ⟨_,⟨Z,Z⟩,(a.pick 7 [0,1,2,3,4,5] Z).toRq (Y:=⟨Y.pt,Y.pc,Y.bn,Y.bw,b⟩) (RqP.idle P.hn P.c0 P.one) Z⟩

theorem Vl(pq dn mb n:Nat)(K:Nat->Pg)(C0:Nat->Nat)(hq:Hp)(b:Int)(bs:List UInt8)(a:Value)(B:Ah)(d:∀h,B h->rdH 1 a 240 (bs.map u8) h):Aj 54 [V pq,.agg #[Aa b,a]] [rqA pq dn mb n K C0 none hq,B] (λv G=>v=.tuple #[Aa 0,Aa 18]/\G=[rqA pq dn mb n K C0 none hq,B]):=λz R w H=>by
 obtain ⟨Y,P,H⟩:=H.rq;obtain ⟨X,PX,H⟩:=Sep.rso2 (H.pick 7 [5,0,1,2,3,4,6] Z);refine Ret.mono (Cn.at (Qd pq Y.pt X.pr Y.pc X.x _ X.pv X.ov Y.tv b a bs B d) H 8 [2,0,7,1,3,4,5,6] Z Z) ?_;rintro v w' ⟨Γ',⟨rfl,rfl⟩,c⟩;have H2:=Sep.toRso2 (t:=none) (c.pick 8 [1,3,0,4,5,6,7,2] Z) PX;exact ⟨_,⟨Z,Z⟩,(H2.pick 7 [1,2,3,4,5,0,6] Z).toRq (Y:=Y) P Z⟩
theorem Vm(pq dn mb n:Nat)(K:Nat->Pg)(C0:Nat->Nat)(T:RqT)(hq:Hp)(b:∀q,q<n->T.Tk q=true)(f:Int)(bs:List UInt8)(d:Value)(B:Ah)(m:∀h,B h->rdH 1 d 240 (bs.map u8) h):Aj 54 [V pq,.agg #[Aa f,d]] [rqA pq dn mb n K C0 (some T) hq,B] (λv G=>v=.tuple #[Aa 0,Aa 20]/\G=[rqA pq dn mb n K C0 (some T) hq,B]):=λz R w H=>by
 obtain ⟨Y,P,H⟩:=H.rq;obtain ⟨pt,e,i,bw,l⟩:=Y;obtain ⟨c,a,rfl⟩:Slc l n:=H.sy 1 (·.slc);obtain ⟨X,PX,H⟩:=Sep.rso2 (H.pick 7 [5,0,1,2,3,4,6] Z);refine Ret.mono (Cn.at (Qe pq pt X.pr e i bw n X.x _ X.pv X.ov c a T.Tk P.hn b f d bs B m) H 8 [2,3,0,7,1,4,5,6] Z Z) ?_;rintro v w' ⟨Γ',⟨rfl,rfl⟩,j⟩;have H2:=Sep.toRso2 (t:=some (T.g,T.k)) (j.pick 8 [2,4,0,1,5,6,7,3] Z) PX;exact ⟨_,⟨Z,Z⟩,(H2.pick 7 [1,2,3,4,5,0,6] Z).toRq (Y:=⟨pt,e,i,bw,.slice c n a⟩) P Z⟩
def Vn(T:RqT)(p:Nat)(kd:Int)(bs:List UInt8):RqT:=
 ⟨(En (T.g,T.k) p kd bs).2.1,(En (T.g,T.k) p kd bs).2.2,if (En (T.g,T.k) p kd bs).1=0 then updN T.C p 1 else T.C,insP T.Tk p⟩
theorem YA(pq dn mb n:Nat)(K:Nat->Pg)(C0:Nat->Nat)(T:RqT)(hq:Hp)(p:Nat)(hp:p<n)(d:T.Tk p=false)(m:∀q,q<p->T.Tk q=true)(i:Int)(bs:List UInt8)(s:bs.length=240)(r:Value)(B:Ah)(hB:∀h,B h->rdH 1 r 240 (bs.map u8) h):Aj 54 [V pq,.agg #[Aa i,r]] [rqA pq dn mb n K C0 (some T) hq,B] (λv G=>∃b,v=.tuple #[Aa (if (En (T.g,T.k) p i bs).1=0 then (p:Int) else 0),Aa (En (T.g,T.k) p i bs).1]/\G=[rqA pq dn mb n K C0 (some (Vn T p i bs)) b,B]):=λz R w H=>by
 obtain ⟨Y,P,H⟩:=H.rq;have hC:T.C p=0:=P.tk p d;obtain ⟨pt,t,u,bw,tv⟩:=Y;obtain ⟨l,j,rfl⟩:Slc tv n:=H.sy 1 (·.slc);obtain ⟨X,PX,H⟩:=Sep.rso2 (H.pick 7 [5,0,1,2,3,4,6] Z);refine Ret.mono (Cn.at (Sx pq pt X.pr t u bw n X.x _ X.pv X.ov T.C l j T.Tk P.hn p hp d m hC (rsR dn hq X) i r bs B hB (λe S2=>e=(En (T.g,T.k) p i bs).1/\∃b,S2=rsoA pt dn mb n K (some (En (T.g,T.k) p i bs).2) b) (LN (o:=(T.g,T.k)) PX p hp i bs s r B hB)) H 8 [2,3,4,5,0,1,7,6] Z Z) ?_;rintro v w' ⟨Γ',⟨e,S2,⟨rfl,b,rfl⟩,h|h⟩,y⟩
 ·obtain ⟨f,rfl,rfl⟩:=h
  refine ⟨_,⟨b,by rw[if_pos f,f],Z⟩,(y.pick 7 [0,1,2,3,6,4,5] Z).toRq (Y:=⟨pt,t,u,bw,.slice l n j⟩) ⟨P.hn,P.c0,P.one,λk=>?_,λq hq=>?_⟩ (by unfold Pd FW Vn;simp only[if_pos f];rfl)⟩
  ·show (if _=0 then updN T.C p 1 else T.C) k<=1000
   rw[if_pos f];unfold updN;split
   ·omega
   exact P.c k
  have a:insP T.Tk p q=false:=hq;show (if _=0 then updN T.C p 1 else T.C) q=0;rw[if_pos f];unfold updN;unfold insP at a;simp only[Bool.or_eq_false_iff,decide_eq_false_iff_not] at a;rw[if_neg a.2];exact P.tk q a.1
 obtain ⟨f,rfl,rfl⟩:=h;refine ⟨_,⟨b,by rw[if_neg f],Z⟩,(y.pick 7 [0,1,2,3,6,4,5] Z).toRq (Y:=⟨pt,t,u,bw,.slice l n j⟩) ⟨P.hn,P.c0,P.one,λk=>?_,λq hq=>?_⟩ (by unfold Pd FW Vn;simp only[if_neg f];rfl)⟩
 ·show (if _=0 then updN T.C p 1 else T.C) k<=1000
  rw[if_neg f];exact P.c k
 have a:insP T.Tk p q=false:=hq;show (if _=0 then updN T.C p 1 else T.C) q=0;rw[if_neg f];unfold insP at a;simp only[Bool.or_eq_false_iff,decide_eq_false_iff_not] at a;exact P.tk q a.1
end
end
section
section
variable{z w:World}{Γ:List Ah}{pq dn mb n:Nat}{K:Nat->Pg}{C0:Nat->Nat}{t:Option RqT}{hq:Hp}
theorem Sep.rq8(H:Sep z (rqA pq dn mb n K C0 t hq::Γ) w):∃(Y:RqY) (X:RsX),RqP n C0 t/\RsP dn mb n K (Iw t) hq X/\Sep z ([pqB pq Y.pt Y.pc Y.tv,Iv Y.pc Y.bn Y.bw n,Aw Y.bn (FW C0 t) n,rsB Y.pt X.pr X.pl X.x X.pv (Iw t).isSome X.ov,rsR dn hq X,Aw Y.bw C0 n,YthbbejpbkglmlaaGreatDoor.grow 4 1 Y.tv n (CS (HJ C0 t) n)]++Γ) w:=by
 obtain ⟨Y,P,H⟩:=H.rq;obtain ⟨X,PX,H⟩:=Sep.rso2 (H.pick 6 [5,0,1,2,3,4] Z);exact ⟨Y,X,P,PX,H.pick 7 [2,4,5,0,1,6,3] Z⟩
theorem Sep.toRq8{Y:RqY}{X:RsX}(H:Sep z ([pqB pq Y.pt Y.pc Y.tv,Iv Y.pc Y.bn Y.bw n,Aw Y.bn (FW C0 t) n,rsB Y.pt X.pr X.pl X.x X.pv (Iw t).isSome X.ov,rsR dn hq X,Aw Y.bw C0 n,YthbbejpbkglmlaaGreatDoor.grow 4 1 Y.tv n (CS (HJ C0 t) n)]++Γ) w)(P:RqP n C0 t)(a:RsP dn mb n K (Iw t) hq X):Sep z (rqA pq dn mb n K C0 t hq::Γ) w:=by
 have H2:=Sep.toRso2 (H.pick 7 [3,4,0,1,2,5,6] Z) a;exact (H2.pick 6 [1,5,2,3,4,0] Z).toRq (Y:=Y) P Z
theorem Sep.toRq7{Y:RqY}(H:Sep z ([pqB pq Y.pt Y.pc Y.tv,Iv Y.pc Y.bn Y.bw n,Aw Y.bn (FW C0 t) n,rsoA Y.pt dn mb n K (Iw t) hq,Aw Y.bw C0 n,YthbbejpbkglmlaaGreatDoor.grow 4 1 Y.tv n (CS (HJ C0 t) n)]++Γ) w)(P:RqP n C0 t):Sep z (rqA pq dn mb n K C0 t hq::Γ) w:=
 (H.pick 6 [0,5,1,2,4,3] Z).toRq (Y:=Y) P Z

theorem Vo(pq dn mb n:Nat)(K:Nat->Pg)(C0:Nat->Nat)(hq:Hp)(p b:Int)(bs:List UInt8)(a:Value)(B:Ah)(d:∀h,B h->rdH 1 a 240 (bs.map u8) h):Aj 56 [V pq,Aa p,.agg #[Aa b,a]] [rqA pq dn mb n K C0 none hq,B] (λv G=>v=Aa 18/\G=[rqA pq dn mb n K C0 none hq,B]):=λz R w H=>by
 obtain ⟨Y,X,P,PX,H⟩:=Sep.rq8 H;refine Ret.mono (Cn.at (Qf pq Y.pt X.pr Y.pc X.x _ X.pv X.ov Y.tv p b a bs B d) H 8 [0,3,7,1,2,4,5,6] Z Z) ?_;rintro v w' ⟨Γ',⟨rfl,rfl⟩,c⟩;exact ⟨_,⟨Z,Z⟩,Sep.toRq8 (c.pick 8 [0,3,4,1,5,6,7,2] Z) P PX⟩
theorem Vp(pq dn mb n:Nat)(K:Nat->Pg)(C0:Nat->Nat)(T:RqT)(hq:Hp)(p:Int)(c: -9223372036854775808<=p/\p<=9223372036854775807)(a:Ds T.C n p=0\/(0<p/\p<=(manyN n:Int)))(d:Int)(bs:List UInt8)(b:Value)(B:Ah)(f:∀h,B h->rdH 1 b 240 (bs.map u8) h):Aj 56 [V pq,Aa p,.agg #[Aa d,b]] [rqA pq dn mb n K C0 (some T) hq,B] (λv G=>v=Aa 2/\G=[rqA pq dn mb n K C0 (some T) hq,B]):=λz R w H=>by
 obtain ⟨Y,X,P,PX,H⟩:=Sep.rq8 H;refine Ret.mono (Cn.at (Qg pq Y.pt X.pr Y.pc Y.bn Y.bw n X.x _ X.pv X.ov T.C Y.tv P.hn PX.pg p c a d b bs B f) H 8 [0,1,2,3,7,4,5,6] Z Z) ?_;rintro v w' ⟨Γ',⟨rfl,rfl⟩,e⟩;exact ⟨_,⟨Z,Z⟩,Sep.toRq8 (t:=some T) (e.pick 8 [0,1,2,3,5,6,7,4] Z) P PX⟩
theorem FB{C:Nat->Nat}{n:Nat}{p:Int}(h:Ds C n p≠0):0<=p/\p<n:=by
 unfold Ds at h;by_cases c:0<=p/\p<n
 ·exact c
 rw[if_neg c] at h;exact absurd Z h
theorem YB(pq dn mb n:Nat)(K:Nat->Pg)(C0:Nat->Nat)(T:RqT)(hq:Hp)(p:Nat)(b:¬(Ds T.C n (p:Int)=0\/(0<(p:Int)/\(p:Int)<=(manyN n:Int))))(d:Int)(bs:List UInt8)(i:bs.length=240)(f:Value)(B:Ah)(j:∀h,B h->rdH 1 f 240 (bs.map u8) h):Aj 56 [V pq,Aa (p:Int),.agg #[Aa d,f]] [rqA pq dn mb n K C0 (some T) hq,B] (λv G=>∃a,v=Aa (En (T.g,T.k) p d bs).1/\G=[rqA pq dn mb n K C0 (some {T with g:=(En (T.g,T.k) p d bs).2.1,k:=(En (T.g,T.k) p d bs).2.2}) a,B]):=λz R w H=>by
 have hp:=FB (λq=>b (.inl q));obtain ⟨Y,X,P,PX,H⟩:=Sep.rq8 H;have m:=P.hn;refine Ret.mono (Cn.at (Qh pq Y.pt X.pr Y.pc Y.bn Y.bw n X.x _ X.pv X.ov T.C Y.tv P.hn PX.pg (p:Int) U b (rsR dn hq X) d f bs B j (λe S2=>e=(En (T.g,T.k) p d bs).1/\∃a,S2=rsoA Y.pt dn mb n K (some (En (T.g,T.k) p d bs).2) a) (LN (o:=(T.g,T.k)) PX p U d bs i f B j)) H 8 [0,1,2,3,4,7,5,6] Z Z) ?_;rintro v w' ⟨Γ',⟨e,S2,⟨rfl,a,rfl⟩,rfl,rfl⟩,l⟩;exact ⟨_,⟨a,Z,Z⟩,Sep.toRq7 (Y:=Y) (t:=some {T with g:=_,k:=_}) (l.pick 7 [0,1,2,3,5,6,4] Z) ⟨P.hn,P.c0,P.one,P.c,P.tk⟩⟩

theorem Aar(pq dn mb n:Nat)(K:Nat->Pg)(C0:Nat->Nat)(hq:Hp)(p:Int):Aj 57 [V pq,Aa p] [rqA pq dn mb n K C0 none hq] (λv G=>v=Aa 18/\G=[rqA pq dn mb n K C0 none hq]):=λz R w H=>by
 obtain ⟨Y,X,P,PX,H⟩:=Sep.rq8 H;refine Ret.mono (Cn.at (Ve pq Y.pt X.pr Y.pc X.x _ X.pv X.ov Y.tv p) H 7 [0,3,1,2,4,5,6] Z Z) ?_;rintro v w' ⟨Γ',⟨rfl,rfl⟩,a⟩;exact ⟨_,⟨Z,Z⟩,Sep.toRq8 (a.pick 7 [0,2,3,1,4,5,6] Z) P PX⟩
theorem Vq(pq dn mb n:Nat)(K:Nat->Pg)(C0:Nat->Nat)(hq:Hp)(p:Int):Aj 58 [V pq,Aa p] [rqA pq dn mb n K C0 none hq] (λv G=>v=Aa 18/\G=[rqA pq dn mb n K C0 none hq]):=λz R w H=>by
 obtain ⟨Y,X,P,PX,H⟩:=Sep.rq8 H;refine Ret.mono (Cn.at (Qi pq Y.pt X.pr Y.pc X.x _ X.pv X.ov Y.tv p) H 7 [0,3,1,2,4,5,6] Z Z) ?_;rintro v w' ⟨Γ',⟨rfl,rfl⟩,a⟩;exact ⟨_,⟨Z,Z⟩,Sep.toRq8 (a.pick 7 [0,2,3,1,4,5,6] Z) P PX⟩
theorem Aas(pq dn mb n:Nat)(K:Nat->Pg)(C0:Nat->Nat)(T:RqT)(hq:Hp)(p:Int)(b: -9223372036854775808<=p/\p<=9223372036854775807)(a:Ds T.C n p=0\/p<=(manyN n:Int)):Aj 57 [V pq,Aa p] [rqA pq dn mb n K C0 (some T) hq] (λv G=>v=Aa 2/\G=[rqA pq dn mb n K C0 (some T) hq]):=λz R w H=>by
 obtain ⟨Y,X,P,PX,H⟩:=Sep.rq8 H;refine Ret.mono (Cn.at (Vf pq Y.pt X.pr Y.pc Y.bn Y.bw n X.x _ X.pv X.ov T.C Y.tv P.hn PX.pg p b a) H 7 [0,1,2,3,4,5,6] Z Z) ?_;rintro v w' ⟨Γ',⟨rfl,rfl⟩,c⟩;exact ⟨_,⟨Z,Z⟩,Sep.toRq8 (t:=some T) (c.pick 7 [0,1,2,3,4,5,6] Z) P PX⟩
theorem Vr(pq dn mb n:Nat)(K:Nat->Pg)(C0:Nat->Nat)(T:RqT)(hq:Hp)(p:Int)(b: -9223372036854775808<=p/\p<=9223372036854775807)(a:Ds T.C n p=0\/p<=(manyN n:Int)):Aj 58 [V pq,Aa p] [rqA pq dn mb n K C0 (some T) hq] (λv G=>v=Aa 2/\G=[rqA pq dn mb n K C0 (some T) hq]):=λz R w H=>by
 obtain ⟨Y,X,P,PX,H⟩:=Sep.rq8 H;refine Ret.mono (Cn.at (Qj pq Y.pt X.pr Y.pc Y.bn Y.bw n X.x _ X.pv X.ov T.C Y.tv P.hn PX.pg p b a) H 7 [0,1,2,3,4,5,6] Z Z) ?_;rintro v w' ⟨Γ',⟨rfl,rfl⟩,c⟩;exact ⟨_,⟨Z,Z⟩,Sep.toRq8 (t:=some T) (c.pick 7 [0,1,2,3,4,5,6] Z) P PX⟩
theorem Aat(pq dn mb n:Nat)(K:Nat->Pg)(C0:Nat->Nat)(T:RqT)(hq:Hp)(p:Nat)(hp:manyN n<p/\p<n)(b:T.C p=1000):Aj 57 [V pq,Aa (p:Int)] [rqA pq dn mb n K C0 (some T) hq] (λv G=>v=Aa 21/\G=[rqA pq dn mb n K C0 (some T) hq]):=λz R w H=>by
 obtain ⟨Y,X,P,PX,H⟩:=Sep.rq8 H;refine Ret.mono (Cn.at (Vg pq Y.pt X.pr Y.pc Y.bn Y.bw n X.x _ X.pv X.ov T.C Y.tv P.hn PX.pg p hp b) H 7 [0,1,2,3,4,5,6] Z Z) ?_;rintro v w' ⟨Γ',⟨rfl,rfl⟩,a⟩;exact ⟨_,⟨Z,Z⟩,Sep.toRq8 (t:=some T) (a.pick 7 [0,1,2,3,4,5,6] Z) P PX⟩
theorem RqP.cup{T:RqT}(P:RqP n C0 (some T))(p x:Nat)(b:x<=1000)(d:T.C p≠0):RqP n C0 (some {T with C:=updN T.C p x}):=
 ⟨P.hn,P.c0,P.one,λk=>by
  show updN T.C p x k<=1000;unfold updN;split
  ·exact b
  ·exact P.c k,λq hq=>by
  show updN T.C p x q=0;have a:T.C q=0:=P.tk q hq;unfold updN;rw[if_neg (λe=>d (by rw[<-e];exact a))];exact a⟩
theorem Aa9(pq dn mb n:Nat)(K:Nat->Pg)(C0:Nat->Nat)(T:RqT)(hq:Hp)(p:Nat)(hp:manyN n<p/\p<n)(b:T.C p<1000/\1<=T.C p):Aj 57 [V pq,Aa (p:Int)] [rqA pq dn mb n K C0 (some T) hq] (λv G=>v=Aa 0/\G=[rqA pq dn mb n K C0 (some {T with C:=updN T.C p (T.C p+1)}) hq]):=λz R w H=>by
 obtain ⟨Y,X,P,PX,H⟩:=Sep.rq8 H;refine Ret.mono (Cn.at (Yq pq Y.pt X.pr Y.pc Y.bn Y.bw n X.x _ X.pv X.ov T.C Y.tv P.hn PX.pg p hp b) H 7 [0,1,2,3,4,5,6] Z Z) ?_;rintro v w' ⟨Γ',⟨rfl,rfl⟩,a⟩;exact ⟨_,⟨Z,Z⟩,Sep.toRq8 (t:=some {T with C:=updN T.C p (T.C p+1)}) (a.pick 7 [0,1,2,3,4,5,6] Z) (P.cup p _ U U) PX⟩
theorem YC(pq dn mb n:Nat)(K:Nat->Pg)(C0:Nat->Nat)(T:RqT)(hq:Hp)(p:Nat)(hp:manyN n<p/\p<n)(d:1<=T.C p):Aj 58 [V pq,Aa (p:Int)] [rqA pq dn mb n K C0 (some T) hq] (λv G=>v=Aa 0/\G=[rqA pq dn mb n K C0 (some {T with C:=updN T.C p (T.C p-1)}) hq]):=λz R w H=>by
 obtain ⟨Y,X,P,PX,H⟩:=Sep.rq8 H;have a:T.C p<=1000:=P.c p;refine Ret.mono (Cn.at (Sy pq Y.pt X.pr Y.pc Y.bn Y.bw n X.x _ X.pv X.ov T.C Y.tv P.hn PX.pg p hp ⟨d,a⟩) H 7 [0,1,2,3,4,5,6] Z Z) ?_;rintro v w' ⟨Γ',⟨rfl,rfl⟩,b⟩;exact ⟨_,⟨Z,Z⟩,Sep.toRq8 (t:=some {T with C:=updN T.C p (T.C p-1)}) (b.pick 7 [0,1,2,3,4,5,6] Z) (P.cup p _ U U) PX⟩

theorem SH(pq dn mb n:Nat)(K:Nat->Pg)(C0:Nat->Nat)(hq:Hp):Aj 55 [V pq] [rqA pq dn mb n K C0 none hq] (λv G=>v=Aa 18/\G=[rqA pq dn mb n K C0 none hq]):=λz R w H=>by
 obtain ⟨Y,X,P,PX,H⟩:=Sep.rq8 H;refine Ret.mono (Cn.at (N9 pq Y.pt X.pr Y.pc X.x _ X.pv X.ov Y.tv) H 7 [0,3,1,2,4,5,6] Z Z) ?_;rintro v w' ⟨Γ',⟨rfl,rfl⟩,a⟩;exact ⟨_,⟨Z,Z⟩,Sep.toRq8 (a.pick 7 [0,2,3,1,4,5,6] Z) P PX⟩
def SI(n:Nat)(C0:Nat->Nat)(T:RqT):Int×(A0×Nat):=He T.C n (T.g,T.k) (Ce T.C C0 n (manyN n))
theorem Vs(pq dn mb n:Nat)(K:Nat->Pg)(C0:Nat->Nat)(T:RqT)(hq:Hp)(e:mb<=1100000)(b:∀p,p<=manyN n->T.C p≠0):Aj 55 [V pq] [rqA pq dn mb n K C0 (some T) hq] (λv G=>∃a,((SI n C0 T).1=0/\v=Aa 0/\G=[rqA pq dn (mb+1) n (Cb K (some ((SI n C0 T).2.1,(SI n C0 T).2.2))) T.C none a])\/((SI n C0 T).1≠0/\v=Aa (SI n C0 T).1/\G=[rqA pq dn mb n K C0 none a])):=λz R w H=>by
 obtain ⟨Y,P,H⟩:=H.rq;refine Ret.mono (Cn.at (Qn pq Y.pt Y.pc Y.bn Y.bw dn mb n K (T.g,T.k) hq T.C C0 Y.tv P.hn P.c e) H 6 [0,2,3,4,5,1] Z Z) ?_;rintro v w' ⟨Γ',⟨h,a,⟨d,rfl,rfl⟩|⟨d,rfl,rfl⟩⟩,f⟩
 ·exact ⟨_,⟨a,.inl ⟨d,Z,Z⟩⟩,(f.pick 7 [0,1,2,3,4,5] Z).toRq (t:=none) (C0:=T.C) (Y:=⟨Y.pt,Y.pc,Y.bn,Y.bw,h⟩) (RqP.idle P.hn P.c b) Z⟩
 exact ⟨_,⟨a,.inr ⟨d,Z,Z⟩⟩,(f.pick 7 [0,1,2,3,4,5] Z).toRq (t:=none) (Y:=⟨Y.pt,Y.pc,Y.bn,Y.bw,h⟩) (RqP.idle P.hn P.c0 P.one) Z⟩
end
end
section
section
variable{Tb:Ah}
variable{z w:World}{Γ:List Ah}{pp mb n ps pd:Nat}{M0:Nat->Pg}{C0:Nat->Nat}{t:Option PoT}{T:PoT}{D:Dsk}{G:StG}{own:C7}
theorem Vt(pp mb n:Nat)(M0:Nat->Pg)(C0:Nat->Nat)(p b:Int)(bs:List UInt8)(a:Value)(B:Ah)(d:∀h,B h->rdH 1 a 240 (bs.map u8) h):Aj 22 [V pp,Aa p,.agg #[Aa b,a]] [poA Tb pp mb n M0 C0 none,B] (λv G=>v=Aa 18/\G=[poA Tb pp mb n M0 C0 none,B]):=λz R w H=>by
 obtain ⟨X,e,H⟩:=H.po;refine Ret.mono (Cn.at (SB pp X.ps X.pc X.pa n p b a bs B d) H 8 [0,7,1,2,3,4,5,6] Z Z) ?_;rintro v w' ⟨Γ',⟨rfl,rfl⟩,c⟩;exact ⟨_,⟨Z,Z⟩,(c.pick 8 [0,2,3,4,5,6,7,1] Z).toPo e Z⟩
theorem SJ(pp mb n:Nat)(M0:Nat->Pg)(C0:Nat->Nat)(b:Int)(bs:List UInt8)(a:Value)(B:Ah)(d:∀h,B h->rdH 1 a 240 (bs.map u8) h):Aj 12 [V pp,.agg #[Aa b,a]] [poA Tb pp mb n M0 C0 none,B] (λv G=>v=.tuple #[Aa 0,Aa 18]/\G=[poA Tb pp mb n M0 C0 none,B]):=λz R w H=>by
 obtain ⟨X,e,H⟩:=H.po;refine Ret.mono (Cn.at (Ql pp X.ps X.pc X.pa n b a bs B d) H 8 [0,7,1,2,3,4,5,6] Z Z) ?_;rintro v w' ⟨Γ',⟨rfl,rfl⟩,c⟩;exact ⟨_,⟨Z,Z⟩,(c.pick 8 [0,2,3,4,5,6,7,1] Z).toPo e Z⟩
theorem Vu(pp mb n:Nat)(M0:Nat->Pg)(C0:Nat->Nat)(T:PoT)(p:Int)(f: -9223372036854775808<=p/\p<=9223372036854775807)(b:Int)(bs:List UInt8)(o:bs.length=240)(d:Value)(B:Ah)(i:∀h,B h->rdH 1 d 240 (bs.map u8) h):
  Aj 22 [V pp,Aa p,.agg #[Aa b,d]] [poA Tb pp mb n M0 C0 (some T),B] (λv G=>∃(e:Int) (x:Nat->Pg) (y:Nat),v=Aa e/\G=[poA Tb pp mb n M0 C0 (some {T with M:=x,k:=y}),B]):=λz R w H=>by
 obtain ⟨X,a,H⟩:=H.po;have Q:=a.tx T Z;have hn:=a.hn;have u:=a.pg;by_cases hbad:Ds T.C n p=0\/(0<p/\p<=(manyN n:Int))
 ·refine Ret.mono (Cn.at (SC pp X.ps X.pc X.bn X.mm X.pa n T.C a.hn p f hbad b d bs B i) H 8 [0,2,3,7,1,4,5,6] Z Z) ?_
  rintro v w' ⟨Γ',⟨rfl,rfl⟩,c⟩;exact ⟨_,⟨2,T.M,T.k,Z,Z⟩,(c.pick 8 [0,4,1,2,5,6,7,3] Z).toPo a Z⟩
 obtain ⟨a0,a1⟩:=FB (λq=>hbad (.inl q));obtain ⟨p,rfl⟩:∃q:Nat,p=(q:Int):=⟨p.toNat,by omega⟩;have s:p=0\/manyN n<p:=by
  rcases Ads p with q|q
  ·exact .inl q
  refine .inr (Adz λr=>hbad (.inr ⟨by omega,by omega⟩))
 by_cases hk:1<=b/\b<=5
 ·refine Ret.mono (Cn.at (LM pp X.ps X.pc X.bn X.mm X.pa n T.C a.hn (p:Int) f hbad (stoA X.ps X.pd X.D X.G (some (X.g,T.k))) b d bs B i (λe S2=>(e=16/\S2=stoA X.ps X.pd X.D X.G (some (X.g,T.k)))\/(e=0/\S2=stoA X.ps X.pd X.D X.G (some (pgSet X.g p ⟨b,bs⟩,T.k+(if (X.g p).isSome then 0 else 1))))) ((Fu X.ps X.pd X.D X.G X.g T.k p U ⟨b,bs⟩ ⟨hk,o⟩ d B i).mono λv Γ h=>by
   rcases h with ⟨_,j,l⟩|⟨_,j,l⟩
   ·exact ⟨16,_,.inl ⟨Z,Z⟩,j,l⟩
   exact ⟨0,_,.inr ⟨Z,Z⟩,j,l⟩)) H 8 [0,2,3,1,7,4,5,6] Z Z) ?_
  rintro v w' ⟨Γ',⟨e,S2,⟨rfl,rfl⟩|⟨rfl,rfl⟩,rfl,rfl⟩,c⟩
  ·exact ⟨_,⟨16,T.M,T.k,Z,Z⟩,(c.pick 8 [0,3,1,2,5,6,7,4] Z).toPo a Z⟩
  exact ⟨_,⟨0,BS T.M p ⟨b,bs⟩,T.k+(if (X.g p).isSome then 0 else 1),Z,Z⟩,(c.pick 8 [0,3,1,2,5,6,7,4] Z).toPo (X:= {X with g:=pgSet X.g p ⟨b,bs⟩}) (t:=some {T with M:=BS T.M p ⟨b,bs⟩,k:=T.k+(if (X.g p).isSome then 0 else 1)}) ⟨a.hn,a.fine,a.pg,a.tab,a.m0,a.cp,a.c0,a.one,λe=>(by cases e),λT' e=>by cases e;exact Q.put s _⟩ Z⟩
 refine Ret.mono (Cn.at (LM pp X.ps X.pc X.bn X.mm X.pa n T.C a.hn (p:Int) f hbad (stoA X.ps X.pd X.D X.G (some (X.g,T.k))) b d bs B i (λe S2=>e=1/\S2=stoA X.ps X.pd X.D X.G (some (X.g,T.k))) (λz R w H=>by
  obtain ⟨bo,bc,m⟩:Slc d 240:=H.sy 1 (λq=>(i _ q).slc);refine Ret.mono (Cn.at (NI X.ps X.pd X.D X.G X.g T.k p U b U d (by rw[m];rfl)) H 2 [0,1] Z Z) ?_;rintro v w' ⟨Γ',⟨rfl,rfl⟩,c⟩;exact ⟨_,⟨1,_,⟨Z,Z⟩,Z,Z⟩,c⟩)) H 8 [0,2,3,1,7,4,5,6] Z Z) ?_
 rintro v w' ⟨Γ',⟨e,S2,⟨rfl,rfl⟩,rfl,rfl⟩,c⟩;exact ⟨_,⟨1,T.M,T.k,Z,Z⟩,(c.pick 8 [0,3,1,2,5,6,7,4] Z).toPo a Z⟩

theorem Aau(pp mb n:Nat)(M0:Nat->Pg)(C0:Nat->Nat)(p:Int):Aj 17 [V pp,Aa p] [poA Tb pp mb n M0 C0 none] (λv G=>v=Aa 18/\G=[poA Tb pp mb n M0 C0 none]):=λz R w H=>by
 obtain ⟨X,b,H⟩:=H.po;refine Ret.mono (Cn.at (Yr pp X.ps X.pc X.pa n p) H 7 [0,1,2,3,4,5,6] Z Z) ?_;rintro v w' ⟨Γ',⟨rfl,rfl⟩,a⟩;exact ⟨_,⟨Z,Z⟩,(a.pick 7 [0,1,2,3,4,5,6] Z).toPo b Z⟩
theorem Vv(pp mb n:Nat)(M0:Nat->Pg)(C0:Nat->Nat)(p:Int):Aj 15 [V pp,Aa p] [poA Tb pp mb n M0 C0 none] (λv G=>v=Aa 18/\G=[poA Tb pp mb n M0 C0 none]):=λz R w H=>by
 obtain ⟨X,b,H⟩:=H.po;refine Ret.mono (Cn.at (SD pp X.ps X.pc X.pa n p) H 7 [0,1,2,3,4,5,6] Z Z) ?_;rintro v w' ⟨Γ',⟨rfl,rfl⟩,a⟩;exact ⟨_,⟨Z,Z⟩,(a.pick 7 [0,1,2,3,4,5,6] Z).toPo b Z⟩
theorem Aav(pp mb n:Nat)(M0:Nat->Pg)(C0:Nat->Nat)(T:PoT)(p:Int)(f: -9223372036854775808<=p/\p<=9223372036854775807):
  Aj 17 [V pp,Aa p] [poA Tb pp mb n M0 C0 (some T)] (λv G=>∃(e:Int) (o:Nat->Nat),v=Aa e/\G=[poA Tb pp mb n M0 C0 (some {T with C:=o})]):=λz R w H=>by
 have m:=λp=>H.says 0 Z (λh (q:poA Tb pp mb n M0 C0 (some T) h)=>q.k.c p);by_cases hbad:Ds T.C n p=0\/p<=(manyN n:Int)
 ·obtain ⟨X,a,H⟩:=H.po
  refine Ret.mono (Cn.at (Ys pp X.ps X.pc X.bn X.mm X.pa n T.C a.hn p f hbad) H 7 [0,2,3,1,4,5,6] Z Z) ?_;rintro v w' ⟨Γ',⟨rfl,rfl⟩,d⟩;exact ⟨_,⟨2,T.C,Z,Z⟩,(d.pick 7 [0,3,1,2,4,5,6] Z).toPo a Z⟩
 obtain ⟨g,i⟩:=FB (λq=>hbad (.inl q));obtain ⟨p,rfl⟩:∃q:Nat,p=(q:Int):=⟨p.toNat,by omega⟩;have b:manyN n<p:=Adz λr=>hbad (.inr U);have j:T.C p≠0:=λe=>hbad (.inl (by unfold Ds;rw[if_pos ⟨g,i⟩];simp[e]));have l:=m p;by_cases h9:T.C p=1000
 ·obtain ⟨X,a,H⟩:=H.po
  refine Ret.mono (Cn.at (Yu pp X.ps X.pc X.bn X.mm X.pa n T.C a.hn p ⟨b,by omega⟩ h9) H 7 [0,2,3,1,4,5,6] Z Z) ?_;rintro v w' ⟨Γ',⟨rfl,rfl⟩,d⟩;exact ⟨_,⟨21,T.C,Z,Z⟩,(d.pick 7 [0,3,1,2,4,5,6] Z).toPo a Z⟩
 exact (AaX pp mb n M0 C0 T p ⟨b,by omega⟩ ⟨by omega,by omega⟩).mono (λv Γ h=>⟨0,_,h.1,h.2⟩) z R w H
theorem NM(pp mb n:Nat)(M0:Nat->Pg)(C0:Nat->Nat)(T:PoT)(p:Int)(d: -9223372036854775808<=p/\p<=9223372036854775807):
  Aj 15 [V pp,Aa p] [poA Tb pp mb n M0 C0 (some T)] (λv G=>∃(e:Int) (j:Nat->Nat),v=Aa e/\G=[poA Tb pp mb n M0 C0 (some {T with C:=j})]):=λz R w H=>by
 by_cases hbad:Ds T.C n p=0\/p<=(manyN n:Int)
 ·obtain ⟨X,g,H⟩:=H.po
  refine Ret.mono (Cn.at (SE pp X.ps X.pc X.bn X.mm X.pa n T.C g.hn p d hbad) H 7 [0,2,3,1,4,5,6] Z Z) ?_;rintro v w' ⟨Γ',⟨rfl,rfl⟩,i⟩;exact ⟨_,⟨2,T.C,Z,Z⟩,(i.pick 7 [0,3,1,2,4,5,6] Z).toPo g Z⟩
 obtain ⟨b,c⟩:=FB (λq=>hbad (.inl q));obtain ⟨p,rfl⟩:∃q:Nat,p=(q:Int):=⟨p.toNat,by omega⟩;have a:manyN n<p:=Adz λr=>hbad (.inr U);have f:T.C p≠0:=λe=>hbad (.inl (by unfold Ds;rw[if_pos ⟨b,c⟩];simp[e]));rcases Nat.eq_or_lt_of_le (Nat.one_le_iff_ne_zero.2 f) with e|e
 ·exact (drop_p pp mb n M0 C0 T p ⟨a,by omega⟩ e.symm).mono (λv Γ h=>⟨0,_,h.1,h.2⟩) z R w H
 exact (X2 pp mb n M0 C0 T p ⟨a,by omega⟩ e).mono (λv Γ h=>⟨0,_,h.1,h.2⟩) z R w H

theorem SK(pp mb n:Nat)(M0:Nat->Pg)(C0:Nat->Nat):Aj 14 [V pp] [poA Tb pp mb n M0 C0 none] (λv G=>v=Aa 18/\G=[poA Tb pp mb n M0 C0 none]):=λz R w H=>by
 obtain ⟨X,b,H⟩:=H.po;refine Ret.mono (Cn.at (Qk pp X.ps X.pc X.pa n) H 7 [0,1,2,3,4,5,6] Z Z) ?_;rintro v w' ⟨Γ',⟨rfl,rfl⟩,a⟩;exact ⟨_,⟨Z,Z⟩,(a.pick 7 [0,1,2,3,4,5,6] Z).toPo b Z⟩
theorem SL(pp mb n:Nat)(M0:Nat->Pg)(C0:Nat->Nat)(T:PoT)(o:mb<=1000000000):Aj 14 [V pp] [poA Tb pp mb n M0 C0 (some T)] (λv G=>(v=Aa 0/\G=[poA Tb pp (mb+2) n T.M T.C none])\/(v=Aa 16/\G=[poA Tb pp mb n M0 C0 none])):=by
 intro z R w H;obtain ⟨X,a,H⟩:=H.po;have Q:=a.tx T Z;refine Ret.mono (Cn.at (Qm pp X.ps X.pd X.pc X.bn X.mm X.pa n X.D X.G mb X.g T.k T.C C0 X.l X.clk T.F X.Dd (frC n C0) Q.W a.hn a.pg Q.gn Q.c a.fine o) H 7 [1,0,2,3,4,5,6] Z Z) ?_;rintro v w' ⟨Γ',⟨D2,G2,g,k,zs,j,q,r,_,d,s,rfl,rfl⟩|⟨_,rfl,rfl⟩,b⟩
 ·have H3:=b.pick 7 [1,0,2,3,4,5,6] Z
  rw[Q.df] at H3;refine ⟨_,.inl ⟨Z,Z⟩,H3.toPo (X:= {X with l:=[],Dd:=By,D:=D2,G:=G2}) ⟨a.hn,r,?_,a.tab,λp hp=>?_,λi f=>?_,Q.c,Q.one,λ_=>⟨Z,Z⟩,λT e=>(by cases e)⟩ Z⟩
  ·have:=a.pg
   rcases s with e|e
   ·show G2.x.pages=_;rw[e];exact this
   show G2.x.pages=_;rw[e];exact this
  ·rw[Q.m p hp]
   show _=G2.M p;rw[d];simp only[Cb];rw[j.old p hp]
  show G2.M (1+i)=_;rw[d];simp only[Cb];rcases j.done q f with h|⟨h,e⟩
  ·rw[h];rfl
  rw[h,<-e];exact a.cp i f
 exact ⟨_,.inr ⟨Z,Z⟩,(b.pick 7 [1,0,2,3,4,5,6] Z).toPo (X:= {X with l:=[],Dd:=By}) ⟨a.hn,a.fine,a.pg,a.tab,a.m0,a.cp,a.c0,a.one,λ_=>⟨Z,Z⟩,λT e=>(by cases e)⟩ Z⟩
theorem NN(pp mb n:Nat)(M0:Nat->Pg)(C0:Nat->Nat)(t:Option PoT):Aj 20 [V pp] [poA Tb pp mb n M0 C0 t] (λv G=>v=.tuple #[]/\G=[poA Tb pp mb n M0 C0 none]):=by
 cases t with
 | none=>exact UI pp mb n M0 C0
 | some T=>exact X1 pp mb n M0 C0 T

def poR(n:Nat)(C0:Nat->Nat)(t:Option PoT)(X:PoX):Ah:=seps [coB X.pc X.bn n X.mm,Aw X.bn (poC C0 t) n,AE X.mm X.l X.clk,alB X.pa n (O1 n C0 t) X.Dd (frC n C0),X.A]
theorem Sep.po3(H:Sep z (poA Tb pp mb n M0 C0 t::Γ) w):∃X,PoP Tb mb n M0 C0 t X/\Sep z (plB pp X.ps X.pc X.pa n t.isSome::stoA X.ps X.pd X.D X.G (Gt X.g t)::poR n C0 t X::Γ) w:=by
 obtain ⟨X,a,H⟩:=H.po;have H2:Sep z (poR n C0 t X::plB pp X.ps X.pc X.pa n t.isSome::stoA X.ps X.pd X.D X.G (Gt X.g t)::Γ) w:=Sep.shut (As:=[coB X.pc X.bn n X.mm,Aw X.bn (poC C0 t) n,AE X.mm X.l X.clk,alB X.pa n (O1 n C0 t) X.Dd (frC n C0),X.A]) (H.pick 7 [2,3,4,5,6,0,1] Z);exact ⟨X,a,H2.pick 3 [1,2,0] Z⟩
theorem Sep.toPo3{X:PoX}(H:Sep z (plB pp X.ps X.pc X.pa n t.isSome::stoA X.ps X.pd X.D X.G (Gt X.g t)::poR n C0 t X::Γ) w)(a:PoP Tb mb n M0 C0 t X):Sep z (poA Tb pp mb n M0 C0 t::Γ) w:=by
 have H2:=Sep.opened (As:=[coB X.pc X.bn n X.mm,Aw X.bn (poC C0 t) n,AE X.mm X.l X.clk,alB X.pa n (O1 n C0 t) X.Dd (frC n C0),X.A]) (H.pick 3 [2,0,1] Z);exact (H2.pick 7 [5,6,0,1,2,3,4] Z).toPo a Z
theorem PoP.sync{X:PoX}(a:PoP Tb mb n M0 C0 t X)(b:Fine X.D.fl {X.G with sure:=X.G.rs.length} mb):PoP Tb mb n M0 C0 t {X with D:=X.D.fl,G:= {X.G with sure:=X.G.rs.length}} :=
 ⟨a.hn,b,a.pg,a.tab,a.m0,a.cp,a.c0,a.one,a.idle,λT e=>by
  have Q:=a.tx T e;exact ⟨Q.m,Q.gn,Q.W,Q.c,Q.df,Q.dj,Q.one⟩⟩
theorem poA.le{h:Hp}{mb2:Nat}(c:mb<=mb2)(a:poA Tb pp mb n M0 C0 t h):poA Tb pp mb2 n M0 C0 t h:=by
 obtain ⟨X,b,hs⟩:=a;exact ⟨X,⟨b.hn,b.fine.le c,b.pg,b.tab,b.m0,b.cp,b.c0,b.one,b.idle,b.tx⟩,hs⟩
end
end
section
def anyP(Tb:Ah)(pp n mb:Nat):Ah:=λh=>∃(M:Nat->Pg) (C:Nat->Nat) (t:Option PoT),poA Tb pp mb n M C t h
def anyR(pq n mr:Nat):Ah:=λh=>∃(K:Nat->Pg) (C0:Nat->Nat) (t:Option RqT) (hq:Hp),(∀p,p<=manyN n->FW C0 t p≠0)/\rqA pq 400 mr n K C0 t hq h
section
variable{Tb:Ah}{z w:World}{Γ:List Ah}{pp pq n mb mr:Nat}
theorem Sep.aP(H:Sep z (anyP Tb pp n mb::Γ) w):∃M C t,Sep z (poA Tb pp mb n M C t::Γ) w:=by
 obtain ⟨x,_,H⟩:=H.exAt 0 (σ:=(Nat->Pg)×(Nat->Nat)×Option PoT) (p:=λ_=>True) (B:=λx=>poA Tb pp mb n x.1 x.2.1 x.2.2) Z (λh ⟨M,C,t,q⟩=>⟨(M,C,t),trivial,q⟩);exact ⟨x.1,x.2.1,x.2.2,H⟩
theorem Sep.toAP{M:Nat->Pg}{C:Nat->Nat}{t:Option PoT}{mb2:Nat}(H:Sep z (poA Tb pp mb n M C t::Γ) w)(a:mb<=mb2):Sep z (anyP Tb pp n mb2::Γ) w:=
 H.mono 0 (B:=anyP Tb pp n mb2) Z (λh q=>⟨_,_,_,q.le a⟩)
theorem Sep.aR(H:Sep z (anyR pq n mr::Γ) w):∃K C0 t hq,(∀p,p<=manyN n->FW C0 t p≠0)/\Sep z (rqA pq 400 mr n K C0 t hq::Γ) w:=by
 obtain ⟨x,a,H⟩:=H.exAt 0 (σ:=(Nat->Pg)×(Nat->Nat)×Option RqT×Hp) (p:=λx=>∀p,p<=manyN n->FW x.2.1 x.2.2.1 p≠0) (B:=λx=>rqA pq 400 mr n x.1 x.2.1 x.2.2.1 x.2.2.2) Z (λh ⟨K,C0,t,hq,a,q⟩=>⟨(K,C0,t,hq),a,q⟩);exact ⟨x.1,x.2.1,x.2.2.1,x.2.2.2,a,H⟩
theorem rsoA.le{h:Hp}{ps dn mb2:Nat}{K:Nat->Pg}{t:C7}{hq:Hp}(d:mb<=mb2)(a:rsoA ps dn mb n K t hq h):rsoA ps dn mb2 n K t hq h:=by
 obtain ⟨X,P,hs⟩:=a;obtain ⟨f,c,b,e⟩:=P.bd;exact ⟨X,⟨P.hn,P.hdn,P.pg,P.ok,P.sl,⟨by omega,by omega,b,by omega⟩,P.la,P.lu,P.im,P.up,P.lt,P.K,P.io,P.ow⟩,hs⟩
theorem Sep.toAR{K:Nat->Pg}{C0:Nat->Nat}{t:Option RqT}{hq:Hp}{mr2:Nat}(H:Sep z (rqA pq 400 mr n K C0 t hq::Γ) w)(b:∀p,p<=manyN n->FW C0 t p≠0)(a:mr<=mr2):Sep z (anyR pq n mr2::Γ) w:=by
 obtain ⟨Y,P,H⟩:=H.rq;have H2:=H.mono 5 (B:=rsoA Y.pt 400 mr2 n K (Iw t) hq) Z (λh q=>q.le a);have H3:Sep z (rqA pq 400 mr2 n K C0 t hq::Γ) w:=Sep.toRq (Y:=Y) H2 P Z;exact H3.mono 0 (B:=anyR pq n mr2) Z (λh q=>⟨_,_,_,_,b,q⟩)

theorem Vw(pp n mb:Nat):Aj 11 [V pp] [anyP Tb pp n mb] (λv G=>∃e:Int,v=Aa e/\G=[anyP Tb pp n (mb+2)]):=λz R w H=>by
 obtain ⟨M,C,t,H⟩:=H.aP
 cases t with
 | none=>
  refine Ret.mono (KT pp mb n M C z R w H) ?_;rintro v w' ⟨Γ',⟨rfl,rfl⟩,a⟩;exact ⟨_,⟨0,Z,Z⟩,Sep.toAP a U⟩
 | some T=>
  refine Ret.mono (Vi pp mb n M C T z R w H) ?_;rintro v w' ⟨Γ',⟨rfl,rfl⟩,a⟩;exact ⟨_,⟨17,Z,Z⟩,Sep.toAP a U⟩
theorem Vx(pp n mb:Nat)(f:Int)(bs:List UInt8)(d:bs.length=240)(b:Value)(B:Ah)(g:∀h,B h->rdH 1 b 240 (bs.map u8) h):Aj 12 [V pp,.agg #[Aa f,b]] [anyP Tb pp n mb,B] (λv G=>∃a e:Int,v=.tuple #[Aa a,Aa e]/\G=[anyP Tb pp n (mb+2),B]):=λz R w H=>by
 obtain ⟨M,C,t,H⟩:=H.aP
 cases t with
 | none=>
  refine Ret.mono (SJ pp mb n M C f bs b B g z R w H) ?_;rintro v w' ⟨Γ',⟨rfl,rfl⟩,c⟩;exact ⟨_,⟨0,18,Z,Z⟩,Sep.toAP c U⟩
 | some T=>
  refine Ret.mono (NK pp mb n M C T f bs d b B g z R w H) ?_;rintro v w' ⟨Γ',⟨T2,⟨e,_,rfl,_⟩|⟨p,i,x,_,rfl,_⟩,rfl⟩,c⟩
  ·exact ⟨_,⟨_,_,Z,Z⟩,Sep.toAP c U⟩
  exact ⟨_,⟨_,_,Z,Z⟩,Sep.toAP c U⟩
theorem SM(pp n mb:Nat)(b:mb<=1000000000):Aj 14 [V pp] [anyP Tb pp n mb] (λv G=>∃e:Int,v=Aa e/\G=[anyP Tb pp n (mb+2)]):=λz R w H=>by
 obtain ⟨M,C,t,H⟩:=H.aP
 cases t with
 | none=>
  refine Ret.mono (SK pp mb n M C z R w H) ?_;rintro v w' ⟨Γ',⟨rfl,rfl⟩,a⟩;exact ⟨_,⟨18,Z,Z⟩,Sep.toAP a U⟩
 | some T=>
  refine Ret.mono (SL pp mb n M C T b z R w H) ?_;rintro v w' ⟨Γ',⟨rfl,rfl⟩|⟨rfl,rfl⟩,a⟩
  ·exact ⟨_,⟨0,Z,Z⟩,Sep.toAP a (Ab9 _)⟩
  exact ⟨_,⟨16,Z,Z⟩,Sep.toAP a U⟩
theorem Vy(pp n mb:Nat)(p:Int)(d: -9223372036854775808<=p/\p<=9223372036854775807)(f:Int)(bs:List UInt8)(b:bs.length=240)(a:Value)(B:Ah)(g:∀h,B h->rdH 1 a 240 (bs.map u8) h):Aj 22 [V pp,Aa p,.agg #[Aa f,a]] [anyP Tb pp n mb,B] (λv G=>∃e:Int,v=Aa e/\G=[anyP Tb pp n (mb+2),B]):=λz R w H=>by
 obtain ⟨M,C,t,H⟩:=H.aP
 cases t with
 | none=>
  refine Ret.mono (Vt pp mb n M C p f bs a B g z R w H) ?_;rintro v w' ⟨Γ',⟨rfl,rfl⟩,c⟩;exact ⟨_,⟨18,Z,Z⟩,Sep.toAP c U⟩
 | some T=>
  refine Ret.mono (Vu pp mb n M C T p d f bs b a B g z R w H) ?_;rintro v w' ⟨Γ',⟨e,M2,i,rfl,rfl⟩,c⟩;exact ⟨_,⟨e,Z,Z⟩,Sep.toAP c U⟩
theorem Aaw(pp n mb:Nat)(p:Int)(b: -9223372036854775808<=p/\p<=9223372036854775807):Aj 17 [V pp,Aa p] [anyP Tb pp n mb] (λv G=>∃e:Int,v=Aa e/\G=[anyP Tb pp n (mb+2)]):=λz R w H=>by
 obtain ⟨M,C,t,H⟩:=H.aP
 cases t with
 | none=>
  refine Ret.mono (Aau pp mb n M C p z R w H) ?_;rintro v w' ⟨Γ',⟨rfl,rfl⟩,a⟩;exact ⟨_,⟨18,Z,Z⟩,Sep.toAP a U⟩
 | some T=>
  refine Ret.mono (Aav pp mb n M C T p b z R w H) ?_;rintro v w' ⟨Γ',⟨e,C2,rfl,rfl⟩,a⟩;exact ⟨_,⟨e,Z,Z⟩,Sep.toAP a U⟩
theorem Vz(pp n mb:Nat)(p:Int)(b: -9223372036854775808<=p/\p<=9223372036854775807):Aj 15 [V pp,Aa p] [anyP Tb pp n mb] (λv G=>∃e:Int,v=Aa e/\G=[anyP Tb pp n (mb+2)]):=λz R w H=>by
 obtain ⟨M,C,t,H⟩:=H.aP
 cases t with
 | none=>
  refine Ret.mono (Vv pp mb n M C p z R w H) ?_;rintro v w' ⟨Γ',⟨rfl,rfl⟩,a⟩;exact ⟨_,⟨18,Z,Z⟩,Sep.toAP a U⟩
 | some T=>
  refine Ret.mono (NM pp mb n M C T p b z R w H) ?_;rintro v w' ⟨Γ',⟨e,C2,rfl,rfl⟩,a⟩;exact ⟨_,⟨e,Z,Z⟩,Sep.toAP a U⟩
theorem VA(pp n mb:Nat):Aj 20 [V pp] [anyP Tb pp n mb] (λv G=>v=.tuple #[]/\G=[anyP Tb pp n (mb+2)]):=λz R w H=>by
 obtain ⟨M,C,t,H⟩:=H.aP;refine Ret.mono (NN pp mb n M C t z R w H) ?_;rintro v w' ⟨Γ',⟨rfl,rfl⟩,a⟩;exact ⟨_,⟨Z,Z⟩,Sep.toAP a U⟩

theorem VB(pq n mr:Nat):Aj 53 [V pq] [anyR pq n mr] (λv G=>∃e:Int,v=Aa e/\G=[anyR pq n (mr+1)]):=λz R w H=>by
 obtain ⟨K,C0,t,hq,b,H⟩:=H.aR
 cases t with
 | none=>
  refine Ret.mono (Yy pq 400 mr n K C0 hq z R w H) ?_;rintro v w' ⟨Γ',⟨rfl,rfl⟩,a⟩;exact ⟨_,⟨0,Z,Z⟩,Sep.toAR a b U⟩
 | some T=>
  refine Ret.mono (Vk pq 400 mr n K C0 T hq z R w H) ?_;rintro v w' ⟨Γ',⟨rfl,rfl⟩,a⟩;exact ⟨_,⟨17,Z,Z⟩,Sep.toAR a b U⟩
theorem JG{C:Nat->Nat}{p x q:Nat}(h:C q≠0)(a:q=p->x≠0):updN C p x q≠0:=by
 unfold updN;split
 ·rename_i e;exact a e
 exact h
theorem VC(pq n mr:Nat)(f:Int)(bs:List UInt8)(g:bs.length=240)(c:Value)(B:Ah)(j:∀h,B h->rdH 1 c 240 (bs.map u8) h):Aj 54 [V pq,.agg #[Aa f,c]] [anyR pq n mr,B] (λv G=>∃a e:Int,v=.tuple #[Aa a,Aa e]/\G=[anyR pq n (mr+1),B]):=λz R w H=>by
 obtain ⟨K,C0,t,hq,i,H⟩:=H.aR
 cases t with
 | none=>
  refine Ret.mono (Vl pq 400 mr n K C0 hq f bs c B j z R w H) ?_;rintro v w' ⟨Γ',⟨rfl,rfl⟩,d⟩;exact ⟨_,⟨0,18,Z,Z⟩,Sep.toAR d i U⟩
 | some T=>
  by_cases hall:∀q,q<n->T.Tk q=true
  ·refine Ret.mono (Vm pq 400 mr n K C0 T hq hall f bs c B j z R w H) ?_
   rintro v w' ⟨Γ',⟨rfl,rfl⟩,d⟩;exact ⟨_,⟨0,20,Z,Z⟩,Sep.toAR d i U⟩
  obtain ⟨p,hp,o⟩:=SG (F:=λq=>decide (q<n) && !T.Tk q) (AcQ λh=>hall λq hq=>by
   cases e:T.Tk q with
   | true=>rfl
   | false=>exact absurd ⟨q,by simp[hq,e]⟩ h)
  have b:p<n/\T.Tk p=false:=by simpa using hp
  refine Ret.mono (YA pq 400 mr n K C0 T hq p b.1 b.2 (λq hq=>by
   have l:=o q hq
   cases e:T.Tk q with
   | true=>rfl
   | false=>simp[e] at l;omega) f bs g c B j z R w H) ?_
  rintro v w' ⟨Γ',⟨m,rfl,rfl⟩,d⟩;refine ⟨_,⟨_,_,Z,Z⟩,Sep.toAR d (λq hq=>?_) U⟩;have k:T.C q≠0:=i q hq;show (if _=0 then updN T.C p 1 else T.C) q≠0;split
  ·exact JG k (λ_=>by omega)
  exact k
theorem SN(pq n mr:Nat)(f:mr<=1100000):Aj 55 [V pq] [anyR pq n mr] (λv G=>∃e:Int,v=Aa e/\G=[anyR pq n (mr+1)]):=λz R w H=>by
 obtain ⟨K,C0,t,hq,b,H⟩:=H.aR
 cases t with
 | none=>
  refine Ret.mono (SH pq 400 mr n K C0 hq z R w H) ?_;rintro v w' ⟨Γ',⟨rfl,rfl⟩,a⟩;exact ⟨_,⟨18,Z,Z⟩,Sep.toAR a b U⟩
 | some T=>
  have c:=H.says 0 Z (λh (q:rqA pq 400 mr n K C0 (some T) hq h)=>(⟨q.choose_spec.1.hn,q.choose_spec.1.one⟩:(16<=n/\n<=1024)/\∀p,p<=manyN n->C0 p≠0));refine Ret.mono (Vs pq 400 mr n K C0 T hq f b z R w H) ?_;rintro v w' ⟨Γ',⟨d,⟨_,rfl,rfl⟩|⟨_,rfl,rfl⟩⟩,a⟩
  ·exact ⟨_,⟨_,Z,Z⟩,Sep.toAR a b (Ab9 _)⟩
  exact ⟨_,⟨_,Z,Z⟩,Sep.toAR a c.2 U⟩
theorem VD(pq n mr:Nat)(p:Int)(i: -9223372036854775808<=p/\p<=9223372036854775807)(c:Int)(bs:List UInt8)(d:bs.length=240)(a:Value)(B:Ah)(g:∀h,B h->rdH 1 a 240 (bs.map u8) h):Aj 56 [V pq,Aa p,.agg #[Aa c,a]] [anyR pq n mr,B] (λv G=>∃e:Int,v=Aa e/\G=[anyR pq n (mr+1),B]):=λz R w H=>by
 obtain ⟨K,C0,t,hq,f,H⟩:=H.aR
 cases t with
 | none=>
  refine Ret.mono (Vo pq 400 mr n K C0 hq p c bs a B g z R w H) ?_;rintro v w' ⟨Γ',⟨rfl,rfl⟩,b⟩;exact ⟨_,⟨18,Z,Z⟩,Sep.toAR b f U⟩
 | some T=>
  by_cases hbad:Ds T.C n p=0\/(0<p/\p<=(manyN n:Int))
  ·refine Ret.mono (Vp pq 400 mr n K C0 T hq p i hbad c bs a B g z R w H) ?_
   rintro v w' ⟨Γ',⟨rfl,rfl⟩,b⟩;exact ⟨_,⟨2,Z,Z⟩,Sep.toAR b f U⟩
  obtain ⟨j,k⟩:=FB (λq=>hbad (.inl q));obtain ⟨p,rfl⟩:∃q:Nat,p=(q:Int):=⟨p.toNat,by omega⟩;refine Ret.mono (YB pq 400 mr n K C0 T hq p hbad c bs d a B g z R w H) ?_;rintro v w' ⟨Γ',⟨l,rfl,rfl⟩,b⟩;exact ⟨_,⟨_,Z,Z⟩,Sep.toAR b f U⟩
theorem SO{C:Nat->Nat}{n p:Nat}(hp:p<n)(h:Ds C n (p:Int)≠0):C p≠0:=λe=>h (by
 unfold Ds;split
 ·simp[e]
 rfl)
theorem Aax(pq n mr:Nat)(p:Int)(f: -9223372036854775808<=p/\p<=9223372036854775807):Aj 57 [V pq,Aa p] [anyR pq n mr] (λv G=>∃e:Int,v=Aa e/\G=[anyR pq n (mr+1)]):=λz R w H=>by
 obtain ⟨K,C0,t,hq,d,H⟩:=H.aR
 cases t with
 | none=>
  refine Ret.mono (Aar pq 400 mr n K C0 hq p z R w H) ?_;rintro v w' ⟨Γ',⟨rfl,rfl⟩,a⟩;exact ⟨_,⟨18,Z,Z⟩,Sep.toAR a d U⟩
 | some T=>
  by_cases hbad:Ds T.C n p=0\/p<=(manyN n:Int)
  ·refine Ret.mono (Aas pq 400 mr n K C0 T hq p f hbad z R w H) ?_
   rintro v w' ⟨Γ',⟨rfl,rfl⟩,a⟩;exact ⟨_,⟨2,Z,Z⟩,Sep.toAR a d U⟩
  obtain ⟨i,j⟩:=FB (λq=>hbad (.inl q));obtain ⟨p,rfl⟩:∃q:Nat,p=(q:Int):=⟨p.toNat,by omega⟩;have k:=SO U (λq=>hbad (.inl q));have b:manyN n<p:=Adz λr=>hbad (.inr U);have g:T.C p<=1000:=H.says 0 Z (λh (q:rqA pq 400 mr n K C0 (some T) hq h)=>q.choose_spec.1.c p);by_cases h9:T.C p=1000
  ·refine Ret.mono (Aat pq 400 mr n K C0 T hq p ⟨b,by omega⟩ h9 z R w H) ?_
   rintro v w' ⟨Γ',⟨rfl,rfl⟩,a⟩;exact ⟨_,⟨21,Z,Z⟩,Sep.toAR a d U⟩
  refine Ret.mono (Aa9 pq 400 mr n K C0 T hq p ⟨b,by omega⟩ ⟨by omega,by omega⟩ z R w H) ?_;rintro v w' ⟨Γ',⟨rfl,rfl⟩,a⟩;exact ⟨_,⟨0,Z,Z⟩,Sep.toAR a (λq hq=>JG (d q hq) (λe=>by omega)) U⟩
theorem VE(pq n mr:Nat)(p:Int)(d: -9223372036854775808<=p/\p<=9223372036854775807):Aj 58 [V pq,Aa p] [anyR pq n mr] (λv G=>∃e:Int,v=Aa e/\G=[anyR pq n (mr+1)]):=λz R w H=>by
 obtain ⟨K,C0,t,hq,c,H⟩:=H.aR
 cases t with
 | none=>
  refine Ret.mono (Vq pq 400 mr n K C0 hq p z R w H) ?_;rintro v w' ⟨Γ',⟨rfl,rfl⟩,a⟩;exact ⟨_,⟨18,Z,Z⟩,Sep.toAR a c U⟩
 | some T=>
  by_cases hbad:Ds T.C n p=0\/p<=(manyN n:Int)
  ·refine Ret.mono (Vr pq 400 mr n K C0 T hq p d hbad z R w H) ?_
   rintro v w' ⟨Γ',⟨rfl,rfl⟩,a⟩;exact ⟨_,⟨2,Z,Z⟩,Sep.toAR a c U⟩
  obtain ⟨f,g⟩:=FB (λq=>hbad (.inl q));obtain ⟨p,rfl⟩:∃q:Nat,p=(q:Int):=⟨p.toNat,by omega⟩;have h:=SO U (λq=>hbad (.inl q));have b:manyN n<p:=Adz λr=>hbad (.inr U);refine Ret.mono (YC pq 400 mr n K C0 T hq p ⟨b,by omega⟩ U z R w H) ?_;rintro v w' ⟨Γ',⟨rfl,rfl⟩,a⟩;exact ⟨_,⟨0,Z,Z⟩,Sep.toAR a (λq hq=>JG (c q hq) (λe=>by omega)) U⟩
theorem VF(pq n mr:Nat):Aj 26 [V pq] [anyR pq n mr] (λv G=>v=.tuple #[]/\G=[anyR pq n (mr+1)]):=λz R w H=>by
 obtain ⟨K,C0,t,hq,c,H⟩:=H.aR;have a:=H.says 0 Z (λh (q:rqA pq 400 mr n K C0 t hq h)=>q.choose_spec.1.one);refine Ret.mono (Yz pq 400 mr n K C0 t hq z R w H) ?_;rintro v w' ⟨Γ',⟨rfl,rfl⟩,b⟩;exact ⟨_,⟨Z,Z⟩,Sep.toAR b a U⟩
end
end
theorem YD{n:Nat}{cb:List UInt8}{a:List ImE}(b:16<=n/\n<=298)(h:a.map Prod.fst=Dk [] ((CJ n cb).flatMap Rc.ims)){g:Nat}(f:g<=1)(x:List UInt8){p:Nat}(hp:manyN n<p/\p<n):BE (Eo (DV n 300 90 cb) a) g x (2+p)=List.replicate 256 0:=by
 have e:(CJ n cb).flatMap Rc.ims=Ct n cb (manyN n+1):=by simp[CJ]
 rw[e,HF (by rw[Ab3];exact Gw _ _ _),Ab3] at h;rw[upf_other _ _ U,Nu,h,putQ_off (λm c=>by
  obtain ⟨i,d,rfl⟩:=D8 c;rw[CB];omega)]
 unfold DV;rw[HB (.inl U)];unfold Ir;rw[upf_other _ _ U];exact K0 n 300 90 U
theorem YE{z w:World}{Γ:List Ah}{pq pt i j bw m o n l:Nat}{g:Value}{cb:List UInt8}{a:List ImE}(b:16<=n/\n<=298)(q:cb.length=240)(r:l<=4000)(h:a.map Prod.fst=Dk [] ((CJ n cb).flatMap Rc.ims))
  (H:Sep z (pqB pq pt i g::grow 4 1 g n (FV (C1 (manyN n+1)) n)::Iv i j bw n::Aw j (C1 (manyN n+1)) n::Aw bw (C1 (manyN n+1)) n::rsB pt m o (BF (Bi n 300 90)) (.slice none 0 0) false (.slice none 0 0)::Pc o m (BF (Bi n 300 90)) 0 1 0::rdkA m 400 (BE (Eo (DV n 300 90 cb) a) ((BF (Bi n 300 90)).gen%2).toNat (BC (BF (Bi n 300 90)))) (l+a.length+1)::Γ) w):Sep z (anyR pq n 1::Γ) w:=by
 have s:=DO (n:=n) U;have t:a.length<=10:=by
  have e:(CJ n cb).flatMap Rc.ims=Ct n cb (manyN n+1):=by simp[CJ]
  rw[e,HF (by rw[Ab3];exact Gw _ _ _),Ab3] at h;rw[<-AbN (f:=Prod.fst),h,DH];omega
 have k:((BF (Bi n 300 90)).gen%2).toNat<=1:=by show (((2:Int)+1+1)%2).toNat<=1;decide
 have H2:=E9 H;have H3:=H2.pick 9 [6,7,8,0,1,2,3,4,5] Z;have H4:Sep z (rsoA pt 400 1 n (λp=>if p<=manyN n then DB (Fg n cb p) else C5) none (λ_=>none)::pqB pq pt i g::YthbbejpbkglmlaaGreatDoor.grow 4 1 g n (FV (C1 (manyN n+1)) n)::Iv i j bw n::Aw j (C1 (manyN n+1)) n::Aw bw (C1 (manyN n+1)) n::Γ) w:=
  H3.toRso (X:=⟨m,o,BF (Bi n 300 90),BF (Bi n 300 90),.slice none 0 0,.slice none 0 0,[],[],_,l+a.length+1,0,1,0⟩) ⟨⟨b.1,by omega⟩,⟨by omega,by omega⟩,Z,KY (Nx (Fh b)) (by show (2:Int)+1<_;omega) (by show (1:Int)+1<_;omega),⟨Z,Z,by show (0:Int)<=1+1+1;omega,by show (1:Int)+1+1<=1000;omega⟩,⟨by show l+a.length+1<=_;omega,by show (2:Int)+1+1<=10+((1:Nat):Int);omega,by show (0:Int)<=1;omega,by show (1:Int)<=10+((1:Nat):Int);omega⟩,⟨by show (0:Int)<=0;omega,by show (0:Int)<90;omega⟩,⟨by show (0:Int)<=0;omega,by show (0:Int)<=90;omega,.inl Z⟩,imP.nil _,.nil,λ_ h=>(nomatch h),λp hp=>.inr ⟨λ_ h=>(nomatch h),by
   by_cases c:p<=manyN n
   ·rw[if_pos c];exact .inr ⟨Fg n cb p,Hd q U,CB _ _ _ _,K1 h k _ c,Z⟩
   rw[if_neg c];exact .inl ⟨YD b h k _ ⟨by omega,hp⟩,Z⟩⟩,imP.nil _,Z⟩ Z
 have d:∀p,p<=manyN n->C1 (manyN n+1) p≠0:=λp hp=>by unfold C1;rw[if_pos U];omega
 have H5:Sep z (rqA pq 400 1 n (λp=>if p<=manyN n then DB (Fg n cb p) else C5) (C1 (manyN n+1)) none (λ_=>none)::Γ) w:=(H4.pick 6 [1,2,3,4,5,0] Z).toRq (Y:=⟨pt,i,j,bw,g⟩) (RqP.idle ⟨b.1,by omega⟩ (F1 _) d) Z;exact Sep.toAR H5 d (Ab9 _)
set_option maxHeartbeats 2000000 in
theorem VG (q pd pr n:Nat) (c:16<=n/\n<=298) (Tb:Ah) (hT:Fw Tb) (D2:Dsk) (a:StG) (bs:List UInt8) (y:bs.length=256) (hO:OInv D2 a.x a.B (λb=>b=a.rs)) (u:Clean D2) (a0:a.x.gen<=((5:Nat):Int)/\a.x.epoch<=((5:Nat):Int)) (l:a.x.pages=n) (hM:a.M=Cb (λ_=>C5) (some (gF n (bs.take 240) (manyN n),1+manyN n))) (cb:List UInt8) (f:cb.length=240) (m2:Nat) (s:m2<=4000):Aj 37 [V q] [blk q [V pd,V pr,.pointer none,.pointer none] 32,diskA pd D2,Tb,rdkA pr 400 (DV n 300 90 cb) m2] (λv G=>∃(pp pq:Nat) (M0:Nat->Pg),v=.bool true/\G=[blk q [V pd,V pr,V pp,V pq] 32,poA Tb pp 6 n M0 (C1 (manyN n+1)) none,anyR pq n 1]):=by
 intro z R w H;replace H:=H.l4;have g:16<=n/\n<=1024:=⟨c.1,by omega⟩;refine Ac func37 Z ntmps37 Z (Z4 27 [2,0,3,0,0,0,0] H Z ?_);intro w H;refine AA Z (call30 _) (MW _ _ _ _ _ _ hO u a0 U) H.f1 ?_;rintro _ w _ ⟨ps,D3,b,j,o,a3,rfl,rfl⟩ H;replace H:=H.l4;have r:pgMap (ov b) a.B=a.M:=by rw[j];rfl
 obtain ⟨a1,h⟩:=LK (n:=n) y (r.trans hM);refine Z2 13 [1,1,0] H Z (AA Z (call89 _) (JA _ 400 _ U U (DV n 300 90 cb) (Bw (n:Int) 300 90 2) (Bi n 300 90) (Bi n 300 90) (Wf n 90 cb U) (Wg n 90 cb U) (Fh c) (Nx (Fh c)) Z Z (.inl ⟨by show (2:Int)<2+1;omega,Z⟩) U Z (by show (2:Int)+1<1099511627776;omega) (by show (1:Int)+1<4294967296;omega) (CJ n cb) (by simp[CJ]) (O7 g.2 U) (by show (1:Int)+((1:Nat):Int)<1099511627776;omega) (Wh f g.2 U) (O6 g.2 U U)) H.f3 ?_);rintro _ w _ ⟨pt,pl,a4,d,a2,rfl,rfl⟩ H;refine Z0 18 [4] Z (Ad Z (QG Z J Z Z) (Pk 41 Z Z (Zc 19 Z (AA Z (call31 _) (O0 _ _ _ _ 6 n (C1 (manyN n+1)) o g l (bs.take 240) a1 h (λk=>F1 _ k) (λp hp=>by unfold C1;rw[if_pos U])) H.f3 ?_))));rintro _ w _ ⟨pp,pc,bn,m,pa,rfl,rfl⟩ H;refine Zc 10 Z (AA Z (call98 _) (NA _ _ 400 _ n (BF (Bi n 300 90)) _ _ (C1 (manyN n+1)) g Z U cb f (λi hi=>K1 d (by show (((2:Int)+1+1)%2).toNat<=1;decide) _ hi) (F1 _) (λp hp=>by unfold C1;rw[if_pos U])) H.f8.f7 ?_);rintro _ w _ ⟨pq,qc,qn,qw,tv,rfl,rfl⟩ H;refine Z4 35 [2,14,3,14,3] H Z ?_;intro w H;refine Ad Z (QF Z J Z Z) (YU 71 Z Z (Zc 5 Z (Zr Z ?_)));have H7:=YE c f s d (H.pick 16 [0,1,2,3,4,5,13,6,8,7,9,10,11,12,15,14] Z);have H8:=(H7.pick 9 [1,2,3,4,5,6,7,8,0] Z).toPo (X:=⟨ps,pd,pc,bn,m,pa,D3,(MV a.x (pgMap (ov b) a.B)),CD,[],0,By,Tb⟩) (mb:=6) (n:=n) (M0:=pgMap (ov b) a.B) (C0:=C1 (manyN n+1)) (t:=none) ⟨g,o,l,⟨hT,Z⟩,λp _=>rfl,h,λk=>F1 _ k,λp hp=>(by unfold C1;rw[if_pos U]),λ_=>⟨Z,Z⟩,λ_ e=>(by cases e)⟩ Z;exact ⟨_,⟨_,_,_,Z,Z⟩,H8.pick 3 [1,0,2] Z⟩
set_option maxHeartbeats 2000000 in
theorem SP (n:Nat) (a:16<=n/\n<=298) (Tb:Ah) (p:Fw Tb):Aj 9 [Aa (n:Int)] [Tb] (λv G=>∃(j pd h pp pq:Nat) (M0:Nat->Pg),v=.tuple #[V j,.bool true]/\G=[blk j [V pd,V h,V pp,V pq] 32,poA Tb pp 6 n M0 (C1 (manyN n+1)) none,anyR pq n 1]):=by
 intro z R w H;replace H:=H.l1;have i:16<=n/\n<=1024:=⟨a.1,by omega⟩;refine Ac func9 Z ntmps9 Z (Zc 8 Z (AA Z (call33 _) (Rw 400) H ?_));rintro _ w _ (⟨b,rfl,rfl⟩|⟨_,pd,rfl,rfl⟩) k
 ·exact absurd U b
 have H:=k.l2;refine Zc 9 Z (AA Z (call34 _) (Sb 400 U) H ?_);rintro _ w _ ⟨h,rfl,rfl⟩ H;refine Za 31 [4] H Z ?_;intro s w H;refine Zc 7 Z (AA Z (call35 _) (LA _ 400 n _ _ i (Fh a)) H.f2 ?_);rintro _ w _ ⟨D2,G2,bs,e,q,c,f,l,d,o,rfl,rfl⟩ H;refine Zc 7 Z (AA Z (call36 _) (Kj _ 400 0 n U U 300 90 i (Fh a)) H.f2 ?_);rintro _ w _ ⟨cb,r,g,m,rfl,rfl⟩ H;refine Z0 17 [4] Z (AA Z (call37 _) (VG _ _ _ n a Tb p _ _ bs e q c f d o cb g r U) H.f3.f2.f3 ?_);rintro _ w _ ⟨pp,pq,M0,rfl,rfl⟩ H;refine Zc 12 Z (Zr Z ?_);exact ⟨_,⟨s,pd,h,pp,pq,M0,Z,Z⟩,H.pick 3 [0,1,2] Z⟩
section
section
variable{Tb:Ah}{z w:World}{Γ:List Ah}{pp pq n mb mr ps pd:Nat}{M0:Nat->Pg}{C0:Nat->Nat}{t:Option PoT}
theorem K4(h:Hp):rdH 1 (.slice none 0 0) ([]:List UInt8).length (([]:List UInt8).map u8) h:=⟨none,0,Z,by simp,by omega,Z,λj u h=>by simp at h⟩
theorem Pe{X:PoX}(i:PoP Tb mb n M0 C0 t X)(p:Int):Aj 21 [.pointer (some ⟨X.ps,0,none⟩),Aa p] [stoA X.ps X.pd X.D X.G (Gt X.g t)] (λv K=>∃(f e:Int) (bs:List UInt8) (c:Value) (B:Ah),(∀h,B h->rdH 1 c bs.length (bs.map u8) h)/\v=.tuple #[.agg #[Aa f,c],Aa e]/\K=[B,stoA X.ps X.pd X.D X.G (Gt X.g t)]):=λz R w H=>by
 by_cases hp:0<=p/\p<X.G.x.pages
 ·obtain ⟨p,rfl⟩:∃q:Nat,p=(q:Int):=⟨p.toNat,by omega⟩
  refine Ret.mono (RF X.ps X.pd X.D X.G (Gt X.g t) p hp.2 i.fine.clean.f1 _ Z z R w H) ?_;rintro v w' ⟨Γ',⟨_,rfl,rfl⟩|⟨_,d,rfl,rfl⟩,a⟩
  ·exact ⟨_,⟨0,0,[],_,poolA (λ_=>none),λh _=>K4 h,Z,Z⟩,E9 a⟩
  rename_i b;exact ⟨_,⟨_,0,_,d,_,λh q=>by rw[b.2];exact q.rd,Z,Z⟩,a⟩
 refine Ret.mono (Yx X.ps X.pd X.D X.G (Gt X.g t) p U z R w H) ?_;rintro v w' ⟨Γ',⟨rfl,rfl⟩,a⟩;exact ⟨_,⟨0,2,[],_,poolA (λ_=>none),λh _=>K4 h,Z,Z⟩,E9 a⟩
theorem YF{X:PoX}(b:PoP Tb mb n M0 C0 t X):Aj 28 [.pointer (some ⟨X.ps,0,none⟩)] [stoA X.ps X.pd X.D X.G (Gt X.g t)] (λv K=>∃(e:Int) (c:Dsk) (d:StG),PoP Tb mb n M0 C0 t {X with D:=c,G:=d} /\v=Aa e/\K=[stoA X.ps X.pd c d (Gt X.g t)]):=λz R w H=>by
 cases t with
 | none=>
  refine Ret.mono (sync_s X.ps X.pd X.D X.G mb b.fine z R w H) ?_;rintro v w' ⟨Γ',⟨rfl,f,rfl⟩,a⟩;exact ⟨_,⟨0,_,_,b.sync f,Z,Z⟩,a⟩
 | some T=>
  refine Ret.mono (Yw X.ps X.pd X.D X.G (X.g,T.k) z R w H) ?_;rintro v w' ⟨Γ',⟨rfl,rfl⟩,a⟩;exact ⟨_,⟨17,_,_,b,Z,Z⟩,a⟩
theorem IU(ps dn mb n:Nat)(K:Nat->Pg)(t:C7)(hq:Hp)(p:Int):Aj 32 [V ps,Aa p] [rsoA ps dn mb n K t hq] (λv G=>∃(f e:Int) (bs:List UInt8) (b:Value) (a:Hp),rdH 1 b bs.length (bs.map u8) a/\v=.tuple #[.agg #[Aa f,b],Aa e]/\G=[rsoA ps dn mb n K t a]):=λz R w H=>by
 by_cases hp:0<=p/\p<n
 ·obtain ⟨p,rfl⟩:∃q:Nat,p=(q:Int):=⟨p.toNat,by omega⟩
  refine Ret.mono (Aaq ps dn mb n K t hq p U z R w H) ?_;rintro v w' ⟨Γ',⟨b,a,d,rfl,rfl⟩,c⟩;exact ⟨_,⟨_,0,_,b,a,d,Z,Z⟩,c⟩
 refine Ret.mono (Yo ps dn mb n K t hq p U z R w H) ?_;rintro v w' ⟨Γ',⟨rfl,rfl⟩,c⟩;exact ⟨_,⟨0,2,[],_,hq,K4 _,Z,Z⟩,c⟩
theorem YG(ps dn mb n:Nat)(K:Nat->Pg)(t:C7)(hq:Hp):Aj 59 [V ps] [rsoA ps dn mb n K t hq] (λv G=>∃e:Int,v=Aa e/\G=[rsoA ps dn mb n K t hq]):=by
 cases t with
 | none=>exact (Aap ps dn mb n K hq).mono λv Γ ⟨b,a⟩=>⟨0,b,a⟩
 | some o=>exact (Ym ps dn mb n K o hq).mono λv Γ ⟨b,a⟩=>⟨17,b,a⟩
end
theorem HK(a1 a2:Int)(e c:Value)(l a:List UInt8)(A B:Ah)(f:∀h,A h->rdH 1 e l.length (l.map u8) h)(d:∀h,B h->rdH 1 c a.length (a.map u8) h):Aj 24 [.agg #[Aa a1,e],.agg #[Aa a2,c]] [A,B] (λv G=>v=.bool (decide (a1=a2/\l=a))/\G=[A,B]):=by
 intro z R w H;replace H:=H.l2;obtain ⟨i,k,rfl⟩:=H.sy 0 (λq=>(f _ q).slc);obtain ⟨g,m,rfl⟩:=H.sy 1 (λq=>(d _ q).slc);refine Ac func24 Z ntmps24 Z (Za 2 [] H Z ?_);intro n w H;refine Za 0 [] H Z ?_;intro j w H;refine Z2 11 [0,1,0,0,0,0,0] H Z (Ak 10 Z (λb=>?_) (λb=>?_))
 ·refine Z2 2 [1,1,0] H Z (Ad Z (DI (l:=l) Z J J Z (AB (H.rd 2 Z f))) (Z2 2 [1,0,0] H Z (Ad Z (DI (l:=a) Z J J Z (AB (H.rd 3 Z d))) (Ad Z (Md Z J Z Z) (Zc 5 Z (Zr Z ?_))))));exact ⟨_,⟨congrArg Value.bool (by simp[b]),Z⟩,H.perm 4 [2,3] Z Z⟩
 refine Zc 12 Z (Zr Z ?_);exact ⟨_,⟨congrArg Value.bool (by simp[b]),Z⟩,H.perm 4 [2,3] Z Z⟩
end
set_option maxHeartbeats 8000000 in
theorem YH (r pd t pp pq mb mr:Nat) (Tb:Ah) (p i f j:Int) (a9: -9223372036854775808<=p/\p<=9223372036854775807) (a2: -9223372036854775808<=i/\i<=9223372036854775807) (c8:pkI p 11<9) (c0:mb<=1000000000) (d3:mr<=1100000):Aj 19 [V r,.agg #[Aa p,Aa i,Aa f,Aa j,Aa 0,.slice none 0 0]] [blk r [V pd,V t,V pp,V pq] 32,anyP Tb pp 40 mb,anyR pq 40 mr] (λv G=>∃b:Bool,v=.bool b/\G=[blk r [V pd,V t,V pp,V pq] 32,anyP Tb pp 40 (mb+2),anyR pq 40 (mr+1)]):=by
 intro z R w H;replace H:=H.l3;refine Ac func19 Z ntmps19 Z (Za 2 [] H Z ?_);intro b1 w H;refine Z2 8 [0,0,0] H Z (Ai Z (call8 _) (O9 p 11 a9 U) H ?_);intro w H;refine Z0 9 [0] Z (Ag Z (λh1=>?_) (λh1=>?_))
 ·refine Zc 1 Z ?_;replace H:=H.f1;refine AK (Sep z (blk r [V pd,V t,V pp,V pq] 32::R)) 12 Z J (A4 H λw a=>?_)
  have H:=a.l4;refine A6 [0,1,2,3,5,6,7,8] [2,0,3,0] J (λ_ c=>(AQ (c.blk 0 Z) AJ)) (by exact H.pick 4 [0] Z) Z J Z Z (An [4] J O (Ar (Ba Z Z Z Z Z Z (λw=>call11 _ w) (Vw _ _ _) H.f2 Z ?_)));rintro _ w _ ⟨e2,rfl,rfl⟩ H;replace H:=H.l4;refine Am (λ_=>(H.pick 4 [1] Z)) (An [9] J O (Ar (Ba Z Z Z Z Z Z (λw=>call53 _ w) (VB _ _ _) H.f3 Z ?_)));rintro _ w _ ⟨e4,rfl,rfl⟩ H;replace H:=H.l4;refine Am (λ_=>(H.pick 4 [2] Z)) (A6 [10] [] J (λ_ _=>AJ) (by exact H.pick 4 [2] Z) Z J Z Z (An [11] J O (Ar (B5 Z Z Z Z (AS Z Z) (Am (λh=>absurd Z h) (AT J (gn (Zc 2 Z (Zr Z ?_)))))))));have a:=H.pick 4 [2,1,0] Z;exact ⟨_,⟨_,Z,Z⟩,a⟩
 refine Z0 6 [0] Z (Ag Z (λh2=>?_) (λh2=>?_))
 ·refine Zc 1 Z ?_;replace H:=H.f1;refine AK (Sep z (blk r [V pd,V t,V pp,V pq] 32::blk b1 [Aa p,Aa i,Aa f,Aa j,Aa 0,.slice none 0 0] 43::R)) 12 Z J (A4 H λw a=>?_)
  have H:=a.l4;refine A6 [0,1,2,3] [2,0] J (λ_ c=>(AQ (c.blk 0 Z) AJ)) (by exact H.pick 4 [0,1] Z) Z J Z Z (AR 4 J Z Z J J J Z Z Z (Bt Z Z (vs:=[Aa p,Aa i,Aa f,Aa j,Aa 0,.slice none 0 0]) J (λ_ c=>(c.blk 1 Z).part 0 6 _ Z)) (H.pick 4 [0,1] Z) (An [5] J O (Ar (Ba Z Z Z Z Z Z (λw=>call13 _ w) (E2 _ _ f j _ (.slice none 0 0) Z) H Z ?_))));rintro _ w _ ⟨d6,rfl,rfl⟩ H;replace H:=H.l5;refine Am (λ_=>(H.pick 5 [1,2] Z)) (An [6] J O (Ar (Ba Z Z Z Z Z Z (λw=>call12 _ w) (Vx _ _ _ f (Gx f j).body (CW _ _) _ _ (λh q=>E3 q (by rw[AbN];exact CW _ _))) H.f3 Z ?_)));rintro _ w _ ⟨a8,e7,rfl,rfl⟩ H;replace H:=H.l5;refine Am (λ_=>(H.pick 5 [2,3] Z)) (A6 [7,8,9] [] J (λ_ _=>AJ) (by exact H.pick 5 [2,3] Z) Z J Z Z (An [10] J O (Ar (B5 Z Z Z Z (AS Z Z) (Am (λ_=>(H.pick 5 [2,3] Z)) (An [11] J O (Ar (B5 Z Z Z Z (AS Z Z) (Am (λh=>absurd Z h) (AT J (gn (Zc 2 Z ?_))))))))))));replace H:=H.f3.f3;refine AK (Sep z (blk r [V pd,V t,V pp,V pq] 32::blk b1 [Aa p,Aa i,Aa f,Aa j,Aa 0,.slice none 0 0] 43::R)) 12 Z J (A4 H λw a=>?_);have H:=a.l5;refine A6 [0,1,2,3] [3,0] J (λ_ c=>(AQ (c.blk 0 Z) AJ)) (by exact H.pick 5 [0,1] Z) Z J Z Z (AR 4 J Z Z J J J Z Z Z (Bt Z Z (vs:=[Aa p,Aa i,Aa f,Aa j,Aa 0,.slice none 0 0]) J (λ_ c=>(c.blk 1 Z).part 0 6 _ Z)) (H.pick 5 [0,1] Z) (An [5] J O (Ar (Ba Z Z Z Z Z Z (λw=>call13 _ w) (E2 _ _ f j _ (.slice none 0 0) Z) H Z ?_))));rintro _ w _ ⟨c9,rfl,rfl⟩ H;replace H:=H.l6;refine Am (λ_=>(H.pick 6 [1,2] Z)) (An [6] J O (Ar (Ba Z Z Z Z Z Z (λw=>call54 _ w) (VC _ _ _ f (Gx f j).body (CW _ _) _ _ (λh q=>E3 q (by rw[AbN];exact CW _ _))) H.f5 Z ?_)));rintro _ w _ ⟨a11,c6,rfl,rfl⟩ H;replace H:=H.l6;refine Am (λ_=>(H.pick 6 [2,3] Z)) (A6 [7,8,9] [] J (λ_ _=>AJ) (by exact H.pick 6 [2,3] Z) Z J Z Z (An [10] J O (Ar (B5 Z Z Z Z (AS Z Z) (Am (λ_=>(H.pick 6 [2,3] Z)) (An [11] J O (Ar (B5 Z Z Z Z (AS Z Z) (Am (λh=>absurd Z h) (AT J (gn (Z0 7 [0] Z (Ak 55 Z (λh3=>?_) (λh3=>?_))))))))))))))
  ·refine Z0 8 [0] Z (Zr Z ?_);have a:=H.pick 6 [2,4,0] Z
   exact ⟨_,⟨_,Z,Z⟩,a⟩
  refine Zc 8 Z (Zr Z ?_);have a:=H.pick 6 [2,4,0] Z;exact ⟨_,⟨_,Z,Z⟩,a⟩
 refine Z0 6 [0] Z (Ag Z (λh4=>?_) (λh4=>?_))
 ·refine Zc 1 Z ?_;replace H:=H.f1;refine AK (Sep z (blk r [V pd,V t,V pp,V pq] 32::R)) 12 Z J (A4 H λw a=>?_)
  have H:=a.l4;refine A6 [0,1,2,3,5,6,7,8] [2,0,3,0] J (λ_ c=>(AQ (c.blk 0 Z) AJ)) (by exact H.pick 4 [0] Z) Z J Z Z (An [4] J O (Ar (Ba Z Z Z Z Z Z (λw=>call14 _ w) (SM _ _ _ U) H.f2 Z ?_)));rintro _ w _ ⟨c3,rfl,rfl⟩ H;replace H:=H.l4;refine Am (λ_=>(H.pick 4 [1] Z)) (An [9] J O (Ar (Ba Z Z Z Z Z Z (λw=>call55 _ w) (SN _ _ _ U) H.f3 Z ?_)));rintro _ w _ ⟨d2,rfl,rfl⟩ H;replace H:=H.l4;refine Am (λ_=>(H.pick 4 [2] Z)) (A6 [10] [] J (λ_ _=>AJ) (by exact H.pick 4 [2] Z) Z J Z Z (An [11] J O (Ar (B5 Z Z Z Z (AS Z Z) (Am (λh=>absurd Z h) (AT J (gn (Zc 2 Z (Zr Z ?_)))))))));have a:=H.pick 4 [2,1,0] Z;exact ⟨_,⟨_,Z,Z⟩,a⟩
 refine Z0 6 [0] Z (Ag Z (λh5=>?_) (λh5=>?_))
 ·refine Zc 1 Z ?_;replace H:=H.f1;refine AK (Sep z (blk r [V pd,V t,V pp,V pq] 32::blk b1 [Aa p,Aa i,Aa f,Aa j,Aa 0,.slice none 0 0] 43::R)) 20 Z J (A4 H λw a=>?_)
  have H:=a.l4;refine A6 [0,1,2,3,4,5] [2,0,1,1] J (λ_ c=>(AQ (c.blk 0 Z) (AQ (c.blk 1 Z) AJ))) (by exact H.pick 4 [0,1] Z) Z J Z Z (AR 6 J Z Z J J J Z Z Z (Bt Z Z (vs:=[Aa p,Aa i,Aa f,Aa j,Aa 0,.slice none 0 0]) J (λ_ c=>(c.blk 1 Z).part 0 6 _ Z)) (H.pick 4 [0,1] Z) (A6 [9,10,11,12,13,14] [3,0,1,1] J (λ_ c=>(AQ (c.blk 0 Z) (AQ (c.blk 1 Z) AJ))) (by exact H.pick 4 [0,1] Z) Z J Z Z (AR 15 J Z Z J J J Z Z Z (Bt Z Z (vs:=[Aa p,Aa i,Aa f,Aa j,Aa 0,.slice none 0 0]) J (λ_ c=>(c.blk 1 Z).part 0 6 _ Z)) (H.pick 4 [0,1] Z) (An [7] J O (Ar (Ba Z Z Z Z Z Z (λw=>call13 _ w) (E2 _ _ f j _ (.slice none 0 0) Z) H Z ?_))))));rintro _ w _ ⟨b8,rfl,rfl⟩ H;replace H:=H.l5;refine Am (λ_=>(H.pick 5 [1,2] Z)) (An [8] J O (Ar (Ba Z Z Z Z Z Z (λw=>call22 _ w) (Vy _ _ _ i a2 f (Gx f j).body (CW _ _) _ _ (λh q=>E3 q (by rw[AbN];exact CW _ _))) H.f3 Z ?_)));rintro _ w _ ⟨c5,rfl,rfl⟩ H;replace H:=H.l5;refine Am (λ_=>(H.pick 5 [2,3] Z)) (An [16] J O (Ar (Ba Z Z Z Z Z Z (λw=>call13 _ w) (E2 _ _ f j _ (.slice none 0 0) Z) H Z ?_)));rintro _ w _ ⟨b9,rfl,rfl⟩ H;replace H:=H.l6;refine Am (λ_=>(H.pick 6 [3,4] Z)) (An [17] J O (Ar (Ba Z Z Z Z Z Z (λw=>call56 _ w) (VD _ _ _ i a2 f (Gx f j).body (CW _ _) _ _ (λh q=>E3 q (by rw[AbN];exact CW _ _))) H.f5 Z ?_)));rintro _ w _ ⟨d0,rfl,rfl⟩ H;replace H:=H.l6;refine Am (λ_=>(H.pick 6 [4,5] Z)) (A6 [18] [] J (λ_ _=>AJ) (by exact H.pick 6 [4,5] Z) Z J Z Z (An [19] J O (Ar (B5 Z Z Z Z (AS Z Z) (Am (λh=>absurd Z h) (AT J (gn (Zc 2 Z (Zr Z ?_)))))))));have a:=H.pick 6 [4,2,0] Z;exact ⟨_,⟨_,Z,Z⟩,a⟩
 refine Z0 6 [0] Z (Ag Z (λh6=>?_) (λh6=>?_))
 ·refine Zc 1 Z ?_;replace H:=H.f1;refine AK (Sep z (blk r [V pd,V t,V pp,V pq] 32::blk b1 [Aa p,Aa i,Aa f,Aa j,Aa 0,.slice none 0 0] 43::R)) 16 Z J (A4 H λw a=>?_)
  have H:=a.l4;refine A6 [0,1,2,3,4,5,7,8,9,10,11,12] [2,0,1,1,3,0,1,1] J (λ_ c=>(AQ (c.blk 0 Z) (AQ (c.blk 1 Z) AJ))) (by exact H.pick 4 [0,1] Z) Z J Z Z (An [6] J O (Ar (Ba Z Z Z Z Z Z (λw=>call17 _ w) (Aaw _ _ _ i a2) H.f2 Z ?_)));rintro _ w _ ⟨c2,rfl,rfl⟩ H;replace H:=H.l4;refine Am (λ_=>(H.pick 4 [1,2] Z)) (An [13] J O (Ar (Ba Z Z Z Z Z Z (λw=>call57 _ w) (Aax _ _ _ i a2) H.f3 Z ?_)));rintro _ w _ ⟨c1,rfl,rfl⟩ H;replace H:=H.l4;refine Am (λ_=>(H.pick 4 [2,3] Z)) (A6 [14] [] J (λ_ _=>AJ) (by exact H.pick 4 [2,3] Z) Z J Z Z (An [15] J O (Ar (B5 Z Z Z Z (AS Z Z) (Am (λh=>absurd Z h) (AT J (gn (Zc 2 Z (Zr Z ?_)))))))));have a:=H.pick 4 [2,1,0] Z;exact ⟨_,⟨_,Z,Z⟩,a⟩
 refine Z0 6 [0] Z (Ag Z (λh7=>?_) (λh7=>?_))
 ·refine Zc 1 Z ?_;replace H:=H.f1;refine AK (Sep z (blk r [V pd,V t,V pp,V pq] 32::blk b1 [Aa p,Aa i,Aa f,Aa j,Aa 0,.slice none 0 0] 43::R)) 16 Z J (A4 H λw a=>?_)
  have H:=a.l4;refine A6 [0,1,2,3,4,5,7,8,9,10,11,12] [2,0,1,1,3,0,1,1] J (λ_ c=>(AQ (c.blk 0 Z) (AQ (c.blk 1 Z) AJ))) (by exact H.pick 4 [0,1] Z) Z J Z Z (An [6] J O (Ar (Ba Z Z Z Z Z Z (λw=>call15 _ w) (Vz _ _ _ i a2) H.f2 Z ?_)));rintro _ w _ ⟨d1,rfl,rfl⟩ H;replace H:=H.l4;refine Am (λ_=>(H.pick 4 [1,2] Z)) (An [13] J O (Ar (Ba Z Z Z Z Z Z (λw=>call58 _ w) (VE _ _ _ i a2) H.f3 Z ?_)));rintro _ w _ ⟨d4,rfl,rfl⟩ H;replace H:=H.l4;refine Am (λ_=>(H.pick 4 [2,3] Z)) (A6 [14] [] J (λ_ _=>AJ) (by exact H.pick 4 [2,3] Z) Z J Z Z (An [15] J O (Ar (B5 Z Z Z Z (AS Z Z) (Am (λh=>absurd Z h) (AT J (gn (Zc 2 Z (Zr Z ?_)))))))));have a:=H.pick 4 [2,1,0] Z;exact ⟨_,⟨_,Z,Z⟩,a⟩
 refine Z0 6 [0] Z (Ag Z (λh8=>?_) (λh8=>?_))
 ·refine Zc 1 Z ?_;replace H:=H.f2;obtain ⟨M9,C9,s,a⟩:=H.aP;clear H;obtain ⟨X9,u,H⟩:=a.po3;clear a;have a:Sep z (blk pp [.pointer (some ⟨X9.ps,0,none⟩),.pointer (some ⟨X9.pc,0,none⟩),.pointer (some ⟨X9.pa,0,none⟩),Aa ((40:Nat):Int),.bool s.isSome] 63::stoA X9.ps X9.pd X9.D X9.G (Gt X9.g s)::poR 40 C9 s X9::blk b1 [Aa p,Aa i,Aa f,Aa j,Aa 0,.slice none 0 0] 43::blk r [V pd,V t,V pp,V pq] 32::anyR pq 40 mr::R) w:=H
  clear H;have H:=a.l6;replace H:=H.f3.f4;refine AK (Sep z (blk r [V pd,V t,V pp,V pq] 32::blk b1 [Aa p,Aa i,Aa f,Aa j,Aa 0,.slice none 0 0] 43::blk pp [.pointer (some ⟨X9.ps,0,none⟩),.pointer (some ⟨X9.pc,0,none⟩),.pointer (some ⟨X9.pa,0,none⟩),Aa ((40:Nat):Int),.bool s.isSome] 63::R)) 17 Z J (A4 H λw a=>?_);have H:=a.l6;refine A6 [0,1,2,3,4,5,6,7,8,9] [2,0,0,0,1,1,2] J (λ_ c=>(AQ (c.blk 0 Z) (AQ (c.blk 2 Z) (AQ (c.blk 1 Z) AJ)))) (by exact H.pick 6 [0,1,2] Z) Z J Z Z (An [10,14] J O (Pl ?_ ?_))
  ·refine Ba Z Z Z Z Z Z (λw=>call21 _ w) (Pe u _) H.f3 Z ?_;rintro _ w _ ⟨l,e9,n,v9,B9,a1,rfl,rfl⟩ H;replace H:=H.l7;obtain ⟨a0,y,rfl⟩:=H.sy 0 (λq=>(a1 _ q).slc);refine Am (λ_=>(H.pick 7 [2,3,4] Z)) (A6 [11,12,13] [] J (λ_ _=>AJ) (by exact H.pick 7 [2,3,4] Z) Z J Z Z (An [14] J O (Ar (Ck Z Z Z Z (Bz (P:=prog) H Z (zs:=[Aa 0,.slice none 0 0]) J) ?_))));rintro _ w ⟨a7,rfl,H⟩;replace H:=H.l8;refine Am (λ_=>(H.pick 8 [3,4,5] Z)) (An [15] J O (Ar (B6 Z Z Z (AD 0 H Z Z Z Z (vs:=[Aa l,.slice a0 n.length y]) Z (by simp[u8,u32,Value.oneCell']) J O (out:=[Aa l,.slice a0 n.length y]) Z) ?_)));rintro w H;replace H:=H.l8;refine Am (λ_=>(H.pick 8 [3,4,5] Z)) (An [16] J O (Ar (B5 Z Z Z Z (AS Z Z) (Am (λh=>absurd Z h) (AT J (gn (Zc 2 Z ?_)))))));replace H:=H.f7;obtain ⟨K9,C8,t8,a3,x,a⟩:=H.aR;clear H;obtain ⟨Y8,P8,H⟩:=a.rq;clear a;have a:Sep z (blk pq [.pointer (some ⟨Y8.pt,0,none⟩),.pointer (some ⟨Y8.pc,0,none⟩),Y8.tv] 76::grow 4 1 Y8.tv 40 (CS (HJ C8 t8) 40)::Iv Y8.pc Y8.bn Y8.bw 40::Aw Y8.bn (FW C8 t8) 40::Aw Y8.bw C8 40::rsoA Y8.pt 400 mr 40 K9 (Iw t8) a3::blk a7 [Aa l,.slice a0 n.length y] 40::B9::stoA X9.ps X9.pd X9.D X9.G (Gt X9.g s)::blk r [V pd,V t,V pp,V pq] 32::blk b1 [Aa p,Aa i,Aa f,Aa j,Aa 0,.slice none 0 0] 43::blk pp [.pointer (some ⟨X9.ps,0,none⟩),.pointer (some ⟨X9.pc,0,none⟩),.pointer (some ⟨X9.pa,0,none⟩),Aa ((40:Nat):Int),.bool s.isSome] 63::poR 40 C9 s X9::R) w:=H
   clear H;have H:=a.l13;replace H:=H.f10.f10;refine AK (Sep z (blk r [V pd,V t,V pp,V pq] 32::blk b1 [Aa p,Aa i,Aa f,Aa j,Aa 0,.slice none 0 0] 43::blk pq [.pointer (some ⟨Y8.pt,0,none⟩),.pointer (some ⟨Y8.pc,0,none⟩),Y8.tv] 76::R)) 16 Z J (A4 H λw a=>?_);have H:=a.l13;refine A6 [0,1,2,3,4,5,6,7,8] [3,0,0,1,1,2] J (λ_ c=>(AQ (c.blk 0 Z) (AQ (c.blk 2 Z) (AQ (c.blk 1 Z) AJ)))) (by exact H.pick 13 [0,1,2] Z) Z J Z Z (An [9,13] J O (Pl ?_ ?_))
   ·refine Ba Z Z Z Z Z Z (λw=>call32 _ w) (IU _ _ _ _ _ _ _ _) H.f7 Z ?_;rintro _ w _ ⟨d,e8,e,v8,a4,m,rfl,rfl⟩ H;replace H:=H.l13;obtain ⟨o,k,rfl⟩:=m.slc;refine Am (λ_=>(H.pick 13 [1,2,3] Z)) (A6 [10,11,12] [] J (λ_ _=>AJ) (by exact H.pick 13 [1,2,3] Z) Z J Z Z (An [13] J O (Ar (Ck Z Z Z Z (Bz (P:=prog) H Z (zs:=[Aa 0,.slice none 0 0]) J) ?_))));rintro _ w ⟨c4,rfl,H⟩;replace H:=H.l14;refine Am (λ_=>(H.pick 14 [2,3,4] Z)) (An [14] J O (Ar (B6 Z Z Z (AD 0 H Z Z Z Z (vs:=[Aa d,.slice o e.length k]) Z (by simp[u8,u32,Value.oneCell']) J O (out:=[Aa d,.slice o e.length k]) Z) ?_)));rintro w H;replace H:=H.l14;refine Am (λ_=>(H.pick 14 [2,3,4] Z)) (An [15] J O (Ar (B5 Z Z Z Z (AS Z Z) (Am (λh=>absurd Z h) (AT J (gn (Z2 5 [9,2,0,2] H Z (Ai Z (call24 _) (HK l d _ _ n e _ _ a1 (λh q=>m.le q.pool)) H.f1.f10 ?_))))))));intro w H;refine Zc 4 Z ?_;replace H:=H.f1.f9.f9.f9.f9.f9;replace H:=(Sep.toAR (mr2:=mr+1) (Sep.toRq (Y:=Y8) H P8 Z) x U).l9
    replace H:=H.f8.f7.f8;replace H:=(Sep.toAP (mb2:=mb+2) (Sep.toPo3 (X:=X9) H u) U).l7;refine Zc 3 Z (Ak 161 Z (λh9=>?_) (λh9=>?_))
    ·refine Z0 8 [0] Z (Zr Z ?_);have a:=H.pick 7 [4,0,1] Z
     exact ⟨_,⟨_,Z,Z⟩,a⟩
    refine Zc 8 Z (Zr Z ?_);have a:=H.pick 7 [4,0,1] Z;exact ⟨_,⟨_,Z,Z⟩,a⟩
   refine Ck Z Z Z Z (Bz (P:=prog) H Z (zs:=[Aa 0,.slice none 0 0]) J) ?_;rintro _ w ⟨c7,rfl,H⟩;replace H:=H.l14;refine Am (λ_=>(H.pick 14 [1,2,3] Z)) (An [9] J O (Ar (Ba Z Z Z Z Z Z (λw=>call32 _ w) (IU _ _ _ _ _ _ _ _) H.f8 Z ?_)));rintro _ w _ ⟨d,e8,e,v8,a4,m,rfl,rfl⟩ H;replace H:=H.l14;obtain ⟨o,k,rfl⟩:=m.slc;refine Am (λ_=>(H.pick 14 [2,3,4] Z)) (A6 [10,11,12] [] J (λ_ _=>AJ) (by exact H.pick 14 [2,3,4] Z) Z J Z Z (An [14] J O (Ar (B6 Z Z Z (AD 1 H Z Z Z Z (vs:=[Aa d,.slice o e.length k]) Z (by simp[u8,u32,Value.oneCell']) J O (out:=[Aa d,.slice o e.length k]) Z) ?_))));rintro w H;replace H:=H.l14;refine Am (λ_=>(H.pick 14 [2,3,4] Z)) (An [15] J O (Ar (B5 Z Z Z Z (AS Z Z) (Am (λh=>absurd Z h) (AT J (gn (Z2 5 [9,2,1,2] H Z (Ai Z (call24 _) (HK l d _ _ n e _ _ a1 (λh q=>m.le q.pool)) H.f10 ?_))))))));intro w H;refine Zc 4 Z ?_;replace H:=H.f1.f9.f9.f9.f9.f9;replace H:=(Sep.toAR (mr2:=mr+1) (Sep.toRq (Y:=Y8) H P8 Z) x U).l9;replace H:=H.f8.f7.f8;replace H:=(Sep.toAP (mb2:=mb+2) (Sep.toPo3 (X:=X9) H u) U).l7;refine Zc 3 Z (Ak 161 Z (λb4=>?_) (λb4=>?_))
   ·refine Z0 8 [0] Z (Zr Z ?_);have a:=H.pick 7 [4,0,1] Z
    exact ⟨_,⟨_,Z,Z⟩,a⟩
   refine Zc 8 Z (Zr Z ?_);have a:=H.pick 7 [4,0,1] Z;exact ⟨_,⟨_,Z,Z⟩,a⟩
  refine Ck Z Z Z Z (Bz (P:=prog) H Z (zs:=[Aa 0,.slice none 0 0]) J) ?_;rintro _ w ⟨b0,rfl,H⟩;replace H:=H.l7;refine Am (λ_=>(H.pick 7 [1,2,3] Z)) (An [10] J O (Ar (Ba Z Z Z Z Z Z (λw=>call21 _ w) (Pe u _) H.f4 Z ?_)));rintro _ w _ ⟨l,e9,n,v9,B9,a1,rfl,rfl⟩ H;replace H:=H.l8;obtain ⟨a0,y,rfl⟩:=H.sy 0 (λq=>(a1 _ q).slc);refine Am (λ_=>(H.pick 8 [3,4,5] Z)) (A6 [11,12,13] [] J (λ_ _=>AJ) (by exact H.pick 8 [3,4,5] Z) Z J Z Z (An [15] J O (Ar (B6 Z Z Z (AD 2 H Z Z Z Z (vs:=[Aa l,.slice a0 n.length y]) Z (by simp[u8,u32,Value.oneCell']) J O (out:=[Aa l,.slice a0 n.length y]) Z) ?_))));rintro w H;replace H:=H.l8;refine Am (λ_=>(H.pick 8 [3,4,5] Z)) (An [16] J O (Ar (B5 Z Z Z Z (AS Z Z) (Am (λh=>absurd Z h) (AT J (gn (Zc 2 Z ?_)))))));replace H:=H.f7;obtain ⟨K9,C8,t8,a3,x,a⟩:=H.aR;clear H;obtain ⟨Y8,P8,H⟩:=a.rq;clear a;have a:Sep z (blk pq [.pointer (some ⟨Y8.pt,0,none⟩),.pointer (some ⟨Y8.pc,0,none⟩),Y8.tv] 76::grow 4 1 Y8.tv 40 (CS (HJ C8 t8) 40)::Iv Y8.pc Y8.bn Y8.bw 40::Aw Y8.bn (FW C8 t8) 40::Aw Y8.bw C8 40::rsoA Y8.pt 400 mr 40 K9 (Iw t8) a3::B9::stoA X9.ps X9.pd X9.D X9.G (Gt X9.g s)::blk b0 [Aa l,.slice a0 n.length y] 40::blk r [V pd,V t,V pp,V pq] 32::blk b1 [Aa p,Aa i,Aa f,Aa j,Aa 0,.slice none 0 0] 43::blk pp [.pointer (some ⟨X9.ps,0,none⟩),.pointer (some ⟨X9.pc,0,none⟩),.pointer (some ⟨X9.pa,0,none⟩),Aa ((40:Nat):Int),.bool s.isSome] 63::poR 40 C9 s X9::R) w:=H;clear H;have H:=a.l13;replace H:=H.f10.f10;refine AK (Sep z (blk r [V pd,V t,V pp,V pq] 32::blk b1 [Aa p,Aa i,Aa f,Aa j,Aa 0,.slice none 0 0] 43::blk pq [.pointer (some ⟨Y8.pt,0,none⟩),.pointer (some ⟨Y8.pc,0,none⟩),Y8.tv] 76::R)) 16 Z J (A4 H λw a=>?_);have H:=a.l13;refine A6 [0,1,2,3,4,5,6,7,8] [3,0,0,1,1,2] J (λ_ c=>(AQ (c.blk 0 Z) (AQ (c.blk 2 Z) (AQ (c.blk 1 Z) AJ)))) (by exact H.pick 13 [0,1,2] Z) Z J Z Z (An [9,13] J O (Pl ?_ ?_))
  ·refine Ba Z Z Z Z Z Z (λw=>call32 _ w) (IU _ _ _ _ _ _ _ _) H.f7 Z ?_;rintro _ w _ ⟨d,e8,e,v8,a4,m,rfl,rfl⟩ H;replace H:=H.l13;obtain ⟨o,k,rfl⟩:=m.slc;refine Am (λ_=>(H.pick 13 [1,2,3] Z)) (A6 [10,11,12] [] J (λ_ _=>AJ) (by exact H.pick 13 [1,2,3] Z) Z J Z Z (An [13] J O (Ar (Ck Z Z Z Z (Bz (P:=prog) H Z (zs:=[Aa 0,.slice none 0 0]) J) ?_))));rintro _ w ⟨d7,rfl,H⟩;replace H:=H.l14;refine Am (λ_=>(H.pick 14 [2,3,4] Z)) (An [14] J O (Ar (B6 Z Z Z (AD 0 H Z Z Z Z (vs:=[Aa d,.slice o e.length k]) Z (by simp[u8,u32,Value.oneCell']) J O (out:=[Aa d,.slice o e.length k]) Z) ?_)));rintro w H;replace H:=H.l14;refine Am (λ_=>(H.pick 14 [2,3,4] Z)) (An [15] J O (Ar (B5 Z Z Z Z (AS Z Z) (Am (λh=>absurd Z h) (AT J (gn (Z2 5 [11,2,0,2] H Z (Ai Z (call24 _) (HK l d _ _ n e _ _ a1 (λh q=>m.le q.pool)) H.f1.f9 ?_))))))));intro w H;refine Zc 4 Z ?_;replace H:=H.f1.f9.f9.f9.f9.f9;replace H:=(Sep.toAR (mr2:=mr+1) (Sep.toRq (Y:=Y8) H P8 Z) x U).l9
   replace H:=H.f8.f6.f8;replace H:=(Sep.toAP (mb2:=mb+2) (Sep.toPo3 (X:=X9) H u) U).l7;refine Zc 3 Z (Ak 161 Z (λb6=>?_) (λb6=>?_))
   ·refine Z0 8 [0] Z (Zr Z ?_);have a:=H.pick 7 [4,0,1] Z
    exact ⟨_,⟨_,Z,Z⟩,a⟩
   refine Zc 8 Z (Zr Z ?_);have a:=H.pick 7 [4,0,1] Z;exact ⟨_,⟨_,Z,Z⟩,a⟩
  refine Ck Z Z Z Z (Bz (P:=prog) H Z (zs:=[Aa 0,.slice none 0 0]) J) ?_;rintro _ w ⟨d5,rfl,H⟩;replace H:=H.l14;refine Am (λ_=>(H.pick 14 [1,2,3] Z)) (An [9] J O (Ar (Ba Z Z Z Z Z Z (λw=>call32 _ w) (IU _ _ _ _ _ _ _ _) H.f8 Z ?_)));rintro _ w _ ⟨d,e8,e,v8,a4,m,rfl,rfl⟩ H;replace H:=H.l14;obtain ⟨o,k,rfl⟩:=m.slc;refine Am (λ_=>(H.pick 14 [2,3,4] Z)) (A6 [10,11,12] [] J (λ_ _=>AJ) (by exact H.pick 14 [2,3,4] Z) Z J Z Z (An [14] J O (Ar (B6 Z Z Z (AD 1 H Z Z Z Z (vs:=[Aa d,.slice o e.length k]) Z (by simp[u8,u32,Value.oneCell']) J O (out:=[Aa d,.slice o e.length k]) Z) ?_))));rintro w H;replace H:=H.l14;refine Am (λ_=>(H.pick 14 [2,3,4] Z)) (An [15] J O (Ar (B5 Z Z Z Z (AS Z Z) (Am (λh=>absurd Z h) (AT J (gn (Z2 5 [11,2,1,2] H Z (Ai Z (call24 _) (HK l d _ _ n e _ _ a1 (λh q=>m.le q.pool)) H.f9 ?_))))))));intro w H;refine Zc 4 Z ?_;replace H:=H.f1.f9.f9.f9.f9.f9;replace H:=(Sep.toAR (mr2:=mr+1) (Sep.toRq (Y:=Y8) H P8 Z) x U).l9;replace H:=H.f8.f6.f8;replace H:=(Sep.toAP (mb2:=mb+2) (Sep.toPo3 (X:=X9) H u) U).l7;refine Zc 3 Z (Ak 161 Z (λb3=>?_) (λb3=>?_))
  ·refine Z0 8 [0] Z (Zr Z ?_);have a:=H.pick 7 [4,0,1] Z
   exact ⟨_,⟨_,Z,Z⟩,a⟩
  refine Zc 8 Z (Zr Z ?_);have a:=H.pick 7 [4,0,1] Z;exact ⟨_,⟨_,Z,Z⟩,a⟩
 refine Z0 6 [0] Z (Ag Z (λb7=>?_) (λb7=>?_))
 ·refine Z2 6 [2,1,0] H Z (Ai Z (call20 _) (VA _ _ _) H.f2 ?_);intro w H;refine Z2 7 [3,2,0] H Z (Ai Z (call26 _) (VF _ _ _) H.f3 ?_);intro w H;refine Zc 9 Z (Zr Z ?_);have a:=H.pick 4 [3,1,0] Z
  exact ⟨_,⟨_,Z,Z⟩,a⟩
 refine Z0 6 [0] Z (Ag Z (λa6=>?_) (λa6=>?_))
 ·refine Zc 1 Z ?_;replace H:=H.f2;obtain ⟨M9,C9,s,a⟩:=H.aP;clear H;obtain ⟨X9,u,H⟩:=a.po3;clear a;have a:Sep z (blk pp [.pointer (some ⟨X9.ps,0,none⟩),.pointer (some ⟨X9.pc,0,none⟩),.pointer (some ⟨X9.pa,0,none⟩),Aa ((40:Nat):Int),.bool s.isSome] 63::stoA X9.ps X9.pd X9.D X9.G (Gt X9.g s)::poR 40 C9 s X9::blk b1 [Aa p,Aa i,Aa f,Aa j,Aa 0,.slice none 0 0] 43::blk r [V pd,V t,V pp,V pq] 32::anyR pq 40 mr::R) w:=H
  clear H;have H:=a.l6;replace H:=H.f5;obtain ⟨K9,C8,t8,a3,x,a⟩:=H.aR;clear H;obtain ⟨Y8,P8,H⟩:=a.rq;clear a;have a:Sep z (blk pq [.pointer (some ⟨Y8.pt,0,none⟩),.pointer (some ⟨Y8.pc,0,none⟩),Y8.tv] 76::grow 4 1 Y8.tv 40 (CS (HJ C8 t8) 40)::Iv Y8.pc Y8.bn Y8.bw 40::Aw Y8.bn (FW C8 t8) 40::Aw Y8.bw C8 40::rsoA Y8.pt 400 mr 40 K9 (Iw t8) a3::blk pp [.pointer (some ⟨X9.ps,0,none⟩),.pointer (some ⟨X9.pc,0,none⟩),.pointer (some ⟨X9.pa,0,none⟩),Aa ((40:Nat):Int),.bool s.isSome] 63::stoA X9.ps X9.pd X9.D X9.G (Gt X9.g s)::poR 40 C9 s X9::blk b1 [Aa p,Aa i,Aa f,Aa j,Aa 0,.slice none 0 0] 43::blk r [V pd,V t,V pp,V pq] 32::R) w:=H;clear H;have H:=a.l11;replace H:=H.f6.f10;refine AK (Sep z (blk r [V pd,V t,V pp,V pq] 32::blk pp [.pointer (some ⟨X9.ps,0,none⟩),.pointer (some ⟨X9.pc,0,none⟩),.pointer (some ⟨X9.pa,0,none⟩),Aa ((40:Nat):Int),.bool s.isSome] 63::blk pq [.pointer (some ⟨Y8.pt,0,none⟩),.pointer (some ⟨Y8.pc,0,none⟩),Y8.tv] 76::R)) 16 Z J (A4 H λw a=>?_);have H:=a.l11;refine A6 [0,1,2,3,6,7,8,9,10,11,12] [2,0,3,0,0,1] J (λ_ c=>(AQ (c.blk 0 Z) (AQ (c.blk 2 Z) AJ))) (by exact H.pick 11 [0,1,2] Z) Z J Z Z (An [4] J O (Ar (Ba Z Z Z Z Z Z (λw=>call27 _ w) (UB _ _ _ _ 40 _) H.f1 Z ?_)));rintro _ w _ ⟨rfl,rfl⟩ H;replace H:=H.l11;refine Am (λ_=>(H.pick 11 [1,0,2] Z)) (An [5] J O (Ar (Ba Z Z Z Z Z Z (λw=>call28 _ w) (YF u) H.f8 Z ?_)));rintro _ w _ ⟨e9,D9,G9,b2,rfl,rfl⟩ H;replace H:=H.l11;refine Am (λ_=>(H.pick 11 [2,1,3] Z)) (An [13] J O (Ar (Ba Z Z Z Z Z Z (λw=>call59 _ w) (YG _ _ _ _ _ _ _) H.f8 Z ?_)));rintro _ w _ ⟨e8,rfl,rfl⟩ H;replace H:=H.l11;refine Am (λ_=>(H.pick 11 [3,2,4] Z)) (A6 [14] [] J (λ_ _=>AJ) (by exact H.pick 11 [3,2,4] Z) Z J Z Z (An [15] J O (Ar (B5 Z Z Z Z (AS Z Z) (Am (λh=>absurd Z h) (AT J (gn ?_)))))));replace H:=H.f8.f8.f8.f8.f8;replace H:=(Sep.toAR (mr2:=mr+1) (Sep.toRq (Y:=Y8) H P8 Z) x U).l6;replace H:=H.f4.f2.f3;replace H:=(Sep.toAP (mb2:=mb+2) (Sep.toPo3 (X:= {X9 with D:=D9,G:=G9}) H b2) U).l4;refine Zc 2 Z (Zr Z ?_);have a:=H.pick 4 [2,0,1] Z;exact ⟨_,⟨_,Z,Z⟩,a⟩
 refine Z0 6 [0] Z (Ag Z (λa5=>U) (λa5=>?_));refine Z0 6 [0] Z (Ag Z (λb5=>U) (λb5=>?_))
 (exfalso;omega)
structure De0 where
 kd:Int
 pg:Int
 wh:Int
 fl:Int
 nn:Int
def De0.In(d:De0):Prop:=(-9223372036854775808<=d.kd/\d.kd<=9223372036854775807)/\(-9223372036854775808<=d.pg/\d.pg<=9223372036854775807)
abbrev DeE:=De0×Value
def DeE.cells(e:DeE):List Value:=[.int .i64 e.1.kd,.int .i64 e.1.pg,.int .i64 e.1.wh,.int .i64 e.1.fl,.int .i64 e.1.nn,e.2]
def GJ(es:List DeE):List Value:=es.flatMap DeE.cells
theorem YI(es:List DeE):(GJ es).length=es.length*6:=by
 induction es with
 | nil=>rfl
 | cons e es ih=>simp only[GJ,Acl,AbH] at ih ⊢;rw[ih];simp[DeE.cells];omega
theorem BT:∀{es:List DeE} {j:Nat} {e:DeE},es[j]?=some e->∀k u,(DeE.cells e)[k]?=some u->(GJ es)[j*6+k]?=some u
 | x::es,0,e,h,k,u,hk=>by
  simp at h;subst h;have hl:=(AbE.1 hk).1;simp only[GJ,Acl];rw[AbU U];simpa using hk
 | x::es,j+1,e,h,k,u,hk=>by
  have:=BT (es:=es) (j:=j) (by simpa using h) k u hk;simp only[GJ,Acl] at this ⊢;rw[AbT (by simp[DeE.cells];omega)];rw[show (j+1)*6+k-(DeE.cells x).length=j*6+k from by simp[DeE.cells];omega];exact this
theorem Aay{c N:Nat}(h:c<N):pkI (c:Int) N=c:=by
 unfold pkI;rw[if_neg U,AdQ U,AcG U U,Acg]
def updB(T:Nat->Bool)(k:Nat)(b:Bool):Nat->Bool:=λq=>if q=k then b else T q
theorem K5{T:Nat->Bool}{k q:Nat}{b c:Bool}(h:T q=c)(a:q≠k):updB T k b q=c:=by unfold updB;rw[if_neg a];exact h
def F4(C:Nat->Nat)(n:Nat):Nat->Bool:=λq=>if q<n then decide (0<(C q:Int)) else false
theorem Qo{C:Nat->Nat}{p:Nat}(h:frC 40 C p=true):F4 C 40 p=false:=by
 have a:p<40/\C p=0:=by simpa [frC] using h
 unfold F4;rw[if_pos a.1];simp[a.2]
theorem Pf(T:Nat->Bool){n k:Nat}(b:Bool)(h:k<n):(CS T n).take k++[Value.bool b]++(CS T n).drop (k+1)=CS (updB T k b) n:=by
 have e:=AcK (l:=CS T n) (i:=k) (a:=Value.bool b);rw[if_pos (by rw[Dg];exact h)] at e;rw[AbK,Adc,<-e];refine AcF λj=>?_;rw[AcE];rcases AbX j n with c|c
 ·rw[tkB_at (updB T k b) c]
  split
  ·rename_i d;subst d;rw[if_pos (by rw[Dg];exact h)];simp[updB]
  rename_i d;rw[tkB_at T c];simp[updB,Ada d]
 rw[Ab5 (by rw[Dg];exact c),Ab5 (by rw[Dg];exact c)];split
 ·rename_i d;subst d;rw[if_neg (by rw[Dg];omega)]
 rfl
theorem YJ(C:Nat->Nat)(n:Nat):updB (F4 C n) n (decide (0<(C n:Int)))=F4 C (n+1):=by
 funext q;unfold updB F4;by_cases e:q=n
 ·subst e;simp
 rw[if_neg e];by_cases h:q<n
 ·rw[if_pos h,if_pos U]
 rw[if_neg h,if_neg U]
theorem VH{Tb:Ah}(pp mb n:Nat)(M0:Nat->Pg)(C0:Nat->Nat)(T:PoT)(i:Int)(bs:List UInt8)(c:bs.length=240)(d:Value)(B:Ah)(m:∀h,B h->rdH 1 d 240 (bs.map u8) h):
  Aj 12 [V pp,.agg #[Aa i,d]] [poA Tb pp mb n M0 C0 (some T),B] (λv G=>(∃(e:Int) (b:PoT),e≠0/\(∀q,b.F q=true->T.F q=true)/\v=.tuple #[Aa 0,Aa e]/\G=[poA Tb pp mb n M0 C0 (some b),B])\/
   ∃(p:Nat) (b:PoT),(T.F p=true/\p<n/\b.F p=false/\∀q,b.F q=true->T.F q=true)/\v=.tuple #[Aa (p:Int),Aa 0]/\G=[poA Tb pp mb n M0 C0 (some b),B]):=λz R w H=>by
 have K:=H.says 0 Z (λh (q:poA Tb pp mb n M0 C0 (some T) h)=>q.k);have a:∀p q,BI T.F p q=true->T.F q=true:=λp q h=>by
  unfold BI at h;simp at h;exact h.1
 refine Ret.mono (NK pp mb n M0 C0 T i bs c d B m z R w H) ?_;rintro v w' ⟨Γ',⟨b,⟨e,j,rfl,l⟩|⟨p,o,x,⟨g,_⟩,rfl,rfl⟩,rfl⟩,f⟩
 ·refine ⟨_,.inl ⟨e,b,j,?_,Z,Z⟩,f⟩
  rcases l with rfl|⟨p,_,rfl⟩
  ·exact λq h=>h
  exact a p
 exact ⟨_,.inr ⟨p,_,⟨g,(K.free p g).1,by show BI T.F p p=false;simp[BI],a p⟩,Z,Z⟩,f⟩
set_option maxHeartbeats 4000000 in
theorem Qq (Tb:Ah) (hT:Fw Tb) (lv wv:Value) (es m:List DeE) (a6:es.length<=1048576) (A:Ah) (g:∀h,A h->rdH 6 lv es.length (GJ es) h) (o:∀h,A h->rdH 6 wv m.length (GJ m) h) (a3:∀e∈es,e.1.In) (a2:∀e∈m,e.1.In):Aj 5 [lv,wv] [A,Tb] (λv G=>v=.bool true/\G=[A,Tb]):=by
 intro z R w H;replace H:=H.l2;obtain ⟨lo,lc,rfl⟩:=H.sy 0 (λq=>(g _ q).slc);obtain ⟨wo,wc,rfl⟩:=H.sy 0 (λq=>(o _ q).slc);have a8:=H.sy 0 (λq=>(g _ q).small);have a7:=H.sy 0 (λq=>(o _ q).small);refine Ac func5 Z ntmps5 Z (Zc 7 Z (AA Z (call9 _) (SP 40 U Tb hT) H.f1 ?_));rintro _ w _ ⟨pb,pd,pr,pp,pq,M0,rfl,rfl⟩ H;refine Z2 35 [2,0,0,2,0,0] H Z ?_;replace H:=H.f1;replace H:=(Sep.toAP (mb2:=6) H (Ab9 _)).l4;refine Zc 5 Z ?_;refine Ay (σ:=Nat) (λi=>[(8,Aa (i:Int)),(0,.slice lo es.length lc),(1,.slice wo m.length wc),(4,.bool false),(5,V pb),(7,V pp)])
   (λi w=>Sep z (anyP Tb pp 40 (6+2*i)::blk pb [V pd,V pr,V pp,V pq] 32::anyR pq 40 (1+i)::A::R) w/\(i<=es.length)) (λi=>es.length-i) 0
   fr_z ⟨H,AbV _⟩ ?_
 clear H;rintro i w ⟨l,x⟩;have H:=l.l4;have hi:=x;clear x;refine Z0 9 [0] Z (Ag Z (λh1=>?_) (λh1=>?_))
 ·refine Zc 4 Z ?_;obtain ⟨⟨⟨f,pg,wh,y,nn⟩,pk⟩,a⟩:∃e:DeE,es[i]?=some e:=⟨_,AbF U⟩;have t:=a3 _ (AbG a)
  have a4:=Aai f (show 0<9 by omega);replace H:=H.f3;refine AK (Sep z (A::R)) 24 Z J (A4 H λw l=>?_);have H:=l.l4;refine A6 [0,1,2] [] J (λ_ _=>AJ) (by exact H.pick 4 [0] Z) Z J Z Z (AR 3 J Z Z J J J Z Z Z (Az Z (z:=6) (j:=i) (r:=i*6) J Z Z Z U ((H.rd 0 Z g).at (u:=Aa f) (BT a 0 _ Z)) U) (H.pick 4 [0] Z) (AR 4 J Z Z J J J Z Z Z (BN Z (k:=0) (r:=i*6) J Z ((H.rd 0 Z g).at (u:=Aa f) (BT a 0 _ Z)) Z) (H.pick 4 [0] Z) (AR 5 J Z Z J J J Z Z Z (AM Z Z J (λ_ hs=>(hs.rd 0 Z g).at (u:=Aa f) (BT a 0 _ Z))) (H.pick 4 [0] Z) (A6 [7,8] [] J (λ_ _=>AJ) (by exact H.pick 4 [0] Z) Z J Z Z (AR 9 J Z Z J J J Z Z Z (Az Z (z:=6) (j:=i) (r:=i*6) J Z Z Z U ((H.rd 0 Z g).at (u:=Aa f) (BT a 0 _ Z)) U) (H.pick 4 [0] Z) (AR 10 J Z Z J J J Z Z Z (BN Z (k:=1) (r:=i*6+1) J Z ((H.rd 0 Z g).at (u:=Aa f) (BT a 0 _ Z)) Z) (H.pick 4 [0] Z) (AR 11 J Z Z J J J Z Z Z (AM Z Z J (λ_ hs=>(hs.rd 0 Z g).at (u:=Aa pg) (BT a 1 _ Z))) (H.pick 4 [0] Z) (A6 [12,13] [] J (λ_ _=>AJ) (by exact H.pick 4 [0] Z) Z J Z Z (AR 14 J Z Z J J J Z Z Z (Az Z (z:=6) (j:=i) (r:=i*6) J Z Z Z U ((H.rd 0 Z g).at (u:=Aa f) (BT a 0 _ Z)) U) (H.pick 4 [0] Z) (AR 15 J Z Z J J J Z Z Z (BN Z (k:=2) (r:=i*6+2) J Z ((H.rd 0 Z g).at (u:=Aa f) (BT a 0 _ Z)) Z) (H.pick 4 [0] Z) (AR 16 J Z Z J J J Z Z Z (AM Z Z J (λ_ hs=>(hs.rd 0 Z g).at (u:=Aa wh) (BT a 2 _ Z))) (H.pick 4 [0] Z) (A6 [17,18] [] J (λ_ _=>AJ) (by exact H.pick 4 [0] Z) Z J Z Z (AR 19 J Z Z J J J Z Z Z (Az Z (z:=6) (j:=i) (r:=i*6) J Z Z Z U ((H.rd 0 Z g).at (u:=Aa f) (BT a 0 _ Z)) U) (H.pick 4 [0] Z) ?_)))))))))))));refine AR 20 J Z Z J J J Z Z Z (BN Z (k:=3) (r:=i*6+3) J Z ((H.rd 0 Z g).at (u:=Aa f) (BT a 0 _ Z)) Z) (H.pick 4 [0] Z) (AR 21 J Z Z J J J Z Z Z (AM Z Z J (λ_ hs=>(hs.rd 0 Z g).at (u:=Aa y) (BT a 3 _ Z))) (H.pick 4 [0] Z) (An [6] J O (Ar (Ba Z Z Z Z Z Z (λw=>call8 _ w) (O9 f 9 t.1 U) H Z ?_))));rintro _ w _ ⟨rfl,rfl⟩ H;replace H:=H.l4;refine Am (λ_=>(H.pick 4 [0] Z)) (AR 22 J Z Z J J J Z Z Z (AX Z Z (out:=[Aa (pkI f 9:Int),Aa pg,Aa wh,Aa y,Aa 0,.slice none 0 0]) J) (H.pick 4 [0] Z) (An [23] J O (Ar (Ba Z Z Z Z Z Z (λw=>call19 _ w) (YH _ _ _ _ _ _ _ _ ((pkI f 9:Nat):Int) pg wh y U t.2 (by rw[Aay U];exact a4) U U) H.f3.f2.f3 Z ?_))));rintro _ w _ ⟨b9,rfl,rfl⟩ H;replace H:=H.l4;refine Am (λh=>absurd Z h) (AT J (gn (Z1 7 [] [(i:Int)+1] Z U ?_)));replace H:=H.f3.f3.f2.f3;refine gf ?_;intro _ s;refine ⟨(i+1),s.cz,⟨(by rw[show 6+2*(i+1)=6+2*i+2 by omega,show 1+(i+1)=1+i+1 by omega];exact H),?_⟩,?_⟩
  ·omega
  omega
 refine Zc 2 Z (gx (Zc 3 Z ?_));obtain ⟨M9,C9,t9,H⟩:=H.aP;replace H:=H.l4;refine Zc 2 Z (Ai Z (call20 _) (NN _ _ _ _ _ _) H ?_);intro w H;refine Za 4 [] H Z ?_;intro b1 w H;refine Zc 4 Z ?_;have l:Sep z (blk b1 (CS (F4 C9 0) 40) 52::poA Tb pp (6+2*i) 40 M9 C9 none::blk pb [V pd,V pr,V pp,V pq] 32::anyR pq 40 (1+i)::A::R) w:=H;clear H;have H:=l.l5;refine Zc 5 Z ?_;refine Ay (σ:=Nat) (λn=>[(10,Aa (n:Int)),(1,.slice wo m.length wc),(4,.bool false),(7,V pp),(9,V b1)])
   (λn w=>Sep z (blk b1 (CS (F4 C9 n) 40) 52::poA Tb pp (6+2*i) 40 M9 C9 none::blk pb [V pd,V pr,V pp,V pq] 32::anyR pq 40 (1+i)::A::R) w/\(n<=40)) (λn=>40-n) 0
   fr_z ⟨H,AbV _⟩ ?_
 clear H;rintro n w ⟨l,x⟩;have H:=l.l5;have hn:=x;clear x;refine Z0 7 [0] Z (Ag Z (λh2=>?_) (λh2=>?_))
 ·refine Zc 8 Z (Ai Z (call18 _) (O2 _ _ _ _ _ _ n U) H.f1 ?_);intro w H;replace H:=H.l5;refine k_updA 70 (v:=Aa (C9 n:Int)) Z Z (Z1 2 [0,40,1,n,n] [] Z U (A9 Z Z (AD 1 H Z Z Z Z (vs:=[.bool (decide (0<(C9 n:Int)))]) Z (Aq Z AN) J (by simp only[Dg,AbI,AbO];omega) (out:=CS (F4 C9 (n+1)) 40) ((Pf _ _ U).trans (by rw[YJ]))) ?_));rintro w H;replace H:=H.l5;refine Z1 8 [] [(n:Int)+1] Z U ?_;replace H:=H.f4.f4.f4.f3.f4;refine gf ?_;intro _ s;refine ⟨(n+1),s.cz,⟨H,?_⟩,?_⟩
  ·omega
  omega
 obtain rfl:n=40:=by omega
 refine Zc 2 Z (gx (Zc 5 Z (Ai Z (call11 _) (KT _ _ _ _ _) H.f1 ?_)));intro w H;refine Zc 9 Z ?_;refine Ay (σ:=Nat×PoT×(Nat->Bool)) (λ⟨j,T,Tk⟩=>[(11,Aa (j:Int)),(1,.slice wo m.length wc),(7,V pp),(9,V b1)])
   (λ⟨j,T,Tk⟩ w=>Sep z (poA Tb pp (6+2*i) 40 M9 C9 (some T)::blk b1 (CS Tk 40) 52::blk pb [V pd,V pr,V pp,V pq] 32::anyR pq 40 (1+i)::A::R) w/\(j<=m.length/\∀p,T.F p=true->Tk p=false)) (λ⟨j,T,Tk⟩=>m.length-j) ⟨0,(po0 40 M9 C9),F4 C9 40⟩
   fr_z ⟨H,⟨AbV _,λp hp=>Qo hp⟩⟩ ?_
 clear H;rintro ⟨j,T,Tk⟩ w ⟨l,x⟩;dsimp only at x l ⊢;have H:=l.l5;obtain ⟨hj,c⟩:=x;refine Z0 9 [0] Z (Ag Z (λh3=>?_) (λh3=>?_))
 ·refine Zc 6 Z ?_;obtain ⟨⟨⟨f,pg,wh,y,nn⟩,pk⟩,a⟩:∃e:DeE,m[j]?=some e:=⟨_,AbF U⟩;have t:=a2 _ (AbG a)
  have a1:=t.2;refine Zc 3 Z (Ad Z (Az Z (z:=6) (j:=j) (r:=j*6) J Z Z Z U ((H.rd 4 Z o).at (u:=Aa f) (BT a 0 _ Z)) U) (Ad Z (BN Z (k:=0) (r:=j*6) J Z ((H.rd 4 Z o).at (u:=Aa f) (BT a 0 _ Z)) Z) (Ad Z (AM Z Z J (AB ((H.rd 4 Z o).at (u:=Aa f) (BT a 0 _ Z)))) (Ad Z (JJ Z Z Z U) (Z0 3 [0] Z (Ag Z (λh4=>?_) (λh4=>?_)))))))
  ·refine Zc 5 Z (Ad Z (Az Z (z:=6) (j:=j) (r:=j*6) J Z Z Z U ((H.rd 4 Z o).at (u:=Aa f) (BT a 0 _ Z)) U) (Ad Z (BN Z (k:=1) (r:=j*6+1) J Z ((H.rd 4 Z o).at (u:=Aa f) (BT a 0 _ Z)) Z) (Ad Z (AM Z Z J (AB ((H.rd 4 Z o).at (u:=Aa pg) (BT a 1 _ Z)))) (AA Z (call15 _) (NM _ _ _ _ _ _ pg a1) H ?_))));rintro _ w _ ⟨e9,C2,rfl,rfl⟩ H;refine Z1 11 [] [(j:Int)+1] Z U (gf ?_);intro _ s;refine ⟨⟨j+1,⟨T.M,C2,T.F,T.k⟩,Tk⟩,s.cz,⟨H,?_⟩,?_⟩
   ·exact ⟨by show j+1<=m.length;omega,by first|exact λq hq=>K5 (c q (b q hq)) (λe=>by subst e;exact absurd (a0.symm.trans hq) O)|exact λq hq=>c q (b q hq)|exact c⟩
   (dsimp only;omega)
  refine Zc 7 Z (Ad Z (Az Z (z:=6) (j:=j) (r:=j*6) J Z Z Z U ((H.rd 4 Z o).at (u:=Aa f) (BT a 0 _ Z)) U) (Ad Z (BN Z (k:=3) (r:=j*6+3) J Z ((H.rd 4 Z o).at (u:=Aa f) (BT a 0 _ Z)) Z) (Ad Z (AM Z Z J (AB ((H.rd 4 Z o).at (u:=Aa y) (BT a 3 _ Z)))) (Ad Z (AX Z Z (out:=[Aa 0,Aa 0,Aa 5,Aa y,Aa 0,.slice none 0 0]) J) (AA Z (call13 _) (E2 _ _ 5 y _ (.slice none 0 0) Z) H ?_)))));rintro _ w _ ⟨a9,rfl,rfl⟩ H;replace H:=H.l6;refine AA Z (call12 _) (VH _ _ _ _ _ T 5 (Gx 5 y).body (CW _ _) _ _ (λh q=>E3 q (by rw[AbN];exact CW _ _))) H.f1 ?_;rintro _ w _ (⟨e9,T2,b0,b,rfl,rfl⟩|⟨p,T2,⟨s,a5,a0,b⟩,rfl,rfl⟩) l
  ·have H:=l.l6;refine Z0 14 [0] Z (Ag Z (λh5=>?_) (λh5=>?_))
   ·refine Z1 9 [] [(j:Int)+1] Z U ?_;replace H:=H.f1.d;refine gf ?_;intro _ s;refine ⟨⟨j+1,T2,Tk⟩,s.cz,⟨H,?_⟩,?_⟩
    ·exact ⟨by show j+1<=m.length;omega,by first|exact λq hq=>K5 (c q (b q hq)) (λe=>by subst e;exact absurd (a0.symm.trans hq) O)|exact λq hq=>c q (b q hq)|exact c⟩
    (dsimp only;omega)
   (exfalso;omega)
  have H:=l.l6;refine Z0 23 [4,0] Z (Ak 111 Z (λh6=>U) (λh6=>?_));refine Z0 4 [0] Z (Ak 115 Z (λh7=>U) (λh7=>?_));refine Z1 2 [40,1,p,p] [] Z U (Ad Z (AY Z Z J (AB (H.cel 2 Z p (tkB_at _ U)))) (Zc 3 Z (DP Z (λh8=>?_) (λh8=>?_))))
  ·(exfalso;have h9:=c p s;simp_all)
  refine Z1 5 [40,1,p,p] [] Z U (A9 Z Z (AD 2 H Z Z Z Z (vs:=[.bool true]) Z (Aq Z AN) J (by simp only[Dg,AbI,AbO];omega) (out:=CS (updB Tk p true) 40) (Pf _ _ U)) ?_);rintro w H;replace H:=H.l6;refine Z1 8 [] [(j:Int)+1] Z U ?_;replace H:=H.f1.d;refine gf ?_;intro _ s;refine ⟨⟨j+1,T2,updB Tk p true⟩,s.cz,⟨H,?_⟩,?_⟩
  ·exact ⟨by show j+1<=m.length;omega,by first|exact λq hq=>K5 (c q (b q hq)) (λe=>by subst e;exact absurd (a0.symm.trans hq) O)|exact λq hq=>c q (b q hq)|exact c⟩
  (dsimp only;omega)
 refine Zc 2 Z (gx (Zc 3 Z ?_));obtain ⟨_,H⟩:=H.poTab;replace H:=H.l5;refine Zc 1 Z (Ai Z (call16 _) (U0 Tb hT) H ?_);intro w H;refine Zc 4 Z (Zr Z ?_);exact ⟨_,⟨Z,Z⟩,H.pick 5 [4,0] Z⟩
open Go.ChangeShapes Go.WideShapes Go.ChangeAt Go.RowKit Go.Joins
theorem NO:prog.cellsOf 43=6:=by kernel_rfl
theorem YK{H:Type}{enc:TypeId×Value->H}{W:World}{fuel:Nat}{cs:List Value}{d:DataW H}{p:List MemPlace}(h:DataW.trod enc prog W 0 (λ_=>true) true fuel 43 cs=some (d,p)):
  ∃e:DeE×List Int,cs=DeE.cells e.1/\Rd 1 e.1.2 e.2.length (e.2.map (Value.int .i64)) W/\e.1.1.In:=by
 obtain ⟨xs,n,rfl,hx,r,k,c⟩:=DataW.trod_struct underlying43 h;rw[NO] at r
 match cs,r with
 | [c0,c1,c2,c3,c4,c5],_=>
  have f0:=c 0 _ Z;have j:=c 1 _ Z;have i:=c 2 _ Z;have f:=c 3 _ Z;have m:=c 4 _ Z;have g:=c 5 _ Z
  match xs,k with
  | [y0,y1,y2,y3,y4,y5],_=>
   have a:prog.cellsOf 22=1:=by kernel_rfl
   have b:prog.cellsOf 4=1:=by kernel_rfl
   try dsimp only at f0
   try simp only[int_cells,a,b,Ab1,Acx,Acy,Ac3,Aci,Ab4] at f0
   try dsimp only at j
   try simp only[int_cells,a,b,Ab1,Acx,Acy,Ac3,Aci,Ab4] at j
   try dsimp only at i
   try simp only[int_cells,a,b,Ab1,Acx,Acy,Ac3,Aci,Ab4] at i
   try dsimp only at f
   try simp only[int_cells,a,b,Ab1,Acx,Acy,Ac3,Aci,Ab4] at f
   try dsimp only at m
   try simp only[int_cells,a,b,Ab1,Acx,Acy,Ac3,Aci,Ab4] at m
   try dsimp only at g
   try simp only[int_cells,a,b,Ab1,Acx,Acy,Ac3,Aci,Ab4] at g
   obtain ⟨z0,e0,_,w0⟩:=Ad4 underlying3 f0;obtain ⟨x,e1,_,y⟩:=Ad4 underlying3 j;obtain ⟨z2,e2,_,w2⟩:=Ad4 underlying3 i;obtain ⟨z3,e3,_,w3⟩:=Ad4 underlying3 f;obtain ⟨z4,z,_,w4⟩:=Ad4 underlying3 m;obtain ⟨d5,p5⟩:=y5;obtain ⟨w,o,_⟩:=U1 (h:=g);have s:=congrArg (λl=>l.headD .nilFunc) e0
   try simp at s
   subst s;have u:=congrArg (λl=>l.headD .nilFunc) e1
   try simp at u
   subst u;have t:=congrArg (λl=>l.headD .nilFunc) e2
   try simp at t
   subst t;have v:=congrArg (λl=>l.headD .nilFunc) e3
   try simp at v
   subst v;have q:=congrArg (λl=>l.headD .nilFunc) z
   try simp at q
   subst q;exact ⟨((⟨z0,x,z2,z3,z4⟩,c5),w),Z,o,Wl w0,Wl y⟩
theorem Ph:∀(es:List DeE) (k:Nat) (u:Value),(GJ es)[k]?=some u->∃e,es[k/6]?=some e/\(DeE.cells e)[k%6]?=some u
 | [],k,u,h=>by simp[GJ] at h
 | x::es,k,u,h=>by
  have hl:(DeE.cells x).length=6:=rfl;simp only[GJ,Acl] at h;rcases AbX k 6 with q|q
  ·rw[AbU U] at h
   exact ⟨x,by rw[AdO q];rfl,by rw[AcN q];exact h⟩
  rw[AbT U,hl] at h;obtain ⟨e,b,a⟩:=Ph es (k-6) u h;refine ⟨e,?_,?_⟩
  ·rw[show k/6=(k-6)/6+1 from by omega];simpa using b
  rw[show k%6=(k-6)%6 from by omega];exact a
theorem NP{H:Type}{enc:TypeId×Value->H}{W:World}{fuel:Nat}{v:Value}{d:DataW H}{p:List MemPlace}(h:DataW.trod enc prog W 0 (λ_=>true) true fuel 50 [v]=some (d,p)):
  ∃es:List (DeE×List Int),Rd 6 v es.length (GJ (es.map Prod.fst)) W/\(∀e∈es,Rd 1 e.1.2 e.2.length (e.2.map (Value.int .i64)) W/\e.1.1.In)/\es.length<=Rows.uptoBulk d:=by
 rcases DataW.trod_slice underlying50 h with ⟨f,_⟩|⟨a,a2,a1,c,rest,n,rfl,f,hx,_,a5,w,a6,hg,_,_⟩
 ·simp only[AdD,and_true] at f;subst f
  exact ⟨[],by simpa [GJ] using Rd.nil 6 W,λe x=>absurd x O,by simp⟩
 simp only[AdD,and_true] at f;subst f;have hd:d=.slice (c.map (·.1)) (rest.map (·.1)):=by have:=congrArg Prod.fst hx;simpa using this
 obtain ⟨es,o,z⟩:=I4 (λi (e:DeE×List Int)=>(∀j,j<6->W.cell? ((a.add (i*6)).add j)=(DeE.cells e.1)[j]?)/\Rd 1 e.1.2 e.2.length (e.2.map (Value.int .i64)) W/\e.1.1.In) a2 (λi hi=>by
  have hb:=hg i hi;rw[NO] at hb;obtain ⟨y,hy⟩:∃y,c[i]?=some y:=⟨_,AbF U⟩;rw[hy,Option.bind_eq_some_iff] at hb;obtain ⟨cs,r,ht⟩:=hb;obtain ⟨e,rfl,s,t⟩:=YK (d:=y.1) (p:=y.2) ht;exact ⟨e,(World.cells?_some r).2.2,s,t⟩)
 refine ⟨es,⟨some a,a1,by rw[o],by omega,(by unfold maxLen at w;omega),by rw[YI,AbN],λk u hk=>?_⟩,λe x=>?_,?_⟩
 ·obtain ⟨q,m,t⟩:=Ph _ k u hk
  rw[AbY,Adq] at m;obtain ⟨e,s,rfl⟩:=m;have r:=(z _ e s).1 (k%6) (Nat.mod_lt _ U);rw[t] at r;obtain ⟨b,off,g⟩:=a;have l:g=none:=by
   have a4:=(AbE.1 s).1;obtain ⟨q,a0⟩:∃q,es[0]?=some q:=⟨_,AbF U⟩;have a3:=(z _ q a0).1 0 U;have h0:W.cell? ⟨b,off,g⟩=some (.int .i64 q.1.1.kd):=by simpa [Addr.add,DeE.cells] using a3
   exact World.cell?_spot h0
  subst l;refine ⟨b,off,Z,?_⟩;unfold E6;have e2:((Addr.add ⟨b,off,none⟩ (k/6*6)).add (k%6))=⟨b,off+k,none⟩:=by
   rw[Ad6,Ad6];congr 1;omega
  rw[<-e2];exact r
 ·obtain ⟨i,hi⟩:=Ack x
  exact (z i e hi).2
 rw[o,hd];have:=U4 (c.map (·.1));simp only[Rows.uptoBulk,AbN] at this ⊢;omega
theorem Wo{es:List (DeE×List Int)}{W:World}(h:∀e∈es,Rd 1 e.1.2 e.2.length (e.2.map (Value.int .i64)) W/\e.1.1.In):∀u∈GJ (es.map Prod.fst),∀x,u≠ .int .u8 x:=λu a x=>by
 simp only[GJ,AdL] at a;obtain ⟨e,g,a⟩:=a;obtain ⟨d,b,rfl⟩:=AbP.1 g;obtain ⟨⟨i,c,f,_⟩,_⟩:=h d b;simp[DeE.cells] at a;rcases a with rfl|rfl|rfl|rfl|rfl|rfl
 all_goals first|(rw[f];exact λh=>nomatch h)|simp
theorem Wp{es:List (DeE×List Int)}{W:World}(h:∀e∈es,Rd 1 e.1.2 e.2.length (e.2.map (Value.int .i64)) W/\e.1.1.In):∀e∈es.map Prod.fst,e.1.In:=λe c=>by
 obtain ⟨b,a,rfl⟩:=AbP.1 c;exact (h b a).2
theorem Wq{sz:Nat}{v:Value}{n:Nat}{xs:List Value}{m:Nat}{h:Hp}(r:rdH sz v n xs h)(e:n=m):rdH sz v m xs h:=e▸r
open Go.ChangeShapes Go.WideShapes Go.ChangeAt Go.RowKit Go.Joins
theorem YL(a:Os):laidMet prog Rows.poolLateUptoRow.laid ((Iu a).forCall (λ_ _=>0) ⟨#[],#[.slice none 0 0,.slice none 0 0],[]⟩).memory:=
 laidMet_of_run' 8 J J
theorem SQ(b:Os){H:Type}(enc:TypeId×Value->H):∃a,DataW.whole enc prog ((Iu b).forCall (λ_ _=>0) ⟨#[],#[.slice none 0 0,.slice none 0 0],[]⟩).memory f5.params.toList Rows.poolLateSpec.vars false #[Value.slice none 0 0,.slice none 0 0].toList 8=some ([.nil,.nil],[],a):=
 ⟨[],by kernel_rfl⟩
theorem pla_contract(H:Type)(enc:TypeId×Value->H)(W:World)(base:Nat)(args:Array Value)(ds gs:List (DataW H))(c:List MemPlace)
  (a:∀(j:Nat) t v,f5.params[j]?=some t->args[j]?=some v->Value.okWide prog W .any base t v)
  (hW:DataW.Whole enc prog f5.params.toList Rows.poolLateSpec.vars false W args.toList ds gs c)(hk:Rows.uptoSmall H (ds++gs)=true)(g:laidMetH prog Rows.poolLateUptoRow.laid W):
  Calls prog 5 args W λe W'=>∃v,e=.returned v/\Rows.poolLateSpec.post enc prog f5 false true false false W args v W':=by
 have b:=hW;obtain ⟨p,q,l,hV,rfl,_,_⟩:=hW;have hA:DataW.TrodAll enc prog W 0 (λ_=>true) true f5.params.toList args.toList ds p:=l;rw[params5] at hA a;obtain ⟨v0,v1,d0,d1,p0,p1,rfl,rfl,rfl,h0,h1⟩:=Aa8 hA;obtain ⟨rfl,rfl⟩:=trodVars_none hV;simp only[Acw] at b hk;have t0:∀x∈p0,x.block<W.heap.size:=λx z=>by have:=b.lt x (by simp[z]);simpa using this
 have t1:∀x∈p1,x.block<W.heap.size:=λx z=>by have:=b.lt x (by simp[z]);simpa using this
 have hb:Rows.uptoBulkAll [d0,d1]<=1048576:=of_decide_eq_true hk;simp only[Rows.uptoBulkAll] at hb;obtain ⟨a1,l0,c0,rfl⟩:=okWide_slice underlying50 (a 0 50 v0 Z Z);obtain ⟨a0,r⟩:=id h0;obtain ⟨m,s,f,y⟩:=NP (h:=r);obtain ⟨a2,l1,c1,rfl⟩:=okWide_slice underlying50 (a 1 50 v1 Z Z);obtain ⟨o,k⟩:=id h1;obtain ⟨n,i,d,w⟩:=NP (h:=k);refine (Cn.run2 (Yg (LZ g)) (Qq (ND W) (Aa7 (LZ g)) _ _ (m.map Prod.fst) (n.map Prod.fst) (by rw[AbN];omega) (IS W) (λh hh=>Wq (NE (LZ g) s (Wo f) h hh) (AbN ..).symm) (λh hh=>Wq (NE (LZ g) i (Wo d) h hh) (AbN ..).symm) (Wp f) (Wp d))).mono λe W' hR=>?_;obtain ⟨u,rfl,rfl,x⟩:∃u,e=Ending.returned u/\u=.bool true/\Ext No W W':=by cases e<;>first|exact ⟨_,rfl,hR⟩|exact hR.elim
 exact ⟨_,rfl,_,_,_,[],_,[],b,trodAll_mk1 (shut_bool underlying4 true),Yh (Below.trod Pa J (of_decide_eq_true J) h0 x.below t0) (Below.trod Pa J (of_decide_eq_true J) h1 x.below t1),rfl,x.below.frame _,λh=>by cases h⟩
theorem Qr(d:Os)(a:d.Started)(H:Type)(enc:TypeId×Value->H)(F:Stop.Interp):
  ReturnsInHanded {} checked d 5 .any ((Rows.OpenSpec.upto Rows.poolLateSpec).preRow enc prog f5 Rows.poolLateUptoRow.domain false Rows.poolLateUptoRow.laid) (((Rows.OpenSpec.upto Rows.poolLateSpec).at F).post enc prog f5 false true false false):=by
 obtain ⟨f,j⟩:=SQ d enc;refine returnsInHanded_of_row (C:=checked) (s:=Rows.OpenSpec.upto Rows.poolLateSpec) own a J func5
  (witness_row_at (enc:=enc) (C:=checked) false (Iu d) #[.slice none 0 0,.slice none 0 0] Z J J J
   (OpenSpec.preRow_of_cond 8 j J (λk i=>by cases i;kernel_rfl) J (YL d))) ?_
 intro W base args ds g b e h _ c _ l _ _;exact pla_contract H enc W base args ds g b e h (c _ Z) l
theorem pla_said:Rows.PoolLateUptoSaid:=
 OpenClaim.holds_of_cond 5 f5 Z Z Z Z Z Z Z ⟨Z,Z,Z,Z,Z⟩ Z Z Z Z Z J func5 J
  (of_decide_eq_true J) (by unfold Func.isWrapper;first|(rw[if_pos (by decide+kernel)];kernel_rfl)|(rw[if_neg (by decide+kernel)];exact ⟨rfl,rfl⟩))
  (λb a H enc _ F=>by rw[OpenClaim.pre_eq_preRow];exact Qr b a H enc F)
theorem SR(f:FuncId)(b:Func)(e:Tryz.pinned.checked.prog.funcNamed "polder/polderlaw10.PoolLate"=some f)(a:Tryz.pinned.checked.prog.funcs[f]?=some b):
  false=Tryz.pinned.checked.prog.looks []/\∀(j:Nat) t,b.params[j]?=some t->Tryz.pinned.checked.prog.wantsStandIn t=false:=by
 obtain rfl:f=5:=AdV ((show prog.funcNamed "polder/polderlaw10.PoolLate"=some 5 by kernel_rfl).symm.trans e) |>.symm;obtain rfl:b=f5:=(AdV (func5.symm.trans a)).symm;refine ⟨by kernel_rfl,λj t d=>?_⟩;rw[params5] at d;have c:=Array.mem_of_getElem? d;simp at c;rcases c with rfl|rfl<;>first|exact (show prog.wantsStandIn 50=false by kernel_rfl)
theorem poolLate_holds:Rows.PoolLateUptoCardSaid:=
 Claim7.holds_tied_plain_at .later [] _ _ _ _ pla_said (λ_ h=>by cases h) J (λ_ h=>by cases h) poolLateUpto_row_tie Z ⟨Z,Z⟩ J Z SR J
end Go.Proofs.YthbbejpbkglmlaaGreatDoor
