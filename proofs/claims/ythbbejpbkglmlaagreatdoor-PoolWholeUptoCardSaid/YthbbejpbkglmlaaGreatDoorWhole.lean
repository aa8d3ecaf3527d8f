/-
  A transaction that is aborted or refused has not happened No condition.
-/
import Derived.Test.YthbbejpbkglmlaaGreatDoorPart4
set_option maxRecDepth 100000
set_option linter.unusedSimpArgs false
set_option linter.unusedVariables false
open Go.Proofs.Tryz
namespace Go.Proofs.YthbbejpbkglmlaaGreatDoor
open Go.RowKit
def Du(C:Nat->Nat)(n:Nat)(p:Int):Int:=if 0<=p/\p<n then (C p.toNat:Int) else 0
theorem HU(b a bw n:Nat)(C:Nat->Nat)(p:Int)(c:16<=n/\n<=1024):Aj 112 [V b,Aa p] [blk b [.slice (some ⟨a,0,none⟩) n n,.slice (some ⟨bw,0,none⟩) n n] 166,Ax a C n] (λv G=>v=Aa (Du C n p)/\G=[blk b [.slice (some ⟨a,0,none⟩) n n,.slice (some ⟨bw,0,none⟩) n n] 166,Ax a C n]):=by
 unfold Du;by_cases h:0<=p/\p<n
 ·rw[if_pos h]
  have:=FF b a bw n C p.toNat U c;rwa[show ((p.toNat:Nat):Int)=p by omega] at this
 rw[if_neg h];exact NW b a bw n C p U c
def Ed(T:Nat->Bool)(n:Nat):List Value:=(List.range n).map λp=>.bool (T p)
theorem Hl(T:Nat->Bool)(n:Nat):(Ed T n).length=n:=by simp[Ed]
theorem tkB_at(T:Nat->Bool){n i:Nat}(h:i<n):(Ed T n)[i]?=some (.bool (T i)):=by simp[Ed,h]
theorem YK(T:Nat->Bool){n i:Nat}(h:i<n):(Ed T n).take (i*1)++[Value.bool true]++(Ed T n).drop (i*1+1)=Ed (insP T i) n:=by
 have e:=Adf (l:=Ed T n) (i:=i) (a:=Value.bool true);rw[if_pos (by rw[Hl];exact h)] at e;rw[AcY,Ab5,AdN,<-e];refine Ac0 λj=>?_;rw[AcZ];rcases Acj j n with c|c
 ·rw[tkB_at (insP T i) c]
  split
  ·rename_i b;subst b;rw[if_pos (by rw[Hl];exact h)];simp[insP]
  rename_i b;rw[tkB_at T c];simp[insP,AdC b]
 rw[Acs (by rw[Hl];exact c),Acs (by rw[Hl];exact c)];split
 ·rename_i b;subst b;rw[if_neg (by rw[Hl];omega)]
 rfl
theorem QD(pq pt e b:Nat)(x:Sup)(d c ov:Value)(a:Value)(g:Int)(f:Value)(bs:List UInt8)(B:Ah)(i:∀h,B h->rdH 1 f 240 (bs.map u8) h):Aj 54 [V pq,.agg #[Aa g,f]] [blk pq [V pt,V b,a] 76,blk pt [V e,Aa x.gen,Aa x.epoch,Aa x.pages,Aa x.start,Aa x.len,Aa x.head,Aa x.seq,d,c,.bool false,ov] 128,B] (λv G=>v=.tuple #[Aa 0,Aa 18]/\G=[blk pq [V pt,V b,a] 76,blk pt [V e,Aa x.gen,Aa x.epoch,Aa x.pages,Aa x.start,Aa x.len,Aa x.head,Aa x.seq,d,c,.bool false,ov] 128,B]):=by
 intro z R w H;replace H:=H.l3;obtain ⟨l,k,rfl⟩:=H.sy 2 (λq=>(i _ q).slc);refine Ac func54 Z ntmps54 Z (Za 2 [] H Z ?_);intro j w H;refine Z2 25 [0,1,0,10,2,0] H Z (Zr Z ?_);exact ⟨_,⟨Z,Z⟩,H.pick 4 [1,2,3] Z⟩
theorem QE(pq pt e f bn bw n:Nat)(x:Sup)(k g ov:Value)(a:Option Addr)(b:Nat)(c:Nat->Bool)(hn:16<=n/\n<=1024)(d:∀q,q<n->c q=true)(l:Int)(o:Value)(bs:List UInt8)(B:Ah)(hB:∀h,B h->rdH 1 o 240 (bs.map u8) h):Aj 54 [V pq,.agg #[Aa l,o]] [blk pq [V pt,V f,.slice a n b] 76,grow 4 1 (.slice a n b) n (Ed c n),blk pt [V e,Aa x.gen,Aa x.epoch,Aa x.pages,Aa x.start,Aa x.len,Aa x.head,Aa x.seq,k,g,.bool true,ov] 128,B] (λv G=>v=.tuple #[Aa 0,Aa 20]/\G=[blk pq [V pt,V f,.slice a n b] 76,grow 4 1 (.slice a n b) n (Ed c n),blk pt [V e,Aa x.gen,Aa x.epoch,Aa x.pages,Aa x.start,Aa x.len,Aa x.head,Aa x.seq,k,g,.bool true,ov] 128,B]):=by
 intro z R w H;replace H:=H.l4;obtain ⟨bo,s,rfl⟩:=H.sy 3 (λq=>(hB _ q).slc);refine Ac func54 Z ntmps54 Z (Za 2 [] H Z ?_);intro m w H;refine Z2 27 [0,1,0,10,3,0] H Z ?_;refine Ay (σ:=Nat) (λi=>[(6,Aa (i:Int)),(0,V pq),(3,V m)])
   (λi w=>Sep z (blk m [Aa l,.slice bo 240 s] 40::blk pq [V pt,V f,.slice a n b] 76::grow 4 1 (.slice a n b) n (Ed c n)::blk pt [V e,Aa x.gen,Aa x.epoch,Aa x.pages,Aa x.start,Aa x.len,Aa x.head,Aa x.seq,k,g,.bool true,ov] 128::B::R) w/\(i<=n)) (λi=>n-i) 0
   fr_z ⟨H,Acg _⟩ ?_
 clear H;rintro i w ⟨y,p⟩;have H:=y.l5;have hi:=p;clear p;refine Z2 12 [2,1,0,0] H Z (Af Z (λh1=>?_) (λh1=>?_))
 ·refine Z2 12 [2,1,0] H Z (Ad Z (Aw Z (z:=1) (j:=i) (r:=i) J Z Z Z U ((H.rv 2 (·.rd)).at (tkB_at c (show i<n by omega))) U) (Ad Z (AK Z Z J (AB ((H.rv 2 (·.rd)).at (tkB_at c (show i<n by omega))))) (Zc 2 Z (DQ Z (λu=>?_) (λu=>?_)))))
  ·refine Z1 9 [] [(i:Int)+1] Z U (gf ?_);intro _ t;refine ⟨(i+1),t.cz,⟨H,?_⟩,?_⟩
   ·omega
   omega
  (exfalso;have h9:=d i U;simp_all)
 refine Zc 2 Z (gx (Zc 9 Z (Zr Z ?_)));exact ⟨_,⟨Z,Z⟩,H.pick 5 [1,2,3,4] Z⟩
set_option maxHeartbeats 1000000 in
theorem SQ (pq pt m f g bw n:Nat) (x:Sup) (y u ov:Value) (C:Nat->Nat) (a:Option Addr) (b:Nat) (c:Nat->Bool) (hn:16<=n/\n<=1024) (p:Nat) (hp:p<n) (t:c p=false) (k:∀q,q<p->c q=true) (hC:C p=0) (l:Ah) (o:Int) (bv:Value) (bs:List UInt8) (B:Ah) (hB:∀h,B h->rdH 1 bv 240 (bs.map u8) h) (Q:Int->Ah->Prop) (hW:Aj 92 [V pt,Aa (p:Int),.agg #[Aa o,bv]] [blk pt [V m,Aa x.gen,Aa x.epoch,Aa x.pages,Aa x.start,Aa x.len,Aa x.head,Aa x.seq,y,u,.bool true,ov] 128,l,B] (λv G=>∃(e:Int) (d:Ah),Q e d/\v=Aa e/\G=[d,B])):Aj 54 [V pq,.agg #[Aa o,bv]] [blk pq [V pt,V f,.slice a n b] 76,grow 4 1 (.slice a n b) n (Ed c n),blk f [.slice (some ⟨g,0,none⟩) n n,.slice (some ⟨bw,0,none⟩) n n] 166,Ax g C n,blk pt [V m,Aa x.gen,Aa x.epoch,Aa x.pages,Aa x.start,Aa x.len,Aa x.head,Aa x.seq,y,u,.bool true,ov] 128,l,B] (λv G=>∃(e:Int) (d:Ah),Q e d/\((e=0/\v=.tuple #[Aa (p:Int),Aa 0]/\G=[blk pq [V pt,V f,.slice a n b] 76,grow 4 1 (.slice a n b) n (Ed (insP c p) n),blk f [.slice (some ⟨g,0,none⟩) n n,.slice (some ⟨bw,0,none⟩) n n] 166,Ax g (updN C p 1) n,d,B])\/(e≠0/\v=.tuple #[Aa 0,Aa e]/\G=[blk pq [V pt,V f,.slice a n b] 76,grow 4 1 (.slice a n b) n (Ed (insP c p) n),blk f [.slice (some ⟨g,0,none⟩) n n,.slice (some ⟨bw,0,none⟩) n n] 166,Ax g C n,d,B]))):=by
 intro z R w H;replace H:=H.l7;obtain ⟨bo,bc,rfl⟩:=H.sy 6 (λq=>(hB _ q).slc);refine Ac func54 Z ntmps54 Z (Za 2 [] H Z ?_);intro b1 w H;refine Z2 27 [0,1,0,10,5,0] H Z ?_;refine Ay (σ:=Nat) (λi=>[(6,Aa (i:Int)),(0,V pq),(3,V b1)])
   (λi w=>Sep z (blk b1 [Aa o,.slice bo 240 bc] 40::blk pq [V pt,V f,.slice a n b] 76::grow 4 1 (.slice a n b) n (Ed c n)::blk f [.slice (some ⟨g,0,none⟩) n n,.slice (some ⟨bw,0,none⟩) n n] 166::Ax g C n::blk pt [V m,Aa x.gen,Aa x.epoch,Aa x.pages,Aa x.start,Aa x.len,Aa x.head,Aa x.seq,y,u,.bool true,ov] 128::l::B::R) w/\(i<=p)) (λi=>n-i) 0
   fr_z ⟨H,Acg _⟩ ?_
 clear H;rintro i w ⟨s,hI⟩;have H:=s.l8;have hi:=hI;clear hI;refine Z2 12 [2,1,0,0] H Z (Af Z (λh1=>?_) (λh1=>?_))
 ·refine Z2 12 [2,1,0] H Z (Ad Z (Aw Z (z:=1) (j:=i) (r:=i) J Z Z Z U ((H.rv 2 (·.rd)).at (tkB_at c (show i<n by omega))) U) (Ad Z (AK Z Z J (AB ((H.rv 2 (·.rd)).at (tkB_at c (show i<n by omega))))) (Zc 2 Z (DQ Z (λh2=>?_) (λh2=>?_)))))
  ·have a1:i<p:=Nat.lt_of_le_of_ne hi (λe=>by subst e;simp_all)
   refine Z1 9 [] [(i:Int)+1] Z U (gf ?_);intro _ hF;refine ⟨(i+1),hF.cz,⟨H,?_⟩,?_⟩
   ·omega
   omega
  obtain rfl:i=p:=Ada λa0=>(by have h9:=k i U;simp_all);refine Z2 9 [2,1,0] H Z (Ad Z (Aw Z (z:=1) (j:=i) (r:=i) J Z Z Z U ((H.rv 2 (·.rd)).at (tkB_at c (show i<n by omega))) U) (Ba Z Z (Vz 2 H Z Z Z (AcY _) Z Z (j:=i) (vs:=[.bool true]) (by simp[Value.oneCell']) J Z U (out:=Ed (insP c i) n) (YK c U)) ?_));rintro w H;replace H:=H.l8;refine Zc 3 Z (Bh 6 J J (A0 H λw s=>?_));have H:=s.l8;refine Lz 6 [0,1,0,0,2] [] H Z J (B3 (gw (AA Z (call92 _) (hW) H.f7.f7.f7 ?_)));rintro _ w _ ⟨e,d,hQ,rfl,rfl⟩ H;refine Z0 10 [0] Z (Af Z (λh3=>?_) (λh3=>?_))
  ·refine Zc 8 Z (Zr Z ?_);exact ⟨_,⟨e,d,hQ,.inr ⟨(by assumption),Z,Z⟩⟩,H.pick 7 [3,4,5,6,0,1] Z⟩
  refine Z2 9 [1,3,0] H Z (Ai Z (call95 _) (I8 _ _ _ _ C i 1 1 U U (by rw[hC];rfl) U U) H.f6.f6 ?_);intro w H;refine Zc 10 Z (Zr Z ?_);exact ⟨_,⟨e,d,hQ,.inl ⟨U,Z,Z⟩⟩,H.pick 7 [5,6,0,1,2,3] Z⟩
 (exfalso;omega)
theorem QF(pq pt e b:Nat)(x:Sup)(d c ov:Value)(a:Value)(p:Int)(g:Int)(f:Value)(bs:List UInt8)(B:Ah)(i:∀h,B h->rdH 1 f 240 (bs.map u8) h):Aj 56 [V pq,Aa p,.agg #[Aa g,f]] [blk pq [V pt,V b,a] 76,blk pt [V e,Aa x.gen,Aa x.epoch,Aa x.pages,Aa x.start,Aa x.len,Aa x.head,Aa x.seq,d,c,.bool false,ov] 128,B] (λv G=>v=Aa 18/\G=[blk pq [V pt,V b,a] 76,blk pt [V e,Aa x.gen,Aa x.epoch,Aa x.pages,Aa x.start,Aa x.len,Aa x.head,Aa x.seq,d,c,.bool false,ov] 128,B]):=by
 intro z R w H;replace H:=H.l3;obtain ⟨l,k,rfl⟩:=H.sy 2 (λq=>(i _ q).slc);refine Ac func56 Z ntmps56 Z (Za 2 [] H Z ?_);intro j w H;refine Z2 23 [0,1,0,10,2,0] H Z (Zr Z ?_);exact ⟨_,⟨Z,Z⟩,H.pick 4 [1,2,3] Z⟩
theorem QG(pq pt e a b bw n:Nat)(x:Sup)(g f ov:Value)(C:Nat->Nat)(d:Value)(y:16<=n/\n<=1024)(c:x.pages=n)(p:Int)(l: -9223372036854775808<=p/\p<=9223372036854775807)(j:Du C n p=0\/(0<p/\p<=(manyN n:Int)))(m:Int)(i:Value)(bs:List UInt8)(B:Ah)(t:∀h,B h->rdH 1 i 240 (bs.map u8) h):Aj 56 [V pq,Aa p,.agg #[Aa m,i]] [blk pq [V pt,V a,d] 76,blk a [.slice (some ⟨b,0,none⟩) n n,.slice (some ⟨bw,0,none⟩) n n] 166,Ax b C n,blk pt [V e,Aa x.gen,Aa x.epoch,Aa x.pages,Aa x.start,Aa x.len,Aa x.head,Aa x.seq,g,f,.bool true,ov] 128,B] (λv G=>v=Aa 2/\G=[blk pq [V pt,V a,d] 76,blk a [.slice (some ⟨b,0,none⟩) n n,.slice (some ⟨bw,0,none⟩) n n] 166,Ax b C n,blk pt [V e,Aa x.gen,Aa x.epoch,Aa x.pages,Aa x.start,Aa x.len,Aa x.head,Aa x.seq,g,f,.bool true,ov] 128,B]):=by
 intro z R w H;replace H:=H.l5;obtain ⟨bo,u,rfl⟩:=H.sy 4 (λq=>(t _ q).slc);have r:manyN n=(n+119)/120:=rfl;refine Ac func56 Z ntmps56 Z (Za 2 [] H Z ?_);intro b1 w H;refine Z2 27 [0,1,0,10,4,0,1,1,0] H Z (Ai Z (call112 _) (HU _ _ _ _ _ p U) H.f3.f3 ?_);intro w H;refine Z0 2 [0] Z (Ak 22 Z (λs=>?_) (λs=>?_))
 ·refine Zc 25 Z (Zr Z ?_);exact ⟨_,⟨Z,Z⟩,H.pick 6 [3,0,1,4,5] Z⟩
 refine Z0 3 [0] Z (Ak 25 Z (λo=>?_) (λo=>?_))
 ·refine Z2 9 [0,3,0,1,3,4,0] H Z (k_updA 34 (v:=Aa (n:Int)) Z (congrArg Aa c) (Ai Z (call94 _) (CY _ U) H ?_));intro w H;refine Z0 5 [0] Z (Af Z (λk=>?_) (λk=>?_))
  ·refine Zc 6 Z (Zr Z ?_);exact ⟨_,⟨Z,Z⟩,H.pick 6 [3,0,1,4,5] Z⟩
  (exfalso;omega)
 (exfalso;omega)
theorem QH(pq pt m b c bw n:Nat)(x:Sup)(t s ov:Value)(C:Nat->Nat)(k:Value)(hn:16<=n/\n<=1024)(g:x.pages=n)(p:Int)(y: -9223372036854775808<=p/\p<=9223372036854775807)(j:¬(Du C n p=0\/(0<p/\p<=(manyN n:Int))))(l:Ah)(o:Int)(i:Value)(bs:List UInt8)(B:Ah)(hB:∀h,B h->rdH 1 i 240 (bs.map u8) h)(Q:Int->Ah->Prop)(r:Aj 92 [V pt,Aa p,.agg #[Aa o,i]] [blk pt [V m,Aa x.gen,Aa x.epoch,Aa x.pages,Aa x.start,Aa x.len,Aa x.head,Aa x.seq,t,s,.bool true,ov] 128,l,B] (λv G=>∃(e:Int) (a:Ah),Q e a/\v=Aa e/\G=[a,B])):Aj 56 [V pq,Aa p,.agg #[Aa o,i]] [blk pq [V pt,V b,k] 76,blk b [.slice (some ⟨c,0,none⟩) n n,.slice (some ⟨bw,0,none⟩) n n] 166,Ax c C n,blk pt [V m,Aa x.gen,Aa x.epoch,Aa x.pages,Aa x.start,Aa x.len,Aa x.head,Aa x.seq,t,s,.bool true,ov] 128,l,B] (λv G=>∃(e:Int) (a:Ah),Q e a/\v=Aa e/\G=[blk pq [V pt,V b,k] 76,blk b [.slice (some ⟨c,0,none⟩) n n,.slice (some ⟨bw,0,none⟩) n n] 166,Ax c C n,a,B]):=by
 intro z R w H;replace H:=H.l6;obtain ⟨bo,bc,rfl⟩:=H.sy 5 (λq=>(hB _ q).slc);have a0:manyN n=(n+119)/120:=rfl;refine Ac func56 Z ntmps56 Z (Za 2 [] H Z ?_);intro b1 w H;refine Z2 27 [0,1,0,10,4,0,1,1,0] H Z (Ai Z (call112 _) (HU _ _ _ _ _ p U) H.f3.f3 ?_);intro w H;refine Z0 2 [0] Z (Ak 22 Z (λh1=>U) (λh1=>?_));refine Z0 3 [0] Z (Ak 25 Z (λh2=>?_) (λh2=>?_))
 ·refine Z2 9 [0,3,0,1,3,4,0] H Z (k_updA 34 (v:=Aa (n:Int)) Z (congrArg Aa g) (Ai Z (call94 _) (CY _ U) H ?_));intro w H;refine Z0 5 [0] Z (Af Z (λu=>U) (λu=>?_))
  refine Zc 3 Z (Bh 6 J J (A0 H λw f=>?_));have H:=f.l7;refine Lz 6 [0,3,0,2,2] [] H Z J (B3 (gw (AA Z (call92 _) (r) H.f6.f6.f6 ?_)));rintro _ w _ ⟨e,a,d,rfl,rfl⟩ H;refine Zc 4 Z (Zr Z ?_);exact ⟨_,⟨e,a,d,Z,Z⟩,H.pick 6 [5,2,3,0,1] Z⟩
 refine Zc 19 Z (Bh 6 J J (A0 H λw f=>?_));have H:=f.l7;refine Lz 6 [0,3,0,2,2] [] H Z J (B3 (gw (AA Z (call92 _) (r) H.f6.f6.f6 ?_)));rintro _ w _ ⟨e,a,d,rfl,rfl⟩ H;refine Zc 4 Z (Zr Z ?_);exact ⟨_,⟨e,a,d,Z,Z⟩,H.pick 6 [5,2,3,0,1] Z⟩
theorem VA(pq pt a d:Nat)(x:Sup)(e c ov:Value)(b:Value)(p:Int):Aj 57 [V pq,Aa p] [blk pq [V pt,V d,b] 76,blk pt [V a,Aa x.gen,Aa x.epoch,Aa x.pages,Aa x.start,Aa x.len,Aa x.head,Aa x.seq,e,c,.bool false,ov] 128] (λv G=>v=Aa 18/\G=[blk pq [V pt,V d,b] 76,blk pt [V a,Aa x.gen,Aa x.epoch,Aa x.pages,Aa x.start,Aa x.len,Aa x.head,Aa x.seq,e,c,.bool false,ov] 128]):=by
 intro z R w H;replace H:=H.l2;refine Ac func57 Z ntmps57 Z (Z2 25 [0,0,0,10,1,0] H Z (Zr Z ?_));exact ⟨_,⟨Z,Z⟩,H.pick 2 [0,1] Z⟩
theorem VB(pq pt g a b bw n:Nat)(x:Sup)(f e ov:Value)(C:Nat->Nat)(d:Value)(m:16<=n/\n<=1024)(c:x.pages=n)(p:Int)(j: -9223372036854775808<=p/\p<=9223372036854775807)(h:Du C n p=0\/p<=(manyN n:Int)):Aj 57 [V pq,Aa p] [blk pq [V pt,V a,d] 76,blk a [.slice (some ⟨b,0,none⟩) n n,.slice (some ⟨bw,0,none⟩) n n] 166,Ax b C n,blk pt [V g,Aa x.gen,Aa x.epoch,Aa x.pages,Aa x.start,Aa x.len,Aa x.head,Aa x.seq,f,e,.bool true,ov] 128] (λv G=>v=Aa 2/\G=[blk pq [V pt,V a,d] 76,blk a [.slice (some ⟨b,0,none⟩) n n,.slice (some ⟨bw,0,none⟩) n n] 166,Ax b C n,blk pt [V g,Aa x.gen,Aa x.epoch,Aa x.pages,Aa x.start,Aa x.len,Aa x.head,Aa x.seq,f,e,.bool true,ov] 128]):=by
 intro z R w H;replace H:=H.l4;have i:manyN n=(n+119)/120:=rfl;refine Ac func57 Z ntmps57 Z (Z2 29 [0,0,0,10,3,0,1,0,0] H Z (Ai Z (call112 _) (HU _ _ _ _ _ p U) H.f2.f2 ?_));intro w H;refine Z0 2 [0] Z (Ak 20 Z (λk=>?_) (λk=>?_))
 ·refine Zc 21 Z (Zr Z ?_);exact ⟨_,⟨Z,Z⟩,H.pick 4 [2,0,1,3] Z⟩
 refine Z2 9 [0,2,0,1,3,3,0] H Z (k_updA 29 (v:=Aa (n:Int)) Z (congrArg Aa c) (Ai Z (call94 _) (CY _ U) H ?_));intro w H;refine Z0 4 [0] Z (Af Z (λl=>?_) (λl=>?_))
 ·refine Zc 6 Z (Zr Z ?_);exact ⟨_,⟨Z,Z⟩,H.pick 4 [2,0,1,3] Z⟩
 (exfalso;omega)
theorem VC(pq pt g a b bw n:Nat)(x:Sup)(f e ov:Value)(C:Nat->Nat)(d:Value)(l:16<=n/\n<=1024)(c:x.pages=n)(p:Nat)(hp:manyN n<p/\p<n)(i:C p=1000):Aj 57 [V pq,Aa (p:Int)] [blk pq [V pt,V a,d] 76,blk a [.slice (some ⟨b,0,none⟩) n n,.slice (some ⟨bw,0,none⟩) n n] 166,Ax b C n,blk pt [V g,Aa x.gen,Aa x.epoch,Aa x.pages,Aa x.start,Aa x.len,Aa x.head,Aa x.seq,f,e,.bool true,ov] 128] (λv G=>v=Aa 21/\G=[blk pq [V pt,V a,d] 76,blk a [.slice (some ⟨b,0,none⟩) n n,.slice (some ⟨bw,0,none⟩) n n] 166,Ax b C n,blk pt [V g,Aa x.gen,Aa x.epoch,Aa x.pages,Aa x.start,Aa x.len,Aa x.head,Aa x.seq,f,e,.bool true,ov] 128]):=by
 intro z R w H;replace H:=H.l4;have h:manyN n=(n+119)/120:=rfl;refine Ac func57 Z ntmps57 Z (Z2 29 [0,0,0,10,3,0,1,0,0] H Z (Ai Z (call112 _) (FF _ _ _ _ _ p U U) H.f2.f2 ?_));intro w H;replace H:=H.l4;refine Z0 2 [0] Z (Ak 20 Z (λj=>U) (λj=>?_));refine Z2 9 [0,2,0,1,3,3,0] H Z (k_updA 29 (v:=Aa (n:Int)) Z (congrArg Aa c) (Ai Z (call94 _) (CY _ U) H ?_));intro w H;replace H:=H.l4;refine Z0 4 [0] Z (Af Z (λk=>U) (λk=>?_));refine Z2 9 [1,2,0] H Z (Ai Z (call95 _) (Vu _ _ _ _ C p U U i) H ?_);intro w H;replace H:=H.l4;refine Zc 4 Z (Zr Z ?_);exact ⟨_,⟨Z,Z⟩,H.pick 4 [2,0,1,3] Z⟩
theorem YL(pq pt g a b bw n:Nat)(x:Sup)(f e ov:Value)(C:Nat->Nat)(d:Value)(l:16<=n/\n<=1024)(c:x.pages=n)(p:Nat)(hp:manyN n<p/\p<n)(k:(C p<1000/\1<=C p)):Aj 57 [V pq,Aa (p:Int)] [blk pq [V pt,V a,d] 76,blk a [.slice (some ⟨b,0,none⟩) n n,.slice (some ⟨bw,0,none⟩) n n] 166,Ax b C n,blk pt [V g,Aa x.gen,Aa x.epoch,Aa x.pages,Aa x.start,Aa x.len,Aa x.head,Aa x.seq,f,e,.bool true,ov] 128] (λv G=>v=Aa 0/\G=[blk pq [V pt,V a,d] 76,blk a [.slice (some ⟨b,0,none⟩) n n,.slice (some ⟨bw,0,none⟩) n n] 166,Ax b (updN C p (C p+1)) n,blk pt [V g,Aa x.gen,Aa x.epoch,Aa x.pages,Aa x.start,Aa x.len,Aa x.head,Aa x.seq,f,e,.bool true,ov] 128]):=by
 intro z R w H;replace H:=H.l4;have h:manyN n=(n+119)/120:=rfl;refine Ac func57 Z ntmps57 Z (Z2 29 [0,0,0,10,3,0,1,0,0] H Z (Ai Z (call112 _) (FF _ _ _ _ _ p U U) H.f2.f2 ?_));intro w H;replace H:=H.l4;refine Z0 2 [0] Z (Ak 20 Z (λi=>U) (λi=>?_));refine Z2 9 [0,2,0,1,3,3,0] H Z (k_updA 29 (v:=Aa (n:Int)) Z (congrArg Aa c) (Ai Z (call94 _) (CY _ U) H ?_));intro w H;replace H:=H.l4;refine Z0 4 [0] Z (Af Z (λj=>U) (λj=>?_));refine Z2 9 [1,2,0] H Z (Ai Z (call95 _) (I8 _ _ _ _ C p (C p+1) 1 U U U U U) H ?_);intro w H;replace H:=H.l4;refine Zc 4 Z (Zr Z ?_);exact ⟨_,⟨Z,Z⟩,H.pick 4 [2,0,1,3] Z⟩
theorem QI(pq pt a d:Nat)(x:Sup)(e c ov:Value)(b:Value)(p:Int):Aj 58 [V pq,Aa p] [blk pq [V pt,V d,b] 76,blk pt [V a,Aa x.gen,Aa x.epoch,Aa x.pages,Aa x.start,Aa x.len,Aa x.head,Aa x.seq,e,c,.bool false,ov] 128] (λv G=>v=Aa 18/\G=[blk pq [V pt,V d,b] 76,blk pt [V a,Aa x.gen,Aa x.epoch,Aa x.pages,Aa x.start,Aa x.len,Aa x.head,Aa x.seq,e,c,.bool false,ov] 128]):=by
 intro z R w H;replace H:=H.l2;refine Ac func58 Z ntmps58 Z (Z2 25 [0,0,0,10,1,0] H Z (Zr Z ?_));exact ⟨_,⟨Z,Z⟩,H.pick 2 [0,1] Z⟩
theorem QJ(pq pt g a b bw n:Nat)(x:Sup)(f e ov:Value)(C:Nat->Nat)(d:Value)(m:16<=n/\n<=1024)(c:x.pages=n)(p:Int)(j: -9223372036854775808<=p/\p<=9223372036854775807)(h:Du C n p=0\/p<=(manyN n:Int)):Aj 58 [V pq,Aa p] [blk pq [V pt,V a,d] 76,blk a [.slice (some ⟨b,0,none⟩) n n,.slice (some ⟨bw,0,none⟩) n n] 166,Ax b C n,blk pt [V g,Aa x.gen,Aa x.epoch,Aa x.pages,Aa x.start,Aa x.len,Aa x.head,Aa x.seq,f,e,.bool true,ov] 128] (λv G=>v=Aa 2/\G=[blk pq [V pt,V a,d] 76,blk a [.slice (some ⟨b,0,none⟩) n n,.slice (some ⟨bw,0,none⟩) n n] 166,Ax b C n,blk pt [V g,Aa x.gen,Aa x.epoch,Aa x.pages,Aa x.start,Aa x.len,Aa x.head,Aa x.seq,f,e,.bool true,ov] 128]):=by
 intro z R w H;replace H:=H.l4;have i:manyN n=(n+119)/120:=rfl;refine Ac func58 Z ntmps58 Z (Z2 29 [0,0,0,10,3,0,1,0,0] H Z (Ai Z (call112 _) (HU _ _ _ _ _ p U) H.f2.f2 ?_));intro w H;refine Z0 2 [0] Z (Ak 20 Z (λk=>?_) (λk=>?_))
 ·refine Zc 21 Z (Zr Z ?_);exact ⟨_,⟨Z,Z⟩,H.pick 4 [2,0,1,3] Z⟩
 refine Z2 9 [0,2,0,1,3,3,0] H Z (k_updA 29 (v:=Aa (n:Int)) Z (congrArg Aa c) (Ai Z (call94 _) (CY _ U) H ?_));intro w H;refine Z0 4 [0] Z (Af Z (λl=>?_) (λl=>?_))
 ·refine Zc 6 Z (Zr Z ?_);exact ⟨_,⟨Z,Z⟩,H.pick 4 [2,0,1,3] Z⟩
 (exfalso;omega)
theorem SR(pq pt g a b bw n:Nat)(x:Sup)(f e ov:Value)(C:Nat->Nat)(d:Value)(l:16<=n/\n<=1024)(c:x.pages=n)(p:Nat)(hp:manyN n<p/\p<n)(k:(1<=C p/\C p<=1000)):Aj 58 [V pq,Aa (p:Int)] [blk pq [V pt,V a,d] 76,blk a [.slice (some ⟨b,0,none⟩) n n,.slice (some ⟨bw,0,none⟩) n n] 166,Ax b C n,blk pt [V g,Aa x.gen,Aa x.epoch,Aa x.pages,Aa x.start,Aa x.len,Aa x.head,Aa x.seq,f,e,.bool true,ov] 128] (λv G=>v=Aa 0/\G=[blk pq [V pt,V a,d] 76,blk a [.slice (some ⟨b,0,none⟩) n n,.slice (some ⟨bw,0,none⟩) n n] 166,Ax b (updN C p (C p-1)) n,blk pt [V g,Aa x.gen,Aa x.epoch,Aa x.pages,Aa x.start,Aa x.len,Aa x.head,Aa x.seq,f,e,.bool true,ov] 128]):=by
 intro z R w H;replace H:=H.l4;have h:manyN n=(n+119)/120:=rfl;refine Ac func58 Z ntmps58 Z (Z2 29 [0,0,0,10,3,0,1,0,0] H Z (Ai Z (call112 _) (FF _ _ _ _ _ p U U) H.f2.f2 ?_));intro w H;replace H:=H.l4;refine Z0 2 [0] Z (Ak 20 Z (λi=>U) (λi=>?_));refine Z2 9 [0,2,0,1,3,3,0] H Z (k_updA 29 (v:=Aa (n:Int)) Z (congrArg Aa c) (Ai Z (call94 _) (CY _ U) H ?_));intro w H;replace H:=H.l4;refine Z0 4 [0] Z (Af Z (λj=>U) (λj=>?_));refine Z2 9 [1,2,0] H Z (Ai Z (call95 _) (I8 _ _ _ _ C p (C p-1) (-1) U U U U U) H ?_);intro w H;replace H:=H.l4;refine Zc 4 Z (Zr Z ?_);exact ⟨_,⟨Z,Z⟩,H.pick 4 [2,0,1,3] Z⟩
theorem L5(pq pt d:Nat)(b:Value)(c:Ah)(Q:Int->Ah->Prop)(f:Aj 90 [V pt] [c] (λv G=>∃(e:Int) (a:Ah),Q e a/\v=Aa e/\G=[a])):Aj 53 [V pq] [blk pq [V pt,V d,b] 76,c] (λv G=>∃(e:Int) (a:Ah),Q e a/\v=Aa e/\G=[blk pq [V pt,V d,b] 76,a]):=by
 intro z R w H;replace H:=H.l2;refine Ac func53 Z ntmps53 Z (Z2 11 [0,0,0] H Z (AA Z (call90 _) (f) H.f1 ?_));rintro _ w _ ⟨e,a,g,rfl,rfl⟩ H;refine Zc 4 Z (Zr Z ?_);exact ⟨_,⟨e,a,g,Z,Z⟩,H.pick 2 [1,0] Z⟩
theorem SS(pq pt g i bw n:Nat)(C W:Nat->Nat)(k:Value)(o:16<=n/\n<=1024)(j:Ah)(Q:Sup->Nat->Value->Value->Bool->Value->Ah->Prop)(l:Aj 67 [V pt] [j] (λv G=>∃(x:Sup) (c:Nat) (b a:Value) (e:Bool) (ov:Value) (d:Ah),(x.pages=n/\Q x c b a e ov d)/\v=.tuple #[]/\G=[blk pt [V c,Aa x.gen,Aa x.epoch,Aa x.pages,Aa x.start,Aa x.len,Aa x.head,Aa x.seq,b,a,.bool e,ov] 128,d])):Aj 26 [V pq] [blk pq [V pt,V g,k] 76,blk g [.slice (some ⟨i,0,none⟩) n n,.slice (some ⟨bw,0,none⟩) n n] 166,Ax i C n,Ax bw W n,j] (λv G=>∃(x:Sup) (c:Nat) (b a:Value) (e:Bool) (ov:Value) (d:Ah) (h:Value),(x.pages=n/\Q x c b a e ov d)/\v=.tuple #[]/\G=[blk pq [V pt,V g,h] 76,grow 4 1 h n (F4 W n),blk g [.slice (some ⟨i,0,none⟩) n n,.slice (some ⟨bw,0,none⟩) n n] 166,Ax i W n,Ax bw W n,blk pt [V c,Aa x.gen,Aa x.epoch,Aa x.pages,Aa x.start,Aa x.len,Aa x.head,Aa x.seq,b,a,.bool e,ov] 128,d]):=by
 intro z R w H;replace H:=H.l5;refine Ac func26 Z ntmps26 Z (Z2 6 [0,0,0] H Z (AA Z (call67 _) (l) H.f4 ?_));rintro _ w _ ⟨x,c,b,a,e,ov,d,⟨f,m⟩,rfl,rfl⟩ H;refine Z2 8 [1,2,0] H Z (Ai Z (call68 _) (Vt _ _ _ _ _ _ U) H.f5.f5.f5 ?_);intro w H;refine Zc 4 Z (AA Z (call69 _) (HS _ _ _ _ _ _ n _ _ _ _ _ _ _ _ U f) H.f3.f3.f3.f3.f5 ?_);rintro _ w _ ⟨h,rfl,rfl⟩ H;refine Zc 1 Z (Zf Z ?_);exact ⟨_,⟨x,c,b,a,e,ov,d,h,⟨f,m⟩,Z,Z⟩,H.pick 7 [0,1,2,3,4,5,6] Z⟩
theorem Jb(b a m n:Nat)(C:Nat->Nat)(p:Int)(c:16<=n/\n<=1024):Aj 50 [V b,Aa p] [coB b a n m,Ax a C n] (λv G=>v=Aa (Du C n p)/\G=[coB b a n m,Ax a C n]):=by
 unfold Du;by_cases h:0<=p/\p<n
 ·rw[if_pos h]
  have:=EF b a m n C p.toNat U c;rwa[show ((p.toNat:Nat):Int)=p by omega] at this
 rw[if_neg h];exact Yd b a m n C p U c
theorem ST(pp ps c d n:Nat)(b:Ah)(Q:Int->Ah->Prop)(f:Aj 39 [V ps] [b] (λv G=>∃(e:Int) (a:Ah),Q e a/\v=Aa e/\G=[a])):Aj 11 [V pp] [plB pp ps c d n true,b] (λv G=>∃(e:Int) (a:Ah),Q e a/\v=Aa e/\G=[plB pp ps c d n true,a]):=by
 intro z R w H;replace H:=H.l2;refine Ac func11 Z ntmps11 Z (Z2 12 [0,0,0,0] H Z (AA Z (call39 _) (f) H.f1 ?_));rintro _ w _ ⟨e,a,g,rfl,rfl⟩ H;refine Z4 26 [4,1,0,4,1] H Z ?_;intro w H;refine Zr Z ?_;exact ⟨_,⟨e,a,g,Z,Z⟩,H.pick 2 [1,0] Z⟩
theorem SU(pp ps a b n:Nat)(p:Int)(d:Int)(c:Value)(bs:List UInt8)(B:Ah)(e:∀h,B h->rdH 1 c 240 (bs.map u8) h):Aj 22 [V pp,Aa p,.agg #[Aa d,c]] [plB pp ps a b n false,B] (λv G=>v=Aa 18/\G=[plB pp ps a b n false,B]):=by
 intro z R w H;replace H:=H.l2;obtain ⟨i,g,rfl⟩:=H.sy 1 (λq=>(e _ q).slc);refine Ac func22 Z ntmps22 Z (Za 2 [] H Z ?_);intro f w H;refine Z2 22 [4,1,0] H Z (Zr Z ?_);exact ⟨_,⟨Z,Z⟩,H.pick 3 [1,2] Z⟩
theorem SV(pp ps a b m c n:Nat)(C:Nat->Nat)(u:16<=n/\n<=1024)(p:Int)(i: -9223372036854775808<=p/\p<=9223372036854775807)(e:Du C n p=0\/(0<p/\p<=(manyN n:Int)))(j:Int)(d:Value)(bs:List UInt8)(B:Ah)(l:∀h,B h->rdH 1 d 240 (bs.map u8) h):Aj 22 [V pp,Aa p,.agg #[Aa j,d]] [plB pp ps a c n true,coB a b n m,Ax b C n,B] (λv G=>v=Aa 2/\G=[plB pp ps a c n true,coB a b n m,Ax b C n,B]):=by
 intro z R w H;replace H:=H.l4;obtain ⟨t,s,rfl⟩:=H.sy 3 (λq=>(l _ q).slc);have f:manyN n=(n+119)/120:=rfl;refine Ac func22 Z ntmps22 Z (Za 2 [] H Z ?_);intro r w H;refine Z2 23 [4,1,0,1,1,0] H Z (Ai Z (call50 _) (Jb _ _ _ _ _ p U) H.f3.f3 ?_);intro w H;refine Z0 2 [0] Z (Ak 21 Z (λk=>?_) (λk=>?_))
 ·refine Zc 22 Z (Zr Z ?_);exact ⟨_,⟨Z,Z⟩,H.pick 5 [3,0,1,4] Z⟩
 refine Z0 3 [0] Z (Ak 24 Z (λo=>?_) (λo=>?_))
 ·refine Z2 5 [3,3,0] H Z (Ai Z (call51 _) (DS _ U) H ?_);intro w H;refine Z0 6 [0] Z (Af Z (λg=>?_) (λg=>?_))
  ·refine Zc 6 Z (Zr Z ?_);exact ⟨_,⟨Z,Z⟩,H.pick 5 [3,0,1,4] Z⟩
  (exfalso;omega)
 (exfalso;omega)
theorem L6(pp ps b c m k n:Nat)(C:Nat->Nat)(hn:16<=n/\n<=1024)(p:Int)(s: -9223372036854775808<=p/\p<=9223372036854775807)(i:¬(Du C n p=0\/(0<p/\p<=(manyN n:Int))))(j:Ah)(l:Int)(g:Value)(bs:List UInt8)(B:Ah)(y:∀h,B h->rdH 1 g 240 (bs.map u8) h)(Q:Int->Ah->Prop)(o:Aj 41 [V ps,Aa p,.agg #[Aa l,g]] [j,B] (λv G=>∃(e:Int) (a:Ah),Q e a/\v=Aa e/\G=[a,B])):Aj 22 [V pp,Aa p,.agg #[Aa l,g]] [plB pp ps b k n true,coB b c n m,Ax c C n,j,B] (λv G=>∃(e:Int) (a:Ah),Q e a/\v=Aa e/\G=[plB pp ps b k n true,coB b c n m,Ax c C n,a,B]):=by
 intro z R w H;replace H:=H.l5;obtain ⟨bo,bc,rfl⟩:=H.sy 4 (λq=>(y _ q).slc);have u:manyN n=(n+119)/120:=rfl;refine Ac func22 Z ntmps22 Z (Za 2 [] H Z ?_);intro b1 w H;refine Z2 23 [4,1,0,1,1,0] H Z (Ai Z (call50 _) (Jb _ _ _ _ _ p U) H.f3.f3 ?_);intro w H;refine Z0 2 [0] Z (Ak 21 Z (λx=>U) (λx=>?_));refine Z0 3 [0] Z (Ak 24 Z (λt=>?_) (λt=>?_))
 ·refine Z2 5 [3,3,0] H Z (Ai Z (call51 _) (DS _ U) H ?_);intro w H;refine Z0 6 [0] Z (Af Z (λr=>U) (λr=>?_))
  refine Zc 4 Z (Bh 7 J J (A0 H λw f=>?_));have H:=f.l6;refine Lz 7 [0,0,3,0,2,2] [] H Z J (B3 (gw (AA Z (call41 _) (o) H.f5.f5 ?_)));rintro _ w _ ⟨e,a,d,rfl,rfl⟩ H;refine Zc 4 Z (Zr Z ?_);exact ⟨_,⟨e,a,d,Z,Z⟩,H.pick 6 [5,2,3,0,1] Z⟩
 refine Zc 17 Z (Bh 7 J J (A0 H λw f=>?_));have H:=f.l6;refine Lz 7 [0,0,3,0,2,2] [] H Z J (B3 (gw (AA Z (call41 _) (o) H.f5.f5 ?_)));rintro _ w _ ⟨e,a,d,rfl,rfl⟩ H;refine Zc 4 Z (Zr Z ?_);exact ⟨_,⟨e,a,d,Z,Z⟩,H.pick 6 [5,2,3,0,1] Z⟩
theorem YM(pp ps a b n:Nat)(p:Int):Aj 17 [V pp,Aa p] [plB pp ps a b n false] (λv G=>v=Aa 18/\G=[plB pp ps a b n false]):=by
 intro z R w H;replace H:=H.l1;refine Ac func17 Z ntmps17 Z (Z2 24 [4,0,0] H Z (Zr Z ?_));exact ⟨_,⟨Z,Z⟩,H.pick 1 [0] Z⟩
theorem YN(pp ps a b m c n:Nat)(C:Nat->Nat)(i:16<=n/\n<=1024)(p:Int)(f: -9223372036854775808<=p/\p<=9223372036854775807)(d:Du C n p=0\/p<=(manyN n:Int)):Aj 17 [V pp,Aa p] [plB pp ps a c n true,coB a b n m,Ax b C n] (λv G=>v=Aa 2/\G=[plB pp ps a c n true,coB a b n m,Ax b C n]):=by
 intro z R w H;replace H:=H.l3;have e:manyN n=(n+119)/120:=rfl;refine Ac func17 Z ntmps17 Z (Z2 25 [4,0,0,1,0,0] H Z (Ai Z (call50 _) (Jb _ _ _ _ _ p U) H.f2.f2 ?_));intro w H;refine Z0 2 [0] Z (Ak 19 Z (λg=>?_) (λg=>?_))
 ·refine Zc 18 Z (Zr Z ?_);exact ⟨_,⟨Z,Z⟩,H.pick 3 [2,0,1] Z⟩
 refine Z2 5 [3,2,0] H Z (Ai Z (call51 _) (DS _ U) H ?_);intro w H;refine Z0 5 [0] Z (Af Z (λh=>?_) (λh=>?_))
 ·refine Zc 6 Z (Zr Z ?_);exact ⟨_,⟨Z,Z⟩,H.pick 3 [2,0,1] Z⟩
 (exfalso;omega)
theorem SW(pp ps a b n:Nat)(p:Int):Aj 15 [V pp,Aa p] [plB pp ps a b n false] (λv G=>v=Aa 18/\G=[plB pp ps a b n false]):=by
 intro z R w H;replace H:=H.l1;refine Ac func15 Z ntmps15 Z (Z2 24 [4,0,0] H Z (Zr Z ?_));exact ⟨_,⟨Z,Z⟩,H.pick 1 [0] Z⟩
theorem SX(pp ps a b m c n:Nat)(C:Nat->Nat)(i:16<=n/\n<=1024)(p:Int)(f: -9223372036854775808<=p/\p<=9223372036854775807)(d:Du C n p=0\/p<=(manyN n:Int)):Aj 15 [V pp,Aa p] [plB pp ps a c n true,coB a b n m,Ax b C n] (λv G=>v=Aa 2/\G=[plB pp ps a c n true,coB a b n m,Ax b C n]):=by
 intro z R w H;replace H:=H.l3;have e:manyN n=(n+119)/120:=rfl;refine Ac func15 Z ntmps15 Z (Z2 25 [4,0,0,1,0,0] H Z (Ai Z (call50 _) (Jb _ _ _ _ _ p U) H.f2.f2 ?_));intro w H;refine Z0 2 [0] Z (Ak 20 Z (λg=>?_) (λg=>?_))
 ·refine Zc 18 Z (Zr Z ?_);exact ⟨_,⟨Z,Z⟩,H.pick 3 [2,0,1] Z⟩
 refine Z2 5 [3,2,0] H Z (Ai Z (call51 _) (DS _ U) H ?_);intro w H;refine Z0 5 [0] Z (Af Z (λh=>?_) (λh=>?_))
 ·refine Zc 6 Z (Zr Z ?_);exact ⟨_,⟨Z,Z⟩,H.pick 3 [2,0,1] Z⟩
 (exfalso;omega)
theorem YO(b a m n:Nat)(C:Nat->Nat)(p:Nat)(hp:p<n)(g:16<=n/\n<=1024)(f:C p=1000):Aj 43 [V b,Aa (p:Int),Aa 1] [coB b a n m,Ax a C n] (λv G=>v=Aa 21/\G=[coB b a n m,Ax a C n]):=by
 intro z R w H;replace H:=H.l2;refine Ac func43 Z ntmps43 Z (Z0 11 [0] Z (Ak 11 Z (λd=>U) (λd=>?_)));refine Z2 10 [0,0,0,0] H Z (Af Z (λe=>U) (λe=>?_));refine Z3 12 [0,0,0,1,p,p] [] H Z U (Ad Z (A5 Z Z J (AB (H.cel 1 Z p (cnL_at _ U)))) (Z1 3 [0] [1000-(C p:Int)] Z U (Ak 30 Z (λc=>?_) (λc=>?_))))
 ·refine Zc 20 Z (Zr Z ?_);exact ⟨_,⟨Z,Z⟩,H.pick 2 [0,1] Z⟩
 (exfalso;omega)
theorem YP(pp ps a b m c n:Nat)(C:Nat->Nat)(g:16<=n/\n<=1024)(p:Nat)(hp:manyN n<p/\p<n)(d:C p=1000):Aj 17 [V pp,Aa (p:Int)] [plB pp ps a c n true,coB a b n m,Ax b C n] (λv G=>v=Aa 21/\G=[plB pp ps a c n true,coB a b n m,Ax b C n]):=by
 intro z R w H;replace H:=H.l3;refine Ac func17 Z ntmps17 Z (Z2 25 [4,0,0,1,0,0] H Z (Ai Z (call50 _) (EF _ _ _ _ _ _ U U) H.f2.f2 ?_));intro w H;replace H:=H.l3;refine Z0 2 [0] Z (Ak 19 Z (λe=>U) (λe=>?_));refine Z2 5 [3,2,0] H Z (Ai Z (call51 _) (DS _ U) H ?_);intro w H;replace H:=H.l3;refine Z0 5 [0] Z (Af Z (λf=>U) (λf=>?_));refine Z2 10 [1,2,0] H Z (Ai Z (call43 _) (YO _ _ _ _ _ _ U U d) H ?_);intro w H;replace H:=H.l3;refine Zc 4 Z (Zr Z ?_);exact ⟨_,⟨Z,Z⟩,H.pick 3 [2,0,1] Z⟩
theorem QK(pp ps a b n:Nat):Aj 14 [V pp] [plB pp ps a b n false] (λv G=>v=Aa 18/\G=[plB pp ps a b n false]):=by
 intro z R w H;replace H:=H.l1;refine Ac func14 Z ntmps14 Z (Z2 22 [4,0,0] H Z (Zr Z ?_));exact ⟨_,⟨Z,Z⟩,H.pick 1 [0] Z⟩
theorem YQ(pp ps c a n:Nat)(F b S:Nat->Bool)(e:16<=n/\n<=1024)(p:Nat)(hp:p<n)(d:b p=false):Aj 42 [V pp,Aa (p:Int)] [plB pp ps c a n true,alB a n (BW F p) b S] (λv G=>v=.tuple #[]/\G=[plB pp ps c a n true,alB a n (BW F p) (insP b p) S]):=by
 intro z R w H;replace H:=H.l2;refine Ac func42 Z ntmps42 Z (Z2 6 [2,0,0] H Z (Ai Z (call52 _) (Pe _ _ _ _ _ p U U (by simp[BW]) d) H.f1 ?_));intro w H;refine Zc 1 Z (Zf Z ?_);exact ⟨_,⟨Z,Z⟩,H.pick 2 [1,0] Z⟩
set_option maxHeartbeats 1000000 in
theorem pfreshE_c (pp ps m b n:Nat) (F c S:Nat->Bool) (hn:16<=n/\n<=1024) (p:Nat) (hp:p<n) (f:F p=true) (d:∀q,q<p->F q=false) (u:c p=false) (A:Ah) (r:Fp A) (j:Ah) (l:Int) (i:Value) (bs:List UInt8) (B:Ah) (x:∀h,B h->rdH 1 i 240 (bs.map u8) h) (Q:Int->Ah->Prop) (g:∀e a,Q e a->e≠0) (s:Aj 41 [V ps,Aa (p:Int),.agg #[Aa l,i]] [j,B] (λv G=>∃(e:Int) (a:Ah),Q e a/\v=Aa e/\G=[a,B])):Aj 12 [V pp,.agg #[Aa l,i]] [plB pp ps m b n true,alB b n F c S,A,j,B] (λv G=>∃(e:Int) (a:Ah),Q e a/\v=.tuple #[Aa 0,Aa e]/\G=[plB pp ps m b n true,alB b n (BW F p) (insP c p) S,A,a,B]):=by
 intro z R w H;replace H:=H.l5;obtain ⟨bo,y,rfl⟩:=H.sy 4 (λq=>(x _ q).slc);refine Ac func12 Z ntmps12 Z (Za 2 [] H Z ?_);intro b1 w H;refine Z2 23 [4,1,0,2,1,0] H Z (Ai Z (call40 _) (Sb _ _ _ _ _ p U U f d _ r) H.f3.f3 ?_);intro w H;refine Zc 19 Z (Bh 7 J J (A0 H λw t=>?_));have H:=t.l6;refine Lz 7 [0,0,3,0,2,2] [] H Z J (B3 (gw (AA Z (call41 _) (s) H.f5.f5 ?_)));rintro _ w _ ⟨e,a,k,rfl,rfl⟩ H;refine Z0 9 [0] Z (Af Z (λo=>?_) (λo=>?_))
 ·refine Zc 4 Z (Ai Z (call42 _) (YQ _ _ _ _ _ F c S U p U u) H.f2.f5 ?_);intro w H;refine Zc 10 Z (Zr Z ?_);exact ⟨_,⟨e,a,k,Z,Z⟩,H.pick 6 [0,1,4,2,3] Z⟩
 exact absurd (Aet.1 o) (g _ _ k)
theorem SY(pp ps c a n:Nat)(F d S:Nat->Bool)(b:∀q,q<1024->F q=false)(f:Int)(e:Value)(bs:List UInt8)(B:Ah)(g:∀h,B h->rdH 1 e 240 (bs.map u8) h):Aj 12 [V pp,.agg #[Aa f,e]] [plB pp ps c a n true,alB a n F d S,B] (λv G=>v=.tuple #[Aa 0,Aa 20]/\G=[plB pp ps c a n true,alB a n F d S,B]):=by
 intro z R w H;replace H:=H.l3;obtain ⟨k,j,rfl⟩:=H.sy 2 (λq=>(g _ q).slc);refine Ac func12 Z ntmps12 Z (Za 2 [] H Z ?_);intro i w H;refine Z2 23 [4,1,0,2,1,0] H Z (Ai Z (call40 _) (Ph _ _ _ _ _ b) H.f2 ?_);intro w H;refine Zc 22 Z (Zr Z ?_);exact ⟨_,⟨Z,Z⟩,H.perm 4 [2,0,3] Z Z⟩
theorem QL(pp ps a b n:Nat)(d:Int)(c:Value)(bs:List UInt8)(B:Ah)(e:∀h,B h->rdH 1 c 240 (bs.map u8) h):Aj 12 [V pp,.agg #[Aa d,c]] [plB pp ps a b n false,B] (λv G=>v=.tuple #[Aa 0,Aa 18]/\G=[plB pp ps a b n false,B]):=by
 intro z R w H;replace H:=H.l2;obtain ⟨i,g,rfl⟩:=H.sy 1 (λq=>(e _ q).slc);refine Ac func12 Z ntmps12 Z (Za 2 [] H Z ?_);intro f w H;refine Z2 22 [4,1,0] H Z (Zr Z ?_);exact ⟨_,⟨Z,Z⟩,H.perm 3 [1,2] Z Z⟩
set_option maxHeartbeats 1000000 in
theorem QM (pp ps pd b f m c n:Nat) (D:Dsk) (G:StG) (mb:Nat) (t:AZ) (k0:Nat) (C C0:Nat->Nat) (l:List IE) (clk:Nat) (F Dd S:Nat->Bool) (W:WasOk C C0 n l clk) (hn:16<=n/\n<=1024) (hG:G.x.pages=n) (hg:∀i,i<manyN n->t (1+i)=none) (a4:∀k,C k<=1000) (hF:Fine D G mb) (hm:mb<=1000000000):Aj 14 [V pp] [stoA ps pd D G (some (t,k0)),plB pp ps b c n true,coB b f n m,Ax f C n,AC m l clk,alB c n F Dd S] (λv X=>(∃(D2:Dsk) (s:StG) (g:AZ) (k:Nat) (zs:List Int),CmI n C zs t k0 zs.length g k/\(∀x:Int,x∈zs↔∃k:Nat,k<n/\C k≠C0 k/\x=((k/120:Nat):Int))/\Fine D2 s (mb+2)/\D2.n=D.n/\s.M=Cd G.M (some (g,k))/\(s.x=G.x\/s.x=Ea G.x G.a G.q)/\v=Aa 0/\X=[stoA ps pd D2 s none,plB pp ps b c n false,coB b f n m,Ax f C n,AC m ([]) clk,alB c n (Cs F Dd) Bw (Cs F Dd)])\/((∃(i:Nat) (g:AZ) (k:Nat),i<manyN n/\(g (1+i)=none/\40<=k)/\∃(zs:List Int) (j:Nat),CmI n C zs t k0 j g k/\zs[j]?=some (i:Int)/\∀x:Int,x∈zs↔∃k:Nat,k<n/\C k≠C0 k/\x=((k/120:Nat):Int))/\v=Aa 16/\X=[stoA ps pd D G none,plB pp ps b c n false,coB b f n m,Ax f C0 n,AC m ([]) clk,alB c n S Bw S])):=by
 intro z R w H;replace H:=H.l6;refine Ac func14 Z ntmps14 Z (Z2 25 [4,1,0,1,1,0] H Z (AA Z (call44 _) (ID _ _ _ _ _ C0 _ _ U W) H.f4.f4.f4 ?_));rintro v1 w _ ⟨v2,zs,Z_,⟨b2,p,a0⟩,rfl,rfl⟩ H;replace H:=H.l7;obtain ⟨za,zc,rfl⟩:=H.sy 0 (λq=>(a0 _ q).slc);refine Zc 5 Z ?_;refine Ay (σ:=Nat×AZ×Nat) (λ⟨j,g,k⟩=>[(18,Aa (j:Int)),(0,V pp),(16,.slice za zs.length zc),(17,Aa (zs.length:Int))])
   (λ⟨j,g,k⟩ w=>Sep z (Z_::coB b f n m::Ax f C n::AC m l clk::stoA ps pd D G (some (g,k))::plB pp ps b c n true::alB c n F Dd S::R) w/\(CmI n C zs t k0 j g k)) (λ⟨j,g,k⟩=>zs.length-j) ⟨0,t,k0⟩
   fr_z ⟨H,CmI.start hg⟩ ?_
 clear H;rintro ⟨j,g,k⟩ w ⟨o,hI⟩;dsimp only at hI o ⊢;have H:=o.l7;have hC:=hI;clear hI;have b3:=hC.jl;refine Z0 6 [0] Z (Af Z (λh1=>?_) (λh1=>?_))
 ·obtain ⟨z_,e⟩:∃z_,zs[j]?=some z_:=⟨_,Ab0 U⟩;obtain ⟨q_,a5,b1,a3⟩:=(p z_).1 (Ab1 e);obtain ⟨i,y⟩:∃i,i=q_/120:=⟨_,Z⟩;rw[<-y] at a3;subst a3;have hi:i<manyN n:=y▸Ld a5
  have b4:manyN n<n:=by unfold manyN;omega
  refine Zc 6 Z ?_;have a1:=(H.rd 0 Z a0).at (j:=j) (u:=Aa (i:Int)) (by simp[e]);refine Ad Z (Aw Z (z:=1) (j:=j) (r:=j) J Z Z Z U a1 U) (Ad Z (AK Z Z J (AB a1)) (Zc 4 Z ?_));replace H:=H.f5;refine BA (Sep z (plB pp ps b c n true::R)) 16 Z J (A0 H λw o=>?_);have H:=o.l7;refine Mx [0,1,2,3,4,5,6,7,8,9,10,11] [0,0,0,0,1,0,0] [((1+i:Nat):Int)] (by exact H.pick 7 [0] Z) Z J U Z (BZ [12] J O (Ar (A6 Z Z Z Z Z Z (λw=>call45 _ w) (I6 _ _ _ _ _ i hi U a4) H.f3.f3 Z ?_)));rintro _ w _ ⟨pw,rfl,rfl⟩ H;replace H:=H.l8;refine BI (H.pick 8 [3] Z) (Cj [13] [] [] (by exact H.pick 8 [3] Z) Z J Z (BZ [14] J O (Ar (A6 Z Z Z Z Z Z (λw=>call41 _ w) (E6 _ _ _ _ _ _ (1+i) U (CC C n i) (CH _ _ _) _ _ (λh q=>q.rd U U (HN (CH _ _ _).2) (I7 (CH _ _ _).2))) H.f6 Z ?_))));rintro _ w _ (⟨a2,rfl,rfl⟩|⟨_,rfl,rfl⟩) o
  ·have H:=o.l8;refine BI (H.pick 8 [4] Z) (Cj [15] [] [] (by exact H.pick 8 [4] Z) Z J Z (a_done J (gn (Z0 11 [3] Z (Ai Z (call20 _) (JN _ _ _ _ _ _ _ _ _ _ g k _ _ _ _ _ _ _ W) H.f7.f7.f5.f5.f6.f5 ?_)))));intro w H;refine Zc 9 Z (Zr Z ?_);exact ⟨_,.inr ⟨⟨i,g,k,hi,a2,zs,j,hC,e,p⟩,Z,Z⟩,H.pick 8 [0,1,2,3,4,5] Z⟩
  have H:=o.l8;refine BI (H.pick 8 [4] Z) (Cj [15] [] [] (by exact H.pick 8 [4] Z) Z J Z (a_done J (gn (Z1 15 [4] [(j:Int)+1] Z U ?_))));replace H:=H.f1.d.f6.f4.f2.f6.f5.f5.f6;refine gf ?_;intro _ hF;refine ⟨⟨j+1,pgSet g (1+i) (CC C n i),k+(if (g (1+i)).isSome then 0 else 1)⟩,hF.cz,⟨H,?_⟩,?_⟩
  ·exact hC.put hi e
  (dsimp only;omega)
 obtain rfl:j=zs.length:=by omega
 refine Zc 2 Z (gx (Z2 10 [0,0,5,0] H Z (AA Z (call46 _) (JG _ _ _ _ _ _ mb hF hm) H.f4 ?_)));rintro _ w _ ⟨D2,s,a9,a6,⟨a7,b0⟩,a8,rfl,rfl⟩ H;refine Z4 26 [4,4,5,1,5,0] H Z ?_;intro w H;refine Ai Z (call48 _) (IC _ _ _ _ _ _) H.f4.f3 ?_;intro w H;refine Z2 8 [2,5,0] H Z (Ai Z (call49 _) (GM _ _ _ _ _) H.f6 ?_);intro w H;refine Zc 8 Z (Zr Z ?_);exact ⟨_,.inl ⟨D2,s,g,k,zs,hC,p,a9,a6,a7,a8,Z,Z⟩,H.pick 7 [3,6,1,5,2,0] Z⟩
section
section
variable{Tb:Ah×Nat}
variable{z w:World}{Γ:List Ah}{pp mb n ps pd:Nat}{M0:Nat->Pg}{C0:Nat->Nat}{t:Option PoT}{T:PoT}{D:Dsk}{G:StG}{own:CV}

theorem VD(ps pd:Nat)(D:Dsk)(G:StG)(o:AZ×Nat):Aj 39 [V ps] [stoA ps pd D G (some o)] (λv X=>v=Aa 17/\X=[stoA ps pd D G (some o)]):=by
 intro z R w H;obtain ⟨X,b,H⟩:=H.sto;refine Ret.mono (Cn.at (Uk ps pd X.pt X.md G.x _ _) H 7 [0,1,2,3,4,5,6] Z Z) ?_;rintro v w' ⟨Γ',⟨rfl,rfl⟩,a⟩;exact ⟨_,⟨Z,Z⟩,(a.pick 7 [0,1,2,3,4,5,6] Z).toSto 7 b Z⟩
theorem YR(ps pd:Nat)(D:Dsk)(G:StG)(o:AZ×Nat):Aj 28 [V ps] [stoA ps pd D G (some o)] (λv X=>v=Aa 17/\X=[stoA ps pd D G (some o)]):=by
 intro z R w H;obtain ⟨X,b,H⟩:=H.sto;refine Ret.mono (Cn.at (Vs ps pd X.pt X.md G.x _ _) H 7 [0,1,2,3,4,5,6] Z Z) ?_;rintro v w' ⟨Γ',⟨rfl,rfl⟩,a⟩;exact ⟨_,⟨Z,Z⟩,(a.pick 7 [0,1,2,3,4,5,6] Z).toSto 7 b Z⟩
theorem YS(ps pd:Nat)(D:Dsk)(G:StG)(own:CV)(p:Int)(hp:p<0\/G.x.pages<=p):Aj 21 [V ps,Aa p] [stoA ps pd D G own] (λv X=>v=.tuple #[.agg #[Aa 0,.slice none 0 0],Aa 2]/\X=[stoA ps pd D G own]):=by
 intro z R w H;obtain ⟨X,b,H⟩:=H.sto
 cases own with
 | none=>
  refine Ret.mono (Cn.at (N3 ps pd X.pt X.md G.x _ _ _ p hp) H 6 [0,1,2,3,4,5] Z Z) ?_;rintro v w' ⟨Γ',⟨rfl,rfl⟩,a⟩;exact ⟨_,⟨Z,Z⟩,(a.pick 6 [0,1,2,3,4,5] Z).toSto 6 b Z⟩
 | some o=>
  refine Ret.mono (Cn.at (N3 ps pd X.pt X.md G.x _ _ _ p hp) H 7 [0,1,2,3,4,5,6] Z Z) ?_;rintro v w' ⟨Γ',⟨rfl,rfl⟩,a⟩;exact ⟨_,⟨Z,Z⟩,(a.pick 7 [0,1,2,3,4,5,6] Z).toSto 7 b Z⟩
theorem N6(ps pd:Nat)(D:Dsk)(G:StG)(g:AZ)(k:Nat)(p:Nat)(f:(p:Int)<G.x.pages)(a:Int)(e:a<1\/5<a)(b:Value)(c:b.oneCell'=true):Aj 41 [V ps,Aa (p:Int),.agg #[Aa a,b]] [stoA ps pd D G (some (g,k))] (λv X=>v=Aa 1/\X=[stoA ps pd D G (some (g,k))]):=by
 intro z R w H;obtain ⟨X,h,H⟩:=H.sto;refine Ret.mono (Cn.at (SG ps pd X.pt X.md X.mm G.x _ g k X.hq p f a e b c) H 7 [0,6,1,2,3,4,5] Z Z) ?_;rintro v w' ⟨Γ',⟨rfl,rfl⟩,d⟩;exact ⟨_,⟨Z,Z⟩,(d.pick 7 [0,2,3,4,5,6,1] Z).toSto (X:=X) (ps:=ps) (pd:=pd) (D:=D) (G:=G) (own:=some (g,k)) 7 h Z⟩

theorem VE(pp mb n:Nat)(M0:Nat->Pg)(C0:Nat->Nat)(T:PoT):Aj 11 [V pp] [poA Tb pp mb n M0 C0 (some T)] (λv G=>v=Aa 17/\G=[poA Tb pp mb n M0 C0 (some T)]):=by
 intro z R w H;obtain ⟨X,d,H⟩:=H.po;refine Ret.mono (Cn.at (ST pp X.ps X.pc X.pa n (stoA X.ps X.pd X.D X.G (some (X.g,T.k))) (λe S2=>e=17/\S2=stoA X.ps X.pd X.D X.G (some (X.g,T.k))) ((VD _ _ _ _ _).mono λv Γ ⟨b,c⟩=>⟨17,_,⟨Z,Z⟩,b,c⟩)) H 7 [0,1,2,3,4,5,6] Z Z) ?_;rintro v w' ⟨Γ',⟨e,S2,⟨rfl,rfl⟩,rfl,rfl⟩,a⟩;exact ⟨_,⟨Z,Z⟩,(a.pick 7 [0,1,2,3,4,5,6] Z).toPo d Z⟩
theorem PoQ.f{X:PoX}(Q:PoQ n C0 T X)(p:Nat)(hp:T.F p=true):PoQ n C0 {T with F:=BW T.F p} {X with Dd:=insP X.Dd p} :=by
 refine ⟨Q.m,Q.gn,Q.W,Q.c,?_,λq hq=>?_,Q.one⟩
 ·show Cs (BW T.F p) (insP X.Dd p)=frC n T.C
  rw[<-Q.df];funext q;unfold Cs BW insP;by_cases e:q=p
  ·subst e;simp[hp]
  simp[e]
 have a:insP X.Dd p q=true:=hq;show BW T.F p q=false;unfold insP at a;unfold BW;by_cases e:q=p
 ·subst e;simp
 simp[e] at a;rw[Q.dj q a];rfl
theorem SZ{F:Nat->Bool}(h:∃q,F q=true):∃p,F p=true/\∀q,q<p->F q=false:=by
 obtain ⟨q,hq⟩:=h;have:∀m q,q<=m->F q=true->∃p,F p=true/\∀q,q<p->F q=false:=λm=>by
  induction m with
  | zero=>intro q c a;exact ⟨q,a,λr b=>by omega⟩
  | succ m ih=>
   intro q c a;by_cases h3:∃r,r<q/\F r=true
   ·obtain ⟨r,f,d⟩:=h3
    exact ih r U d
   refine ⟨q,a,λr b=>?_⟩
   cases e:F r with
   | false=>rfl
   | true=>exact absurd ⟨r,b,e⟩ h3
 exact this q q (Acv _) hq
def FrX(T:PoT)(v:Value)(T2:PoT):Prop:=
 (∃e:Int,e≠0/\v=.tuple #[.int .i64 0,.int .i64 e]/\(T2=T\/∃p,T.F p=true/\T2= {T with F:=BW T.F p}))\/
 ∃(p k2:Nat) (x:Pg),(T.F p=true/\∀q,q<p->T.F q=false)/\v=.tuple #[.int .i64 (p:Int),.int .i64 0]/\T2=⟨BY T.M p x,BY T.C p 1,BW T.F p,k2⟩
theorem N7(pp mb n:Nat)(M0:Nat->Pg)(C0:Nat->Nat)(T:PoT)(p:Nat)(i:T.F p=true)(b:∀q,q<p->T.F q=false)(e:Int)(s:e≠0)(d:Int)(bs:List UInt8)(o:Value)(B:Ah)(hB:∀h,B h->rdH 1 o 240 (bs.map u8) h)
  (hW:∀X:PoX,PoP Tb mb n M0 C0 (some T) X->Aj 41 [.pointer (some ⟨X.ps,0,none⟩),Aa (p:Int),.agg #[Aa d,o]] [stoA X.ps X.pd X.D X.G (some (X.g,T.k)),B] (λv K=>v=Aa e/\K=[stoA X.ps X.pd X.D X.G (some (X.g,T.k)),B])\/((1<=d/\d<=5)/\bs.length=240/\¬(X.g p=none/\40<=T.k))):
  Aj 12 [V pp,.agg #[Aa d,o]] [poA Tb pp mb n M0 C0 (some T),B] (λv G=>∃T2,FrX T v T2/\G=[poA Tb pp mb n M0 C0 (some T2),B]):=by
 intro z R w H;obtain ⟨X,a,H⟩:=H.po;have Q:=a.tx T Z;have K:=Q.k a.hn.1;have hn:=a.hn;obtain ⟨u,k2,k3⟩:=K.free p i;have y:X.Dd p=false:=by
  cases e:X.Dd p with
  | false=>rfl
  | true=>have:=Q.dj p e;rw[i] at this;cases this
 rcases hW X a with h|h
 ·refine Ret.mono (Cn.at (pfreshE_c pp X.ps X.pc X.pa n T.F X.Dd (frC n C0) a.hn p u i b y X.A a.tab.1 (stoA X.ps X.pd X.D X.G (some (X.g,T.k))) d o bs B hB (λe' S2=>e'=e/\S2=stoA X.ps X.pd X.D X.G (some (X.g,T.k))) (λe' S2 h=>by rw[h.1];exact s) (h.mono λv Γ ⟨h1,h2⟩=>⟨e,_,⟨Z,Z⟩,h1,h2⟩)) H 8 [0,5,6,1,7,2,3,4] Z Z) ?_
  rintro v w' ⟨Γ',⟨_,S2,⟨rfl,rfl⟩,rfl,rfl⟩,r⟩;exact ⟨_,⟨_,.inl ⟨_,s,Z,.inr ⟨p,i,Z⟩⟩,Z⟩,(r.pick 8 [0,3,5,6,7,1,2,4] Z).toPo (X:= {X with Dd:=insP X.Dd p}) (t:=some {T with F:=BW T.F p}) ⟨a.hn,a.fine,a.pg,a.tab,a.m0,a.cp,a.c0,a.one,λe=>(by cases e),λT' e=>by cases e;exact Q.f p i⟩ Z⟩
 obtain ⟨hk,hb,hg⟩:=h;refine Ret.mono (Cn.at (NJ pp X.ps X.pd X.pc X.bn X.mm X.pa n X.D X.G X.g T.k T.C C0 X.l X.clk T.F X.Dd (frC n C0) Q.W a.hn a.pg p ⟨d,bs⟩ ⟨hk,hb⟩ o B hB hg u i b k2 X.A a.tab.1) H 8 [1,0,2,3,4,5,6,7] Z Z) ?_;rintro v w' ⟨Γ',⟨l2,j,W2,rfl,rfl⟩,r⟩;refine ⟨_,⟨_,.inr ⟨p,_,_,⟨i,b⟩,Z,Z⟩,Z⟩,((r.pick 8 [1,0,2,3,4,5,6,7] Z).toPo (X:= {X with g:=pgSet X.g p ⟨d,bs⟩,l:=l2,clk:=j}) (t:=some ⟨BY T.M p ⟨d,bs⟩,BY T.C p 1,BW T.F p,T.k+(if (X.g p).isSome then 0 else 1)⟩) ⟨a.hn,a.fine,a.pg,a.tab,a.m0,a.cp,a.c0,a.one,λe=>(by cases e),λT' e=>?_⟩ Z)⟩;cases e;have Q2:=Q.put (x:=⟨d,bs⟩) (.inr k3) 0;refine ⟨Q2.m,Q2.gn,W2,λk=>?_,?_,λq hq=>?_,λq hq=>?_⟩
 ·show BY T.C p 1 k<=1000
  unfold BY;split
  ·omega
  exact Q.c k
 ·show Cs (BW T.F p) X.Dd=frC n (BY T.C p 1)
  funext q;have:Cs T.F X.Dd q=frC n T.C q:=by rw[Q.df]
  unfold Cs frC at this;unfold Cs BW frC BY;by_cases e:q=p
  ·subst e;simp[y]
  simp[e];simpa using this
 ·have:=Q.dj q hq
  show BW T.F p q=false;unfold BW;rw[this];rfl
 show BY T.C p 1 q=1;rw[IF _ _ U];exact Q.one q hq
theorem N8(pp mb n:Nat)(M0:Nat->Pg)(C0:Nat->Nat)(T:PoT)(a:Int)(bs:List UInt8)(d:bs.length=240)(c:Value)(B:Ah)(f:∀h,B h->rdH 1 c 240 (bs.map u8) h):
  Aj 12 [V pp,.agg #[Aa a,c]] [poA Tb pp mb n M0 C0 (some T),B] (λv G=>∃T2,FrX T v T2/\G=[poA Tb pp mb n M0 C0 (some T2),B]):=λz R w H=>by
 by_cases hno:∀q,q<1024->T.F q=false
 ·obtain ⟨X,b,H⟩:=H.po
  by_cases hk:1<=a/\a<=5
  ·refine Ret.mono (Cn.at (LR pp X.ps X.pc X.pa n ⟨a,bs⟩ ⟨hk,d⟩ c B f T.F X.Dd (frC n C0) hno) H 8 [0,5,7,1,2,3,4,6] Z Z) ?_
   rintro v w' ⟨Γ',⟨rfl,rfl⟩,i⟩;exact ⟨_,⟨T,.inl ⟨20,by omega,Z,.inl Z⟩,Z⟩,(i.pick 8 [0,3,4,5,6,1,7,2] Z).toPo b Z⟩
  refine Ret.mono (Cn.at (SY pp X.ps X.pc X.pa n T.F X.Dd (frC n C0) hno a c bs B f) H 8 [0,5,7,1,2,3,4,6] Z Z) ?_;rintro v w' ⟨Γ',⟨rfl,rfl⟩,i⟩;exact ⟨_,⟨T,.inl ⟨20,by omega,Z,.inl Z⟩,Z⟩,(i.pick 8 [0,3,4,5,6,1,7,2] Z).toPo b Z⟩
 obtain ⟨p,j,s⟩:=SZ (F:=T.F) (Ada λh=>hno (λq _=>by
  cases e:T.F q with
  | false=>rfl
  | true=>exact absurd ⟨q,e⟩ h))
 by_cases hk:1<=a/\a<=5
 ·refine N7 pp mb n M0 C0 T p j s 16 U a bs c B f (λX b=>?_) z R w H
  have K:=(b.tx T Z).k b.hn.1;have l:=(K.free p j).1;have o:=b.pg;by_cases hg:X.g p=none/\40<=T.k
  ·exact .inl ((E6 X.ps X.pd X.D X.G X.g T.k p U ⟨a,bs⟩ ⟨hk,d⟩ c B f).mono λv Γ h=>by
    rcases h with ⟨_,m,t⟩|⟨m,_⟩
    ·exact ⟨m,t⟩
    exact absurd hg m)
  exact .inr ⟨hk,d,hg⟩
 refine N7 pp mb n M0 C0 T p j s 1 U a bs c B f (λX b=>?_) z R w H;have K:=(b.tx T Z).k b.hn.1;have l:=(K.free p j).1;have o:=b.pg;exact .inl λz R w H=>by
  obtain ⟨x,u,r⟩:Slc c 240:=H.sy 1 (λq=>(f _ q).slc);refine Ret.mono (Cn.at (N6 X.ps X.pd X.D X.G X.g T.k p U a U c (by rw[r];rfl)) H 2 [0,1] Z Z) ?_;rintro v w' ⟨Γ',⟨rfl,rfl⟩,i⟩;exact ⟨_,⟨Z,Z⟩,i⟩
end
end
section
section
variable{z w:World}{Γ:List Ah}{pt dn mb n:Nat}{K:Nat->Pg}{t:CV}{hq:Hp}
def rsR(dn:Nat)(hq:Hp)(X:RsX):Ah:=seps [PC X.pl X.pr X.sl X.a X.q X.u,rdkA X.pr dn X.F X.m,poolA hq]
theorem Sep.rso2(H:Sep z (rsoA pt dn mb n K t hq::Γ) w):∃X,RsP dn mb n K t hq X/\Sep z (rsB pt X.pr X.pl X.x X.pv t.isSome X.ov::rsR dn hq X::Γ) w:=by
 obtain ⟨X,P,H⟩:=H.rso;refine ⟨X,P,?_⟩;have H2:=H.pick 4 [1,2,3,0] Z;have H3:Sep z (rsR dn hq X::rsB pt X.pr X.pl X.x X.pv t.isSome X.ov::Γ) w:=Sep.shut (As:=[PC X.pl X.pr X.sl X.a X.q X.u,rdkA X.pr dn X.F X.m,poolA hq]) H2;exact H3.pick 2 [1,0] Z
theorem Sep.toRso2{X:RsX}(H:Sep z (rsB pt X.pr X.pl X.x X.pv t.isSome X.ov::rsR dn hq X::Γ) w)(P:RsP dn mb n K t hq X):Sep z (rsoA pt dn mb n K t hq::Γ) w:=by
 have H2:=(H.pick 2 [1,0] Z);have H3:=Sep.opened (As:=[PC X.pl X.pr X.sl X.a X.q X.u,rdkA X.pr dn X.F X.m,poolA hq]) H2;exact (H3.pick 4 [3,0,1,2] Z).toRso P Z
def wrO(o:AZ×Nat)(p:Nat)(x:Pg):Int×(AZ×Nat):=if (o.1 p).isSome=false/\40<=o.2 then (16,o) else (0,(pgSet o.1 p x,o.2+(if (o.1 p).isSome then 0 else 1)))
def Et(o:AZ×Nat)(p:Nat)(kd:Int)(bs:List UInt8):Int×(AZ×Nat):=if 1<=kd/\kd<=5 then wrO o p ⟨kd,bs⟩ else (1,o)
theorem N9(ps dn mb n:Nat)(K:Nat->Pg)(o:AZ×Nat)(hq:Hp)(p:Nat)(hp:p<n)(a:Int)(bs:List UInt8)(c:bs.length=240)(b:Value)(B:Ah)(e:∀h,B h->rdH 1 b 240 (bs.map u8) h):Aj 92 [V ps,Aa (p:Int),.agg #[Aa a,b]] [rsoA ps dn mb n K (some o) hq,B] (λv G=>∃f,v=Aa (Et o p a bs).1/\G=[rsoA ps dn mb n K (some (Et o p a bs).2) f,B]):=by
 obtain ⟨g,k⟩:=o;unfold Et;by_cases hk:1<=a/\a<=5
 ·rw[if_pos hk]
  unfold wrO;by_cases h:(g p).isSome=false/\40<=k
  ·rw[if_pos h]
   exact (Vx ps dn mb n K g k hq p hp ⟨a,bs⟩ ⟨hk,c⟩ b B e ⟨by simpa using h.1,h.2⟩).mono λv Γ ⟨d,i⟩=>⟨hq,d,i⟩
  rw[if_neg h];exact YI ps dn mb n K g k hq p hp ⟨a,bs⟩ ⟨hk,c⟩ b B e (λq=>h ⟨by simpa using q.1,q.2⟩)
 rw[if_neg hk];exact (Vw ps dn mb n K (g,k) hq (p:Int) a ⟨by omega,by omega⟩ b bs B e U).mono λv Γ ⟨d,i⟩=>⟨hq,d,i⟩
theorem L7{X:RsX}{o:AZ×Nat}(P:RsP dn mb n K (some o) hq X)(p:Nat)(hp:p<n)(b:Int)(bs:List UInt8)(d:bs.length=240)(c:Value)(B:Ah)(i:∀h,B h->rdH 1 c 240 (bs.map u8) h):
  Aj 92 [V pt,Aa (p:Int),.agg #[Aa b,c]] [rsB pt X.pr X.pl X.x X.pv true X.ov,rsR dn hq X,B] (λv G=>∃(e:Int) (f:Ah),(e=(Et o p b bs).1/\∃a,f=rsoA pt dn mb n K (some (Et o p b bs).2) a)/\v=Aa e/\G=[f,B]):=λz R w H=>by
 refine Ret.mono (N9 pt dn mb n K o hq p hp b bs d c B i z R w (Sep.toRso2 (t:=some o) H P)) ?_;rintro v w' ⟨Γ',⟨a,rfl,rfl⟩,g⟩;exact ⟨_,⟨_,_,⟨Z,a,Z⟩,Z,Z⟩,g⟩
abbrev pqB(pq pt pc:Nat)(tk:Value):Ah:=blk pq [.pointer (some ⟨pt,0,none⟩),.pointer (some ⟨pc,0,none⟩),tk] 76
abbrev IM(pc bn bw n:Nat):Ah:=blk pc [.slice (some ⟨bn,0,none⟩) n n,.slice (some ⟨bw,0,none⟩) n n] 166
theorem L8(pq pt a b bw dn mb n:Nat)(K:Nat->Pg)(t:CV)(hq:Hp)(C W:Nat->Nat)(e:Value)(j:16<=n/\n<=1024):
  Aj 26 [V pq] [pqB pq pt a e,IM a b bw n,Ax b C n,Ax bw W n,rsoA pt dn mb n K t hq]
   (λv G=>∃c:Value,v=.tuple #[]/\G=[pqB pq pt a c,grow 4 1 c n (F4 W n),IM a b bw n,Ax b W n,Ax bw W n,rsoA pt dn mb n K none hq]):=λz R w H=>by
 refine Ret.mono (SS pq pt a b bw n C W e j (rsoA pt dn mb n K t hq) (λx h g f i ov S2=>∃X,RsP dn mb n K none hq X/\x=X.x/\h=X.pr/\g=.pointer (some ⟨X.pl,0,none⟩)/\f=X.pv/\i=false/\ov=X.ov/\S2=rsR dn hq X) (λz R w H=>?_) z R w H) ?_
 ·refine Ret.mono (YG pt dn mb n K t hq z R w H) ?_
  rintro v w' ⟨Γ',⟨rfl,rfl⟩,d⟩;obtain ⟨X,P,H2⟩:=Sep.rso2 d;exact ⟨_,⟨X.x,X.pr,_,X.pv,false,X.ov,_,⟨P.pg,X,P,Z,Z,Z,Z,Z,Z,Z⟩,Z,Z⟩,H2⟩
 rintro v w' ⟨Γ',⟨x,h,g,f,i,ov,S2,c,⟨_,X,P,rfl,rfl,rfl,rfl,rfl,rfl,rfl⟩,rfl,rfl⟩,d⟩;have H2:=d.pick 7 [5,6,0,1,2,3,4] Z;exact ⟨_,⟨c,Z,Z⟩,(Sep.toRso2 (t:=none) H2 P).pick 6 [1,2,3,4,5,0] Z⟩
end

def Hm(C:Nat->Nat)(n:Nat):AZ×Nat->List Int->Int×(AZ×Nat)
 | o,[]=>(0,o)
 | o,q::l=>if (Et o (1+q.toNat) 2 (DI (Ce C n q.toNat))).1=0 then Hm C n (Et o (1+q.toNat) 2 (DI (Ce C n q.toNat))).2 l else Et o (1+q.toNat) 2 (DI (Ce C n q.toNat))
theorem VF{C W:Nat->Nat}{n i:Nat}{x:Int}(h:x∈Cg C W n i):0<=x/\x<i:=by
 obtain ⟨q,hq,rfl⟩:=Ab9.1 h;have:=Ac5.1 (AeE.1 hq).1;omega
end
theorem OB(pq pt a d:Nat)(x:Sup)(e c ov:Value)(b:Value):Aj 55 [V pq] [blk pq [V pt,V d,b] 76,blk pt [V a,Aa x.gen,Aa x.epoch,Aa x.pages,Aa x.start,Aa x.len,Aa x.head,Aa x.seq,e,c,.bool false,ov] 128] (λv G=>v=Aa 18/\G=[blk pq [V pt,V d,b] 76,blk pt [V a,Aa x.gen,Aa x.epoch,Aa x.pages,Aa x.start,Aa x.len,Aa x.head,Aa x.seq,e,c,.bool false,ov] 128]):=by
 intro z R w H;replace H:=H.l2;refine Ac func55 Z ntmps55 Z (Z2 25 [0,0,0,10,1,0] H Z (Zr Z ?_));exact ⟨_,⟨Z,Z⟩,H.pick 2 [0,1] Z⟩
set_option maxHeartbeats 4000000 in
theorem QN (pq pt c f bw dn mb n:Nat) (K:Nat->Pg) (o:AZ×Nat) (hq:Hp) (C W:Nat->Nat) (p:Value) (hn:16<=n/\n<=1024) (hC:∀k,C k<=1000) (a2:mb<=1100000):Aj 55 [V pq] [blk pq [V pt,V c,p] 76,blk c [.slice (some ⟨f,0,none⟩) n n,.slice (some ⟨bw,0,none⟩) n n] 166,Ax f C n,Ax bw W n,rsoA pt dn mb n K (some o) hq] (λv G=>∃(m:Value) (b:Hp),((Hm C n o (Cg C W n (manyN n))).1=0/\v=Aa 0/\G=[blk pq [V pt,V c,m] 76,grow 4 1 m n (F4 C n),blk c [.slice (some ⟨f,0,none⟩) n n,.slice (some ⟨bw,0,none⟩) n n] 166,Ax f C n,Ax bw C n,rsoA pt dn (mb+1) n (Cd K (some ((Hm C n o (Cg C W n (manyN n))).2.1,(Hm C n o (Cg C W n (manyN n))).2.2))) none b])\/((Hm C n o (Cg C W n (manyN n))).1≠0/\v=Aa (Hm C n o (Cg C W n (manyN n))).1/\G=[blk pq [V pt,V c,m] 76,grow 4 1 m n (F4 W n),blk c [.slice (some ⟨f,0,none⟩) n n,.slice (some ⟨bw,0,none⟩) n n] 166,Ax f W n,Ax bw W n,rsoA pt dn mb n K none b])):=by
 intro z R w H;replace H:=H.l5;have b0:manyN n=(n+119)/120:=rfl;have b1:=DP hn.2;refine Ac func55 Z ntmps55 Z (Zc 7 Z ?_);replace H:=H.f4;obtain ⟨X,PX,e⟩:=H.rso2;clear H;have e:Sep z (blk pt [.pointer (some ⟨X.pr,0,none⟩),Aa X.x.gen,Aa X.x.epoch,Aa X.x.pages,Aa X.x.start,Aa X.x.len,Aa X.x.head,Aa X.x.seq,.pointer (some ⟨X.pl,0,none⟩),X.pv,.bool true,X.ov] 128::rsR dn hq X::blk pq [V pt,V c,p] 76::blk c [.slice (some ⟨f,0,none⟩) n n,.slice (some ⟨bw,0,none⟩) n n] 166::Ax f C n::Ax bw W n::R) w:=e;have H:=e.l6;refine Z2 15 [0,2,0,10,0,0] H Z ?_;replace H:=(Sep.toRso2 (t:=(some o)) H PX).l5;refine Z2 5 [1,1,0] H Z (AA Z (call111 _) (Ox _ _ _ _ _ _ U) H.f4.f4.f4 ?_);rintro zv w _ ⟨_,rfl,rfl⟩ H;replace H:=H.l6;have a7:=N5 C W n (manyN n);have s:∀x∈(Cg C W n (manyN n)),0<=x/\x<manyN n:=λx g=>VF g;generalize hzs:(Cg C W n (manyN n))=zs at H a7 s;have a3:=H.sy 0 (·.slc);obtain ⟨zo,zc,rfl⟩:=a3;refine Zc 10 Z ?_;refine Ay (σ:=Nat×(AZ×Nat)×Hp) (λ⟨i,l,b⟩=>[(4,Aa (i:Int)),(0,V pq),(3,.slice zo zs.length zc)])
   (λ⟨i,l,b⟩ w=>Sep z (grow 3 1 (.slice zo zs.length zc) zs.length (zs.map Aa)::blk c [.slice (some ⟨f,0,none⟩) n n,.slice (some ⟨bw,0,none⟩) n n] 166::Ax f C n::Ax bw W n::rsoA pt dn mb n K (some l) b::blk pq [V pt,V c,p] 76::R) w/\(i<=zs.length/\Hm C n o zs=Hm C n l (zs.drop i))) (λ⟨i,l,b⟩=>zs.length-i) ⟨0,o,hq⟩
   fr_z ⟨H,⟨Acg _,Z⟩⟩ ?_
 clear H;rintro ⟨i,l,b⟩ w ⟨e,hI⟩;dsimp only at hI e ⊢;have H:=e.l6;obtain ⟨hi,hw⟩:=hI;refine Z0 9 [0] Z (Af Z (λh1=>?_) (λh1=>?_))
 ·refine Zc 5 Z ?_;obtain ⟨x,g⟩:∃x,zs[i]?=some x:=⟨_,Ab0 U⟩;have a9:=s x (Ab1 g)
  obtain ⟨q,rfl⟩:∃q:Nat,x=(q:Int):=⟨x.toNat,by omega⟩;have y:zs.drop i=(q:Int)::zs.drop (i+1):=by rw[Adw U,(AbZ.1 g).2]
  have b2:120*q<n/\1+q<n:=by omega
  replace H:=H.f5;refine AL (Sep z (blk pq [V pt,V c,p] 76::grow 3 1 (.slice zo zs.length zc) zs.length (zs.map Aa)::R)) 21 Z J (A0 H λw e=>?_);have H:=e.l6;refine A7 [0,1,2,3,4,5] [0,0] J (λ_ g=>(AS (g.blk 0 Z) AJ)) (by exact H.pick 6 [0,1] Z) Z J Z Z (AQ 6 J Z Z J J J Z Z Z (Aw Z (z:=1) (j:=i) (r:=i) J Z Z Z U ((H.rv 1 (·.rd)).at (j:=i) (u:=Aa (q:Int)) (by simp[g])) U) (H.pick 6 [0,1] Z) (AQ 7 J Z Z J J J Z Z Z (AK Z Z J (λ_ hs=>(hs.rv 1 (·.rd)).at (j:=i) (u:=Aa (q:Int)) (by simp[g]))) (H.pick 6 [0,1] Z) (AQ 8 J Z Z J J J Z Z Z (CD Z Z Z (r:=((1+q:Nat):Int)) U U) (H.pick 6 [0,1] Z) (A7 [9,10,11,12,13,14] [1,0] J (λ_ g=>(AS (g.blk 0 Z) AJ)) (by exact H.pick 6 [0,1] Z) Z J Z Z (AQ 15 J Z Z J J J Z Z Z (Aw Z (z:=1) (j:=i) (r:=i) J Z Z Z U ((H.rv 1 (·.rd)).at (j:=i) (u:=Aa (q:Int)) (by simp[g])) U) (H.pick 6 [0,1] Z) (AQ 16 J Z Z J J J Z Z Z (AK Z Z J (λ_ hs=>(hs.rv 1 (·.rd)).at (j:=i) (u:=Aa (q:Int)) (by simp[g]))) (H.pick 6 [0,1] Z) (An [17] J O (Ar (A6 Z Z Z Z Z Z (λw=>call96 _ w) (NX _ _ _ _ _ q U U hC) H.f3.f3 Z ?_)))))))));rintro u2 w _ ⟨_,rfl,rfl⟩ H;replace H:=H.l7;rw[show (DI (Ce C n q)).length=240 from FC (CX _ _ _)] at H;have a5:=H.sy 0 (·.slc);obtain ⟨a4,a1,rfl⟩:=a5;refine Am (λ_=>(H.pick 7 [3,4] Z)) (AQ 18 J Z Z J J J Z Z Z (AW Z Z (out:=[Aa 2,.slice a4 240 a1]) J) (H.pick 7 [3,4] Z) (An [19] J O (Ar (A6 Z Z Z Z Z Z (λw=>call92 _ w) (N9 _ dn mb n K l _ (1+q) U 2 (DI (Ce C n q)) (FC (CX _ _ _)) _ _ (λh q=>q.rd)) H.f6 Z ?_))));rintro _ w _ ⟨a8,rfl,rfl⟩ H;replace H:=H.l7;refine Am (λ_=>(H.pick 7 [4,5] Z)) (An [20] J O (Ar (B8 Z Z Z Z (AU Z Z) (Am (λh=>absurd Z h) (AT J (gn (Z0 7 [0] Z (Af Z (λh2=>?_) (λh2=>?_)))))))))
  ·refine Zc 3 Z (AA Z (call26 _) (L8 _ _ _ _ _ _ _ _ _ _ _ _ _ _ U) H.f6.f4.f4.f5 ?_);rintro _ w _ ⟨m,rfl,rfl⟩ H;refine Zc 9 Z (Zr Z ?_);have a:Hm C n o zs=(Et l (1+q) 2 (DI (Ce C n q))):=by rw[hw,y];simp only[Hm,AcB];rw[if_neg (by assumption)]
   exact ⟨_,⟨_,_,.inr ⟨by rw[a];assumption,by rw[a],Z⟩⟩,H.pick 8 [0,1,2,3,4,5] Z⟩
  refine Z1 8 [] [(i:Int)+1] Z U ?_;replace H:=H.f1.d.f3.f1.f5.f4.f4.f5;refine gf ?_;intro _ hF;refine ⟨⟨i+1,(Et l (1+q) 2 (DI (Ce C n q))).2,a8⟩,hF.cz,⟨H,?_⟩,?_⟩
  ·exact ⟨by show i+1<=zs.length;omega,by rw[hw,y];simp only[Hm,AcB];rw[if_pos U]⟩
  (dsimp only;omega)
 refine Zc 2 Z (gx (Z2 8 [0,5,0] H Z (AA Z (call97 _) (Vy _ _ _ _ _ l.1 l.2 _ a2) H.f4 ?_)));rintro _ w _ ⟨a0,rfl,rfl⟩ H;refine Z0 14 [4] Z ?_;obtain ⟨Y,PY,e⟩:=H.rso2;clear H;have e:Sep z (blk pt [.pointer (some ⟨Y.pr,0,none⟩),Aa Y.x.gen,Aa Y.x.epoch,Aa Y.x.pages,Aa Y.x.start,Aa Y.x.len,Aa Y.x.head,Aa Y.x.seq,.pointer (some ⟨Y.pl,0,none⟩),Y.pv,.bool false,Y.ov] 128::rsR dn a0 Y::grow 3 1 (.slice zo zs.length zc) zs.length (zs.map Aa)::blk c [.slice (some ⟨f,0,none⟩) n n,.slice (some ⟨bw,0,none⟩) n n] 166::Ax f C n::Ax bw W n::blk pq [V pt,V c,p] 76::R) w:=e;have H:=e.l7;have a6:=PY.pg;refine Zc 2 Z (AA Z (call69 _) (HS _ _ _ _ _ _ n _ _ _ _ _ _ _ _ U a6) H.f5.f5.f5.f6 ?_);rintro _ w _ ⟨m,rfl,rfl⟩ H;refine Zc 8 Z (Zr Z ?_);have a:Hm C n o zs=(0,l):=by rw[hw,Acr U];rfl
 have H8:=Sep.toRso2 (t:=none) (H.pick 8 [5,6,0,1,2,3,4] Z) PY;exact ⟨_,⟨_,_,.inl ⟨congrArg Prod.fst a,Z,by rw[a];rfl⟩⟩,H8.pick 6 [1,2,3,4,5,0] Z⟩
section
structure RqT where
 g:AZ
 k:Nat
 C:Nat->Nat
 Tk:Nat->Bool
def F6(C0:Nat->Nat):Option RqT->Nat->Nat
 | none=>C0
 | some T=>T.C
def HV(C0:Nat->Nat):Option RqT->Nat->Bool
 | none=>λp=>decide (0<(C0 p:Int))
 | some T=>T.Tk
def IN:Option RqT->CV
 | none=>none
 | some T=>some (T.g,T.k)
structure RqY where
 pt:Nat
 pc:Nat
 bn:Nat
 bw:Nat
 tv:Value
structure RqP(n:Nat)(C0:Nat->Nat)(t:Option RqT):Prop where
 hn:16<=n/\n<=1024
 c0:∀k,C0 k<=1000
 one:∀p,p<=manyN n->C0 p≠0
 c:∀k,F6 C0 t k<=1000
 tk:∀p,HV C0 t p=false->F6 C0 t p=0
def PD(pq dn mb n:Nat)(K:Nat->Pg)(C0:Nat->Nat)(t:Option RqT)(hq:Hp)(Y:RqY):List Ah:=
 [pqB pq Y.pt Y.pc Y.tv,grow 4 1 Y.tv n (Ed (HV C0 t) n),IM Y.pc Y.bn Y.bw n,Ax Y.bn (F6 C0 t) n,Ax Y.bw C0 n,rsoA Y.pt dn mb n K (IN t) hq]
def rqA(pq dn mb n:Nat)(K:Nat->Pg)(C0:Nat->Nat)(t:Option RqT)(hq:Hp):Ah:=λh=>∃Y,RqP n C0 t/\seps (PD pq dn mb n K C0 t hq Y) h
section
variable{z w:World}{Γ:List Ah}{pq dn mb n:Nat}{K:Nat->Pg}{C0:Nat->Nat}{t:Option RqT}{hq:Hp}
theorem Sep.rq(H:Sep z (rqA pq dn mb n K C0 t hq::Γ) w):∃Y,RqP n C0 t/\Sep z (PD pq dn mb n K C0 t hq Y++Γ) w:=
 H.into (p:=λ_=>RqP n C0 t) (As:=λY=>PD pq dn mb n K C0 t hq Y) (λ_ q=>q)
theorem Sep.toRq{Y:RqY}(H:Sep z Γ w)(b:RqP n C0 t)(a:Γ.take 6=PD pq dn mb n K C0 t hq Y):Sep z (rqA pq dn mb n K C0 t hq::Γ.drop 6) w:=
 H.made 6 (λh q=>⟨Y,b,by rwa[a] at q⟩)
theorem RqP.idle(c:16<=n/\n<=1024)(a:∀k,C0 k<=1000)(b:∀p,p<=manyN n->C0 p≠0):RqP n C0 none:=⟨c,a,b,a,λp h=>by
 show C0 p=0;have:¬(0<(C0 p:Int)):=of_decide_eq_false h;omega⟩
def rq0(C0:Nat->Nat):RqT:=⟨CG,0,C0,HV C0 none⟩
theorem YT(pq dn mb n:Nat)(K:Nat->Pg)(C0:Nat->Nat)(hq:Hp):Aj 53 [V pq] [rqA pq dn mb n K C0 none hq] (λv G=>v=Aa 0/\G=[rqA pq dn mb n K C0 (some (rq0 C0)) hq]):=λz R w H=>by
 obtain ⟨Y,P,H⟩:=H.rq;refine Ret.mono (Cn.at (L5 pq Y.pt Y.pc Y.tv (rsoA Y.pt dn mb n K none hq) (λe S2=>e=0/\S2=rsoA Y.pt dn mb n K (some (CG,0)) hq) ((YF Y.pt dn mb n K hq).mono λv Γ ⟨b,c⟩=>⟨0,_,⟨Z,Z⟩,b,c⟩)) H 6 [0,5,1,2,3,4] Z Z) ?_;rintro v w' ⟨Γ',⟨e,S2,⟨rfl,rfl⟩,rfl,rfl⟩,a⟩;exact ⟨_,⟨Z,Z⟩,(a.pick 6 [0,2,3,4,5,1] Z).toRq (Y:=Y) ⟨P.hn,P.c0,P.one,P.c0,P.tk⟩ Z⟩
theorem VG(pq dn mb n:Nat)(K:Nat->Pg)(C0:Nat->Nat)(T:RqT)(hq:Hp):Aj 53 [V pq] [rqA pq dn mb n K C0 (some T) hq] (λv G=>v=Aa 17/\G=[rqA pq dn mb n K C0 (some T) hq]):=λz R w H=>by
 obtain ⟨Y,P,H⟩:=H.rq;refine Ret.mono (Cn.at (L5 pq Y.pt Y.pc Y.tv (rsoA Y.pt dn mb n K (some (T.g,T.k)) hq) (λe S2=>e=17/\S2=rsoA Y.pt dn mb n K (some (T.g,T.k)) hq) ((Vv Y.pt dn mb n K (T.g,T.k) hq).mono λv Γ ⟨b,c⟩=>⟨17,_,⟨Z,Z⟩,b,c⟩)) H 6 [0,5,1,2,3,4] Z Z) ?_;rintro v w' ⟨Γ',⟨e,S2,⟨rfl,rfl⟩,rfl,rfl⟩,a⟩;exact ⟨_,⟨Z,Z⟩,(a.pick 6 [0,2,3,4,5,1] Z).toRq (Y:=Y) P Z⟩
theorem YU(pq dn mb n:Nat)(K:Nat->Pg)(C0:Nat->Nat)(t:Option RqT)(hq:Hp):Aj 26 [V pq] [rqA pq dn mb n K C0 t hq] (λv G=>v=.tuple #[]/\G=[rqA pq dn mb n K C0 none hq]):=λz R w H=>by
 obtain ⟨Y,P,H⟩:=H.rq;refine Ret.mono (Cn.at (L8 pq Y.pt Y.pc Y.bn Y.bw dn mb n K (IN t) hq (F6 C0 t) C0 Y.tv P.hn) H 6 [0,2,3,4,5,1] Z Z) ?_;rintro v w' ⟨Γ',⟨b,rfl,rfl⟩,a⟩;exact ⟨_,⟨Z,Z⟩,(a.pick 7 [0,1,2,3,4,5] Z).toRq (Y:=⟨Y.pt,Y.pc,Y.bn,Y.bw,b⟩) (RqP.idle P.hn P.c0 P.one) Z⟩

theorem VH(pq dn mb n:Nat)(K:Nat->Pg)(C0:Nat->Nat)(hq:Hp)(b:Int)(bs:List UInt8)(a:Value)(B:Ah)(d:∀h,B h->rdH 1 a 240 (bs.map u8) h):Aj 54 [V pq,.agg #[Aa b,a]] [rqA pq dn mb n K C0 none hq,B] (λv G=>v=.tuple #[Aa 0,Aa 18]/\G=[rqA pq dn mb n K C0 none hq,B]):=λz R w H=>by
 obtain ⟨Y,P,H⟩:=H.rq;obtain ⟨X,PX,H⟩:=Sep.rso2 (H.pick 7 [5,0,1,2,3,4,6] Z);refine Ret.mono (Cn.at (QD pq Y.pt X.pr Y.pc X.x _ X.pv X.ov Y.tv b a bs B d) H 8 [2,0,7,1,3,4,5,6] Z Z) ?_;rintro v w' ⟨Γ',⟨rfl,rfl⟩,c⟩;have H2:=Sep.toRso2 (t:=none) (c.pick 8 [1,3,0,4,5,6,7,2] Z) PX;exact ⟨_,⟨Z,Z⟩,(H2.pick 7 [1,2,3,4,5,0,6] Z).toRq (Y:=Y) P Z⟩
theorem VI(pq dn mb n:Nat)(K:Nat->Pg)(C0:Nat->Nat)(T:RqT)(hq:Hp)(c:∀q,q<n->T.Tk q=true)(i:Int)(bs:List UInt8)(d:Value)(B:Ah)(m:∀h,B h->rdH 1 d 240 (bs.map u8) h):Aj 54 [V pq,.agg #[Aa i,d]] [rqA pq dn mb n K C0 (some T) hq,B] (λv G=>v=.tuple #[Aa 0,Aa 20]/\G=[rqA pq dn mb n K C0 (some T) hq,B]):=λz R w H=>by
 obtain ⟨Y,P,H⟩:=H.rq;obtain ⟨pt,e,f,bw,l⟩:=Y;obtain ⟨b,a,rfl⟩:Slc l n:=H.sy 1 (·.slc);obtain ⟨X,PX,H⟩:=Sep.rso2 (H.pick 7 [5,0,1,2,3,4,6] Z);refine Ret.mono (Cn.at (QE pq pt X.pr e f bw n X.x _ X.pv X.ov b a T.Tk P.hn c i d bs B m) H 8 [2,3,0,7,1,4,5,6] Z Z) ?_;rintro v w' ⟨Γ',⟨rfl,rfl⟩,j⟩;have H2:=Sep.toRso2 (t:=some (T.g,T.k)) (j.pick 8 [2,4,0,1,5,6,7,3] Z) PX;exact ⟨_,⟨Z,Z⟩,(H2.pick 7 [1,2,3,4,5,0,6] Z).toRq (Y:=⟨pt,e,f,bw,.slice b n a⟩) P Z⟩
def VJ(T:RqT)(p:Nat)(kd:Int)(bs:List UInt8):RqT:=
 ⟨(Et (T.g,T.k) p kd bs).2.1,(Et (T.g,T.k) p kd bs).2.2,if (Et (T.g,T.k) p kd bs).1=0 then updN T.C p 1 else T.C,insP T.Tk p⟩
theorem YV(pq dn mb n:Nat)(K:Nat->Pg)(C0:Nat->Nat)(T:RqT)(hq:Hp)(p:Nat)(hp:p<n)(d:T.Tk p=false)(m:∀q,q<p->T.Tk q=true)(i:Int)(bs:List UInt8)(u:bs.length=240)(r:Value)(B:Ah)(hB:∀h,B h->rdH 1 r 240 (bs.map u8) h):Aj 54 [V pq,.agg #[Aa i,r]] [rqA pq dn mb n K C0 (some T) hq,B] (λv G=>∃b,v=.tuple #[Aa (if (Et (T.g,T.k) p i bs).1=0 then (p:Int) else 0),Aa (Et (T.g,T.k) p i bs).1]/\G=[rqA pq dn mb n K C0 (some (VJ T p i bs)) b,B]):=λz R w H=>by
 obtain ⟨Y,P,H⟩:=H.rq;have hC:T.C p=0:=P.tk p d;obtain ⟨pt,s,t,bw,tv⟩:=Y;obtain ⟨j,l,rfl⟩:Slc tv n:=H.sy 1 (·.slc);obtain ⟨X,PX,H⟩:=Sep.rso2 (H.pick 7 [5,0,1,2,3,4,6] Z);refine Ret.mono (Cn.at (SQ pq pt X.pr s t bw n X.x _ X.pv X.ov T.C j l T.Tk P.hn p hp d m hC (rsR dn hq X) i r bs B hB (λe S2=>e=(Et (T.g,T.k) p i bs).1/\∃b,S2=rsoA pt dn mb n K (some (Et (T.g,T.k) p i bs).2) b) (L7 (o:=(T.g,T.k)) PX p hp i bs u r B hB)) H 8 [2,3,4,5,0,1,7,6] Z Z) ?_;rintro v w' ⟨Γ',⟨e,S2,⟨rfl,b,rfl⟩,h|h⟩,y⟩
 ·obtain ⟨f,rfl,rfl⟩:=h
  refine ⟨_,⟨b,by rw[if_pos f,f],Z⟩,(y.pick 7 [0,1,2,3,6,4,5] Z).toRq (Y:=⟨pt,s,t,bw,.slice j n l⟩) ⟨P.hn,P.c0,P.one,λk=>?_,λq hq=>?_⟩ (by unfold PD F6 VJ;simp only[if_pos f];rfl)⟩
  ·show (if _=0 then updN T.C p 1 else T.C) k<=1000
   rw[if_pos f];unfold updN;split
   ·omega
   exact P.c k
  have a:insP T.Tk p q=false:=hq;show (if _=0 then updN T.C p 1 else T.C) q=0;rw[if_pos f];unfold updN;unfold insP at a;simp only[Bool.or_eq_false_iff,decide_eq_false_iff_not] at a;rw[if_neg a.2];exact P.tk q a.1
 obtain ⟨f,rfl,rfl⟩:=h;refine ⟨_,⟨b,by rw[if_neg f],Z⟩,(y.pick 7 [0,1,2,3,6,4,5] Z).toRq (Y:=⟨pt,s,t,bw,.slice j n l⟩) ⟨P.hn,P.c0,P.one,λk=>?_,λq hq=>?_⟩ (by unfold PD F6 VJ;simp only[if_neg f];rfl)⟩
 ·show (if _=0 then updN T.C p 1 else T.C) k<=1000
  rw[if_neg f];exact P.c k
 have a:insP T.Tk p q=false:=hq;show (if _=0 then updN T.C p 1 else T.C) q=0;rw[if_neg f];unfold insP at a;simp only[Bool.or_eq_false_iff,decide_eq_false_iff_not] at a;exact P.tk q a.1
end
end
section
section
variable{z w:World}{Γ:List Ah}{pq dn mb n:Nat}{K:Nat->Pg}{C0:Nat->Nat}{t:Option RqT}{hq:Hp}
theorem Sep.rq8(H:Sep z (rqA pq dn mb n K C0 t hq::Γ) w):∃(Y:RqY) (X:RsX),RqP n C0 t/\RsP dn mb n K (IN t) hq X/\Sep z ([pqB pq Y.pt Y.pc Y.tv,IM Y.pc Y.bn Y.bw n,Ax Y.bn (F6 C0 t) n,rsB Y.pt X.pr X.pl X.x X.pv (IN t).isSome X.ov,rsR dn hq X,Ax Y.bw C0 n,YthbbejpbkglmlaaGreatDoor.grow 4 1 Y.tv n (Ed (HV C0 t) n)]++Γ) w:=by
 obtain ⟨Y,P,H⟩:=H.rq;obtain ⟨X,PX,H⟩:=Sep.rso2 (H.pick 6 [5,0,1,2,3,4] Z);exact ⟨Y,X,P,PX,H.pick 7 [2,4,5,0,1,6,3] Z⟩
theorem Sep.toRq8{Y:RqY}{X:RsX}(H:Sep z ([pqB pq Y.pt Y.pc Y.tv,IM Y.pc Y.bn Y.bw n,Ax Y.bn (F6 C0 t) n,rsB Y.pt X.pr X.pl X.x X.pv (IN t).isSome X.ov,rsR dn hq X,Ax Y.bw C0 n,YthbbejpbkglmlaaGreatDoor.grow 4 1 Y.tv n (Ed (HV C0 t) n)]++Γ) w)(P:RqP n C0 t)(a:RsP dn mb n K (IN t) hq X):Sep z (rqA pq dn mb n K C0 t hq::Γ) w:=by
 have H2:=Sep.toRso2 (H.pick 7 [3,4,0,1,2,5,6] Z) a;exact (H2.pick 6 [1,5,2,3,4,0] Z).toRq (Y:=Y) P Z
theorem Sep.toRq7{Y:RqY}(H:Sep z ([pqB pq Y.pt Y.pc Y.tv,IM Y.pc Y.bn Y.bw n,Ax Y.bn (F6 C0 t) n,rsoA Y.pt dn mb n K (IN t) hq,Ax Y.bw C0 n,YthbbejpbkglmlaaGreatDoor.grow 4 1 Y.tv n (Ed (HV C0 t) n)]++Γ) w)(P:RqP n C0 t):Sep z (rqA pq dn mb n K C0 t hq::Γ) w:=
 (H.pick 6 [0,5,1,2,4,3] Z).toRq (Y:=Y) P Z

theorem VK(pq dn mb n:Nat)(K:Nat->Pg)(C0:Nat->Nat)(hq:Hp)(p b:Int)(bs:List UInt8)(a:Value)(B:Ah)(d:∀h,B h->rdH 1 a 240 (bs.map u8) h):Aj 56 [V pq,Aa p,.agg #[Aa b,a]] [rqA pq dn mb n K C0 none hq,B] (λv G=>v=Aa 18/\G=[rqA pq dn mb n K C0 none hq,B]):=λz R w H=>by
 obtain ⟨Y,X,P,PX,H⟩:=Sep.rq8 H;refine Ret.mono (Cn.at (QF pq Y.pt X.pr Y.pc X.x _ X.pv X.ov Y.tv p b a bs B d) H 8 [0,3,7,1,2,4,5,6] Z Z) ?_;rintro v w' ⟨Γ',⟨rfl,rfl⟩,c⟩;exact ⟨_,⟨Z,Z⟩,Sep.toRq8 (c.pick 8 [0,3,4,1,5,6,7,2] Z) P PX⟩
theorem VL(pq dn mb n:Nat)(K:Nat->Pg)(C0:Nat->Nat)(T:RqT)(hq:Hp)(p:Int)(b: -9223372036854775808<=p/\p<=9223372036854775807)(a:Du T.C n p=0\/(0<p/\p<=(manyN n:Int)))(d:Int)(bs:List UInt8)(c:Value)(B:Ah)(f:∀h,B h->rdH 1 c 240 (bs.map u8) h):Aj 56 [V pq,Aa p,.agg #[Aa d,c]] [rqA pq dn mb n K C0 (some T) hq,B] (λv G=>v=Aa 2/\G=[rqA pq dn mb n K C0 (some T) hq,B]):=λz R w H=>by
 obtain ⟨Y,X,P,PX,H⟩:=Sep.rq8 H;refine Ret.mono (Cn.at (QG pq Y.pt X.pr Y.pc Y.bn Y.bw n X.x _ X.pv X.ov T.C Y.tv P.hn PX.pg p b a d c bs B f) H 8 [0,1,2,3,7,4,5,6] Z Z) ?_;rintro v w' ⟨Γ',⟨rfl,rfl⟩,e⟩;exact ⟨_,⟨Z,Z⟩,Sep.toRq8 (t:=some T) (e.pick 8 [0,1,2,3,5,6,7,4] Z) P PX⟩
theorem FG{C:Nat->Nat}{n:Nat}{p:Int}(h:Du C n p≠0):0<=p/\p<n:=by
 unfold Du at h;by_cases c:0<=p/\p<n
 ·exact c
 rw[if_neg c] at h;exact absurd Z h
theorem YW(pq dn mb n:Nat)(K:Nat->Pg)(C0:Nat->Nat)(T:RqT)(hq:Hp)(p:Nat)(b:¬(Du T.C n (p:Int)=0\/(0<(p:Int)/\(p:Int)<=(manyN n:Int))))(d:Int)(bs:List UInt8)(i:bs.length=240)(f:Value)(B:Ah)(j:∀h,B h->rdH 1 f 240 (bs.map u8) h):Aj 56 [V pq,Aa (p:Int),.agg #[Aa d,f]] [rqA pq dn mb n K C0 (some T) hq,B] (λv G=>∃a,v=Aa (Et (T.g,T.k) p d bs).1/\G=[rqA pq dn mb n K C0 (some {T with g:=(Et (T.g,T.k) p d bs).2.1,k:=(Et (T.g,T.k) p d bs).2.2}) a,B]):=λz R w H=>by
 have hp:=FG (λq=>b (.inl q));obtain ⟨Y,X,P,PX,H⟩:=Sep.rq8 H;have m:=P.hn;refine Ret.mono (Cn.at (QH pq Y.pt X.pr Y.pc Y.bn Y.bw n X.x _ X.pv X.ov T.C Y.tv P.hn PX.pg (p:Int) U b (rsR dn hq X) d f bs B j (λe S2=>e=(Et (T.g,T.k) p d bs).1/\∃a,S2=rsoA Y.pt dn mb n K (some (Et (T.g,T.k) p d bs).2) a) (L7 (o:=(T.g,T.k)) PX p U d bs i f B j)) H 8 [0,1,2,3,4,7,5,6] Z Z) ?_;rintro v w' ⟨Γ',⟨e,S2,⟨rfl,a,rfl⟩,rfl,rfl⟩,l⟩;exact ⟨_,⟨a,Z,Z⟩,Sep.toRq7 (Y:=Y) (t:=some {T with g:=_,k:=_}) (l.pick 7 [0,1,2,3,5,6,4] Z) ⟨P.hn,P.c0,P.one,P.c,P.tk⟩⟩

theorem AaJ(pq dn mb n:Nat)(K:Nat->Pg)(C0:Nat->Nat)(hq:Hp)(p:Int):Aj 57 [V pq,Aa p] [rqA pq dn mb n K C0 none hq] (λv G=>v=Aa 18/\G=[rqA pq dn mb n K C0 none hq]):=λz R w H=>by
 obtain ⟨Y,X,P,PX,H⟩:=Sep.rq8 H;refine Ret.mono (Cn.at (VA pq Y.pt X.pr Y.pc X.x _ X.pv X.ov Y.tv p) H 7 [0,3,1,2,4,5,6] Z Z) ?_;rintro v w' ⟨Γ',⟨rfl,rfl⟩,a⟩;exact ⟨_,⟨Z,Z⟩,Sep.toRq8 (a.pick 7 [0,2,3,1,4,5,6] Z) P PX⟩
theorem VM(pq dn mb n:Nat)(K:Nat->Pg)(C0:Nat->Nat)(hq:Hp)(p:Int):Aj 58 [V pq,Aa p] [rqA pq dn mb n K C0 none hq] (λv G=>v=Aa 18/\G=[rqA pq dn mb n K C0 none hq]):=λz R w H=>by
 obtain ⟨Y,X,P,PX,H⟩:=Sep.rq8 H;refine Ret.mono (Cn.at (QI pq Y.pt X.pr Y.pc X.x _ X.pv X.ov Y.tv p) H 7 [0,3,1,2,4,5,6] Z Z) ?_;rintro v w' ⟨Γ',⟨rfl,rfl⟩,a⟩;exact ⟨_,⟨Z,Z⟩,Sep.toRq8 (a.pick 7 [0,2,3,1,4,5,6] Z) P PX⟩
theorem AaK(pq dn mb n:Nat)(K:Nat->Pg)(C0:Nat->Nat)(T:RqT)(hq:Hp)(p:Int)(b: -9223372036854775808<=p/\p<=9223372036854775807)(a:Du T.C n p=0\/p<=(manyN n:Int)):Aj 57 [V pq,Aa p] [rqA pq dn mb n K C0 (some T) hq] (λv G=>v=Aa 2/\G=[rqA pq dn mb n K C0 (some T) hq]):=λz R w H=>by
 obtain ⟨Y,X,P,PX,H⟩:=Sep.rq8 H;refine Ret.mono (Cn.at (VB pq Y.pt X.pr Y.pc Y.bn Y.bw n X.x _ X.pv X.ov T.C Y.tv P.hn PX.pg p b a) H 7 [0,1,2,3,4,5,6] Z Z) ?_;rintro v w' ⟨Γ',⟨rfl,rfl⟩,c⟩;exact ⟨_,⟨Z,Z⟩,Sep.toRq8 (t:=some T) (c.pick 7 [0,1,2,3,4,5,6] Z) P PX⟩
theorem VN(pq dn mb n:Nat)(K:Nat->Pg)(C0:Nat->Nat)(T:RqT)(hq:Hp)(p:Int)(b: -9223372036854775808<=p/\p<=9223372036854775807)(a:Du T.C n p=0\/p<=(manyN n:Int)):Aj 58 [V pq,Aa p] [rqA pq dn mb n K C0 (some T) hq] (λv G=>v=Aa 2/\G=[rqA pq dn mb n K C0 (some T) hq]):=λz R w H=>by
 obtain ⟨Y,X,P,PX,H⟩:=Sep.rq8 H;refine Ret.mono (Cn.at (QJ pq Y.pt X.pr Y.pc Y.bn Y.bw n X.x _ X.pv X.ov T.C Y.tv P.hn PX.pg p b a) H 7 [0,1,2,3,4,5,6] Z Z) ?_;rintro v w' ⟨Γ',⟨rfl,rfl⟩,c⟩;exact ⟨_,⟨Z,Z⟩,Sep.toRq8 (t:=some T) (c.pick 7 [0,1,2,3,4,5,6] Z) P PX⟩
theorem AaL(pq dn mb n:Nat)(K:Nat->Pg)(C0:Nat->Nat)(T:RqT)(hq:Hp)(p:Nat)(hp:manyN n<p/\p<n)(b:T.C p=1000):Aj 57 [V pq,Aa (p:Int)] [rqA pq dn mb n K C0 (some T) hq] (λv G=>v=Aa 21/\G=[rqA pq dn mb n K C0 (some T) hq]):=λz R w H=>by
 obtain ⟨Y,X,P,PX,H⟩:=Sep.rq8 H;refine Ret.mono (Cn.at (VC pq Y.pt X.pr Y.pc Y.bn Y.bw n X.x _ X.pv X.ov T.C Y.tv P.hn PX.pg p hp b) H 7 [0,1,2,3,4,5,6] Z Z) ?_;rintro v w' ⟨Γ',⟨rfl,rfl⟩,a⟩;exact ⟨_,⟨Z,Z⟩,Sep.toRq8 (t:=some T) (a.pick 7 [0,1,2,3,4,5,6] Z) P PX⟩
theorem RqP.cup{T:RqT}(P:RqP n C0 (some T))(p x:Nat)(d:x<=1000)(b:T.C p≠0):RqP n C0 (some {T with C:=updN T.C p x}):=
 ⟨P.hn,P.c0,P.one,λk=>by
  show updN T.C p x k<=1000;unfold updN;split
  ·exact d
  ·exact P.c k,λq hq=>by
  show updN T.C p x q=0;have a:T.C q=0:=P.tk q hq;unfold updN;rw[if_neg (λe=>b (by rw[<-e];exact a))];exact a⟩
theorem Abt(pq dn mb n:Nat)(K:Nat->Pg)(C0:Nat->Nat)(T:RqT)(hq:Hp)(p:Nat)(hp:manyN n<p/\p<n)(b:T.C p<1000/\1<=T.C p):Aj 57 [V pq,Aa (p:Int)] [rqA pq dn mb n K C0 (some T) hq] (λv G=>v=Aa 0/\G=[rqA pq dn mb n K C0 (some {T with C:=updN T.C p (T.C p+1)}) hq]):=λz R w H=>by
 obtain ⟨Y,X,P,PX,H⟩:=Sep.rq8 H;refine Ret.mono (Cn.at (YL pq Y.pt X.pr Y.pc Y.bn Y.bw n X.x _ X.pv X.ov T.C Y.tv P.hn PX.pg p hp b) H 7 [0,1,2,3,4,5,6] Z Z) ?_;rintro v w' ⟨Γ',⟨rfl,rfl⟩,a⟩;exact ⟨_,⟨Z,Z⟩,Sep.toRq8 (t:=some {T with C:=updN T.C p (T.C p+1)}) (a.pick 7 [0,1,2,3,4,5,6] Z) (P.cup p _ U U) PX⟩
theorem YX(pq dn mb n:Nat)(K:Nat->Pg)(C0:Nat->Nat)(T:RqT)(hq:Hp)(p:Nat)(hp:manyN n<p/\p<n)(b:1<=T.C p):Aj 58 [V pq,Aa (p:Int)] [rqA pq dn mb n K C0 (some T) hq] (λv G=>v=Aa 0/\G=[rqA pq dn mb n K C0 (some {T with C:=updN T.C p (T.C p-1)}) hq]):=λz R w H=>by
 obtain ⟨Y,X,P,PX,H⟩:=Sep.rq8 H;have d:T.C p<=1000:=P.c p;refine Ret.mono (Cn.at (SR pq Y.pt X.pr Y.pc Y.bn Y.bw n X.x _ X.pv X.ov T.C Y.tv P.hn PX.pg p hp ⟨b,d⟩) H 7 [0,1,2,3,4,5,6] Z Z) ?_;rintro v w' ⟨Γ',⟨rfl,rfl⟩,a⟩;exact ⟨_,⟨Z,Z⟩,Sep.toRq8 (t:=some {T with C:=updN T.C p (T.C p-1)}) (a.pick 7 [0,1,2,3,4,5,6] Z) (P.cup p _ U U) PX⟩

theorem S0(pq dn mb n:Nat)(K:Nat->Pg)(C0:Nat->Nat)(hq:Hp):Aj 55 [V pq] [rqA pq dn mb n K C0 none hq] (λv G=>v=Aa 18/\G=[rqA pq dn mb n K C0 none hq]):=λz R w H=>by
 obtain ⟨Y,X,P,PX,H⟩:=Sep.rq8 H;refine Ret.mono (Cn.at (OB pq Y.pt X.pr Y.pc X.x _ X.pv X.ov Y.tv) H 7 [0,3,1,2,4,5,6] Z Z) ?_;rintro v w' ⟨Γ',⟨rfl,rfl⟩,a⟩;exact ⟨_,⟨Z,Z⟩,Sep.toRq8 (a.pick 7 [0,2,3,1,4,5,6] Z) P PX⟩
def S3(n:Nat)(C0:Nat->Nat)(T:RqT):Int×(AZ×Nat):=Hm T.C n (T.g,T.k) (Cg T.C C0 n (manyN n))
theorem VO(pq dn mb n:Nat)(K:Nat->Pg)(C0:Nat->Nat)(T:RqT)(hq:Hp)(e:mb<=1100000)(b:∀p,p<=manyN n->T.C p≠0):Aj 55 [V pq] [rqA pq dn mb n K C0 (some T) hq] (λv G=>∃a,((S3 n C0 T).1=0/\v=Aa 0/\G=[rqA pq dn (mb+1) n (Cd K (some ((S3 n C0 T).2.1,(S3 n C0 T).2.2))) T.C none a])\/((S3 n C0 T).1≠0/\v=Aa (S3 n C0 T).1/\G=[rqA pq dn mb n K C0 none a])):=λz R w H=>by
 obtain ⟨Y,P,H⟩:=H.rq;refine Ret.mono (Cn.at (QN pq Y.pt Y.pc Y.bn Y.bw dn mb n K (T.g,T.k) hq T.C C0 Y.tv P.hn P.c e) H 6 [0,2,3,4,5,1] Z Z) ?_;rintro v w' ⟨Γ',⟨h,a,⟨d,rfl,rfl⟩|⟨d,rfl,rfl⟩⟩,f⟩
 ·exact ⟨_,⟨a,.inl ⟨d,Z,Z⟩⟩,(f.pick 7 [0,1,2,3,4,5] Z).toRq (t:=none) (C0:=T.C) (Y:=⟨Y.pt,Y.pc,Y.bn,Y.bw,h⟩) (RqP.idle P.hn P.c b) Z⟩
 exact ⟨_,⟨a,.inr ⟨d,Z,Z⟩⟩,(f.pick 7 [0,1,2,3,4,5] Z).toRq (t:=none) (Y:=⟨Y.pt,Y.pc,Y.bn,Y.bw,h⟩) (RqP.idle P.hn P.c0 P.one) Z⟩
end
end
section
section
variable{Tb:Ah×Nat}
variable{z w:World}{Γ:List Ah}{pp mb n ps pd:Nat}{M0:Nat->Pg}{C0:Nat->Nat}{t:Option PoT}{T:PoT}{D:Dsk}{G:StG}{own:CV}
theorem VP(pp mb n:Nat)(M0:Nat->Pg)(C0:Nat->Nat)(p b:Int)(bs:List UInt8)(a:Value)(B:Ah)(d:∀h,B h->rdH 1 a 240 (bs.map u8) h):Aj 22 [V pp,Aa p,.agg #[Aa b,a]] [poA Tb pp mb n M0 C0 none,B] (λv G=>v=Aa 18/\G=[poA Tb pp mb n M0 C0 none,B]):=λz R w H=>by
 obtain ⟨X,e,H⟩:=H.po;refine Ret.mono (Cn.at (SU pp X.ps X.pc X.pa n p b a bs B d) H 8 [0,7,1,2,3,4,5,6] Z Z) ?_;rintro v w' ⟨Γ',⟨rfl,rfl⟩,c⟩;exact ⟨_,⟨Z,Z⟩,(c.pick 8 [0,2,3,4,5,6,7,1] Z).toPo e Z⟩
theorem S4(pp mb n:Nat)(M0:Nat->Pg)(C0:Nat->Nat)(b:Int)(bs:List UInt8)(a:Value)(B:Ah)(d:∀h,B h->rdH 1 a 240 (bs.map u8) h):Aj 12 [V pp,.agg #[Aa b,a]] [poA Tb pp mb n M0 C0 none,B] (λv G=>v=.tuple #[Aa 0,Aa 18]/\G=[poA Tb pp mb n M0 C0 none,B]):=λz R w H=>by
 obtain ⟨X,e,H⟩:=H.po;refine Ret.mono (Cn.at (QL pp X.ps X.pc X.pa n b a bs B d) H 8 [0,7,1,2,3,4,5,6] Z Z) ?_;rintro v w' ⟨Γ',⟨rfl,rfl⟩,c⟩;exact ⟨_,⟨Z,Z⟩,(c.pick 8 [0,2,3,4,5,6,7,1] Z).toPo e Z⟩
theorem Oa(pp mb n:Nat)(M0:Nat->Pg)(C0:Nat->Nat)(T:PoT)(p:Int)(f: -9223372036854775808<=p/\p<=9223372036854775807)(b:Int)(bs:List UInt8)(o:bs.length=240)(d:Value)(B:Ah)(i:∀h,B h->rdH 1 d 240 (bs.map u8) h):
  Aj 22 [V pp,Aa p,.agg #[Aa b,d]] [poA Tb pp mb n M0 C0 (some T),B] (λv G=>∃(e:Int) (M2:Nat->Pg) (u:Nat),v=Aa e/\G=[poA Tb pp mb n M0 C0 (some {T with M:=M2,k:=u}),B]):=λz R w H=>by
 obtain ⟨X,a,H⟩:=H.po;have Q:=a.tx T Z;have hn:=a.hn;have x:=a.pg;by_cases hbad:Du T.C n p=0\/(0<p/\p<=(manyN n:Int))
 ·refine Ret.mono (Cn.at (SV pp X.ps X.pc X.bn X.mm X.pa n T.C a.hn p f hbad b d bs B i) H 8 [0,2,3,7,1,4,5,6] Z Z) ?_
  rintro v w' ⟨Γ',⟨rfl,rfl⟩,c⟩;exact ⟨_,⟨2,T.M,T.k,Z,Z⟩,(c.pick 8 [0,4,1,2,5,6,7,3] Z).toPo a Z⟩
 obtain ⟨a0,y⟩:=FG (λq=>hbad (.inl q));obtain ⟨p,rfl⟩:∃q:Nat,p=(q:Int):=⟨p.toNat,by omega⟩;have m:p=0\/manyN n<p:=by
  rcases AdM p with q|q
  ·exact .inl q
  refine .inr (AdU λr=>hbad (.inr ⟨by omega,by omega⟩))
 by_cases hk:1<=b/\b<=5
 ·refine Ret.mono (Cn.at (L6 pp X.ps X.pc X.bn X.mm X.pa n T.C a.hn (p:Int) f hbad (stoA X.ps X.pd X.D X.G (some (X.g,T.k))) b d bs B i (λe S2=>(e=16/\S2=stoA X.ps X.pd X.D X.G (some (X.g,T.k)))\/(e=0/\S2=stoA X.ps X.pd X.D X.G (some (pgSet X.g p ⟨b,bs⟩,T.k+(if (X.g p).isSome then 0 else 1))))) ((E6 X.ps X.pd X.D X.G X.g T.k p U ⟨b,bs⟩ ⟨hk,o⟩ d B i).mono λv Γ h=>by
   rcases h with ⟨_,l,j⟩|⟨_,l,j⟩
   ·exact ⟨16,_,.inl ⟨Z,Z⟩,l,j⟩
   exact ⟨0,_,.inr ⟨Z,Z⟩,l,j⟩)) H 8 [0,2,3,1,7,4,5,6] Z Z) ?_
  rintro v w' ⟨Γ',⟨e,S2,⟨rfl,rfl⟩|⟨rfl,rfl⟩,rfl,rfl⟩,c⟩
  ·exact ⟨_,⟨16,T.M,T.k,Z,Z⟩,(c.pick 8 [0,3,1,2,5,6,7,4] Z).toPo a Z⟩
  exact ⟨_,⟨0,BY T.M p ⟨b,bs⟩,T.k+(if (X.g p).isSome then 0 else 1),Z,Z⟩,(c.pick 8 [0,3,1,2,5,6,7,4] Z).toPo (X:= {X with g:=pgSet X.g p ⟨b,bs⟩}) (t:=some {T with M:=BY T.M p ⟨b,bs⟩,k:=T.k+(if (X.g p).isSome then 0 else 1)}) ⟨a.hn,a.fine,a.pg,a.tab,a.m0,a.cp,a.c0,a.one,λe=>(by cases e),λT' e=>by cases e;exact Q.put m _⟩ Z⟩
 refine Ret.mono (Cn.at (L6 pp X.ps X.pc X.bn X.mm X.pa n T.C a.hn (p:Int) f hbad (stoA X.ps X.pd X.D X.G (some (X.g,T.k))) b d bs B i (λe S2=>e=1/\S2=stoA X.ps X.pd X.D X.G (some (X.g,T.k))) (λz R w H=>by
  obtain ⟨bo,bc,s⟩:Slc d 240:=H.sy 1 (λq=>(i _ q).slc);refine Ret.mono (Cn.at (N6 X.ps X.pd X.D X.G X.g T.k p U b U d (by rw[s];rfl)) H 2 [0,1] Z Z) ?_;rintro v w' ⟨Γ',⟨rfl,rfl⟩,c⟩;exact ⟨_,⟨1,_,⟨Z,Z⟩,Z,Z⟩,c⟩)) H 8 [0,2,3,1,7,4,5,6] Z Z) ?_
 rintro v w' ⟨Γ',⟨e,S2,⟨rfl,rfl⟩,rfl,rfl⟩,c⟩;exact ⟨_,⟨1,T.M,T.k,Z,Z⟩,(c.pick 8 [0,3,1,2,5,6,7,4] Z).toPo a Z⟩

theorem AaM(pp mb n:Nat)(M0:Nat->Pg)(C0:Nat->Nat)(p:Int):Aj 17 [V pp,Aa p] [poA Tb pp mb n M0 C0 none] (λv G=>v=Aa 18/\G=[poA Tb pp mb n M0 C0 none]):=λz R w H=>by
 obtain ⟨X,b,H⟩:=H.po;refine Ret.mono (Cn.at (YM pp X.ps X.pc X.pa n p) H 7 [0,1,2,3,4,5,6] Z Z) ?_;rintro v w' ⟨Γ',⟨rfl,rfl⟩,a⟩;exact ⟨_,⟨Z,Z⟩,(a.pick 7 [0,1,2,3,4,5,6] Z).toPo b Z⟩
theorem VQ(pp mb n:Nat)(M0:Nat->Pg)(C0:Nat->Nat)(p:Int):Aj 15 [V pp,Aa p] [poA Tb pp mb n M0 C0 none] (λv G=>v=Aa 18/\G=[poA Tb pp mb n M0 C0 none]):=λz R w H=>by
 obtain ⟨X,b,H⟩:=H.po;refine Ret.mono (Cn.at (SW pp X.ps X.pc X.pa n p) H 7 [0,1,2,3,4,5,6] Z Z) ?_;rintro v w' ⟨Γ',⟨rfl,rfl⟩,a⟩;exact ⟨_,⟨Z,Z⟩,(a.pick 7 [0,1,2,3,4,5,6] Z).toPo b Z⟩
theorem S5(pp mb n:Nat)(M0:Nat->Pg)(C0:Nat->Nat)(T:PoT)(p:Int)(d: -9223372036854775808<=p/\p<=9223372036854775807):
  Aj 17 [V pp,Aa p] [poA Tb pp mb n M0 C0 (some T)] (λv G=>∃(e:Int) (o:Nat->Nat),v=Aa e/\G=[poA Tb pp mb n M0 C0 (some {T with C:=o})]):=λz R w H=>by
 have m:=λp=>H.says 0 Z (λh (q:poA Tb pp mb n M0 C0 (some T) h)=>q.k.c p);by_cases hbad:Du T.C n p=0\/p<=(manyN n:Int)
 ·obtain ⟨X,a,H⟩:=H.po
  refine Ret.mono (Cn.at (YN pp X.ps X.pc X.bn X.mm X.pa n T.C a.hn p d hbad) H 7 [0,2,3,1,4,5,6] Z Z) ?_;rintro v w' ⟨Γ',⟨rfl,rfl⟩,f⟩;exact ⟨_,⟨2,T.C,Z,Z⟩,(f.pick 7 [0,3,1,2,4,5,6] Z).toPo a Z⟩
 obtain ⟨i,g⟩:=FG (λq=>hbad (.inl q));obtain ⟨p,rfl⟩:∃q:Nat,p=(q:Int):=⟨p.toNat,by omega⟩;have b:manyN n<p:=AdU λr=>hbad (.inr U);have l:T.C p≠0:=λe=>hbad (.inl (by unfold Du;rw[if_pos ⟨i,g⟩];simp[e]));have j:=m p;by_cases h9:T.C p=1000
 ·obtain ⟨X,a,H⟩:=H.po
  refine Ret.mono (Cn.at (YP pp X.ps X.pc X.bn X.mm X.pa n T.C a.hn p ⟨b,by omega⟩ h9) H 7 [0,2,3,1,4,5,6] Z Z) ?_;rintro v w' ⟨Γ',⟨rfl,rfl⟩,f⟩;exact ⟨_,⟨21,T.C,Z,Z⟩,(f.pick 7 [0,3,1,2,4,5,6] Z).toPo a Z⟩
 exact (Abh pp mb n M0 C0 T p ⟨b,by omega⟩ ⟨by omega,by omega⟩).mono (λv Γ h=>⟨0,_,h.1,h.2⟩) z R w H
theorem Ob(pp mb n:Nat)(M0:Nat->Pg)(C0:Nat->Nat)(T:PoT)(p:Int)(c: -9223372036854775808<=p/\p<=9223372036854775807):
  Aj 15 [V pp,Aa p] [poA Tb pp mb n M0 C0 (some T)] (λv G=>∃(e:Int) (j:Nat->Nat),v=Aa e/\G=[poA Tb pp mb n M0 C0 (some {T with C:=j})]):=λz R w H=>by
 by_cases hbad:Du T.C n p=0\/p<=(manyN n:Int)
 ·obtain ⟨X,g,H⟩:=H.po
  refine Ret.mono (Cn.at (SX pp X.ps X.pc X.bn X.mm X.pa n T.C g.hn p c hbad) H 7 [0,2,3,1,4,5,6] Z Z) ?_;rintro v w' ⟨Γ',⟨rfl,rfl⟩,i⟩;exact ⟨_,⟨2,T.C,Z,Z⟩,(i.pick 7 [0,3,1,2,4,5,6] Z).toPo g Z⟩
 obtain ⟨d,b⟩:=FG (λq=>hbad (.inl q));obtain ⟨p,rfl⟩:∃q:Nat,p=(q:Int):=⟨p.toNat,by omega⟩;have a:manyN n<p:=AdU λr=>hbad (.inr U);have f:T.C p≠0:=λe=>hbad (.inl (by unfold Du;rw[if_pos ⟨d,b⟩];simp[e]));rcases Nat.eq_or_lt_of_le (Nat.one_le_iff_ne_zero.2 f) with e|e
 ·exact (drop_p pp mb n M0 C0 T p ⟨a,by omega⟩ e.symm).mono (λv Γ h=>⟨0,_,h.1,h.2⟩) z R w H
 exact (Yo pp mb n M0 C0 T p ⟨a,by omega⟩ e).mono (λv Γ h=>⟨0,_,h.1,h.2⟩) z R w H

theorem S6(pp mb n:Nat)(M0:Nat->Pg)(C0:Nat->Nat):Aj 14 [V pp] [poA Tb pp mb n M0 C0 none] (λv G=>v=Aa 18/\G=[poA Tb pp mb n M0 C0 none]):=λz R w H=>by
 obtain ⟨X,b,H⟩:=H.po;refine Ret.mono (Cn.at (QK pp X.ps X.pc X.pa n) H 7 [0,1,2,3,4,5,6] Z Z) ?_;rintro v w' ⟨Γ',⟨rfl,rfl⟩,a⟩;exact ⟨_,⟨Z,Z⟩,(a.pick 7 [0,1,2,3,4,5,6] Z).toPo b Z⟩
theorem S7(pp mb n:Nat)(M0:Nat->Pg)(C0:Nat->Nat)(T:PoT)(q:mb<=1000000000):Aj 14 [V pp] [poA Tb pp mb n M0 C0 (some T)] (λv G=>(v=Aa 0/\G=[poA Tb pp (mb+2) n T.M T.C none])\/(v=Aa 16/\G=[poA Tb pp mb n M0 C0 none])):=by
 intro z R w H;obtain ⟨X,a,H⟩:=H.po;have Q:=a.tx T Z;refine Ret.mono (Cn.at (QM pp X.ps X.pd X.pc X.bn X.mm X.pa n X.D X.G mb X.g T.k T.C C0 X.l X.clk T.F X.Dd (frC n C0) Q.W a.hn a.pg Q.gn Q.c a.fine q) H 7 [1,0,2,3,4,5,6] Z Z) ?_;rintro v w' ⟨Γ',⟨D2,G2,g,k,zs,j,o,s,_,f,r,rfl,rfl⟩|⟨_,rfl,rfl⟩,d⟩
 ·have H3:=d.pick 7 [1,0,2,3,4,5,6] Z
  rw[Q.df] at H3;refine ⟨_,.inl ⟨Z,Z⟩,H3.toPo (X:= {X with l:=[],Dd:=Bw,D:=D2,G:=G2}) ⟨a.hn,s,?_,a.tab,λp hp=>?_,λi b=>?_,Q.c,Q.one,λ_=>⟨Z,Z⟩,λT e=>(by cases e)⟩ Z⟩
  ·have:=a.pg
   rcases r with e|e
   ·show G2.x.pages=_;rw[e];exact this
   show G2.x.pages=_;rw[e];exact this
  ·rw[Q.m p hp]
   show _=G2.M p;rw[f];simp only[Cd];rw[j.old p hp]
  show G2.M (1+i)=_;rw[f];simp only[Cd];rcases j.done o b with h|⟨h,e⟩
  ·rw[h];rfl
  rw[h,<-e];exact a.cp i b
 exact ⟨_,.inr ⟨Z,Z⟩,(d.pick 7 [1,0,2,3,4,5,6] Z).toPo (X:= {X with l:=[],Dd:=Bw}) ⟨a.hn,a.fine,a.pg,a.tab,a.m0,a.cp,a.c0,a.one,λ_=>⟨Z,Z⟩,λT e=>(by cases e)⟩ Z⟩
theorem JZ(pp mb n:Nat)(M0:Nat->Pg)(C0:Nat->Nat)(t:Option PoT):Aj 20 [V pp] [poA Tb pp mb n M0 C0 t] (λv G=>v=.tuple #[]/\G=[poA Tb pp mb n M0 C0 none]):=by
 cases t with
 | none=>exact U5 pp mb n M0 C0
 | some T=>exact Yn pp mb n M0 C0 T

def poR(n:Nat)(C0:Nat->Nat)(t:Option PoT)(X:PoX):Ah:=seps [coB X.pc X.bn n X.mm,Ax X.bn (poC C0 t) n,AC X.mm X.l X.clk,alB X.pa n (LU n C0 t) X.Dd (frC n C0),X.A]
theorem Sep.po3(H:Sep z (poA Tb pp mb n M0 C0 t::Γ) w):∃X,PoP Tb mb n M0 C0 t X/\Sep z (plB pp X.ps X.pc X.pa n t.isSome::stoA X.ps X.pd X.D X.G (Gz X.g t)::poR n C0 t X::Γ) w:=by
 obtain ⟨X,a,H⟩:=H.po;have H2:Sep z (poR n C0 t X::plB pp X.ps X.pc X.pa n t.isSome::stoA X.ps X.pd X.D X.G (Gz X.g t)::Γ) w:=Sep.shut (As:=[coB X.pc X.bn n X.mm,Ax X.bn (poC C0 t) n,AC X.mm X.l X.clk,alB X.pa n (LU n C0 t) X.Dd (frC n C0),X.A]) (H.pick 7 [2,3,4,5,6,0,1] Z);exact ⟨X,a,H2.pick 3 [1,2,0] Z⟩
theorem Sep.toPo3{X:PoX}(H:Sep z (plB pp X.ps X.pc X.pa n t.isSome::stoA X.ps X.pd X.D X.G (Gz X.g t)::poR n C0 t X::Γ) w)(a:PoP Tb mb n M0 C0 t X):Sep z (poA Tb pp mb n M0 C0 t::Γ) w:=by
 have H2:=Sep.opened (As:=[coB X.pc X.bn n X.mm,Ax X.bn (poC C0 t) n,AC X.mm X.l X.clk,alB X.pa n (LU n C0 t) X.Dd (frC n C0),X.A]) (H.pick 3 [2,0,1] Z);exact (H2.pick 7 [5,6,0,1,2,3,4] Z).toPo a Z
theorem PoP.sync{X:PoX}(a:PoP Tb mb n M0 C0 t X)(b:Fine X.D.fl {X.G with sure:=X.G.rs.length} mb):PoP Tb mb n M0 C0 t {X with D:=X.D.fl,G:= {X.G with sure:=X.G.rs.length}} :=
 ⟨a.hn,b,a.pg,a.tab,a.m0,a.cp,a.c0,a.one,a.idle,λT e=>by
  have Q:=a.tx T e;exact ⟨Q.m,Q.gn,Q.W,Q.c,Q.df,Q.dj,Q.one⟩⟩
theorem poA.le{h:Hp}{mb2:Nat}(c:mb<=mb2)(a:poA Tb pp mb n M0 C0 t h):poA Tb pp mb2 n M0 C0 t h:=by
 obtain ⟨X,b,hs⟩:=a;exact ⟨X,⟨b.hn,b.fine.le c,b.pg,b.tab,b.m0,b.cp,b.c0,b.one,b.idle,b.tx⟩,hs⟩
end
end
section
def anyP(Tb:Ah×Nat)(pp n mb:Nat):Ah:=λh=>∃(M:Nat->Pg) (C:Nat->Nat) (t:Option PoT),poA Tb pp mb n M C t h
def anyR(pq n mr:Nat):Ah:=λh=>∃(K:Nat->Pg) (C0:Nat->Nat) (t:Option RqT) (hq:Hp),(∀p,p<=manyN n->F6 C0 t p≠0)/\rqA pq 400 mr n K C0 t hq h
section
variable{Tb:Ah×Nat}{z w:World}{Γ:List Ah}{pp pq n mb mr:Nat}
theorem Sep.aP(H:Sep z (anyP Tb pp n mb::Γ) w):∃M C t,Sep z (poA Tb pp mb n M C t::Γ) w:=by
 obtain ⟨x,_,H⟩:=H.exAt 0 (σ:=(Nat->Pg)×(Nat->Nat)×Option PoT) (p:=λ_=>True) (B:=λx=>poA Tb pp mb n x.1 x.2.1 x.2.2) Z (λh ⟨M,C,t,q⟩=>⟨(M,C,t),trivial,q⟩);exact ⟨x.1,x.2.1,x.2.2,H⟩
theorem Sep.toAP{M:Nat->Pg}{C:Nat->Nat}{t:Option PoT}{mb2:Nat}(H:Sep z (poA Tb pp mb n M C t::Γ) w)(a:mb<=mb2):Sep z (anyP Tb pp n mb2::Γ) w:=
 H.mono 0 (B:=anyP Tb pp n mb2) Z (λh q=>⟨_,_,_,q.le a⟩)
theorem Sep.aR(H:Sep z (anyR pq n mr::Γ) w):∃K C0 t hq,(∀p,p<=manyN n->F6 C0 t p≠0)/\Sep z (rqA pq 400 mr n K C0 t hq::Γ) w:=by
 obtain ⟨x,a,H⟩:=H.exAt 0 (σ:=(Nat->Pg)×(Nat->Nat)×Option RqT×Hp) (p:=λx=>∀p,p<=manyN n->F6 x.2.1 x.2.2.1 p≠0) (B:=λx=>rqA pq 400 mr n x.1 x.2.1 x.2.2.1 x.2.2.2) Z (λh ⟨K,C0,t,hq,a,q⟩=>⟨(K,C0,t,hq),a,q⟩);exact ⟨x.1,x.2.1,x.2.2.1,x.2.2.2,a,H⟩
theorem rsoA.le{h:Hp}{ps dn mb2:Nat}{K:Nat->Pg}{t:CV}{hq:Hp}(d:mb<=mb2)(a:rsoA ps dn mb n K t hq h):rsoA ps dn mb2 n K t hq h:=by
 obtain ⟨X,P,hs⟩:=a;obtain ⟨c,f,b,e⟩:=P.bd;exact ⟨X,⟨P.hn,P.hdn,P.pg,P.ok,P.sl,⟨by omega,by omega,b,by omega⟩,P.la,P.lu,P.im,P.up,P.lt,P.K,P.io,P.ow⟩,hs⟩
theorem Sep.toAR{K:Nat->Pg}{C0:Nat->Nat}{t:Option RqT}{hq:Hp}{mr2:Nat}(H:Sep z (rqA pq 400 mr n K C0 t hq::Γ) w)(a:∀p,p<=manyN n->F6 C0 t p≠0)(b:mr<=mr2):Sep z (anyR pq n mr2::Γ) w:=by
 obtain ⟨Y,P,H⟩:=H.rq;have H2:=H.mono 5 (B:=rsoA Y.pt 400 mr2 n K (IN t) hq) Z (λh q=>q.le b);have H3:Sep z (rqA pq 400 mr2 n K C0 t hq::Γ) w:=Sep.toRq (Y:=Y) H2 P Z;exact H3.mono 0 (B:=anyR pq n mr2) Z (λh q=>⟨_,_,_,_,a,q⟩)

theorem VR(pp n mb:Nat):Aj 11 [V pp] [anyP Tb pp n mb] (λv G=>∃e:Int,v=Aa e/\G=[anyP Tb pp n (mb+2)]):=λz R w H=>by
 obtain ⟨M,C,t,H⟩:=H.aP
 cases t with
 | none=>
  refine Ret.mono (Lg pp mb n M C z R w H) ?_;rintro v w' ⟨Γ',⟨rfl,rfl⟩,a⟩;exact ⟨_,⟨0,Z,Z⟩,Sep.toAP a U⟩
 | some T=>
  refine Ret.mono (VE pp mb n M C T z R w H) ?_;rintro v w' ⟨Γ',⟨rfl,rfl⟩,a⟩;exact ⟨_,⟨17,Z,Z⟩,Sep.toAP a U⟩
theorem VS(pp n mb:Nat)(d:Int)(bs:List UInt8)(f:bs.length=240)(c:Value)(B:Ah)(g:∀h,B h->rdH 1 c 240 (bs.map u8) h):Aj 12 [V pp,.agg #[Aa d,c]] [anyP Tb pp n mb,B] (λv G=>∃a e:Int,v=.tuple #[Aa a,Aa e]/\G=[anyP Tb pp n (mb+2),B]):=λz R w H=>by
 obtain ⟨M,C,t,H⟩:=H.aP
 cases t with
 | none=>
  refine Ret.mono (S4 pp mb n M C d bs c B g z R w H) ?_;rintro v w' ⟨Γ',⟨rfl,rfl⟩,b⟩;exact ⟨_,⟨0,18,Z,Z⟩,Sep.toAP b U⟩
 | some T=>
  refine Ret.mono (N8 pp mb n M C T d bs f c B g z R w H) ?_;rintro v w' ⟨Γ',⟨T2,⟨e,_,rfl,_⟩|⟨p,i,x,_,rfl,_⟩,rfl⟩,b⟩
  ·exact ⟨_,⟨_,_,Z,Z⟩,Sep.toAP b U⟩
  exact ⟨_,⟨_,_,Z,Z⟩,Sep.toAP b U⟩
theorem S8(pp n mb:Nat)(b:mb<=1000000000):Aj 14 [V pp] [anyP Tb pp n mb] (λv G=>∃e:Int,v=Aa e/\G=[anyP Tb pp n (mb+2)]):=λz R w H=>by
 obtain ⟨M,C,t,H⟩:=H.aP
 cases t with
 | none=>
  refine Ret.mono (S6 pp mb n M C z R w H) ?_;rintro v w' ⟨Γ',⟨rfl,rfl⟩,a⟩;exact ⟨_,⟨18,Z,Z⟩,Sep.toAP a U⟩
 | some T=>
  refine Ret.mono (S7 pp mb n M C T b z R w H) ?_;rintro v w' ⟨Γ',⟨rfl,rfl⟩|⟨rfl,rfl⟩,a⟩
  ·exact ⟨_,⟨0,Z,Z⟩,Sep.toAP a (Acv _)⟩
  exact ⟨_,⟨16,Z,Z⟩,Sep.toAP a U⟩
theorem VT(pp n mb:Nat)(p:Int)(c: -9223372036854775808<=p/\p<=9223372036854775807)(d:Int)(bs:List UInt8)(f:bs.length=240)(a:Value)(B:Ah)(g:∀h,B h->rdH 1 a 240 (bs.map u8) h):Aj 22 [V pp,Aa p,.agg #[Aa d,a]] [anyP Tb pp n mb,B] (λv G=>∃e:Int,v=Aa e/\G=[anyP Tb pp n (mb+2),B]):=λz R w H=>by
 obtain ⟨M,C,t,H⟩:=H.aP
 cases t with
 | none=>
  refine Ret.mono (VP pp mb n M C p d bs a B g z R w H) ?_;rintro v w' ⟨Γ',⟨rfl,rfl⟩,b⟩;exact ⟨_,⟨18,Z,Z⟩,Sep.toAP b U⟩
 | some T=>
  refine Ret.mono (Oa pp mb n M C T p c d bs f a B g z R w H) ?_;rintro v w' ⟨Γ',⟨e,M2,i,rfl,rfl⟩,b⟩;exact ⟨_,⟨e,Z,Z⟩,Sep.toAP b U⟩
theorem AaN(pp n mb:Nat)(p:Int)(b: -9223372036854775808<=p/\p<=9223372036854775807):Aj 17 [V pp,Aa p] [anyP Tb pp n mb] (λv G=>∃e:Int,v=Aa e/\G=[anyP Tb pp n (mb+2)]):=λz R w H=>by
 obtain ⟨M,C,t,H⟩:=H.aP
 cases t with
 | none=>
  refine Ret.mono (AaM pp mb n M C p z R w H) ?_;rintro v w' ⟨Γ',⟨rfl,rfl⟩,a⟩;exact ⟨_,⟨18,Z,Z⟩,Sep.toAP a U⟩
 | some T=>
  refine Ret.mono (S5 pp mb n M C T p b z R w H) ?_;rintro v w' ⟨Γ',⟨e,C2,rfl,rfl⟩,a⟩;exact ⟨_,⟨e,Z,Z⟩,Sep.toAP a U⟩
theorem VU(pp n mb:Nat)(p:Int)(b: -9223372036854775808<=p/\p<=9223372036854775807):Aj 15 [V pp,Aa p] [anyP Tb pp n mb] (λv G=>∃e:Int,v=Aa e/\G=[anyP Tb pp n (mb+2)]):=λz R w H=>by
 obtain ⟨M,C,t,H⟩:=H.aP
 cases t with
 | none=>
  refine Ret.mono (VQ pp mb n M C p z R w H) ?_;rintro v w' ⟨Γ',⟨rfl,rfl⟩,a⟩;exact ⟨_,⟨18,Z,Z⟩,Sep.toAP a U⟩
 | some T=>
  refine Ret.mono (Ob pp mb n M C T p b z R w H) ?_;rintro v w' ⟨Γ',⟨e,C2,rfl,rfl⟩,a⟩;exact ⟨_,⟨e,Z,Z⟩,Sep.toAP a U⟩
theorem VV(pp n mb:Nat):Aj 20 [V pp] [anyP Tb pp n mb] (λv G=>v=.tuple #[]/\G=[anyP Tb pp n (mb+2)]):=λz R w H=>by
 obtain ⟨M,C,t,H⟩:=H.aP;refine Ret.mono (JZ pp mb n M C t z R w H) ?_;rintro v w' ⟨Γ',⟨rfl,rfl⟩,a⟩;exact ⟨_,⟨Z,Z⟩,Sep.toAP a U⟩

theorem VW(pq n mr:Nat):Aj 53 [V pq] [anyR pq n mr] (λv G=>∃e:Int,v=Aa e/\G=[anyR pq n (mr+1)]):=λz R w H=>by
 obtain ⟨K,C0,t,hq,b,H⟩:=H.aR
 cases t with
 | none=>
  refine Ret.mono (YT pq 400 mr n K C0 hq z R w H) ?_;rintro v w' ⟨Γ',⟨rfl,rfl⟩,a⟩;exact ⟨_,⟨0,Z,Z⟩,Sep.toAR a b U⟩
 | some T=>
  refine Ret.mono (VG pq 400 mr n K C0 T hq z R w H) ?_;rintro v w' ⟨Γ',⟨rfl,rfl⟩,a⟩;exact ⟨_,⟨17,Z,Z⟩,Sep.toAR a b U⟩
theorem J0{C:Nat->Nat}{p x q:Nat}(h:C q≠0)(a:q=p->x≠0):updN C p x q≠0:=by
 unfold updN;split
 ·rename_i e;exact a e
 exact h
theorem VX(pq n mr:Nat)(f:Int)(bs:List UInt8)(i:bs.length=240)(d:Value)(B:Ah)(j:∀h,B h->rdH 1 d 240 (bs.map u8) h):Aj 54 [V pq,.agg #[Aa f,d]] [anyR pq n mr,B] (λv G=>∃a e:Int,v=.tuple #[Aa a,Aa e]/\G=[anyR pq n (mr+1),B]):=λz R w H=>by
 obtain ⟨K,C0,t,hq,g,H⟩:=H.aR
 cases t with
 | none=>
  refine Ret.mono (VH pq 400 mr n K C0 hq f bs d B j z R w H) ?_;rintro v w' ⟨Γ',⟨rfl,rfl⟩,b⟩;exact ⟨_,⟨0,18,Z,Z⟩,Sep.toAR b g U⟩
 | some T=>
  by_cases hall:∀q,q<n->T.Tk q=true
  ·refine Ret.mono (VI pq 400 mr n K C0 T hq hall f bs d B j z R w H) ?_
   rintro v w' ⟨Γ',⟨rfl,rfl⟩,b⟩;exact ⟨_,⟨0,20,Z,Z⟩,Sep.toAR b g U⟩
  obtain ⟨p,hp,l⟩:=SZ (F:=λq=>decide (q<n) && !T.Tk q) (Ada λh=>hall λq hq=>by
   cases e:T.Tk q with
   | true=>rfl
   | false=>exact absurd ⟨q,by simp[hq,e]⟩ h)
  have c:p<n/\T.Tk p=false:=by simpa using hp
  refine Ret.mono (YV pq 400 mr n K C0 T hq p c.1 c.2 (λq hq=>by
   have m:=l q hq
   cases e:T.Tk q with
   | true=>rfl
   | false=>simp[e] at m;omega) f bs i d B j z R w H) ?_
  rintro v w' ⟨Γ',⟨o,rfl,rfl⟩,b⟩;refine ⟨_,⟨_,_,Z,Z⟩,Sep.toAR b (λq hq=>?_) U⟩;have k:T.C q≠0:=g q hq;show (if _=0 then updN T.C p 1 else T.C) q≠0;split
  ·exact J0 k (λ_=>by omega)
  exact k
theorem S9(pq n mr:Nat)(c:mr<=1100000):Aj 55 [V pq] [anyR pq n mr] (λv G=>∃e:Int,v=Aa e/\G=[anyR pq n (mr+1)]):=λz R w H=>by
 obtain ⟨K,C0,t,hq,b,H⟩:=H.aR
 cases t with
 | none=>
  refine Ret.mono (S0 pq 400 mr n K C0 hq z R w H) ?_;rintro v w' ⟨Γ',⟨rfl,rfl⟩,a⟩;exact ⟨_,⟨18,Z,Z⟩,Sep.toAR a b U⟩
 | some T=>
  have d:=H.says 0 Z (λh (q:rqA pq 400 mr n K C0 (some T) hq h)=>(⟨q.choose_spec.1.hn,q.choose_spec.1.one⟩:(16<=n/\n<=1024)/\∀p,p<=manyN n->C0 p≠0));refine Ret.mono (VO pq 400 mr n K C0 T hq c b z R w H) ?_;rintro v w' ⟨Γ',⟨f,⟨_,rfl,rfl⟩|⟨_,rfl,rfl⟩⟩,a⟩
  ·exact ⟨_,⟨_,Z,Z⟩,Sep.toAR a b (Acv _)⟩
  exact ⟨_,⟨_,Z,Z⟩,Sep.toAR a d.2 U⟩
theorem VY(pq n mr:Nat)(p:Int)(d: -9223372036854775808<=p/\p<=9223372036854775807)(c:Int)(bs:List UInt8)(g:bs.length=240)(b:Value)(B:Ah)(i:∀h,B h->rdH 1 b 240 (bs.map u8) h):Aj 56 [V pq,Aa p,.agg #[Aa c,b]] [anyR pq n mr,B] (λv G=>∃e:Int,v=Aa e/\G=[anyR pq n (mr+1),B]):=λz R w H=>by
 obtain ⟨K,C0,t,hq,f,H⟩:=H.aR
 cases t with
 | none=>
  refine Ret.mono (VK pq 400 mr n K C0 hq p c bs b B i z R w H) ?_;rintro v w' ⟨Γ',⟨rfl,rfl⟩,a⟩;exact ⟨_,⟨18,Z,Z⟩,Sep.toAR a f U⟩
 | some T=>
  by_cases hbad:Du T.C n p=0\/(0<p/\p<=(manyN n:Int))
  ·refine Ret.mono (VL pq 400 mr n K C0 T hq p d hbad c bs b B i z R w H) ?_
   rintro v w' ⟨Γ',⟨rfl,rfl⟩,a⟩;exact ⟨_,⟨2,Z,Z⟩,Sep.toAR a f U⟩
  obtain ⟨k,j⟩:=FG (λq=>hbad (.inl q));obtain ⟨p,rfl⟩:∃q:Nat,p=(q:Int):=⟨p.toNat,by omega⟩;refine Ret.mono (YW pq 400 mr n K C0 T hq p hbad c bs g b B i z R w H) ?_;rintro v w' ⟨Γ',⟨l,rfl,rfl⟩,a⟩;exact ⟨_,⟨_,Z,Z⟩,Sep.toAR a f U⟩
theorem Ta{C:Nat->Nat}{n p:Nat}(hp:p<n)(h:Du C n (p:Int)≠0):C p≠0:=λe=>h (by
 unfold Du;split
 ·simp[e]
 rfl)
theorem AaO(pq n mr:Nat)(p:Int)(f: -9223372036854775808<=p/\p<=9223372036854775807):Aj 57 [V pq,Aa p] [anyR pq n mr] (λv G=>∃e:Int,v=Aa e/\G=[anyR pq n (mr+1)]):=λz R w H=>by
 obtain ⟨K,C0,t,hq,d,H⟩:=H.aR
 cases t with
 | none=>
  refine Ret.mono (AaJ pq 400 mr n K C0 hq p z R w H) ?_;rintro v w' ⟨Γ',⟨rfl,rfl⟩,a⟩;exact ⟨_,⟨18,Z,Z⟩,Sep.toAR a d U⟩
 | some T=>
  by_cases hbad:Du T.C n p=0\/p<=(manyN n:Int)
  ·refine Ret.mono (AaK pq 400 mr n K C0 T hq p f hbad z R w H) ?_
   rintro v w' ⟨Γ',⟨rfl,rfl⟩,a⟩;exact ⟨_,⟨2,Z,Z⟩,Sep.toAR a d U⟩
  obtain ⟨j,g⟩:=FG (λq=>hbad (.inl q));obtain ⟨p,rfl⟩:∃q:Nat,p=(q:Int):=⟨p.toNat,by omega⟩;have k:=Ta U (λq=>hbad (.inl q));have b:manyN n<p:=AdU λr=>hbad (.inr U);have i:T.C p<=1000:=H.says 0 Z (λh (q:rqA pq 400 mr n K C0 (some T) hq h)=>q.choose_spec.1.c p);by_cases h9:T.C p=1000
  ·refine Ret.mono (AaL pq 400 mr n K C0 T hq p ⟨b,by omega⟩ h9 z R w H) ?_
   rintro v w' ⟨Γ',⟨rfl,rfl⟩,a⟩;exact ⟨_,⟨21,Z,Z⟩,Sep.toAR a d U⟩
  refine Ret.mono (Abt pq 400 mr n K C0 T hq p ⟨b,by omega⟩ ⟨by omega,by omega⟩ z R w H) ?_;rintro v w' ⟨Γ',⟨rfl,rfl⟩,a⟩;exact ⟨_,⟨0,Z,Z⟩,Sep.toAR a (λq hq=>J0 (d q hq) (λe=>by omega)) U⟩
theorem VZ(pq n mr:Nat)(p:Int)(b: -9223372036854775808<=p/\p<=9223372036854775807):Aj 58 [V pq,Aa p] [anyR pq n mr] (λv G=>∃e:Int,v=Aa e/\G=[anyR pq n (mr+1)]):=λz R w H=>by
 obtain ⟨K,C0,t,hq,c,H⟩:=H.aR
 cases t with
 | none=>
  refine Ret.mono (VM pq 400 mr n K C0 hq p z R w H) ?_;rintro v w' ⟨Γ',⟨rfl,rfl⟩,a⟩;exact ⟨_,⟨18,Z,Z⟩,Sep.toAR a c U⟩
 | some T=>
  by_cases hbad:Du T.C n p=0\/p<=(manyN n:Int)
  ·refine Ret.mono (VN pq 400 mr n K C0 T hq p b hbad z R w H) ?_
   rintro v w' ⟨Γ',⟨rfl,rfl⟩,a⟩;exact ⟨_,⟨2,Z,Z⟩,Sep.toAR a c U⟩
  obtain ⟨g,f⟩:=FG (λq=>hbad (.inl q));obtain ⟨p,rfl⟩:∃q:Nat,p=(q:Int):=⟨p.toNat,by omega⟩;have h:=Ta U (λq=>hbad (.inl q));have d:manyN n<p:=AdU λr=>hbad (.inr U);refine Ret.mono (YX pq 400 mr n K C0 T hq p ⟨d,by omega⟩ U z R w H) ?_;rintro v w' ⟨Γ',⟨rfl,rfl⟩,a⟩;exact ⟨_,⟨0,Z,Z⟩,Sep.toAR a (λq hq=>J0 (c q hq) (λe=>by omega)) U⟩
theorem V0(pq n mr:Nat):Aj 26 [V pq] [anyR pq n mr] (λv G=>v=.tuple #[]/\G=[anyR pq n (mr+1)]):=λz R w H=>by
 obtain ⟨K,C0,t,hq,c,H⟩:=H.aR;have b:=H.says 0 Z (λh (q:rqA pq 400 mr n K C0 t hq h)=>q.choose_spec.1.one);refine Ret.mono (YU pq 400 mr n K C0 t hq z R w H) ?_;rintro v w' ⟨Γ',⟨rfl,rfl⟩,a⟩;exact ⟨_,⟨Z,Z⟩,Sep.toAR a b U⟩
end
end
theorem YY{n:Nat}{cb:List UInt8}{a:List ImE}(c:16<=n/\n<=298)(h:a.map Prod.fst=Dm [] ((CN n cb).flatMap Rc.ims)){g:Nat}(f:g<=1)(x:List UInt8){p:Nat}(hp:manyN n<p/\p<n):BL (Ev (DY n 300 90 cb) a) g x (2+p)=List.replicate 256 0:=by
 have e:(CN n cb).flatMap Rc.ims=Cw n cb (manyN n+1):=by simp[CN]
 rw[e,HR (by rw[Aco];exact GC _ _ _),Aco] at h;rw[upf_other _ _ U,NS,h,putQ_off (λm b=>by
  obtain ⟨i,d,rfl⟩:=Ec b;rw[CE];omega)]
 unfold DY;rw[HM (.inl U)];unfold IJ;rw[upf_other _ _ U];exact Ln n 300 90 U
theorem YZ{z w:World}{Γ:List Ah}{pq pt i k bw l o n m:Nat}{j:Value}{cb:List UInt8}{a:List ImE}(b:16<=n/\n<=298)(q:cb.length=240)(s:m<=4000)(h:a.map Prod.fst=Dm [] ((CN n cb).flatMap Rc.ims))
  (H:Sep z (pqB pq pt i j::grow 4 1 j n (F4 (C1 (manyN n+1)) n)::IM i k bw n::Ax k (C1 (manyN n+1)) n::Ax bw (C1 (manyN n+1)) n::rsB pt l o (BN (Bi n 300 90)) (.slice none 0 0) false (.slice none 0 0)::PC o l (BN (Bi n 300 90)) 0 1 0::rdkA l 400 (BL (Ev (DY n 300 90 cb) a) ((BN (Bi n 300 90)).gen%2).toNat (BE (BN (Bi n 300 90)))) (m+a.length+1)::Γ) w):Sep z (anyR pq n 1::Γ) w:=by
 have r:=DP (n:=n) U;have t:a.length<=10:=by
  have e:(CN n cb).flatMap Rc.ims=Cw n cb (manyN n+1):=by simp[CN]
  rw[e,HR (by rw[Aco];exact GC _ _ _),Aco] at h;rw[<-Ab7 (f:=Prod.fst),h,DJ];omega
 have g:((BN (Bi n 300 90)).gen%2).toNat<=1:=by show (((2:Int)+1+1)%2).toNat<=1;decide
 have H2:=EK H;have H3:=H2.pick 9 [6,7,8,0,1,2,3,4,5] Z;have H4:Sep z (rsoA pt 400 1 n (λp=>if p<=manyN n then DC (Fq n cb p) else Db) none (λ_=>none)::pqB pq pt i j::YthbbejpbkglmlaaGreatDoor.grow 4 1 j n (F4 (C1 (manyN n+1)) n)::IM i k bw n::Ax k (C1 (manyN n+1)) n::Ax bw (C1 (manyN n+1)) n::Γ) w:=
  H3.toRso (X:=⟨l,o,BN (Bi n 300 90),BN (Bi n 300 90),.slice none 0 0,.slice none 0 0,[],[],_,m+a.length+1,0,1,0⟩) ⟨⟨b.1,by omega⟩,⟨by omega,by omega⟩,Z,Ll (NV (Fs b)) (by show (2:Int)+1<_;omega) (by show (1:Int)+1<_;omega),⟨Z,Z,by show (0:Int)<=1+1+1;omega,by show (1:Int)+1+1<=1000;omega⟩,⟨by show m+a.length+1<=_;omega,by show (2:Int)+1+1<=10+((1:Nat):Int);omega,by show (0:Int)<=1;omega,by show (1:Int)<=10+((1:Nat):Int);omega⟩,⟨by show (0:Int)<=0;omega,by show (0:Int)<90;omega⟩,⟨by show (0:Int)<=0;omega,by show (0:Int)<=90;omega,.inl Z⟩,imP.nil _,.nil,λ_ h=>(nomatch h),λp hp=>.inr ⟨λ_ h=>(nomatch h),by
   by_cases c:p<=manyN n
   ·rw[if_pos c];exact .inr ⟨Fq n cb p,Hk q U,CE _ _ _ _,Lo h g _ c,Z⟩
   rw[if_neg c];exact .inl ⟨YY b h g _ ⟨by omega,hp⟩,Z⟩⟩,imP.nil _,Z⟩ Z
 have d:∀p,p<=manyN n->C1 (manyN n+1) p≠0:=λp hp=>by unfold C1;rw[if_pos U];omega
 have H5:Sep z (rqA pq 400 1 n (λp=>if p<=manyN n then DC (Fq n cb p) else Db) (C1 (manyN n+1)) none (λ_=>none)::Γ) w:=(H4.pick 6 [1,2,3,4,5,0] Z).toRq (Y:=⟨pt,i,k,bw,j⟩) (RqP.idle ⟨b.1,by omega⟩ (Ga _) d) Z;exact Sep.toAR H5 d (Acv _)
set_option maxHeartbeats 2000000 in
theorem V1 (pb pd s n:Nat) (c:16<=n/\n<=298) (Tb:Ah) (hT:Fp Tb) (q:Dsk) (a:StG) (bs:List UInt8) (a2:bs.length=256) (hO:OInv q a.x a.B (λb=>b=a.rs)) (a0:Clean q) (y:a.x.gen<=((5:Nat):Int)/\a.x.epoch<=((5:Nat):Int)) (l:a.x.pages=n) (hM:a.M=Cd (λ_=>Db) (some (gF n (bs.take 240) (manyN n),1+manyN n))) (cb:List UInt8) (f:cb.length=240) (m2:Nat) (a1:m2<=4000):Aj 37 [V pb] [blk pb [V pd,V s,.pointer none,.pointer none] 32,diskA pd q,Tb,rdkA s 400 (DY n 300 90 cb) m2] (λv G=>∃(pp pq:Nat) (M0:Nat->Pg),v=.bool true/\G=[blk pb [V pd,V s,V pp,V pq] 32,poA (Tb,pd) pp 6 n M0 (C1 (manyN n+1)) none,anyR pq n 1]):=by
 intro z R w H;replace H:=H.l4;have g:16<=n/\n<=1024:=⟨c.1,by omega⟩;refine Ac func37 Z ntmps37 Z (Z4 27 [2,0,3,0,0,0,0] H Z ?_);intro w H;refine AA Z (call30 _) (Nn _ _ _ _ _ _ hO a0 y U) H.f1 ?_;rintro _ w _ ⟨ps,D3,b,j,o,a4,rfl,rfl⟩ H;replace H:=H.l4;have u:pgMap (ov b) a.B=a.M:=by rw[j];rfl
 obtain ⟨r,h⟩:=L4 (n:=n) a2 (u.trans hM);refine Z2 13 [1,1,0] H Z (AA Z (call89 _) (JS _ 400 _ U U (DY n 300 90 cb) (By (n:Int) 300 90 2) (Bi n 300 90) (Bi n 300 90) (WC n 90 cb U) (WD n 90 cb U) (Fs c) (NV (Fs c)) Z Z (.inl ⟨by show (2:Int)<2+1;omega,Z⟩) U Z (by show (2:Int)+1<1099511627776;omega) (by show (1:Int)+1<4294967296;omega) (CN n cb) (by simp[CN]) (Py g.2 U) (by show (1:Int)+((1:Nat):Int)<1099511627776;omega) (WE f g.2 U) (Px g.2 U U)) H.f3 ?_);rintro _ w _ ⟨pt,pl,a5,d,a3,rfl,rfl⟩ H;refine Z0 18 [4] Z (Ad Z (Q4 Z J Z Z) (PL 41 Z Z (Zc 19 Z (AA Z (call31 _) (Pr _ _ _ _ 6 n (C1 (manyN n+1)) o g l (bs.take 240) r h (λk=>Ga _ k) (λp hp=>by unfold C1;rw[if_pos U])) H.f3 ?_))));rintro _ w _ ⟨pp,pc,bn,m,pa,rfl,rfl⟩ H;refine Zc 10 Z (AA Z (call98 _) (NY _ _ 400 _ n (BN (Bi n 300 90)) _ _ (C1 (manyN n+1)) g Z U cb f (λi hi=>Lo d (by show (((2:Int)+1+1)%2).toNat<=1;decide) _ hi) (Ga _) (λp hp=>by unfold C1;rw[if_pos U])) H.f8.f7 ?_);rintro _ w _ ⟨pq,qc,qn,qw,tv,rfl,rfl⟩ H;refine Z4 35 [2,14,3,14,3] H Z ?_;intro w H;refine Ad Z (Q3 Z J Z Z) (Zi 71 Z Z (Zc 5 Z (Zr Z ?_)));have H7:=YZ c f a1 d (H.pick 16 [0,1,2,3,4,5,13,6,8,7,9,10,11,12,15,14] Z);have H8:=(H7.pick 9 [1,2,3,4,5,6,7,8,0] Z).toPo (X:=⟨ps,pd,pc,bn,m,pa,D3,(Nm a.x (pgMap (ov b) a.B)),CG,[],0,Bw,Tb⟩) (Tb:=(Tb,pd)) (mb:=6) (n:=n) (M0:=pgMap (ov b) a.B) (C0:=C1 (manyN n+1)) (t:=none) ⟨g,o,l,⟨hT,Z,Z⟩,λp _=>rfl,h,λk=>Ga _ k,λp hp=>(by unfold C1;rw[if_pos U]),λ_=>⟨Z,Z⟩,λ_ e=>(by cases e)⟩ Z;exact ⟨_,⟨_,_,_,Z,Z⟩,H8.pick 3 [1,0,2] Z⟩
set_option maxHeartbeats 2000000 in
theorem Tc (n:Nat) (a:16<=n/\n<=298) (Tb:Ah) (l:Fp Tb):Aj 9 [Aa (n:Int)] [Tb] (λv G=>∃(j pd b pp pq:Nat) (M0:Nat->Pg),v=.tuple #[V j,.bool true]/\G=[blk j [V pd,V b,V pp,V pq] 32,poA (Tb,pd) pp 6 n M0 (C1 (manyN n+1)) none,anyR pq n 1]):=by
 intro z R w H;replace H:=H.l1;have i:16<=n/\n<=1024:=⟨a.1,by omega⟩;refine Ac func9 Z ntmps9 Z (Zc 8 Z (AA Z (call33 _) (RP 400) H ?_));rintro _ w _ (⟨e,rfl,rfl⟩|⟨_,pd,rfl,rfl⟩) o
 ·exact absurd U e
 have H:=o.l2;refine Zc 9 Z (AA Z (call34 _) (St 400 U) H ?_);rintro _ w _ ⟨b,rfl,rfl⟩ H;refine Za 31 [4] H Z ?_;intro p w H;refine Zc 7 Z (AA Z (call35 _) (LS _ 400 n _ _ i (Fs a)) H.f2 ?_);rintro _ w _ ⟨D2,G2,bs,h,k,d,c,m,f,r,rfl,rfl⟩ H;refine Zc 7 Z (AA Z (call36 _) (KH _ 400 0 n U U 300 90 i (Fs a)) H.f2 ?_);rintro _ w _ ⟨cb,q,g,s,rfl,rfl⟩ H;refine Z0 17 [4] Z (AA Z (call37 _) (V1 _ _ _ n a Tb l _ _ bs h k d c f r cb g q U) H.f3.f2.f3 ?_);rintro _ w _ ⟨pp,pq,M0,rfl,rfl⟩ H;refine Zc 12 Z (Zr Z ?_);exact ⟨_,⟨p,pd,b,pp,pq,M0,Z,Z⟩,H.pick 3 [0,1,2] Z⟩
section
section
variable{Tb:Ah×Nat}{z w:World}{Γ:List Ah}{pp pq n mb mr ps pd:Nat}{M0:Nat->Pg}{C0:Nat->Nat}{t:Option PoT}
theorem Jc(h:Hp):rdH 1 (.slice none 0 0) ([]:List UInt8).length (([]:List UInt8).map u8) h:=⟨none,0,Z,by simp,by omega,Z,λj u h=>by simp at h⟩
theorem PE{X:PoX}(f:PoP Tb mb n M0 C0 t X)(p:Int):Aj 21 [.pointer (some ⟨X.ps,0,none⟩),Aa p] [stoA X.ps X.pd X.D X.G (Gz X.g t)] (λv K=>∃(d e:Int) (bs:List UInt8) (c:Value) (B:Ah),(∀h,B h->rdH 1 c bs.length (bs.map u8) h)/\v=.tuple #[.agg #[Aa d,c],Aa e]/\K=[B,stoA X.ps X.pd X.D X.G (Gz X.g t)]):=λz R w H=>by
 by_cases hp:0<=p/\p<X.G.x.pages
 ·obtain ⟨p,rfl⟩:∃q:Nat,p=(q:Int):=⟨p.toNat,by omega⟩
  refine Ret.mono (Np X.ps X.pd X.D X.G (Gz X.g t) p hp.2 f.fine.clean.f1 _ Z z R w H) ?_;rintro v w' ⟨Γ',⟨_,rfl,rfl⟩|⟨_,i,rfl,rfl⟩,a⟩
  ·exact ⟨_,⟨0,0,[],_,poolA (λ_=>none),λh _=>Jc h,Z,Z⟩,EK a⟩
  rename_i b;exact ⟨_,⟨_,0,_,i,_,λh q=>by rw[b.2];exact q.rd,Z,Z⟩,a⟩
 refine Ret.mono (YS X.ps X.pd X.D X.G (Gz X.g t) p U z R w H) ?_;rintro v w' ⟨Γ',⟨rfl,rfl⟩,a⟩;exact ⟨_,⟨0,2,[],_,poolA (λ_=>none),λh _=>Jc h,Z,Z⟩,EK a⟩
theorem Y0{X:PoX}(b:PoP Tb mb n M0 C0 t X):Aj 28 [.pointer (some ⟨X.ps,0,none⟩)] [stoA X.ps X.pd X.D X.G (Gz X.g t)] (λv K=>∃(e:Int) (c:Dsk) (d:StG),PoP Tb mb n M0 C0 t {X with D:=c,G:=d} /\v=Aa e/\K=[stoA X.ps X.pd c d (Gz X.g t)]):=λz R w H=>by
 cases t with
 | none=>
  refine Ret.mono (sync_s X.ps X.pd X.D X.G mb b.fine z R w H) ?_;rintro v w' ⟨Γ',⟨rfl,f,rfl⟩,a⟩;exact ⟨_,⟨0,_,_,b.sync f,Z,Z⟩,a⟩
 | some T=>
  refine Ret.mono (YR X.ps X.pd X.D X.G (X.g,T.k) z R w H) ?_;rintro v w' ⟨Γ',⟨rfl,rfl⟩,a⟩;exact ⟨_,⟨17,_,_,b,Z,Z⟩,a⟩
theorem Jd(ps dn mb n:Nat)(K:Nat->Pg)(t:CV)(hq:Hp)(p:Int):Aj 32 [V ps,Aa p] [rsoA ps dn mb n K t hq] (λv G=>∃(d e:Int) (bs:List UInt8) (b:Value) (a:Hp),rdH 1 b bs.length (bs.map u8) a/\v=.tuple #[.agg #[Aa d,b],Aa e]/\G=[rsoA ps dn mb n K t a]):=λz R w H=>by
 by_cases hp:0<=p/\p<n
 ·obtain ⟨p,rfl⟩:∃q:Nat,p=(q:Int):=⟨p.toNat,by omega⟩
  refine Ret.mono (AaI ps dn mb n K t hq p U z R w H) ?_;rintro v w' ⟨Γ',⟨b,a,f,rfl,rfl⟩,c⟩;exact ⟨_,⟨_,0,_,b,a,f,Z,Z⟩,c⟩
 refine Ret.mono (YJ ps dn mb n K t hq p U z R w H) ?_;rintro v w' ⟨Γ',⟨rfl,rfl⟩,c⟩;exact ⟨_,⟨0,2,[],_,hq,Jc _,Z,Z⟩,c⟩
theorem Y1(ps dn mb n:Nat)(K:Nat->Pg)(t:CV)(hq:Hp):Aj 59 [V ps] [rsoA ps dn mb n K t hq] (λv G=>∃e:Int,v=Aa e/\G=[rsoA ps dn mb n K t hq]):=by
 cases t with
 | none=>exact (AaH ps dn mb n K hq).mono λv Γ ⟨a,b⟩=>⟨0,a,b⟩
 | some o=>exact (YH ps dn mb n K o hq).mono λv Γ ⟨a,b⟩=>⟨17,a,b⟩
end
theorem GD(a1 a2:Int)(f c:Value)(l a:List UInt8)(A B:Ah)(d:∀h,A h->rdH 1 f l.length (l.map u8) h)(e:∀h,B h->rdH 1 c a.length (a.map u8) h):Aj 24 [.agg #[Aa a1,f],.agg #[Aa a2,c]] [A,B] (λv G=>v=.bool (decide (a1=a2/\l=a))/\G=[A,B]):=by
 intro z R w H;replace H:=H.l2;obtain ⟨g,k,rfl⟩:=H.sy 0 (λq=>(d _ q).slc);obtain ⟨i,n,rfl⟩:=H.sy 1 (λq=>(e _ q).slc);refine Ac func24 Z ntmps24 Z (Za 2 [] H Z ?_);intro j w H;refine Za 0 [] H Z ?_;intro m w H;refine Z2 11 [0,1,0,0,0,0,0] H Z (Ak 10 Z (λb=>?_) (λb=>?_))
 ·refine Z2 2 [1,1,0] H Z (Ad Z (DK (l:=l) Z J J Z (AB (H.rd 2 Z d))) (Z2 2 [1,0,0] H Z (Ad Z (DK (l:=a) Z J J Z (AB (H.rd 3 Z e))) (Ad Z (MA Z J Z Z) (Zc 5 Z (Zr Z ?_))))));exact ⟨_,⟨congrArg Value.bool (by simp[b]),Z⟩,H.perm 4 [2,3] Z Z⟩
 refine Zc 12 Z (Zr Z ?_);exact ⟨_,⟨congrArg Value.bool (by simp[b]),Z⟩,H.perm 4 [2,3] Z Z⟩
end
set_option maxHeartbeats 8000000 in
theorem Y2 (r pd s pp pq mb mr:Nat) (Tb:Ah) (p i f j:Int) (b0: -9223372036854775808<=p/\p<=9223372036854775807) (a2: -9223372036854775808<=i/\i<=9223372036854775807) (c8:pkI p 11<9) (c3:mb<=1000000000) (c6:mr<=1100000):Aj 19 [V r,.agg #[Aa p,Aa i,Aa f,Aa j,Aa 0,.slice none 0 0]] [blk r [V pd,V s,V pp,V pq] 32,anyP (Tb,pd) pp 40 mb,anyR pq 40 mr] (λv G=>∃b:Bool,v=.bool b/\G=[blk r [V pd,V s,V pp,V pq] 32,anyP (Tb,pd) pp 40 (mb+2),anyR pq 40 (mr+1)]):=by
 intro z R w H;replace H:=H.l3;refine Ac func19 Z ntmps19 Z (Za 2 [] H Z ?_);intro b1 w H;refine Z2 8 [0,0,0] H Z (Ai Z (call8 _) (Lp p 11 b0 U) H ?_);intro w H;refine Z0 9 [0] Z (Af Z (λh1=>?_) (λh1=>?_))
 ·refine Zc 1 Z ?_;replace H:=H.f1;refine AL (Sep z (blk r [V pd,V s,V pp,V pq] 32::R)) 12 Z J (A0 H λw a=>?_)
  have H:=a.l4;refine A7 [0,1,2,3,5,6,7,8] [2,0,3,0] J (λ_ c=>(AS (c.blk 0 Z) AJ)) (by exact H.pick 4 [0] Z) Z J Z Z (An [4] J O (Ar (A6 Z Z Z Z Z Z (λw=>call11 _ w) (VR _ _ _) H.f2 Z ?_)));rintro _ w _ ⟨e2,rfl,rfl⟩ H;replace H:=H.l4;refine Am (λ_=>(H.pick 4 [1] Z)) (An [9] J O (Ar (A6 Z Z Z Z Z Z (λw=>call53 _ w) (VW _ _ _) H.f3 Z ?_)));rintro _ w _ ⟨e4,rfl,rfl⟩ H;replace H:=H.l4;refine Am (λ_=>(H.pick 4 [2] Z)) (A7 [10] [] J (λ_ _=>AJ) (by exact H.pick 4 [2] Z) Z J Z Z (An [11] J O (Ar (B8 Z Z Z Z (AU Z Z) (Am (λh=>absurd Z h) (AT J (gn (Zc 2 Z (Zr Z ?_)))))))));have a:=H.pick 4 [2,1,0] Z;exact ⟨_,⟨_,Z,Z⟩,a⟩
 refine Z0 6 [0] Z (Af Z (λh2=>?_) (λh2=>?_))
 ·refine Zc 1 Z ?_;replace H:=H.f1;refine AL (Sep z (blk r [V pd,V s,V pp,V pq] 32::blk b1 [Aa p,Aa i,Aa f,Aa j,Aa 0,.slice none 0 0] 43::R)) 12 Z J (A0 H λw a=>?_)
  have H:=a.l4;refine A7 [0,1,2,3] [2,0] J (λ_ c=>(AS (c.blk 0 Z) AJ)) (by exact H.pick 4 [0,1] Z) Z J Z Z (AQ 4 J Z Z J J J Z Z Z (Bu Z Z (vs:=[Aa p,Aa i,Aa f,Aa j,Aa 0,.slice none 0 0]) J (λ_ c=>(c.blk 1 Z).part 0 6 _ Z)) (H.pick 4 [0,1] Z) (An [5] J O (Ar (A6 Z Z Z Z Z Z (λw=>call13 _ w) (Eo _ _ f j _ (.slice none 0 0) Z) H Z ?_))));rintro _ w _ ⟨c4,rfl,rfl⟩ H;replace H:=H.l5;refine Am (λ_=>(H.pick 5 [1,2] Z)) (An [6] J O (Ar (A6 Z Z Z Z Z Z (λw=>call12 _ w) (VS _ _ _ f (F5 f j).body (CI _ _) _ _ (λh q=>Ep q (by rw[Ab7];exact CI _ _))) H.f3 Z ?_)));rintro _ w _ ⟨a8,e7,rfl,rfl⟩ H;replace H:=H.l5;refine Am (λ_=>(H.pick 5 [2,3] Z)) (A7 [7,8,9] [] J (λ_ _=>AJ) (by exact H.pick 5 [2,3] Z) Z J Z Z (An [10] J O (Ar (B8 Z Z Z Z (AU Z Z) (Am (λ_=>(H.pick 5 [2,3] Z)) (An [11] J O (Ar (B8 Z Z Z Z (AU Z Z) (Am (λh=>absurd Z h) (AT J (gn (Zc 2 Z ?_))))))))))));replace H:=H.f3.f3;refine AL (Sep z (blk r [V pd,V s,V pp,V pq] 32::blk b1 [Aa p,Aa i,Aa f,Aa j,Aa 0,.slice none 0 0] 43::R)) 12 Z J (A0 H λw a=>?_);have H:=a.l5;refine A7 [0,1,2,3] [3,0] J (λ_ c=>(AS (c.blk 0 Z) AJ)) (by exact H.pick 5 [0,1] Z) Z J Z Z (AQ 4 J Z Z J J J Z Z Z (Bu Z Z (vs:=[Aa p,Aa i,Aa f,Aa j,Aa 0,.slice none 0 0]) J (λ_ c=>(c.blk 1 Z).part 0 6 _ Z)) (H.pick 5 [0,1] Z) (An [5] J O (Ar (A6 Z Z Z Z Z Z (λw=>call13 _ w) (Eo _ _ f j _ (.slice none 0 0) Z) H Z ?_))));rintro _ w _ ⟨c1,rfl,rfl⟩ H;replace H:=H.l6;refine Am (λ_=>(H.pick 6 [1,2] Z)) (An [6] J O (Ar (A6 Z Z Z Z Z Z (λw=>call54 _ w) (VX _ _ _ f (F5 f j).body (CI _ _) _ _ (λh q=>Ep q (by rw[Ab7];exact CI _ _))) H.f5 Z ?_)));rintro _ w _ ⟨a11,d0,rfl,rfl⟩ H;replace H:=H.l6;refine Am (λ_=>(H.pick 6 [2,3] Z)) (A7 [7,8,9] [] J (λ_ _=>AJ) (by exact H.pick 6 [2,3] Z) Z J Z Z (An [10] J O (Ar (B8 Z Z Z Z (AU Z Z) (Am (λ_=>(H.pick 6 [2,3] Z)) (An [11] J O (Ar (B8 Z Z Z Z (AU Z Z) (Am (λh=>absurd Z h) (AT J (gn (Z0 7 [0] Z (Ak 55 Z (λh3=>?_) (λh3=>?_))))))))))))))
  ·refine Z0 8 [0] Z (Zr Z ?_);have a:=H.pick 6 [2,4,0] Z
   exact ⟨_,⟨_,Z,Z⟩,a⟩
  refine Zc 8 Z (Zr Z ?_);have a:=H.pick 6 [2,4,0] Z;exact ⟨_,⟨_,Z,Z⟩,a⟩
 refine Z0 6 [0] Z (Af Z (λh4=>?_) (λh4=>?_))
 ·refine Zc 1 Z ?_;replace H:=H.f1;refine AL (Sep z (blk r [V pd,V s,V pp,V pq] 32::R)) 12 Z J (A0 H λw a=>?_)
  have H:=a.l4;refine A7 [0,1,2,3,5,6,7,8] [2,0,3,0] J (λ_ c=>(AS (c.blk 0 Z) AJ)) (by exact H.pick 4 [0] Z) Z J Z Z (An [4] J O (Ar (A6 Z Z Z Z Z Z (λw=>call14 _ w) (S8 _ _ _ U) H.f2 Z ?_)));rintro _ w _ ⟨c7,rfl,rfl⟩ H;replace H:=H.l4;refine Am (λ_=>(H.pick 4 [1] Z)) (An [9] J O (Ar (A6 Z Z Z Z Z Z (λw=>call55 _ w) (S9 _ _ _ U) H.f3 Z ?_)));rintro _ w _ ⟨d1,rfl,rfl⟩ H;replace H:=H.l4;refine Am (λ_=>(H.pick 4 [2] Z)) (A7 [10] [] J (λ_ _=>AJ) (by exact H.pick 4 [2] Z) Z J Z Z (An [11] J O (Ar (B8 Z Z Z Z (AU Z Z) (Am (λh=>absurd Z h) (AT J (gn (Zc 2 Z (Zr Z ?_)))))))));have a:=H.pick 4 [2,1,0] Z;exact ⟨_,⟨_,Z,Z⟩,a⟩
 refine Z0 6 [0] Z (Af Z (λh5=>?_) (λh5=>?_))
 ·refine Zc 1 Z ?_;replace H:=H.f1;refine AL (Sep z (blk r [V pd,V s,V pp,V pq] 32::blk b1 [Aa p,Aa i,Aa f,Aa j,Aa 0,.slice none 0 0] 43::R)) 20 Z J (A0 H λw a=>?_)
  have H:=a.l4;refine A7 [0,1,2,3,4,5] [2,0,1,1] J (λ_ c=>(AS (c.blk 0 Z) (AS (c.blk 1 Z) AJ))) (by exact H.pick 4 [0,1] Z) Z J Z Z (AQ 6 J Z Z J J J Z Z Z (Bu Z Z (vs:=[Aa p,Aa i,Aa f,Aa j,Aa 0,.slice none 0 0]) J (λ_ c=>(c.blk 1 Z).part 0 6 _ Z)) (H.pick 4 [0,1] Z) (A7 [9,10,11,12,13,14] [3,0,1,1] J (λ_ c=>(AS (c.blk 0 Z) (AS (c.blk 1 Z) AJ))) (by exact H.pick 4 [0,1] Z) Z J Z Z (AQ 15 J Z Z J J J Z Z Z (Bu Z Z (vs:=[Aa p,Aa i,Aa f,Aa j,Aa 0,.slice none 0 0]) J (λ_ c=>(c.blk 1 Z).part 0 6 _ Z)) (H.pick 4 [0,1] Z) (An [7] J O (Ar (A6 Z Z Z Z Z Z (λw=>call13 _ w) (Eo _ _ f j _ (.slice none 0 0) Z) H Z ?_))))));rintro _ w _ ⟨b9,rfl,rfl⟩ H;replace H:=H.l5;refine Am (λ_=>(H.pick 5 [1,2] Z)) (An [8] J O (Ar (A6 Z Z Z Z Z Z (λw=>call22 _ w) (VT _ _ _ i a2 f (F5 f j).body (CI _ _) _ _ (λh q=>Ep q (by rw[Ab7];exact CI _ _))) H.f3 Z ?_)));rintro _ w _ ⟨c9,rfl,rfl⟩ H;replace H:=H.l5;refine Am (λ_=>(H.pick 5 [2,3] Z)) (An [16] J O (Ar (A6 Z Z Z Z Z Z (λw=>call13 _ w) (Eo _ _ f j _ (.slice none 0 0) Z) H Z ?_)));rintro _ w _ ⟨b8,rfl,rfl⟩ H;replace H:=H.l6;refine Am (λ_=>(H.pick 6 [3,4] Z)) (An [17] J O (Ar (A6 Z Z Z Z Z Z (λw=>call56 _ w) (VY _ _ _ i a2 f (F5 f j).body (CI _ _) _ _ (λh q=>Ep q (by rw[Ab7];exact CI _ _))) H.f5 Z ?_)));rintro _ w _ ⟨d2,rfl,rfl⟩ H;replace H:=H.l6;refine Am (λ_=>(H.pick 6 [4,5] Z)) (A7 [18] [] J (λ_ _=>AJ) (by exact H.pick 6 [4,5] Z) Z J Z Z (An [19] J O (Ar (B8 Z Z Z Z (AU Z Z) (Am (λh=>absurd Z h) (AT J (gn (Zc 2 Z (Zr Z ?_)))))))));have a:=H.pick 6 [4,2,0] Z;exact ⟨_,⟨_,Z,Z⟩,a⟩
 refine Z0 6 [0] Z (Af Z (λh6=>?_) (λh6=>?_))
 ·refine Zc 1 Z ?_;replace H:=H.f1;refine AL (Sep z (blk r [V pd,V s,V pp,V pq] 32::blk b1 [Aa p,Aa i,Aa f,Aa j,Aa 0,.slice none 0 0] 43::R)) 16 Z J (A0 H λw a=>?_)
  have H:=a.l4;refine A7 [0,1,2,3,4,5,7,8,9,10,11,12] [2,0,1,1,3,0,1,1] J (λ_ c=>(AS (c.blk 0 Z) (AS (c.blk 1 Z) AJ))) (by exact H.pick 4 [0,1] Z) Z J Z Z (An [6] J O (Ar (A6 Z Z Z Z Z Z (λw=>call17 _ w) (AaN _ _ _ i a2) H.f2 Z ?_)));rintro _ w _ ⟨d4,rfl,rfl⟩ H;replace H:=H.l4;refine Am (λ_=>(H.pick 4 [1,2] Z)) (An [13] J O (Ar (A6 Z Z Z Z Z Z (λw=>call57 _ w) (AaO _ _ _ i a2) H.f3 Z ?_)));rintro _ w _ ⟨d3,rfl,rfl⟩ H;replace H:=H.l4;refine Am (λ_=>(H.pick 4 [2,3] Z)) (A7 [14] [] J (λ_ _=>AJ) (by exact H.pick 4 [2,3] Z) Z J Z Z (An [15] J O (Ar (B8 Z Z Z Z (AU Z Z) (Am (λh=>absurd Z h) (AT J (gn (Zc 2 Z (Zr Z ?_)))))))));have a:=H.pick 4 [2,1,0] Z;exact ⟨_,⟨_,Z,Z⟩,a⟩
 refine Z0 6 [0] Z (Af Z (λh7=>?_) (λh7=>?_))
 ·refine Zc 1 Z ?_;replace H:=H.f1;refine AL (Sep z (blk r [V pd,V s,V pp,V pq] 32::blk b1 [Aa p,Aa i,Aa f,Aa j,Aa 0,.slice none 0 0] 43::R)) 16 Z J (A0 H λw a=>?_)
  have H:=a.l4;refine A7 [0,1,2,3,4,5,7,8,9,10,11,12] [2,0,1,1,3,0,1,1] J (λ_ c=>(AS (c.blk 0 Z) (AS (c.blk 1 Z) AJ))) (by exact H.pick 4 [0,1] Z) Z J Z Z (An [6] J O (Ar (A6 Z Z Z Z Z Z (λw=>call15 _ w) (VU _ _ _ i a2) H.f2 Z ?_)));rintro _ w _ ⟨c5,rfl,rfl⟩ H;replace H:=H.l4;refine Am (λ_=>(H.pick 4 [1,2] Z)) (An [13] J O (Ar (A6 Z Z Z Z Z Z (λw=>call58 _ w) (VZ _ _ _ i a2) H.f3 Z ?_)));rintro _ w _ ⟨c2,rfl,rfl⟩ H;replace H:=H.l4;refine Am (λ_=>(H.pick 4 [2,3] Z)) (A7 [14] [] J (λ_ _=>AJ) (by exact H.pick 4 [2,3] Z) Z J Z Z (An [15] J O (Ar (B8 Z Z Z Z (AU Z Z) (Am (λh=>absurd Z h) (AT J (gn (Zc 2 Z (Zr Z ?_)))))))));have a:=H.pick 4 [2,1,0] Z;exact ⟨_,⟨_,Z,Z⟩,a⟩
 refine Z0 6 [0] Z (Af Z (λh8=>?_) (λh8=>?_))
 ·refine Zc 1 Z ?_;replace H:=H.f2;obtain ⟨M9,C9,t,a⟩:=H.aP;clear H;obtain ⟨X9,u,H⟩:=a.po3;clear a;have a:Sep z (blk pp [.pointer (some ⟨X9.ps,0,none⟩),.pointer (some ⟨X9.pc,0,none⟩),.pointer (some ⟨X9.pa,0,none⟩),Aa ((40:Nat):Int),.bool t.isSome] 63::stoA X9.ps X9.pd X9.D X9.G (Gz X9.g t)::poR 40 C9 t X9::blk b1 [Aa p,Aa i,Aa f,Aa j,Aa 0,.slice none 0 0] 43::blk r [V pd,V s,V pp,V pq] 32::anyR pq 40 mr::R) w:=H
  clear H;have H:=a.l6;replace H:=H.f3.f4;refine AL (Sep z (blk r [V pd,V s,V pp,V pq] 32::blk b1 [Aa p,Aa i,Aa f,Aa j,Aa 0,.slice none 0 0] 43::blk pp [.pointer (some ⟨X9.ps,0,none⟩),.pointer (some ⟨X9.pc,0,none⟩),.pointer (some ⟨X9.pa,0,none⟩),Aa ((40:Nat):Int),.bool t.isSome] 63::R)) 17 Z J (A0 H λw a=>?_);have H:=a.l6;refine A7 [0,1,2,3,4,5,6,7,8,9] [2,0,0,0,1,1,2] J (λ_ c=>(AS (c.blk 0 Z) (AS (c.blk 2 Z) (AS (c.blk 1 Z) AJ)))) (by exact H.pick 6 [0,1,2] Z) Z J Z Z (An [10,14] J O (PM ?_ ?_))
  ·refine A6 Z Z Z Z Z Z (λw=>call21 _ w) (PE u _) H.f3 Z ?_;rintro _ w _ ⟨m,e9,o,v9,B9,x,rfl,rfl⟩ H;replace H:=H.l7;obtain ⟨a1,a0,rfl⟩:=H.sy 0 (λq=>(x _ q).slc);refine Am (λ_=>(H.pick 7 [2,3,4] Z)) (A7 [11,12,13] [] J (λ_ _=>AJ) (by exact H.pick 7 [2,3,4] Z) Z J Z Z (An [14] J O (Ar (Co Z Z Z Z (BC (P:=prog) H Z (zs:=[Aa 0,.slice none 0 0]) J) ?_))));rintro _ w ⟨b4,rfl,H⟩;replace H:=H.l8;refine Am (λ_=>(H.pick 8 [3,4,5] Z)) (An [15] J O (Ar (Ca Z Z Z (AF 0 H Z Z Z Z (vs:=[Aa m,.slice a1 o.length a0]) Z (by simp[u8,u32,Value.oneCell']) J O (out:=[Aa m,.slice a1 o.length a0]) Z) ?_)));rintro w H;replace H:=H.l8;refine Am (λ_=>(H.pick 8 [3,4,5] Z)) (An [16] J O (Ar (B8 Z Z Z Z (AU Z Z) (Am (λh=>absurd Z h) (AT J (gn (Zc 2 Z ?_)))))));replace H:=H.f7;obtain ⟨K9,C8,t8,a3,y,a⟩:=H.aR;clear H;obtain ⟨Y8,P8,H⟩:=a.rq;clear a;have a:Sep z (blk pq [.pointer (some ⟨Y8.pt,0,none⟩),.pointer (some ⟨Y8.pc,0,none⟩),Y8.tv] 76::grow 4 1 Y8.tv 40 (Ed (HV C8 t8) 40)::IM Y8.pc Y8.bn Y8.bw 40::Ax Y8.bn (F6 C8 t8) 40::Ax Y8.bw C8 40::rsoA Y8.pt 400 mr 40 K9 (IN t8) a3::blk b4 [Aa m,.slice a1 o.length a0] 40::B9::stoA X9.ps X9.pd X9.D X9.G (Gz X9.g t)::blk r [V pd,V s,V pp,V pq] 32::blk b1 [Aa p,Aa i,Aa f,Aa j,Aa 0,.slice none 0 0] 43::blk pp [.pointer (some ⟨X9.ps,0,none⟩),.pointer (some ⟨X9.pc,0,none⟩),.pointer (some ⟨X9.pa,0,none⟩),Aa ((40:Nat):Int),.bool t.isSome] 63::poR 40 C9 t X9::R) w:=H
   clear H;have H:=a.l13;replace H:=H.f10.f10;refine AL (Sep z (blk r [V pd,V s,V pp,V pq] 32::blk b1 [Aa p,Aa i,Aa f,Aa j,Aa 0,.slice none 0 0] 43::blk pq [.pointer (some ⟨Y8.pt,0,none⟩),.pointer (some ⟨Y8.pc,0,none⟩),Y8.tv] 76::R)) 16 Z J (A0 H λw a=>?_);have H:=a.l13;refine A7 [0,1,2,3,4,5,6,7,8] [3,0,0,1,1,2] J (λ_ c=>(AS (c.blk 0 Z) (AS (c.blk 2 Z) (AS (c.blk 1 Z) AJ)))) (by exact H.pick 13 [0,1,2] Z) Z J Z Z (An [9,13] J O (PM ?_ ?_))
   ·refine A6 Z Z Z Z Z Z (λw=>call32 _ w) (Jd _ _ _ _ _ _ _ _) H.f7 Z ?_;rintro _ w _ ⟨d,e8,e,v8,a4,k,rfl,rfl⟩ H;replace H:=H.l13;obtain ⟨l,n,rfl⟩:=k.slc;refine Am (λ_=>(H.pick 13 [1,2,3] Z)) (A7 [10,11,12] [] J (λ_ _=>AJ) (by exact H.pick 13 [1,2,3] Z) Z J Z Z (An [13] J O (Ar (Co Z Z Z Z (BC (P:=prog) H Z (zs:=[Aa 0,.slice none 0 0]) J) ?_))));rintro _ w ⟨c0,rfl,H⟩;replace H:=H.l14;refine Am (λ_=>(H.pick 14 [2,3,4] Z)) (An [14] J O (Ar (Ca Z Z Z (AF 0 H Z Z Z Z (vs:=[Aa d,.slice l e.length n]) Z (by simp[u8,u32,Value.oneCell']) J O (out:=[Aa d,.slice l e.length n]) Z) ?_)));rintro w H;replace H:=H.l14;refine Am (λ_=>(H.pick 14 [2,3,4] Z)) (An [15] J O (Ar (B8 Z Z Z Z (AU Z Z) (Am (λh=>absurd Z h) (AT J (gn (Z2 5 [9,2,0,2] H Z (Ai Z (call24 _) (GD m d _ _ o e _ _ x (λh q=>k.le q.pool)) H.f1.f10 ?_))))))));intro w H;refine Zc 4 Z ?_;replace H:=H.f1.f9.f9.f9.f9.f9;replace H:=(Sep.toAR (mr2:=mr+1) (Sep.toRq (Y:=Y8) H P8 Z) y U).l9
    replace H:=H.f8.f7.f8;replace H:=(Sep.toAP (mb2:=mb+2) (Sep.toPo3 (X:=X9) H u) U).l7;refine Zc 3 Z (Ak 161 Z (λh9=>?_) (λh9=>?_))
    ·refine Z0 8 [0] Z (Zr Z ?_);have a:=H.pick 7 [4,0,1] Z
     exact ⟨_,⟨_,Z,Z⟩,a⟩
    refine Zc 8 Z (Zr Z ?_);have a:=H.pick 7 [4,0,1] Z;exact ⟨_,⟨_,Z,Z⟩,a⟩
   refine Co Z Z Z Z (BC (P:=prog) H Z (zs:=[Aa 0,.slice none 0 0]) J) ?_;rintro _ w ⟨d7,rfl,H⟩;replace H:=H.l14;refine Am (λ_=>(H.pick 14 [1,2,3] Z)) (An [9] J O (Ar (A6 Z Z Z Z Z Z (λw=>call32 _ w) (Jd _ _ _ _ _ _ _ _) H.f8 Z ?_)));rintro _ w _ ⟨d,e8,e,v8,a4,k,rfl,rfl⟩ H;replace H:=H.l14;obtain ⟨l,n,rfl⟩:=k.slc;refine Am (λ_=>(H.pick 14 [2,3,4] Z)) (A7 [10,11,12] [] J (λ_ _=>AJ) (by exact H.pick 14 [2,3,4] Z) Z J Z Z (An [14] J O (Ar (Ca Z Z Z (AF 1 H Z Z Z Z (vs:=[Aa d,.slice l e.length n]) Z (by simp[u8,u32,Value.oneCell']) J O (out:=[Aa d,.slice l e.length n]) Z) ?_))));rintro w H;replace H:=H.l14;refine Am (λ_=>(H.pick 14 [2,3,4] Z)) (An [15] J O (Ar (B8 Z Z Z Z (AU Z Z) (Am (λh=>absurd Z h) (AT J (gn (Z2 5 [9,2,1,2] H Z (Ai Z (call24 _) (GD m d _ _ o e _ _ x (λh q=>k.le q.pool)) H.f10 ?_))))))));intro w H;refine Zc 4 Z ?_;replace H:=H.f1.f9.f9.f9.f9.f9;replace H:=(Sep.toAR (mr2:=mr+1) (Sep.toRq (Y:=Y8) H P8 Z) y U).l9;replace H:=H.f8.f7.f8;replace H:=(Sep.toAP (mb2:=mb+2) (Sep.toPo3 (X:=X9) H u) U).l7;refine Zc 3 Z (Ak 161 Z (λb2=>?_) (λb2=>?_))
   ·refine Z0 8 [0] Z (Zr Z ?_);have a:=H.pick 7 [4,0,1] Z
    exact ⟨_,⟨_,Z,Z⟩,a⟩
   refine Zc 8 Z (Zr Z ?_);have a:=H.pick 7 [4,0,1] Z;exact ⟨_,⟨_,Z,Z⟩,a⟩
  refine Co Z Z Z Z (BC (P:=prog) H Z (zs:=[Aa 0,.slice none 0 0]) J) ?_;rintro _ w ⟨b5,rfl,H⟩;replace H:=H.l7;refine Am (λ_=>(H.pick 7 [1,2,3] Z)) (An [10] J O (Ar (A6 Z Z Z Z Z Z (λw=>call21 _ w) (PE u _) H.f4 Z ?_)));rintro _ w _ ⟨m,e9,o,v9,B9,x,rfl,rfl⟩ H;replace H:=H.l8;obtain ⟨a1,a0,rfl⟩:=H.sy 0 (λq=>(x _ q).slc);refine Am (λ_=>(H.pick 8 [3,4,5] Z)) (A7 [11,12,13] [] J (λ_ _=>AJ) (by exact H.pick 8 [3,4,5] Z) Z J Z Z (An [15] J O (Ar (Ca Z Z Z (AF 2 H Z Z Z Z (vs:=[Aa m,.slice a1 o.length a0]) Z (by simp[u8,u32,Value.oneCell']) J O (out:=[Aa m,.slice a1 o.length a0]) Z) ?_))));rintro w H;replace H:=H.l8;refine Am (λ_=>(H.pick 8 [3,4,5] Z)) (An [16] J O (Ar (B8 Z Z Z Z (AU Z Z) (Am (λh=>absurd Z h) (AT J (gn (Zc 2 Z ?_)))))));replace H:=H.f7;obtain ⟨K9,C8,t8,a3,y,a⟩:=H.aR;clear H;obtain ⟨Y8,P8,H⟩:=a.rq;clear a;have a:Sep z (blk pq [.pointer (some ⟨Y8.pt,0,none⟩),.pointer (some ⟨Y8.pc,0,none⟩),Y8.tv] 76::grow 4 1 Y8.tv 40 (Ed (HV C8 t8) 40)::IM Y8.pc Y8.bn Y8.bw 40::Ax Y8.bn (F6 C8 t8) 40::Ax Y8.bw C8 40::rsoA Y8.pt 400 mr 40 K9 (IN t8) a3::B9::stoA X9.ps X9.pd X9.D X9.G (Gz X9.g t)::blk b5 [Aa m,.slice a1 o.length a0] 40::blk r [V pd,V s,V pp,V pq] 32::blk b1 [Aa p,Aa i,Aa f,Aa j,Aa 0,.slice none 0 0] 43::blk pp [.pointer (some ⟨X9.ps,0,none⟩),.pointer (some ⟨X9.pc,0,none⟩),.pointer (some ⟨X9.pa,0,none⟩),Aa ((40:Nat):Int),.bool t.isSome] 63::poR 40 C9 t X9::R) w:=H;clear H;have H:=a.l13;replace H:=H.f10.f10;refine AL (Sep z (blk r [V pd,V s,V pp,V pq] 32::blk b1 [Aa p,Aa i,Aa f,Aa j,Aa 0,.slice none 0 0] 43::blk pq [.pointer (some ⟨Y8.pt,0,none⟩),.pointer (some ⟨Y8.pc,0,none⟩),Y8.tv] 76::R)) 16 Z J (A0 H λw a=>?_);have H:=a.l13;refine A7 [0,1,2,3,4,5,6,7,8] [3,0,0,1,1,2] J (λ_ c=>(AS (c.blk 0 Z) (AS (c.blk 2 Z) (AS (c.blk 1 Z) AJ)))) (by exact H.pick 13 [0,1,2] Z) Z J Z Z (An [9,13] J O (PM ?_ ?_))
  ·refine A6 Z Z Z Z Z Z (λw=>call32 _ w) (Jd _ _ _ _ _ _ _ _) H.f7 Z ?_;rintro _ w _ ⟨d,e8,e,v8,a4,k,rfl,rfl⟩ H;replace H:=H.l13;obtain ⟨l,n,rfl⟩:=k.slc;refine Am (λ_=>(H.pick 13 [1,2,3] Z)) (A7 [10,11,12] [] J (λ_ _=>AJ) (by exact H.pick 13 [1,2,3] Z) Z J Z Z (An [13] J O (Ar (Co Z Z Z Z (BC (P:=prog) H Z (zs:=[Aa 0,.slice none 0 0]) J) ?_))));rintro _ w ⟨d5,rfl,H⟩;replace H:=H.l14;refine Am (λ_=>(H.pick 14 [2,3,4] Z)) (An [14] J O (Ar (Ca Z Z Z (AF 0 H Z Z Z Z (vs:=[Aa d,.slice l e.length n]) Z (by simp[u8,u32,Value.oneCell']) J O (out:=[Aa d,.slice l e.length n]) Z) ?_)));rintro w H;replace H:=H.l14;refine Am (λ_=>(H.pick 14 [2,3,4] Z)) (An [15] J O (Ar (B8 Z Z Z Z (AU Z Z) (Am (λh=>absurd Z h) (AT J (gn (Z2 5 [11,2,0,2] H Z (Ai Z (call24 _) (GD m d _ _ o e _ _ x (λh q=>k.le q.pool)) H.f1.f9 ?_))))))));intro w H;refine Zc 4 Z ?_;replace H:=H.f1.f9.f9.f9.f9.f9;replace H:=(Sep.toAR (mr2:=mr+1) (Sep.toRq (Y:=Y8) H P8 Z) y U).l9
   replace H:=H.f8.f6.f8;replace H:=(Sep.toAP (mb2:=mb+2) (Sep.toPo3 (X:=X9) H u) U).l7;refine Zc 3 Z (Ak 161 Z (λa7=>?_) (λa7=>?_))
   ·refine Z0 8 [0] Z (Zr Z ?_);have a:=H.pick 7 [4,0,1] Z
    exact ⟨_,⟨_,Z,Z⟩,a⟩
   refine Zc 8 Z (Zr Z ?_);have a:=H.pick 7 [4,0,1] Z;exact ⟨_,⟨_,Z,Z⟩,a⟩
  refine Co Z Z Z Z (BC (P:=prog) H Z (zs:=[Aa 0,.slice none 0 0]) J) ?_;rintro _ w ⟨d6,rfl,H⟩;replace H:=H.l14;refine Am (λ_=>(H.pick 14 [1,2,3] Z)) (An [9] J O (Ar (A6 Z Z Z Z Z Z (λw=>call32 _ w) (Jd _ _ _ _ _ _ _ _) H.f8 Z ?_)));rintro _ w _ ⟨d,e8,e,v8,a4,k,rfl,rfl⟩ H;replace H:=H.l14;obtain ⟨l,n,rfl⟩:=k.slc;refine Am (λ_=>(H.pick 14 [2,3,4] Z)) (A7 [10,11,12] [] J (λ_ _=>AJ) (by exact H.pick 14 [2,3,4] Z) Z J Z Z (An [14] J O (Ar (Ca Z Z Z (AF 1 H Z Z Z Z (vs:=[Aa d,.slice l e.length n]) Z (by simp[u8,u32,Value.oneCell']) J O (out:=[Aa d,.slice l e.length n]) Z) ?_))));rintro w H;replace H:=H.l14;refine Am (λ_=>(H.pick 14 [2,3,4] Z)) (An [15] J O (Ar (B8 Z Z Z Z (AU Z Z) (Am (λh=>absurd Z h) (AT J (gn (Z2 5 [11,2,1,2] H Z (Ai Z (call24 _) (GD m d _ _ o e _ _ x (λh q=>k.le q.pool)) H.f9 ?_))))))));intro w H;refine Zc 4 Z ?_;replace H:=H.f1.f9.f9.f9.f9.f9;replace H:=(Sep.toAR (mr2:=mr+1) (Sep.toRq (Y:=Y8) H P8 Z) y U).l9;replace H:=H.f8.f6.f8;replace H:=(Sep.toAP (mb2:=mb+2) (Sep.toPo3 (X:=X9) H u) U).l7;refine Zc 3 Z (Ak 161 Z (λb7=>?_) (λb7=>?_))
  ·refine Z0 8 [0] Z (Zr Z ?_);have a:=H.pick 7 [4,0,1] Z
   exact ⟨_,⟨_,Z,Z⟩,a⟩
  refine Zc 8 Z (Zr Z ?_);have a:=H.pick 7 [4,0,1] Z;exact ⟨_,⟨_,Z,Z⟩,a⟩
 refine Z0 6 [0] Z (Af Z (λa9=>?_) (λa9=>?_))
 ·refine Z2 6 [2,1,0] H Z (Ai Z (call20 _) (VV _ _ _) H.f2 ?_);intro w H;refine Z2 7 [3,2,0] H Z (Ai Z (call26 _) (V0 _ _ _) H.f3 ?_);intro w H;refine Zc 9 Z (Zr Z ?_);have a:=H.pick 4 [3,1,0] Z
  exact ⟨_,⟨_,Z,Z⟩,a⟩
 refine Z0 6 [0] Z (Af Z (λb3=>?_) (λb3=>?_))
 ·refine Zc 1 Z ?_;replace H:=H.f2;obtain ⟨M9,C9,t,a⟩:=H.aP;clear H;obtain ⟨X9,u,H⟩:=a.po3;clear a;have a:Sep z (blk pp [.pointer (some ⟨X9.ps,0,none⟩),.pointer (some ⟨X9.pc,0,none⟩),.pointer (some ⟨X9.pa,0,none⟩),Aa ((40:Nat):Int),.bool t.isSome] 63::stoA X9.ps X9.pd X9.D X9.G (Gz X9.g t)::poR 40 C9 t X9::blk b1 [Aa p,Aa i,Aa f,Aa j,Aa 0,.slice none 0 0] 43::blk r [V pd,V s,V pp,V pq] 32::anyR pq 40 mr::R) w:=H
  clear H;have H:=a.l6;replace H:=H.f5;obtain ⟨K9,C8,t8,a3,y,a⟩:=H.aR;clear H;obtain ⟨Y8,P8,H⟩:=a.rq;clear a;have a:Sep z (blk pq [.pointer (some ⟨Y8.pt,0,none⟩),.pointer (some ⟨Y8.pc,0,none⟩),Y8.tv] 76::grow 4 1 Y8.tv 40 (Ed (HV C8 t8) 40)::IM Y8.pc Y8.bn Y8.bw 40::Ax Y8.bn (F6 C8 t8) 40::Ax Y8.bw C8 40::rsoA Y8.pt 400 mr 40 K9 (IN t8) a3::blk pp [.pointer (some ⟨X9.ps,0,none⟩),.pointer (some ⟨X9.pc,0,none⟩),.pointer (some ⟨X9.pa,0,none⟩),Aa ((40:Nat):Int),.bool t.isSome] 63::stoA X9.ps X9.pd X9.D X9.G (Gz X9.g t)::poR 40 C9 t X9::blk b1 [Aa p,Aa i,Aa f,Aa j,Aa 0,.slice none 0 0] 43::blk r [V pd,V s,V pp,V pq] 32::R) w:=H;clear H;have H:=a.l11;replace H:=H.f6.f10;refine AL (Sep z (blk r [V pd,V s,V pp,V pq] 32::blk pp [.pointer (some ⟨X9.ps,0,none⟩),.pointer (some ⟨X9.pc,0,none⟩),.pointer (some ⟨X9.pa,0,none⟩),Aa ((40:Nat):Int),.bool t.isSome] 63::blk pq [.pointer (some ⟨Y8.pt,0,none⟩),.pointer (some ⟨Y8.pc,0,none⟩),Y8.tv] 76::R)) 16 Z J (A0 H λw a=>?_);have H:=a.l11;refine A7 [0,1,2,3,6,7,8,9,10,11,12] [2,0,3,0,0,1] J (λ_ c=>(AS (c.blk 0 Z) (AS (c.blk 2 Z) AJ))) (by exact H.pick 11 [0,1,2] Z) Z J Z Z (An [4] J O (Ar (A6 Z Z Z Z Z Z (λw=>call27 _ w) (UX _ _ _ _ 40 _) H.f1 Z ?_)));rintro _ w _ ⟨rfl,rfl⟩ H;replace H:=H.l11;refine Am (λ_=>(H.pick 11 [1,0,2] Z)) (An [5] J O (Ar (A6 Z Z Z Z Z Z (λw=>call28 _ w) (Y0 u) H.f8 Z ?_)));rintro _ w _ ⟨e9,D9,G9,a6,rfl,rfl⟩ H;replace H:=H.l11;refine Am (λ_=>(H.pick 11 [2,1,3] Z)) (An [13] J O (Ar (A6 Z Z Z Z Z Z (λw=>call59 _ w) (Y1 _ _ _ _ _ _ _) H.f8 Z ?_)));rintro _ w _ ⟨e8,rfl,rfl⟩ H;replace H:=H.l11;refine Am (λ_=>(H.pick 11 [3,2,4] Z)) (A7 [14] [] J (λ_ _=>AJ) (by exact H.pick 11 [3,2,4] Z) Z J Z Z (An [15] J O (Ar (B8 Z Z Z Z (AU Z Z) (Am (λh=>absurd Z h) (AT J (gn ?_)))))));replace H:=H.f8.f8.f8.f8.f8;replace H:=(Sep.toAR (mr2:=mr+1) (Sep.toRq (Y:=Y8) H P8 Z) y U).l6;replace H:=H.f4.f2.f3;replace H:=(Sep.toAP (mb2:=mb+2) (Sep.toPo3 (X:= {X9 with D:=D9,G:=G9}) H a6) U).l4;refine Zc 2 Z (Zr Z ?_);have a:=H.pick 4 [2,0,1] Z;exact ⟨_,⟨_,Z,Z⟩,a⟩
 refine Z0 6 [0] Z (Af Z (λb6=>U) (λb6=>?_));refine Z0 6 [0] Z (Af Z (λa5=>U) (λa5=>?_))
 (exfalso;omega)
structure De0 where
 kd:Int
 pg:Int
 wh:Int
 fl:Int
 nn:Int
def De0.In(d:De0):Prop:=(-9223372036854775808<=d.kd/\d.kd<=9223372036854775807)/\(-9223372036854775808<=d.pg/\d.pg<=9223372036854775807)
abbrev DeE:=De0×Value
def DeE.cells(e:DeE):List Value:=[.int .i64 e.1.kd,.int .i64 e.1.pg,.int .i64 e.1.wh,.int .i64 e.1.fl,.int .i64 e.1.nn,e.2]
def GQ(es:List DeE):List Value:=es.flatMap DeE.cells
theorem Y3(es:List DeE):(GQ es).length=es.length*6:=by
 induction es with
 | nil=>rfl
 | cons e es ih=>simp only[GQ,AcD,Ab2] at ih ⊢;rw[ih];simp[DeE.cells];omega
theorem Br:∀{es:List DeE} {j:Nat} {e:DeE},es[j]?=some e->∀k u,(DeE.cells e)[k]?=some u->(GQ es)[j*6+k]?=some u
 | x::es,0,e,h,k,u,hk=>by
  simp at h;subst h;have hl:=(AbZ.1 hk).1;simp only[GQ,AcD];rw[Acf U];simpa using hk
 | x::es,j+1,e,h,k,u,hk=>by
  have:=Br (es:=es) (j:=j) (by simpa using h) k u hk;simp only[GQ,AcD] at this ⊢;rw[Ace (by simp[DeE.cells];omega)];rw[show (j+1)*6+k-(DeE.cells x).length=j*6+k from by simp[DeE.cells];omega];exact this
theorem AaP{c N:Nat}(h:c<N):pkI (c:Int) N=c:=by
 unfold pkI;rw[if_neg U,Aeb U,Ac1 U U,AcB]
open Go.ChangeShapes Go.WideShapes Go.ChangeAt Go.RowKit Go.Joins
theorem Oc:prog.cellsOf 43=6:=by kernel_rfl
theorem Y4{H:Type}{enc:TypeId×Value->H}{W:World}{fuel:Nat}{cs:List Value}{d:DataW H}{p:List MemPlace}(h:DataW.trod enc prog W 0 (λ_=>true) true fuel 43 cs=some (d,p)):
  ∃e:DeE×List Int,cs=DeE.cells e.1/\Rd 1 e.1.2 e.2.length (e.2.map (Value.int .i64)) W/\e.1.1.In:=by
 obtain ⟨xs,n,rfl,hx,q,o,c⟩:=DataW.trod_struct underlying43 h;rw[Oc] at q
 match cs,q with
 | [c0,c1,c2,c3,c4,c5],_=>
  have f0:=c 0 _ Z;have j:=c 1 _ Z;have k:=c 2 _ Z;have g:=c 3 _ Z;have m:=c 4 _ Z;have i:=c 5 _ Z
  match xs,o with
  | [y0,y1,y2,y3,y4,y5],_=>
   have a:prog.cellsOf 22=1:=by kernel_rfl
   have b:prog.cellsOf 4=1:=by kernel_rfl
   try dsimp only at f0
   try simp only[int_cells,a,b,Acm,AcS,AcT,Adp,AcF,Acq] at f0
   try dsimp only at j
   try simp only[int_cells,a,b,Acm,AcS,AcT,Adp,AcF,Acq] at j
   try dsimp only at k
   try simp only[int_cells,a,b,Acm,AcS,AcT,Adp,AcF,Acq] at k
   try dsimp only at g
   try simp only[int_cells,a,b,Acm,AcS,AcT,Adp,AcF,Acq] at g
   try dsimp only at m
   try simp only[int_cells,a,b,Acm,AcS,AcT,Adp,AcF,Acq] at m
   try dsimp only at i
   try simp only[int_cells,a,b,Acm,AcS,AcT,Adp,AcF,Acq] at i
   obtain ⟨z0,z,_,y⟩:=Aeq underlying3 f0;obtain ⟨z1,e1,_,w1⟩:=Aeq underlying3 j;obtain ⟨z2,e2,_,w2⟩:=Aeq underlying3 k;obtain ⟨w,e3,_,w3⟩:=Aeq underlying3 g;obtain ⟨x,e4,_,w4⟩:=Aeq underlying3 m;obtain ⟨d5,p5⟩:=y5;obtain ⟨ks,f,_⟩:=Vn (h:=i);have u:=congrArg (λl=>l.headD .nilFunc) z
   try simp at u
   subst u;have v:=congrArg (λl=>l.headD .nilFunc) e1
   try simp at v
   subst v;have t:=congrArg (λl=>l.headD .nilFunc) e2
   try simp at t
   subst t;have s:=congrArg (λl=>l.headD .nilFunc) e3
   try simp at s
   subst s;have r:=congrArg (λl=>l.headD .nilFunc) e4
   try simp at r
   subst r;exact ⟨((⟨z0,z1,z2,w,x⟩,c5),ks),Z,f,WI y,WI w1⟩
theorem PF:∀(es:List DeE) (k:Nat) (u:Value),(GQ es)[k]?=some u->∃e,es[k/6]?=some e/\(DeE.cells e)[k%6]?=some u
 | [],k,u,h=>by simp[GQ] at h
 | x::es,k,u,h=>by
  have hl:(DeE.cells x).length=6:=rfl;simp only[GQ,AcD] at h;rcases Acj k 6 with q|q
  ·rw[Acf U] at h
   exact ⟨x,by rw[Ad9 q];rfl,by rw[Ac7 q];exact h⟩
  rw[Ace U,hl] at h;obtain ⟨e,a,b⟩:=PF es (k-6) u h;refine ⟨e,?_,?_⟩
  ·rw[show k/6=(k-6)/6+1 from by omega];simpa using a
  rw[show k%6=(k-6)%6 from by omega];exact b
theorem Od{H:Type}{enc:TypeId×Value->H}{W:World}{fuel:Nat}{v:Value}{d:DataW H}{p:List MemPlace}(h:DataW.trod enc prog W 0 (λ_=>true) true fuel 50 [v]=some (d,p)):
  ∃es:List (DeE×List Int),Rd 6 v es.length (GQ (es.map Prod.fst)) W/\(∀e∈es,Rd 1 e.1.2 e.2.length (e.2.map (Value.int .i64)) W/\e.1.1.In)/\es.length<=Rows.uptoBulk d:=by
 rcases DataW.trod_slice underlying50 h with ⟨f,_⟩|⟨a,a1,x,c,rest,n,rfl,f,hx,_,a3,t,a4,hg,_,_⟩
 ·simp only[AdY,and_true] at f;subst f
  exact ⟨[],by simpa [GQ] using Rd.nil 6 W,λe he=>absurd he O,by simp⟩
 simp only[AdY,and_true] at f;subst f;have hd:d=.slice (c.map (·.1)) (rest.map (·.1)):=by have:=congrArg Prod.fst hx;simpa using this
 obtain ⟨es,m,hP⟩:=Jn (λi (e:DeE×List Int)=>(∀j,j<6->W.cell? ((a.add (i*6)).add j)=(DeE.cells e.1)[j]?)/\Rd 1 e.1.2 e.2.length (e.2.map (Value.int .i64)) W/\e.1.1.In) a1 (λi z=>by
  have w:=hg i z;rw[Oc] at w;obtain ⟨y,hy⟩:∃y,c[i]?=some y:=⟨_,Ab0 U⟩;rw[hy,Option.bind_eq_some_iff] at w;obtain ⟨cs,s,ht⟩:=w;obtain ⟨e,rfl,r,h2⟩:=Y4 (d:=y.1) (p:=y.2) ht;exact ⟨e,(World.cells?_some s).2.2,r,h2⟩)
 refine ⟨es,⟨some a,x,by rw[m],by omega,(by unfold maxLen at t;omega),by rw[Y3,Ab7],λk u hk=>?_⟩,λe he=>?_,?_⟩
 ·obtain ⟨o,q,h2⟩:=PF _ k u hk
  rw[Ach,AdK] at q;obtain ⟨e,r,rfl⟩:=q;have s:=(hP _ e r).1 (k%6) (Nat.mod_lt _ U);rw[h2] at s;obtain ⟨b,off,g⟩:=a;have l:g=none:=by
   have a5:=(AbZ.1 r).1;obtain ⟨o,a2⟩:∃o,es[0]?=some o:=⟨_,Ab0 U⟩;have a0:=(hP _ o a2).1 0 U;have h0:W.cell? ⟨b,off,g⟩=some (.int .i64 o.1.1.kd):=by simpa [Addr.add,DeE.cells] using a0
   exact World.cell?_spot h0
  subst l;refine ⟨b,off,Z,?_⟩;unfold Fe;have e2:((Addr.add ⟨b,off,none⟩ (k/6*6)).add (k%6))=⟨b,off+k,none⟩:=by
   rw[Aes,Aes];congr 1;omega
  rw[<-e2];exact s
 ·obtain ⟨i,z⟩:=AcH he
  exact (hP i e z).2
 rw[m,hd];have:=Vq (c.map (·.1));simp only[Rows.uptoBulk,Ab7] at this ⊢;omega
theorem WL{es:List (DeE×List Int)}{W:World}(h:∀e∈es,Rd 1 e.1.2 e.2.length (e.2.map (Value.int .i64)) W/\e.1.1.In):∀u∈GQ (es.map Prod.fst),∀x,u≠ .int .u8 x:=λu a x=>by
 simp only[GQ,Ad6] at a;obtain ⟨e,b,a⟩:=a;obtain ⟨g,f,rfl⟩:=Ab9.1 b;obtain ⟨⟨i,c,d,_⟩,_⟩:=h g f;simp[DeE.cells] at a;rcases a with rfl|rfl|rfl|rfl|rfl|rfl
 all_goals first|(rw[d];exact λh=>nomatch h)|simp
theorem WM{es:List (DeE×List Int)}{W:World}(h:∀e∈es,Rd 1 e.1.2 e.2.length (e.2.map (Value.int .i64)) W/\e.1.1.In):∀e∈es.map Prod.fst,e.1.In:=λe a=>by
 obtain ⟨c,b,rfl⟩:=Ab9.1 a;exact (h c b).2
theorem WN{sz:Nat}{v:Value}{n:Nat}{xs:List Value}{m:Nat}{h:Hp}(r:rdH sz v n xs h)(e:n=m):rdH sz v m xs h:=e▸r
theorem Oe(pd:Nat)(D:Dsk)(a:D.cut=true/\D.left=0):Aj 70 [V pd] [diskA pd D] (λv G=>v=Aa 12/\G=[diskA pd {D with f3:=A4 D.f3}]):=by
 refine Cn.mono (Gh pd D) ?_;rintro v Γ (⟨_,b,c⟩|⟨h,_⟩)
 ·exact ⟨b,c⟩
 exact absurd (.inr a) h
set_option maxHeartbeats 2000000 in
theorem V2 (ps pd pt k md:Nat) (x l:Sup) (mo:Value) (un nu:Bool) (hq:Hp) (D:Dsk) (B:Nat->Pg) (rs:List Rc) (ptl:List (List UInt8)) (a q u:Int) (b:Bool) (sure:Nat) (g:SInv D x B rs ptl a q u b sure) (hL:l.start=x.start/\l.len=x.len/\l.epoch=x.epoch) (b8:q<=1099511627776) (a5:∀i,(D.ver i).length<=1000000000000) (j:D.cut=true/\D.left=0):Aj 168 [V ps] [stB ps pd pt x (V k) md un mo,lgB k pd pt l a q u b nu,tblA pt,diskA pd D,pgsA md (ov rs) hq,poolA hq] (λv G=>((∀n,ov rs n=none)/\b=false/\u<x.len/\v=Aa 0/\G=[stB ps pd pt x (V k) md un mo,lgB k pd pt l a q u b nu,tblA pt,diskA pd D,pgsA md (ov rs) hq,poolA hq])\/(∃(c:Int) (r:Dsk),c≠0/\SInv r x B rs ptl a q u b sure/\(r.f1=D.f1/\r.n=D.n)/\v=Aa c/\G=[stB ps pd pt x (V k) md un mo,lgB k pd pt l a q u b nu,tblA pt,diskA pd r,pgsA md (ov rs) hq,poolA hq])):=by
 intro z R w H;replace H:=H.l6;have m:=g.ok;have a8:=Sup.get m;have b5:=m.2;have t:=g.p;have b6:=t.at_ok g.s;have b4:=t.ul;have a9:=t.fu;have a3:=g.gen;have y:=t.fq;have b7:=g.s.seq;have b0:0<=q:=by split at y<;>omega
 have a7:=g.s.head;have a1:∀n,(ov rs n).isSome=true->n<1024:=λn h=>by have:=g.ovb h;omega
 have a6:∀n,(ov rs n).isSome=true->2+n<D.n:=λn h=>by have:=g.ovb h;omega
 have a4:=H.sy 3 (λq=>(diskA.ok q).n2);have a2:=hL.2.1;have b3:=Kw x a q;obtain ⟨es,clk,d,H⟩:=H.pgs 4 Z;replace H:=H.l6;refine Ac func168 Z ntmps168 Z (Z2 12 [10,0,0] H Z (Ad Z (Is (e:=40) Z J Z (AB (H.bk 4 Z))) (Z0 2 [0] Z (Ak 12 Z (λh1=>?_) (λh1=>?_)))))
 ·refine Z2 4 [9,0,0] H Z (Ai Z (call209 _) (M5 _ _ _ _ _ _ _ _ _ U) H.f1 ?_);intro w H;refine Z0 4 [0] Z (Af Z (λh2=>?_) (λh2=>?_))
  ·refine Zc 6 Z (Zr Z ?_);replace H:=(H.toPgs 4 Z d).l6
   have a0:=d.nil_iff.1 (by simpa using h1);exact ⟨_,.inl ⟨a0,(HL h2).1,by have:=(HL h2).2;omega,Z,Z⟩,H.perm 6 [1,0,2,3,4,5] Z Z⟩
  refine Za 8 [2,1,7] H Z ?_;intro b1 w H;refine Z5 18 [0,0,0,0,0,0,9,2,0] [x.gen+1] H Z U ?_;intro w H;refine Ai Z (call210 _) (Kr _ _ _ _ _ _ _ _ _) H.f1 ?_;intro w H;refine Z4 17 [5,1,6,1,0,1,0,0] H Z ?_;intro w H;refine Af Z (λh3=>?_) (λh3=>?_)
  ·refine Zc 6 Z (Zr Z ?_);replace H:=(H.toPgs 5 Z d).l7
   exact ⟨_,.inr ⟨_,D,by decide,g,⟨Z,Z⟩,Z,Z⟩,H.perm 7 [2,0,3,4,5,6] Z Z⟩
  refine Zc 4 Z ?_;have o:(Ea x a q).Ok (D.n:Int):=Sup.ok_mk U U U U U U U U;refine Z2 5 [0,2,0] H Z (Ai Z (call70 _) (Oe _ _ j) H.f4 ?_);intro w H;refine Z0 17 [3] Z (Zr Z ?_);replace H:=(H.toPgs 5 Z d).l7;exact ⟨_,.inr ⟨_,_,by decide,SInv.f (D':= {D with f3:=A4 D.f3}) g Z Z Z,⟨Z,Z⟩,Z,Z⟩,H.perm 7 [3,1,4,0,5,6] Z Z⟩
 refine Za 18 [2,0,7] H Z ?_;intro b2 w H;refine Z5 18 [0,0,0,0,0,0,9,1,0] [x.gen+1] H Z U ?_;intro w H;refine Ai Z (call210 _) (Kr _ _ _ _ _ _ _ _ _) H.f2 ?_;intro w H;refine Z4 17 [5,1,6,1,0,1,0,0] H Z ?_;intro w H;refine Af Z (λh4=>?_) (λh4=>?_)
 ·refine Zc 6 Z (Zr Z ?_);replace H:=(H.toPgs 5 Z d).l7
  exact ⟨_,.inr ⟨_,D,by decide,g,⟨Z,Z⟩,Z,Z⟩,H.perm 7 [2,0,3,4,5,6] Z Z⟩
 refine Zc 4 Z ?_;have o:(Ea x a q).Ok (D.n:Int):=Sup.ok_mk U U U U U U U U;refine Z2 5 [0,2,0] H Z (Ai Z (call70 _) (Oe _ _ j) H.f4 ?_);intro w H;refine Z0 17 [3] Z (Zr Z ?_);replace H:=(H.toPgs 5 Z d).l7;exact ⟨_,.inr ⟨_,_,by decide,SInv.f (D':= {D with f3:=A4 D.f3}) g Z Z Z,⟨Z,Z⟩,Z,Z⟩,H.perm 7 [3,1,4,0,5,6] Z Z⟩
theorem Td(j pd pt:Nat)(e x:Sup)(f:Bool)(v:Value)(ims:List Img)(A:Ah)(hA:∀h,A h->imgsH v ims h)(D:Dsk)(m:D.cut=true/\D.left=0){B:Nat->Pg}{rs:List Rc}{ptl:List (List UInt8)}{a q u:Int}{b:Bool}{sure:Nat}(r:SInv D x B rs ptl a q u b sure)(h1:e.start=x.start)(h2:e.len=x.len)(h3:e.epoch=x.epoch)(z:e.Ok (D.n:Int))(w:f=decide (e.epoch<4294967296))(hq:0<=q/\q<=1099511627776)(l:∀i,(D.ver i).length<=1000000000000):
  Aj 167 [V j,v] [lgB j pd pt e a q u b f,tblA pt,diskA pd D,A] (λv G=>
   (∃c:Int,Qg c ims (1+(ims.length:Int)<=(if b then 0 else x.len-u)/\f=true/\q<1099511627776)/\v=Aa c/\G=[lgB j pd pt e a q u b f,tblA pt,diskA pd D,A])\/
   (∃Df:Dsk,SInv Df x B rs [] a (q+1) u true sure/\(Df.f1=D.f1/\Df.n=D.n)/\v=Aa 11/\G=[lgB j pd pt e a (q+1) u true f,tblA pt,diskA pd Df,A])):=by
 have t:=r.p;have hs:=r.s;have a5:=t.at_ok hs;have a2:=hs.head;have a1:=hs.start;have a3:=t.fu;have a4:=t.ul;have d:D.bad:=.inr m;refine Cn.mono (M7 j pd pt e a q u b f v ims A hA D z w U U U l) ?_;rintro v Γ (⟨g,rfl,rfl⟩|⟨g,o,rfl,rfl⟩|⟨g,o,y,rfl,rfl⟩|⟨g,o,y,k,hk,g4⟩)
 ·exact .inl ⟨16,.inl ⟨Z,g⟩,Z,Z⟩
 ·exact .inl ⟨1,.inr (.inl ⟨Z,g,o⟩),Z,Z⟩
 ·exact .inl ⟨15,.inr (.inr ⟨Z,g,o,by rw[<-h2];exact y⟩),Z,Z⟩
 have a0:=y.1
 cases b with
 | true=>rw[if_pos Z] at a0;omega
 | false=>
  rcases g4 with ⟨h,_⟩|⟨h,_⟩|⟨g5,rfl,rfl⟩|⟨h,_⟩
  ·exact absurd d h
  ·exact absurd d h
  ·exact .inr ⟨D.wf,SInv.log (D':=D.wf) r Z (λ_ _=>⟨Z,Z⟩) t.fail0 Z r.num,⟨Z,Z⟩,Z,Z⟩
  exact absurd d h
set_option maxHeartbeats 4000000 in
theorem QO (ps pd pt pl md mo:Nat) (x sL:Sup) (un nu:Bool) (hq:Hp) (g:AZ) (k:Nat) (D:Dsk) (B:Nat->Pg) (rs:List Rc) (ptl:List (List UInt8)) (a q u:Int) (b:Bool) (sure:Nat) (hS:SInv D x B rs ptl a q u b sure) (hL:sL.start=x.start/\sL.len=x.len/\sL.epoch=x.epoch) (b9:sL.Ok (D.n:Int)) (c1:nu=decide (sL.epoch<4294967296)) (h6:q<1099511627775) (a8:∀i,(D.ver i).length<=1000000000000) (c6:∀n,(g n).isSome=true->(n:Int)<x.pages) (hk:1<=k/\k<=40) (a9:D.cut=true/\D.left=0):Aj 104 [V ps] [stB ps pd pt x (V pl) md un (.map (some mo)),lgB pl pd pt sL a q u b nu,tblA pt,diskA pd D,pgsA md (ov rs) hq,Dg mo g k hq,poolA hq] (λv G=>∃(c:Int) (o:Hp) (D2:Dsk) (c5:List (List UInt8)) (q2:Int) (b2:Bool),c≠0/\Bz hq o/\SInv D2 x B rs c5 a q2 u b2 sure/\(D2.f1=D.f1/\D2.n=D.n)/\(q<=q2/\q2<=q+1)/\v=Aa c/\G=[stB ps pd pt x (V pl) md un (.map (some mo)),lgB pl pd pt sL a q2 u b2 nu,tblA pt,diskA pd D2,pgsA md (ov rs) o,Dg mo g k o,poolA o]):=by
 intro z R w H;replace H:=H.l7;have b8:=hS.ok;have h0:=Sup.get b8;have h9:=b8.2;have hP:=hS.p;have i1:=hP.at_ok hS.s;have h8:=hP.ul;have d8:=hP.fu;have g5:=hS.gen;have d3:=hP.fq;have i2:=hS.s.seq;have f0:0<=q:=by split at d3<;>omega
 have g9:=hS.s.head;have f5:∀n,(ov rs n).isSome=true->n<1024:=λn h=>by have:=hS.ovb h;omega
 have g3:∀n,(ov rs n).isSome=true->2+n<D.n:=λn h=>by have:=hS.ovb h;omega
 have g0:=H.sy 3 (λq=>(diskA.ok q).n2);have g4:=hL.2.1;have h7:=Kw x a q;obtain ⟨t,a0,l,a1,H⟩:=H.pgsc 5 Z;replace H:=H.l7;have d9:t.length<=1099511627776:=by omega
 refine Ac func104 Z ntmps104 Z (Z2 17 [12,0,0] H Z (AA Z (call166 _) (K1 _) H ?_));rintro _ w _ ⟨bb,rfl,rfl⟩ H;replace H:=H.l8;have e8:∀h:IE->Nat,(t.map PgE.ie).map h=t.map λe=>h e.ie:=λh=>by simp
 refine AA Z (call125 _) (Iw _ _ _ _ (λp hp=>by obtain ⟨e,he,rfl⟩:=Ab9.1 hp;exact l.clk e he) (by rw[e8];exact l.born) (by simp;exact d9)) H.f6.f1 ?_;rintro v2 w _ ⟨s,hs,rfl⟩ H;replace H:=H.l9;have a4:Eu g ((s.map λp:IE=>p.1).mergeSort (λx y=>decide (x<=y))):=l.keys hs;have e4:((s.map λp:IE=>p.1).mergeSort (λx y=>decide (x<=y))).length=k:=by simp[hs.length_eq,a1]
 obtain ⟨f,c2⟩:∃f:List Int,((s.map λp:IE=>p.1).mergeSort (λx y=>decide (x<=y)))=f:=⟨_,Z⟩;rw[c2] at H a4 e4;clear c2 hs;have H:Sep z (grow 3 1 v2 f.length (f.map Aa)::blk bb [.map (some mo)] 95::AC mo (t.map PgE.ie) a0::stB ps pd pt x (V pl) md un (.map (some mo))::lgB pl pd pt sL a q u b nu::tblA pt::diskA pd D::pgsA md (ov rs) hq::poolA hq::R) w:=H;have c7:=H.sy 0 (·.slc);have g6:=H.sy 0 (·.rd.small);obtain ⟨a3,c3,rfl⟩:=c7;have H:Sep z (grow 3 1 (.slice a3 f.length c3) f.length (f.map Aa)::blk bb [.map (some mo)] 95::AC mo (t.map PgE.ie) a0::stB ps pd pt x (V pl) md un (.map (some mo))::lgB pl pd pt sL a q u b nu::tblA pt::diskA pd D::pgsA md (ov rs) hq::poolA hq::R) w:=H;replace H:=(H.nilg 118 3).l10;have e0:=Kx g f;have d0:∀n p,g n=some p->p.Ok:=λn p h=>l.okp h;have d1:∀n,(g n).isSome=true->n<1024:=λn h=>by have:=c6 n h;omega
 have b5:DV (BG g f):=Iy a4 d0 d1;have e5:=Ky a4 c6;have e1:1<=(BG g f).length/\(BG g f).length<=40:=by omega
 refine Zc 5 Z ?_;refine Ay (σ:=Nat×Value×List ImE) (λ⟨j,v1,ie⟩=>[(15,Aa (j:Int)),(3,v1),(0,V ps),(2,Aa 0),(13,.slice a3 f.length c3),(14,Aa (f.length:Int))])
   (λ⟨j,v1,ie⟩ w=>Sep z (grow 118 3 v1 j (Bm ie)::grow 3 1 (.slice a3 f.length c3) f.length (f.map Aa)::blk bb [.map (some mo)] 95::AC mo (t.map PgE.ie) a0::stB ps pd pt x (V pl) md un (.map (some mo))::lgB pl pd pt sL a q u b nu::tblA pt::diskA pd D::pgsA md (ov rs) hq::poolA hq::R) w/\(j<=f.length/\ie.map Prod.fst=(BG g f).take j/\imesOk ie hq)) (λ⟨j,v1,ie⟩=>f.length-j) ⟨0,.slice none 0 0,[]⟩
   (λ_ hF=>(hF.co Z (by go_num) hF.cz)) ⟨H,by omega,Z,λe he=>absurd he O⟩ ?_
 clear H;rintro ⟨j,v1,ie⟩ w ⟨H',hI⟩;dsimp only at hI H' ⊢;have H:=H'.l10;have i0:=H.sy 0 (·.slc);obtain ⟨h5,a5,a6⟩:=hI;refine Z0 6 [0] Z (Af Z (λh1=>?_) (λh1=>?_))
 ·have g1:j<f.length:=by omega
  refine Zc 6 Z ?_;obtain ⟨x,hx⟩:∃x,f[j]?=some x:=⟨_,Ab0 U⟩;obtain ⟨g7,b0⟩:=(a4.2 x).1 (Ab1 hx);obtain ⟨n,rfl⟩:∃n:Nat,x=(n:Int):=⟨x.toNat,by omega⟩;rw[AcB] at b0;obtain ⟨p,pv,e6,c4,b7,e3⟩:∃(p:Pg) (v:Value),g n=some p/\p.Ok/\rdH 1 v 240 (p.body.map u8) hq/\Cx (t.map PgE.ie) (n:Int)=some (.agg #[Aa p.kind,v]):=by
    rcases l.get n with ⟨q,_⟩|q
    · rw[q] at b0;cases b0
    · exact q
  have e7:Slc pv 240:=b7.slc;have a7:=(H.rv 1 (·.rd)).at (j:=j) (u:=Aa (n:Int)) (by simp[hx]);refine Ad Z (Aw Z (z:=1) (j:=j) (r:=j) J Z Z Z U a7 U) (Ad Z (AK Z Z J (AB a7)) (Z2 11 [12,4,0] H Z (Ad Z (ER (e:=40) (zv:=.agg #[Aa 0,.slice none 0 0]) Z J J Z Z (AB (H.bk 3 Z))) (k_updA 26 (v:=.agg #[Aa p.kind,pv]) Z (by rw[e3];rfl) (Ad Z (AW Z Z (out:=[Aa (n:Int),Aa p.kind,pv]) J) (AG Z (AM H Z J AX Z (by decide) (by decide) (out:=[Aa (n:Int),Aa p.kind,pv]) J) ?_))))));rintro _ w ⟨b1,rfl,H⟩;replace H:=H.l11;refine AG Z (AO 1 H Z Z J AX Z Z (H.rv 0 (·.rd U U O Z)) (Ap Z (Ap Z (Ap e7.one AR))) U) ?_;rintro v2 w H';have H':Sep z (blk b1 [Aa (n:Int),Aa p.kind,pv] 118::grow 118 3 v2 (j+1) (Bm ie++[Aa (n:Int),Aa p.kind,pv])::grow 3 1 (.slice a3 f.length c3) f.length (f.map Aa)::blk bb [.map (some mo)] 95::AC mo (t.map PgE.ie) a0::stB ps pd pt x (V pl) md un (.map (some mo))::lgB pl pd pt sL a q u b nu::tblA pt::diskA pd D::pgsA md (ov rs) hq::poolA hq::R) w:=H';have e9:(Bm ie++[Aa (n:Int),Aa p.kind,pv]:List Value)=Bm (ie++[(⟨(n:Int),p.kind,p.body⟩,pv)]):=HF ie (⟨(n:Int),p.kind,p.body⟩,pv);rw[e9] at H';have H:=H'.l11;have c7:=H.sy 1 (·.slc);refine Z1 8 [] [(j:Int)+1] Z U ?_;replace H:=H.d;refine gf ?_;intro _ hF;refine ⟨⟨j+1,v2,ie++[(⟨(n:Int),p.kind,p.body⟩,pv)]⟩,hF.cz,⟨H,?_⟩,?_⟩
  ·dsimp only
   refine ⟨by omega,by rw[Acp,a5,<-Jj hx e6];rfl,λe he=>?_⟩;rcases Acy.1 he with q|q
   ·exact a6 e q
   rw[AcK.1 q];show rdH 1 pv p.body.length _ _;rw[c4.2];exact b7
  (dsimp only;omega)
 obtain rfl:j=f.length:=by omega
 refine Zc 2 Z (gx (Zc 3 Z ?_));replace H:=H.f9;obtain ⟨o,⟨m,b6⟩,H⟩:=BM H (λh q=>q.rd);replace H:=H.l9;have b3:ie.map Prod.fst=BG g f:=by rw[a5];exact Ab4 U
 have d6:imgsH v1 (BG g f) o:=⟨ie,b3,by rw[e0];exact b6,a6.le m⟩;replace H:=(H.mono 8 (B:=pgsA md (ov rs) o) Z (pgsA.le m)).l9;have c0:nu=true:=by rw[c1];have:=hS.s.epoch;simp;omega
 refine Z2 6 [9,4,0] H Z (AA Z (call167 _) (Td _ _ _ sL x _ _ (BG g f) _ (λh q=>d6.le q) D a9 hS hL.1 hL.2.1 hL.2.2 b9 c1 ⟨f0,by omega⟩ a8) H.f7.f7.f7 ?_);rintro _ w _ (⟨cq,b4,hv,rfl⟩|⟨Df,f2,d7,rfl,rfl⟩) H'
 ·have H:=H'.l9;obtain ⟨c8,d5⟩:=Nh b4 e1 b5;subst c8;subst hv;refine Z0 16 [4] Z (AA Z (call168 _) (V2 _ _ _ _ _ _ _ _ _ _ _ _ _ _ _ _ _ _ _ _ hS hL U a8 a9) H.f3.f8.f4.f4.f4.f8 ?_);rintro _ w _ (⟨d4,e2,g2,rfl,rfl⟩|⟨g8,D2,a2,c9,d2,rfl,rfl⟩) H'
  ·(obtain rfl:=O2 d4 (λj r h=>(hP.recs j r h).2.1.1);exact absurd ⟨by rw[e2,if_neg (by decide)];have h4:u=0:=d8;omega,c0,by omega⟩ d5)
  have H:=H'.l9;refine Z0 15 [0] Z (Af Z (λh2=>?_) (λh2=>?_))
  ·exact absurd h2 a2
  refine Z0 6 [0] Z (Af Z (λh3=>?_) (λh3=>?_))
  ·refine Zc 6 Z (Zr Z ?_);replace H:=(H.toPgsc 8 Z (l.le m) a1).l9
   exact ⟨_,⟨_,o,D2,ptl,q,b,by first|decide|exact a2,m,c9,d2,by omega,rfl,rfl⟩,H.perm 9 [0,1,2,3,4,8,5] rfl rfl⟩
  refine Zc 7 Z (Zr Z ?_);replace H:=(H.toPgsc 8 Z (l.le m) a1).l9;exact ⟨_,⟨_,o,D2,ptl,q,b,by first|decide|exact a2,m,c9,d2,by omega,rfl,rfl⟩,H.perm 9 [0,1,2,3,4,8,5] rfl rfl⟩
 have H:=H'.l9;refine Z0 18 [3] Z (Zr Z ?_);replace H:=(H.toPgsc 6 Z (l.le m) a1).l9;exact ⟨_,⟨_,o,Df,[],q+1,true,by decide,m,f2,d7,by omega,Z,Z⟩,H.perm 9 [7,0,1,2,8,6,3] Z Z⟩
set_option maxHeartbeats 4000000 in
theorem Te (ps pd pt l md mo:Nat) (x m:Sup) (nu:Bool) (hq:Hp) (g:AZ) (k:Nat) (D:Dsk) (B:Nat->Pg) (rs:List Rc) (ptl:List (List UInt8)) (a q u:Int) (b:Bool) (sure:Nat) (hS:SInv D x B rs ptl a q u b sure) (hL:m.start=x.start/\m.len=x.len/\m.epoch=x.epoch) (a1:m.Ok (D.n:Int)) (a7:nu=decide (m.epoch<4294967296)) (b1:q<1099511627775) (a4:∀i,(D.ver i).length<=1000000000000) (a0:∀n,(g n).isSome=true->(n:Int)<x.pages) (hk:k<=40) (a5:D.cut=true/\D.left=0):Aj 46 [V ps] [stB ps pd pt x (V l) md true (.map (some mo)),lgB l pd pt m a q u b nu,tblA pt,diskA pd D,pgsA md (ov rs) hq,Dg mo g k hq,poolA hq] (λv G=>(k=0/\v=Aa 0/\G=[stB ps pd pt x (V l) md false (.map none),lgB l pd pt m a q u b nu,tblA pt,diskA pd D,pgsA md (ov rs) hq,poolA hq])\/(1<=k/\∃(c:Int) (d:Hp) (t:Dsk) (f:List (List UInt8)) (y:Int) (b2:Bool),c≠0/\Bz hq d/\SInv t x B rs f a y u b2 sure/\(t.f1=D.f1/\t.n=D.n)/\(q<=y/\y<=q+1)/\v=Aa c/\G=[stB ps pd pt x (V l) md false (.map none),lgB l pd pt m a y u b2 nu,tblA pt,diskA pd t,pgsA md (ov rs) d,poolA d])):=by
 intro z R w j;have H:=j.l7;have b8:=hS.ok.2;have b6:∀n,(g n).isSome=true->n<1024:=λn h=>by have:=a0 n h;omega
 obtain ⟨a9,b4,r,o,j⟩:=H.pgsc 5 Z;clear H;have H:=j.l7;have b5:∀n p,g n=some p->p.Ok:=λn p h=>r.okp h;have b7:(a9.map PgE.ie).length=k:=by simp[o]
 refine MZ func46 Z 30 ntmps46 Z (AP (AE (BK 1 Z Z (AN (AP (AP (AE (FM 5 [11,0] (AS (H.blk 0 Z) AJ) Z J Z (AN (Ee Z (CZ (AP (AE ?_)))))))))))));refine BK 1 Z Z (IY Z Z Z Z (AN (AP (AP (AE (FM 4 [12,0] (AS (H.blk 0 Z) AJ) Z J Z (s_do Z Z Z (Is (e:=40) Z J Z (AB (H.bk 5 Z))) (BK 1 Z Z (AN (Fd Z (λh1=>?_) (λh1=>?_)))))))))))
 ·refine AP (AE (BK 1 Z Z (AN (DT ?_))));intro a_ hF;unfold GL;rw[hF.defers];refine EV (λw=>call63 _ w) (Hd _ _ _ _ _ _ _ _) H 7 [0,1,2,3,4,5,6] Z Z ?_;rintro _ w _ ⟨rfl,rfl⟩ j;clear H;have H:=j.l7;refine Kp hF (rs:=[.tmp 2]) Z [Aa 0] ⟨Z,trivial⟩ (v:=Aa 0) Z ?_;exact ⟨[stB ps pd pt x (V l) md false (.map none),lgB l pd pt m a q u b nu,tblA pt,diskA pd D,pgsA md (ov rs) hq,poolA hq],.inl ⟨by omega,Z,Z⟩,H.perm 7 [0,1,2,3,4,6] Z Z⟩
 refine CZ (AP (AP ?_));have b0:1<=k:=by omega
 have j:=H.toPgsc 5 Z r o;have H:=j.l7;refine AE (BK 1 Z Z (Ff Z Z Z Z Z (λw=>call104 _ w) (QO _ _ _ _ _ _ _ _ _ _ _ _ _ _ _ _ _ _ _ _ _ _ hS hL a1 a7 b1 a4 a0 U a5) H Z ?_));rintro _ w _ (⟨c4,d,t,f,y,a3,s,a2,a8,b3,a6,rfl,rfl⟩) j
 ·have H:=j.l7;refine BK 1 Z Z (AN (AP (AE (BK 2 Z Z (AN (Fd Z (λh2=>?_) (λh2=>?_)))))))
  ·refine AP (AE (BK 2 Z Z (AN (DT ?_))));intro a_ hF;unfold GL;rw[hF.defers];refine EV (λw=>call63 _ w) (Hd _ _ _ _ _ _ _ _) H 7 [0,1,2,3,4,5,6] Z Z ?_;rintro _ w _ ⟨rfl,rfl⟩ j;clear H;have H:=j.l7;refine Kp hF (rs:=[.tmp 2]) Z [Aa c4] ⟨Z,trivial⟩ (v:=Aa c4) Z ?_;exact ⟨[stB ps pd pt x (V l) md false (.map none),lgB l pd pt m a y u a3 nu,tblA pt,diskA pd t,pgsA md (ov rs) d,poolA d],.inr ⟨b0,_,d,t,f,y,a3,s,a2,a8,b3,a6,Z,Z⟩,H.perm 7 [0,1,2,3,4,6] Z Z⟩
  exact absurd s h2
theorem WO(pd:Nat)(D:Dsk)(x:Int):Aj 23 [V pd,Aa x] [diskA pd D] (λv G=>(¬(0<=x/\x<=1099511627776)/\v=Aa 1/\G=[diskA pd D])\/((0<=x/\x<=1099511627776)/\v=Aa 0/\G=[diskA pd {D with cut:=true,left:=x}])):=by
 intro z R w H;obtain ⟨bd,m,f0,bs,es,clk,hq,a,b,e⟩:=H.disk;clear H;have k:=a.n1;have d:=a.n2;have h:=a.f1;have c:=a.f2;have l:=a.f3;have g:=a.left;have i:=b.len;have H:=e.l5;refine Ac func23 Z ntmps23 Z (Z0 11 [0] Z (Ak 7 Z (λj=>?_) (λj=>?_)))
 ·refine Zc 12 Z (Zr Z ?_);replace H:=(Sep.toDisk (D:=D) (pd:=pd) (bd:=bd) (m:=m) (f0:=f0) (bs:=bs) (es:=es) (clk:=clk) (hq:=hq) (Γ:=R) H a b).l1
  exact ⟨_,.inl ⟨by omega,Z,Z⟩,H⟩
 refine Z0 5 [0] Z (Af Z (λn=>?_) (λn=>?_))
 ·refine Zc 6 Z (Zr Z ?_);replace H:=(Sep.toDisk (D:=D) (pd:=pd) (bd:=bd) (m:=m) (f0:=f0) (bs:=bs) (es:=es) (clk:=clk) (hq:=hq) (Γ:=R) H a b).l1
  exact ⟨_,.inl ⟨by omega,Z,Z⟩,H⟩
 refine Z4 21 [6,0,7,0] H Z ?_;intro w H;refine Zr Z ?_;replace H:=(Sep.toDisk (D:= {D with cut:=true,left:=x}) (pd:=pd) (bd:=bd) (m:=m) (f0:=f0) (bs:=bs) (es:=es) (clk:=clk) (hq:=hq) (Γ:=R) H (a.f a.f1 a.f2 a.f3 U) (b.f _ _ _ _ _)).l1;exact ⟨_,.inr ⟨by omega,Z,Z⟩,H⟩
theorem AaQ(ps pd:Nat)(D:Dsk)(G:StG)(own:CV):Aj 23 [V pd,Aa 0] [stoA ps pd D G own] (λv X=>v=Aa 0/\X=[stoA ps pd {D with cut:=true,left:=0} G own]):=by
 intro z R w H;obtain ⟨X,b,H⟩:=H.sto;have a:StP {D with cut:=true,left:=0} G own X:=⟨b.inv.f Z Z Z,b.l,b.ok,b.nu,b.own⟩
 cases own with
 | none=>
  refine Ret.mono (Cn.at (WO pd D 0) H 6 [3,0,1,2,4,5] Z Z) ?_;rintro v w' ⟨Γ',(⟨h,_⟩|⟨_,rfl,rfl⟩),c⟩
  ·omega
  exact ⟨_,⟨Z,Z⟩,(c.pick 6 [1,2,3,0,4,5] Z).toSto (X:=X) 6 a Z⟩
 | some o=>
  refine Ret.mono (Cn.at (WO pd D 0) H 7 [3,0,1,2,4,5,6] Z Z) ?_;rintro v w' ⟨Γ',(⟨h,_⟩|⟨_,rfl,rfl⟩),c⟩
  ·omega
  exact ⟨_,⟨Z,Z⟩,(c.pick 7 [1,2,3,0,4,5,6] Z).toSto (X:=X) 7 a Z⟩
theorem Tf(ps pd:Nat)(D:Dsk)(G:StG)(g:AZ)(k:Nat)(hF:G.q<1099511627775/\∀i,(D.ver i).length<=1000000000000)(m:D.cut=true/\D.left=0):
  Aj 46 [V ps] [stoA ps pd D G (some (g,k))] (λv X=>∃(e:Int) (h:Dsk) (t:StG),(h.f1=D.f1/\h.n=D.n/\t.x=G.x/\t.M=G.M)/\v=Aa e/\X=[stoA ps pd h t none]):=by
 intro z R w H;obtain ⟨X,d,H⟩:=H.sto;obtain ⟨y,r⟩:=d.own _ Z;refine Ret.mono (Cn.at (Te ps pd X.pt X.pl X.md X.mm G.x X.sL X.nu X.hq g k D G.B G.rs G.ptl G.a G.q G.u G.b G.sure d.inv d.l d.ok d.nu hF.1 hF.2 r y m) H 7 [0,1,2,3,4,6,5] Z Z) ?_;rintro v w' ⟨Γ',(⟨h4,rfl,rfl⟩|⟨h4,c,p,h,j,q2,b2,_,hs,s,f,_,rfl,rfl⟩),H'⟩
 ·exact ⟨_,⟨0,D,G,⟨Z,Z,Z,Z⟩,Z,Z⟩,H'.toSto (X:=X) 6 ⟨d.inv,d.l,d.ok,d.nu,λo e=>(by cases e)⟩ Z⟩
 exact ⟨_,⟨c,h,{G with ptl:=j,q:=q2,b:=b2},⟨f.1,f.2,Z,Z⟩,Z,Z⟩,H'.toSto (X:=⟨X.pl,X.pt,X.md,X.mm,X.sL,X.nu,p⟩) 6 ⟨s,d.l,by rw[f.2];exact d.ok,d.nu,λo e=>(by cases e)⟩ Z⟩
set_option maxHeartbeats 1000000 in
theorem QP (pp ps pd b o m a n:Nat) (D:Dsk) (G:StG) (g0:AZ) (k0:Nat) (C C0:Nat->Nat) (l:List IE) (clk:Nat) (F Dd S:Nat->Bool) (W:WasOk C C0 n l clk) (hn:16<=n/\n<=1024) (hG:G.x.pages=n) (hg:∀i,i<manyN n->g0 (1+i)=none) (a3:∀k,C k<=1000) (hF:G.q<1099511627775/\∀i,(D.ver i).length<=1000000000000) (a0:D.cut=true/\D.left=0):Aj 14 [V pp] [stoA ps pd D G (some (g0,k0)),plB pp ps b a n true,coB b o n m,Ax o C n,AC m l clk,alB a n F Dd S] (λv X=>(∃(c:Dsk) (f:StG),v=Aa 0/\X=[stoA ps pd c f none,plB pp ps b a n false,coB b o n m,Ax o C n,AC m ([]) clk,alB a n (Cs F Dd) Bw (Cs F Dd)])\/(∃(e:Int) (c:Dsk) (f:StG),e≠0/\(c.f1=D.f1/\c.n=D.n/\f.x=G.x/\f.M=G.M)/\v=Aa e/\X=[stoA ps pd c f none,plB pp ps b a n false,coB b o n m,Ax o C0 n,AC m ([]) clk,alB a n S Bw S])):=by
 intro z R w H;replace H:=H.l6;refine Ac func14 Z ntmps14 Z (Z2 25 [4,1,0,1,1,0] H Z (AA Z (call44 _) (ID _ _ _ _ _ C0 _ _ U W) H.f4.f4.f4 ?_));rintro v1 w _ ⟨v2,zs,Z_,⟨b1,a6,y⟩,rfl,rfl⟩ H;replace H:=H.l7;obtain ⟨za,zc,rfl⟩:=H.sy 0 (λq=>(y _ q).slc);refine Zc 5 Z ?_;refine Ay (σ:=Nat×AZ×Nat) (λ⟨j,g,k⟩=>[(18,Aa (j:Int)),(0,V pp),(16,.slice za zs.length zc),(17,Aa (zs.length:Int))])
   (λ⟨j,g,k⟩ w=>Sep z (Z_::coB b o n m::Ax o C n::AC m l clk::stoA ps pd D G (some (g,k))::plB pp ps b a n true::alB a n F Dd S::R) w/\(CmI n C zs g0 k0 j g k)) (λ⟨j,g,k⟩=>zs.length-j) ⟨0,g0,k0⟩
   fr_z ⟨H,CmI.start hg⟩ ?_
 clear H;rintro ⟨j,g,k⟩ w ⟨s,hI⟩;dsimp only at hI s ⊢;have H:=s.l7;have hC:=hI;clear hI;have b2:=hC.jl;refine Z0 6 [0] Z (Af Z (λh1=>?_) (λh1=>?_))
 ·obtain ⟨z_,p⟩:∃z_,zs[j]?=some z_:=⟨_,Ab0 U⟩;obtain ⟨q_,a5,a9,a1⟩:=(a6 z_).1 (Ab1 p);obtain ⟨i,t⟩:∃i,i=q_/120:=⟨_,Z⟩;rw[<-t] at a1;subst a1;have hi:i<manyN n:=t▸Ld a5
  have b0:manyN n<n:=by unfold manyN;omega
  refine Zc 6 Z ?_;have a2:=(H.rd 0 Z y).at (j:=j) (u:=Aa (i:Int)) (by simp[p]);refine Ad Z (Aw Z (z:=1) (j:=j) (r:=j) J Z Z Z U a2 U) (Ad Z (AK Z Z J (AB a2)) (Zc 4 Z ?_));replace H:=H.f5;refine BA (Sep z (plB pp ps b a n true::R)) 16 Z J (A0 H λw s=>?_);have H:=s.l7;refine Mx [0,1,2,3,4,5,6,7,8,9,10,11] [0,0,0,0,1,0,0] [((1+i:Nat):Int)] (by exact H.pick 7 [0] Z) Z J U Z (BZ [12] J O (Ar (A6 Z Z Z Z Z Z (λw=>call45 _ w) (I6 _ _ _ _ _ i hi U a3) H.f3.f3 Z ?_)));rintro _ w _ ⟨pw,rfl,rfl⟩ H;replace H:=H.l8;refine BI (H.pick 8 [3] Z) (Cj [13] [] [] (by exact H.pick 8 [3] Z) Z J Z (BZ [14] J O (Ar (A6 Z Z Z Z Z Z (λw=>call41 _ w) (E6 _ _ _ _ _ _ (1+i) U (CC C n i) (CH _ _ _) _ _ (λh q=>q.rd U U (HN (CH _ _ _).2) (I7 (CH _ _ _).2))) H.f6 Z ?_))));rintro _ w _ (⟨a8,rfl,rfl⟩|⟨_,rfl,rfl⟩) s
  ·have H:=s.l8;refine BI (H.pick 8 [4] Z) (Cj [15] [] [] (by exact H.pick 8 [4] Z) Z J Z (a_done J (gn (Z0 11 [3] Z (Ai Z (call20 _) (JN _ _ _ _ _ _ _ _ _ _ g k _ _ _ _ _ _ _ W) H.f7.f7.f5.f5.f6.f5 ?_)))));intro w H;refine Zc 9 Z (Zr Z ?_);exact ⟨_,.inr ⟨_,D,G,(by decide),⟨Z,Z,Z,Z⟩,Z,Z⟩,H.pick 8 [0,1,2,3,4,5] Z⟩
  have H:=s.l8;refine BI (H.pick 8 [4] Z) (Cj [15] [] [] (by exact H.pick 8 [4] Z) Z J Z (a_done J (gn (Z1 15 [4] [(j:Int)+1] Z U ?_))));replace H:=H.f1.d.f6.f4.f2.f6.f5.f5.f6;refine gf ?_;intro _ hF;refine ⟨⟨j+1,pgSet g (1+i) (CC C n i),k+(if (g (1+i)).isSome then 0 else 1)⟩,hF.cz,⟨H,?_⟩,?_⟩
  ·exact hC.put hi p
  (dsimp only;omega)
 obtain rfl:j=zs.length:=by omega
 refine Zc 2 Z (gx (Z2 10 [0,0,5,0] H Z (AA Z (call46 _) (Tf _ _ _ _ _ _ hF a0) H.f4 ?_)));rintro _ w _ ⟨e7,c,f,a7,rfl,rfl⟩ H;refine Z0 9 [0] Z (Af Z (λh2=>?_) (λh2=>?_))
 ·have a4:e7≠0:=h2
  refine Zc 3 Z (Ai Z (call47 _) (Pk _ _ _ _ _ _ _ _ _ _ _ _ _ _ W) H.f6.f5.f5.f5.f6 ?_);intro w H;refine Zc 9 Z (Zr Z ?_);exact ⟨_,.inr ⟨_,c,f,a4,a7,Z,Z⟩,H.pick 7 [5,0,1,2,3,4] Z⟩
 refine Z4 16 [4,5,1,5,0] H Z ?_;intro w H;refine Ai Z (call48 _) (IC _ _ _ _ _ _) H.f4.f3 ?_;intro w H;refine Z2 8 [2,5,0] H Z (Ai Z (call49 _) (GM _ _ _ _ _) H.f6 ?_);intro w H;refine Zc 8 Z (Zr Z ?_);exact ⟨_,.inl ⟨c,f,Z,Z⟩,H.pick 7 [3,6,1,5,2,0] Z⟩
section
def BH(n:Nat)(M0:Nat->Pg)(C0:Nat->Nat)(p:Nat):Pg:=if 1<=p/\p<=manyN n then CC C0 n (p-1) else M0 p
structure PoV(Tb:Ah×Nat)(n:Nat)(M0:Nat->Pg)(C0:Nat->Nat)(X:PoX):Prop where
 hn:16<=n/\n<=1024
 f1:X.D.f1=0
 pg:X.G.x.pages=n
 tab:Fp X.A/\X.A=Tb.1/\X.pd=Tb.2
 m:∀p,X.G.M p=BH n M0 C0 p
 idle:X.l=[]/\X.Dd=Bw
def poW(Tb:Ah×Nat)(pp n:Nat)(M0:Nat->Pg)(C0:Nat->Nat):Ah:=λh=>∃X,PoV Tb n M0 C0 X/\seps (LV pp n C0 none X) h
section
variable{Tb:Ah×Nat}{z w:World}{Γ:List Ah}{pp mb n:Nat}{M0:Nat->Pg}{C0:Nat->Nat}{t:Option PoT}{T:PoT}
theorem PoP.all{X:PoX}(a:PoP Tb mb n M0 C0 t X)(p:Nat):X.G.M p=BH n M0 C0 p:=by
 unfold BH;split
 ·rename_i h
  have:=a.cp (p-1) U;rwa[show 1+(p-1)=p by omega] at this
 exact (a.m0 p U).symm
theorem PoP.v{X:PoX}(a:PoP Tb mb n M0 C0 none X):PoV Tb n M0 C0 X:=⟨a.hn,a.fine.clean.f1,a.pg,a.tab,a.all,a.idle Z⟩
theorem Sep.toW(H:Sep z (poA Tb pp mb n M0 C0 none::Γ) w):Sep z (poW Tb pp n M0 C0::Γ) w:=
 H.mono 0 (B:=poW Tb pp n M0 C0) Z (λh ⟨X,a,hs⟩=>⟨X,a.v,hs⟩)
theorem Sep.pw(H:Sep z (poW Tb pp n M0 C0::Γ) w):∃X,PoV Tb n M0 C0 X/\Sep z (LV pp n C0 none X++Γ) w:=
 H.into (p:=λX=>PoV Tb n M0 C0 X) (As:=λX=>LV pp n C0 none X) (λ_ q=>q)
theorem Sep.toPw{X:PoX}(H:Sep z Γ w)(b:PoV Tb n M0 C0 X)(a:Γ.take 7=LV pp n C0 none X):Sep z (poW Tb pp n M0 C0::Γ.drop 7) w:=
 H.made 7 (λh q=>⟨X,b,by rwa[a] at q⟩)
theorem Sep.pwTab(H:Sep z (poW Tb pp n M0 C0::Γ) w):Sep z (Tb.1::Γ) w:=by
 obtain ⟨X,a,H⟩:=H.pw;have h:=H.pick 7 [6] Z;rw[<-a.tab.2.1];exact h
theorem Sep.pw3(H:Sep z (poW Tb pp n M0 C0::Γ) w):∃X,PoV Tb n M0 C0 X/\Sep z (plB pp X.ps X.pc X.pa n false::stoA X.ps X.pd X.D X.G none::poR n C0 none X::Γ) w:=by
 obtain ⟨X,a,H⟩:=H.pw;have H2:Sep z (poR n C0 none X::plB pp X.ps X.pc X.pa n false::stoA X.ps X.pd X.D X.G none::Γ) w:=Sep.shut (As:=[coB X.pc X.bn n X.mm,Ax X.bn (poC C0 none) n,AC X.mm X.l X.clk,alB X.pa n (LU n C0 none) X.Dd (frC n C0),X.A]) (H.pick 7 [2,3,4,5,6,0,1] Z);exact ⟨X,a,H2.pick 3 [1,2,0] Z⟩
theorem Sep.toPw3{X:PoX}(H:Sep z (plB pp X.ps X.pc X.pa n false::stoA X.ps X.pd X.D X.G none::poR n C0 none X::Γ) w)(a:PoV Tb n M0 C0 X):Sep z (poW Tb pp n M0 C0::Γ) w:=by
 have H2:=Sep.opened (As:=[coB X.pc X.bn n X.mm,Ax X.bn (poC C0 none) n,AC X.mm X.l X.clk,alB X.pa n (LU n C0 none) X.Dd (frC n C0),X.A]) (H.pick 3 [2,0,1] Z);exact (H2.pick 7 [5,6,0,1,2,3,4] Z).toPw a Z
theorem PG(pp n:Nat)(M0:Nat->Pg)(C0:Nat->Nat)(p:Nat)(hp:p<n):Aj 18 [V pp,Aa (p:Int)] [poW Tb pp n M0 C0] (λv G=>v=Aa (C0 p:Int)/\G=[poW Tb pp n M0 C0]):=by
 intro z R w H;obtain ⟨X,a,H⟩:=H.pw;refine Ret.mono (Cn.at (NI pp X.ps X.pc X.bn X.mm X.pa n false C0 p hp a.hn) H 7 [0,2,3,1,4,5,6] Z Z) ?_;rintro v w' ⟨Γ',⟨rfl,rfl⟩,b⟩;exact ⟨_,⟨Z,Z⟩,(b.pick 7 [0,3,1,2,4,5,6] Z).toPw a Z⟩
theorem Th(pp n:Nat)(M0:Nat->Pg)(C0:Nat->Nat):Aj 10 [V pp] [poW Tb pp n M0 C0] (λv G=>v=Aa (cnt (frC n C0) 0 1024:Int)/\G=[poW Tb pp n M0 C0]):=by
 intro z R w H;obtain ⟨X,b,H⟩:=H.pw;refine Ret.mono (Cn.at (Pl pp X.ps X.pc X.pa n false (frC n C0) X.Dd (frC n C0)) H 7 [0,5,1,2,3,4,6] Z Z) ?_;rintro v w' ⟨Γ',⟨rfl,rfl⟩,a⟩;exact ⟨_,⟨Z,Z⟩,(a.pick 7 [0,2,3,4,5,1,6] Z).toPw b Z⟩
theorem PH(pp n:Nat)(M0:Nat->Pg)(C0:Nat->Nat):Aj 25 [V pp] [poW Tb pp n M0 C0] (λv G=>v=.bool false/\G=[poW Tb pp n M0 C0]):=by
 intro z R w H;obtain ⟨X,b,H⟩:=H.pw;refine Ret.mono (Cn.at (UY pp X.ps X.pc X.pa n false) H 7 [0,1,2,3,4,5,6] Z Z) ?_;rintro v w' ⟨Γ',⟨rfl,rfl⟩,a⟩;exact ⟨_,⟨Z,Z⟩,a.toPw b Z⟩
theorem Of{X:PoX}(b:PoV Tb n M0 C0 X)(p:Nat)(hp:p<n):Aj 21 [.pointer (some ⟨X.ps,0,none⟩),Aa (p:Int)] [stoA X.ps X.pd X.D X.G none] (λv K=>∃(d:Value) (B:Ah),(∀h,B h->rdH 1 d (BH n M0 C0 p).body.length ((BH n M0 C0 p).body.map u8) h)/\v=.tuple #[.agg #[Aa (BH n M0 C0 p).kind,d],Aa 0]/\K=[B,stoA X.ps X.pd X.D X.G none]):=λz R w H=>by
 refine Ret.mono (Np X.ps X.pd X.D X.G none p (by rw[b.pg];omega) b.f1 _ (b.m p).symm z R w H) ?_;rintro v w' ⟨Γ',⟨e,rfl,rfl⟩|⟨a,f,rfl,rfl⟩,c⟩
 ·rw[e]
  exact ⟨_,⟨_,poolA (λ_=>none),λh _=>Jc h,Z,Z⟩,EK c⟩
 exact ⟨_,⟨f,_,λh q=>by rw[a.2];exact q.rd,Z,Z⟩,c⟩
theorem Abu(pp mb n:Nat)(M0:Nat->Pg)(C0:Nat->Nat)(T:PoT)(m:mb<=1000000000):Aj 23 [.pointer (some ⟨Tb.2,0,none⟩),Aa 0] [poA Tb pp mb n M0 C0 (some T)] (λv G=>v=Aa 0/\∃K:Ah,Aj 14 [V pp] [K] (λv G=>(v=Aa 0/\G=[Tb.1])\/(∃e:Int,e≠0/\v=Aa e/\G=[poW Tb pp n M0 C0]))/\G=[K]):=by
 intro z R w H;obtain ⟨X,a,H⟩:=H.po;have Q:=a.tx T Z;rw[<-a.tab.2.2];have j:=a.fine.q;have h:X.G.q<1099511627775/\∀i,(({X.D with cut:=true,left:=0} :Dsk).ver i).length<=1000000000000:=⟨by omega,λi=>by have:=a.fine.ver i;show (X.D.ver i).length<=_;omega⟩;refine Ret.mono (Cn.at (AaQ X.ps X.pd X.D X.G (some (X.g,T.k))) H 7 [1,0,2,3,4,5,6] Z Z) ?_;rintro v w' ⟨Γ',⟨rfl,rfl⟩,d⟩;refine ⟨_,⟨Z,seps [stoA X.ps X.pd {X.D with cut:=true,left:=0} X.G (some (X.g,T.k)),plB pp X.ps X.pc X.pa n true,coB X.pc X.bn n X.mm,Ax X.bn T.C n,AC X.mm X.l X.clk,alB X.pa n T.F X.Dd (frC n C0),X.A],?_,Z⟩,d.shut (As:=[stoA X.ps X.pd {X.D with cut:=true,left:=0} X.G (some (X.g,T.k)),plB pp X.ps X.pc X.pa n true,coB X.pc X.bn n X.mm,Ax X.bn T.C n,AC X.mm X.l X.clk,alB X.pa n T.F X.Dd (frC n C0),X.A])⟩;intro z R w H;have H:=H.opened;refine Ret.mono (Cn.at (QP pp X.ps X.pd X.pc X.bn X.mm X.pa n {X.D with cut:=true,left:=0} X.G X.g T.k T.C C0 X.l X.clk T.F X.Dd (frC n C0) Q.W a.hn a.pg Q.gn Q.c h ⟨Z,Z⟩) H 7 [0,1,2,3,4,5,6] Z Z) ?_;rintro v w' ⟨Γ',⟨D2,G2,rfl,rfl⟩|⟨e,D2,G2,f,b,rfl,rfl⟩,d⟩
 ·refine ⟨_,.inl ⟨Z,Z⟩,?_⟩
  rw[<-a.tab.2.1];exact d.pick 7 [6] Z
 refine ⟨_,.inr ⟨e,f,Z,Z⟩,(d.pick 7 [1,0,2,3,4,5,6] Z).toPw (X:= {X with l:=[],Dd:=Bw,D:=D2,G:=G2}) ⟨a.hn,b.1.trans a.fine.clean.f1,?_,a.tab,λp=>?_,Z,Z⟩ Z⟩
 ·show G2.x.pages=_;rw[b.2.2.1];exact a.pg
 show G2.M p=_;rw[b.2.2.2];exact a.all p
end
end
section
theorem PI(a:Int)(c b:Value)(l:List UInt8)(A B:Ah)(g:∀h,A h->rdH 1 c l.length (l.map u8) h)(e:∀h,B h->rdH 1 b l.length (l.map u8) h):Aj 24 [.agg #[Aa a,c],.agg #[Aa a,b]] [A,B] (λv G=>v=.bool true/\G=[A,B]):=
 (GD a a c b l l A B g e).mono λv Γ ⟨d,f⟩=>⟨by rw[d];simp,f⟩
abbrev Jo:=Pg×Value
def EG(es:List Jo):List Value:=es.flatMap λe=>[.int .i64 e.1.kind,e.2]
theorem V3(es:List Jo)(e:Jo):EG (es++[e])=EG es++[Aa e.1.kind,e.2]:=by simp[EG]
theorem Hn:∀{es:List Jo} {j:Nat} {e:Jo},es[j]?=some e->∀k u,([Aa e.1.kind,e.2]:List Value)[k]?=some u->(EG es)[j*2+k]?=some u
 | x::es,0,e,h,k,u,hk=>by
  simp at h;subst h;have hl:=(AbZ.1 hk).1;simp only[EG,AcD];rw[Acf (by simpa using hl)];simpa using hk
 | x::es,j+1,e,h,k,u,hk=>by
  have:=Hn (es:=es) (j:=j) (by simpa using h) k u hk;simp only[EG,AcD] at this ⊢;rw[Ace (by simp;omega)];rw[show (j+1)*2+k-([Aa x.1.kind,x.2]:List Value).length=j*2+k from by simp;omega];exact this
def bagW(es:List Jo):Ah:=λh=>∀e∈es,rdH 1 e.2 e.1.body.length (e.1.body.map u8) h
theorem bagW.put{es:List Jo}{x:Pg}{v:Value}{B:Ah}{h:Hp}(q:seps [B,bagW es] h)(d:∀h,B h->rdH 1 v x.body.length (x.body.map u8) h):bagW (es++[(x,v)]) h:=λe a=>by
 obtain ⟨c,f,g⟩:=Dq q (i:=0) Z;obtain ⟨k,j,b⟩:=Dq q (i:=1) Z;rcases Acy.1 a with a|a
 ·exact (j e a).le b
 rw[AcK.1 a];exact (d c f).le g
def DE(C:Nat->Nat)(n:Nat):List Value:=(List.range n).map λp=>Value.int .i64 (C p:Int)
theorem AaR(C:Nat->Nat)(n:Nat):DE C (n+1)=DE C n++[Aa (C n:Int)]:=by simp[DE,Ade]
theorem HW(C:Nat->Nat){n m:Nat}(h:n<m):(DE C m)[n]?=some (Aa (C n:Int)):=by simp[DE,h]
section
variable{Tb:Ah×Nat}
theorem V4(pp mb n:Nat)(M0:Nat->Pg)(C0:Nat->Nat)(T:PoT)(f:Int)(bs:List UInt8)(d:bs.length=240)(c:Value)(B:Ah)(i:∀h,B h->rdH 1 c 240 (bs.map u8) h):
  Aj 12 [V pp,.agg #[Aa f,c]] [poA Tb pp mb n M0 C0 (some T),B] (λv G=>∃(a e:Int) (b:PoT),v=.tuple #[Aa a,Aa e]/\G=[poA Tb pp mb n M0 C0 (some b),B]):=
 (N8 pp mb n M0 C0 T f bs d c B i).mono λv Γ ⟨b,h,g⟩=>by
  rcases h with ⟨e,_,rfl,_⟩|⟨p,j,x,_,rfl,_⟩
  ·exact ⟨_,_,b,Z,g⟩
  exact ⟨_,_,b,Z,g⟩
theorem V5(pp mb n:Nat)(M0:Nat->Pg)(C0:Nat->Nat)(T:PoT)(p:Int)(a: -9223372036854775808<=p/\p<=9223372036854775807)(d:Int)(bs:List UInt8)(c:bs.length=240)(b:Value)(B:Ah)(i:∀h,B h->rdH 1 b 240 (bs.map u8) h):
  Aj 22 [V pp,Aa p,.agg #[Aa d,b]] [poA Tb pp mb n M0 C0 (some T),B] (λv G=>∃(e:Int) (f:PoT),v=Aa e/\G=[poA Tb pp mb n M0 C0 (some f),B]):=
 (Oa pp mb n M0 C0 T p a d bs c b B i).mono λv Γ ⟨e,M2,k,g,j⟩=>⟨e,_,g,j⟩
theorem AaS(pp mb n:Nat)(M0:Nat->Pg)(C0:Nat->Nat)(T:PoT)(p:Int)(a: -9223372036854775808<=p/\p<=9223372036854775807):
  Aj 17 [V pp,Aa p] [poA Tb pp mb n M0 C0 (some T)] (λv G=>∃(e:Int) (b:PoT),v=Aa e/\G=[poA Tb pp mb n M0 C0 (some b)]):=
 (S5 pp mb n M0 C0 T p a).mono λv Γ ⟨e,C2,c,d⟩=>⟨e,_,c,d⟩
theorem V6(pp mb n:Nat)(M0:Nat->Pg)(C0:Nat->Nat)(T:PoT)(p:Int)(a: -9223372036854775808<=p/\p<=9223372036854775807):
  Aj 15 [V pp,Aa p] [poA Tb pp mb n M0 C0 (some T)] (λv G=>∃(e:Int) (b:PoT),v=Aa e/\G=[poA Tb pp mb n M0 C0 (some b)]):=
 (Ob pp mb n M0 C0 T p a).mono λv Γ ⟨e,C2,c,d⟩=>⟨e,_,c,d⟩
end
set_option maxHeartbeats 8000000 in
theorem OC (Tb:Ah) (hT:Fp Tb) (lv wv:Value) (x:Bool) (y os:List DeE) (c5:y.length<=1048576) (A:Ah) (hA:∀h,A h->rdH 6 lv y.length (GQ y) h) (m:∀h,A h->rdH 6 wv os.length (GQ os) h) (a6:∀e∈y,e.1.In) (a4:∀e∈os,e.1.In):Aj 6 [lv,wv,.bool x] [A,Tb] (λv G=>v=.bool true/\G=[A,Tb]):=by
 intro z R w H;replace H:=H.l2;obtain ⟨lo,lc,rfl⟩:=H.sy 0 (λq=>(hA _ q).slc);obtain ⟨wo,wc,rfl⟩:=H.sy 0 (λq=>(m _ q).slc);have d2:=H.sy 0 (λq=>(hA _ q).small);have c7:=H.sy 0 (λq=>(m _ q).small);refine Ac func6 Z ntmps6 Z (Zc 7 Z (AA Z (call9 _) (Tc 40 U Tb hT) H.f1 ?_));rintro _ w _ ⟨s,pd,pr,pp,pq,M0,rfl,rfl⟩ H;refine Z2 35 [2,0,0,2,0,0] H Z ?_;replace H:=H.f1;replace H:=(Sep.toAP (mb2:=6) H (Acv _)).l4;refine Zc 5 Z ?_;refine Ay (σ:=Nat) (λi=>[(10,Aa (i:Int)),(0,.slice lo y.length lc),(1,.slice wo os.length wc),(2,.bool x),(6,.bool false),(7,V s),(9,V pp)])
   (λi w=>Sep z (anyP (Tb,pd) pp 40 (6+2*i)::blk s [V pd,V pr,V pp,V pq] 32::anyR pq 40 (1+i)::A::R) w/\(i<=y.length)) (λi=>y.length-i) 0
   fr_z ⟨H,Acg _⟩ ?_
 clear H;rintro i w ⟨b,hI⟩;have H:=b.l4;have hi:=hI;clear hI;refine Z0 9 [0] Z (Af Z (λh1=>?_) (λh1=>?_))
 ·refine Zc 4 Z ?_;obtain ⟨⟨⟨g,pg,wh,x,nn⟩,pk⟩,a⟩:∃e:DeE,y[i]?=some e:=⟨_,Ab0 U⟩;have a1:=a6 _ (Ab1 a)
  have c1:=SB g (show 0<9 by omega);replace H:=H.f3;refine AL (Sep z (A::R)) 24 Z J (A0 H λw b=>?_);have H:=b.l4;refine A7 [0,1,2] [] J (λ_ _=>AJ) (by exact H.pick 4 [0] Z) Z J Z Z (AQ 3 J Z Z J J J Z Z Z (Aw Z (z:=6) (j:=i) (r:=i*6) J Z Z Z U ((H.rd 0 Z hA).at (u:=Aa g) (Br a 0 _ Z)) U) (H.pick 4 [0] Z) (AQ 4 J Z Z J J J Z Z Z (BF Z (k:=0) (r:=i*6) J Z ((H.rd 0 Z hA).at (u:=Aa g) (Br a 0 _ Z)) Z) (H.pick 4 [0] Z) (AQ 5 J Z Z J J J Z Z Z (AK Z Z J (λ_ hs=>(hs.rd 0 Z hA).at (u:=Aa g) (Br a 0 _ Z))) (H.pick 4 [0] Z) (A7 [7,8] [] J (λ_ _=>AJ) (by exact H.pick 4 [0] Z) Z J Z Z (AQ 9 J Z Z J J J Z Z Z (Aw Z (z:=6) (j:=i) (r:=i*6) J Z Z Z U ((H.rd 0 Z hA).at (u:=Aa g) (Br a 0 _ Z)) U) (H.pick 4 [0] Z) (AQ 10 J Z Z J J J Z Z Z (BF Z (k:=1) (r:=i*6+1) J Z ((H.rd 0 Z hA).at (u:=Aa g) (Br a 0 _ Z)) Z) (H.pick 4 [0] Z) (AQ 11 J Z Z J J J Z Z Z (AK Z Z J (λ_ hs=>(hs.rd 0 Z hA).at (u:=Aa pg) (Br a 1 _ Z))) (H.pick 4 [0] Z) (A7 [12,13] [] J (λ_ _=>AJ) (by exact H.pick 4 [0] Z) Z J Z Z (AQ 14 J Z Z J J J Z Z Z (Aw Z (z:=6) (j:=i) (r:=i*6) J Z Z Z U ((H.rd 0 Z hA).at (u:=Aa g) (Br a 0 _ Z)) U) (H.pick 4 [0] Z) (AQ 15 J Z Z J J J Z Z Z (BF Z (k:=2) (r:=i*6+2) J Z ((H.rd 0 Z hA).at (u:=Aa g) (Br a 0 _ Z)) Z) (H.pick 4 [0] Z) (AQ 16 J Z Z J J J Z Z Z (AK Z Z J (λ_ hs=>(hs.rd 0 Z hA).at (u:=Aa wh) (Br a 2 _ Z))) (H.pick 4 [0] Z) (A7 [17,18] [] J (λ_ _=>AJ) (by exact H.pick 4 [0] Z) Z J Z Z (AQ 19 J Z Z J J J Z Z Z (Aw Z (z:=6) (j:=i) (r:=i*6) J Z Z Z U ((H.rd 0 Z hA).at (u:=Aa g) (Br a 0 _ Z)) U) (H.pick 4 [0] Z) ?_)))))))))))));refine AQ 20 J Z Z J J J Z Z Z (BF Z (k:=3) (r:=i*6+3) J Z ((H.rd 0 Z hA).at (u:=Aa g) (Br a 0 _ Z)) Z) (H.pick 4 [0] Z) (AQ 21 J Z Z J J J Z Z Z (AK Z Z J (λ_ hs=>(hs.rd 0 Z hA).at (u:=Aa x) (Br a 3 _ Z))) (H.pick 4 [0] Z) (An [6] J O (Ar (A6 Z Z Z Z Z Z (λw=>call8 _ w) (Lp g 9 a1.1 U) H Z ?_))));rintro _ w _ ⟨rfl,rfl⟩ H;replace H:=H.l4;refine Am (λ_=>(H.pick 4 [0] Z)) (AQ 22 J Z Z J J J Z Z Z (AW Z Z (out:=[Aa (pkI g 9:Int),Aa pg,Aa wh,Aa x,Aa 0,.slice none 0 0]) J) (H.pick 4 [0] Z) (An [23] J O (Ar (A6 Z Z Z Z Z Z (λw=>call19 _ w) (Y2 _ _ _ _ _ _ _ _ ((pkI g 9:Nat):Int) pg wh x U a1.2 (by rw[AaP U];exact c1) U U) H.f3.f2.f3 Z ?_))));rintro _ w _ ⟨b9,rfl,rfl⟩ H;replace H:=H.l4;refine Am (λh=>absurd Z h) (AT J (gn (Z1 7 [] [(i:Int)+1] Z U ?_)));replace H:=H.f3.f3.f2.f3;refine gf ?_;intro _ o;refine ⟨(i+1),o.cz,⟨(by rw[show 6+2*(i+1)=6+2*i+2 by omega,show 1+(i+1)=1+i+1 by omega];exact H),?_⟩,?_⟩
  ·omega
  omega
 refine Zc 2 Z (gx (Zc 3 Z ?_));obtain ⟨M9,C9,t9,H⟩:=H.aP;replace H:=H.l4;refine Zc 2 Z (Ai Z (call20 _) (JZ _ _ _ _ _ _) H ?_);intro w H;refine Zc 5 Z (Ai Z (call10 _) (Sm _ _ _ _ _ _) H ?_);intro w H;replace H:=H.l4;refine k_updA 72 (v:=Aa (cnt (frC 40 C9) 0 1024:Int)) Z Z (Zc 4 Z ?_);replace H:=(H.nilg 40 2).l5;replace H:=(H.nilg 3 1).l6;replace H:=(H.void (B:=bagW []) (λh e a=>absurd a O)).l7;refine Zc 16 Z ?_;refine Ay (σ:=Nat×List Jo×Value×Value) (λ⟨n,es,wv,hv⟩=>[(14,Aa (n:Int)),(12,wv),(13,hv),(1,.slice wo os.length wc),(2,.bool x),(7,V s),(9,V pp),(11,Aa (cnt (frC 40 C9) 0 1024:Int))])
   (λ⟨n,es,wv,hv⟩ w=>Sep z (bagW es::grow 3 1 hv n (DE C9 n)::grow 40 2 wv n (EG es)::poA (Tb,pd) pp (6+2*i) 40 M9 C9 none::blk s [V pd,V pr,V pp,V pq] 32::anyR pq 40 (1+i)::A::R) w/\(n<=40/\es.map Prod.fst=(List.range n).map (BH 40 M9 C9))) (λ⟨n,es,wv,hv⟩=>40-n) ⟨0,[],.slice none 0 0,.slice none 0 0⟩
   (λ_ o=>(o.co Z (by go_num) (o.co Z (by go_num) o.cz))) ⟨H,⟨Acg _,Z⟩⟩ ?_
 clear H;rintro ⟨n,es,wv,hv⟩ w ⟨b,hI⟩;dsimp only at hI b ⊢;have H:=b.l7;have b5:=H.sy 1 (·.slc);have a3:=H.sy 2 (·.slc);obtain ⟨a8,a2⟩:=hI;refine Z0 7 [0] Z (Af Z (λh2=>?_) (λh2=>?_))
 ·refine Zc 5 Z ?_;replace H:=H.f3;obtain ⟨X9,t,b⟩:=H.po3;clear H;have H:Sep z (blk pp [.pointer (some ⟨X9.ps,0,none⟩),.pointer (some ⟨X9.pc,0,none⟩),.pointer (some ⟨X9.pa,0,none⟩),Aa ((40:Nat):Int),.bool false] 63::stoA X9.ps X9.pd X9.D X9.G none::poR 40 C9 none X9::bagW es::grow 3 1 hv n (DE C9 n)::grow 40 2 wv n (EG es)::blk s [V pd,V pr,V pp,V pq] 32::anyR pq 40 (1+i)::A::R) w:=b
  clear b;replace H:=H.l9;refine Z2 7 [0,0,0,0] H Z (AA Z (call21 _) (Of t.v n U) H.f1 ?_);rintro _ w _ ⟨v9,B9,p,rfl,rfl⟩ H;replace H:=H.l10;obtain ⟨f,c,rfl⟩:=H.sy 0 (λq=>(p _ q).slc);refine Za 3 [] H Z ?_;intro b1 w H;refine Z4 6 [0] H Z ?_;intro w H;replace H:=H.f4.f3.f4;replace H:=(Sep.toPo3 (X:=X9) H t).l9;refine Z2 12 [4,1,2] H Z (AG Z (AM H Z J FR Z (by decide) (by decide) (out:=[Aa ((BH 40 M9 C9 n).kind),.slice f ((BH 40 M9 C9 n).body.length) c]) J) ?_);rintro _ w ⟨b2,rfl,H⟩;replace H:=H.l10;refine AG Z (AO 6 H Z Z J FR Z Z (H.rv 0 (·.rd U U O Z)) (Ap Z (Ap Z AR)) U) ?_;rintro v3 w b;have b:Sep z (blk b2 [Aa ((BH 40 M9 C9 n).kind),.slice f ((BH 40 M9 C9 n).body.length) c] 40::poA (Tb,pd) pp (6+2*i) 40 M9 C9 none::blk b1 [Aa ((BH 40 M9 C9 n).kind),.slice f ((BH 40 M9 C9 n).body.length) c] 40::B9::bagW es::grow 3 1 hv n (DE C9 n)::grow 40 2 v3 (n+1) (EG es++[Aa ((BH 40 M9 C9 n).kind),.slice f ((BH 40 M9 C9 n).body.length) c])::blk s [V pd,V pr,V pp,V pq] 32::anyR pq 40 (1+i)::A::R) w:=b;have c4:(EG es++[Aa ((BH 40 M9 C9 n).kind),.slice f ((BH 40 M9 C9 n).body.length) c]:List Value)=EG (es++[((BH 40 M9 C9 n),.slice f (BH 40 M9 C9 n).body.length c)]):=(V3 es ((BH 40 M9 C9 n),.slice f (BH 40 M9 C9 n).body.length c)).symm;rw[c4] at b;have H:=b.l10;have d0:=H.sy 6 (·.slc);refine Zc 7 Z (Ai Z (call18 _) (Ps _ _ _ _ _ _ n U) H.f1 ?_);intro w H;replace H:=H.l10;refine k_updA 96 (v:=Aa (C9 n:Int)) Z Z (AG Z (AM H Z J BQ Z (by decide) (by decide) (out:=[Aa (C9 n:Int)]) J) ?_);rintro _ w ⟨b4,rfl,H⟩;replace H:=H.l11;refine AG Z (AO 6 H Z Z J BQ Z Z (H.rv 0 (·.rd U U O Z)) (Ap Z AR) U) ?_;rintro v5 w b;have b:Sep z (blk b4 [Aa (C9 n:Int)] 3::poA (Tb,pd) pp (6+2*i) 40 M9 C9 none::blk b2 [Aa ((BH 40 M9 C9 n).kind),.slice f ((BH 40 M9 C9 n).body.length) c] 40::blk b1 [Aa ((BH 40 M9 C9 n).kind),.slice f ((BH 40 M9 C9 n).body.length) c] 40::B9::bagW es::grow 3 1 v5 (n+1) (DE C9 n++[Aa (C9 n:Int)])::grow 40 2 v3 (n+1) (EG (es++[((BH 40 M9 C9 n),.slice f (BH 40 M9 C9 n).body.length c)]))::blk s [V pd,V pr,V pp,V pq] 32::anyR pq 40 (1+i)::A::R) w:=b;have c3:(DE C9 n++[Aa (C9 n:Int)]:List Value)=DE C9 (n+1):=(AaR C9 n).symm;rw[c3] at b;have H:=b.l11;have c9:=H.sy 6 (·.slc);refine Zc 4 Z ?_;replace H:=H.f5.f5;replace H:=(H.made 2 (A:=bagW (es++[((BH 40 M9 C9 n),.slice f (BH 40 M9 C9 n).body.length c)])) (λh q=>bagW.put q p)).l10;refine Z1 5 [] [(n:Int)+1] Z U ?_;replace H:=H.f4.d.f3.d.f1.d.f6.f6.f6.f4.f6.f6.f6;refine gf ?_;intro _ o;refine ⟨⟨n+1,es++[((BH 40 M9 C9 n),.slice f (BH 40 M9 C9 n).body.length c)],v3,v5⟩,o.cz,⟨H,?_⟩,?_⟩
  ·exact ⟨by show n+1<=40;omega,by dsimp only;rw[Acp,a2,Ade,Acp];rfl⟩
  (dsimp only;omega)
 obtain rfl:n=40:=by omega
 refine Zc 2 Z (gx (Zc 3 Z ?_));have a3:=H.sy 2 (·.slc);obtain ⟨qo,qc,rfl⟩:=a3;have b5:=H.sy 1 (·.slc);obtain ⟨ho,hc,rfl⟩:=b5;have d1:es.length=40:=by simpa using congrArg List.length a2
 refine Zc 2 Z (Ai Z (call11 _) (Lg _ _ _ _ _) H.f3 ?_);intro w H;refine Zc 9 Z ?_;refine Ay (σ:=Nat×PoT) (λ⟨j,T⟩=>[(17,Aa (j:Int)),(1,.slice wo os.length wc),(2,.bool x),(7,V s),(9,V pp),(11,Aa (cnt (frC 40 C9) 0 1024:Int)),(12,.slice qo 40 qc),(13,.slice ho 40 hc)])
   (λ⟨j,T⟩ w=>Sep z (poA (Tb,pd) pp (6+2*i) 40 M9 C9 (some T)::bagW es::grow 3 1 (.slice ho 40 hc) 40 (DE C9 40)::grow 40 2 (.slice qo 40 qc) 40 (EG es)::blk s [V pd,V pr,V pp,V pq] 32::anyR pq 40 (1+i)::A::R) w/\(j<=os.length)) (λ⟨j,T⟩=>os.length-j) ⟨0,(po0 40 M9 C9)⟩
   fr_z ⟨H,Acg _⟩ ?_
 clear H;rintro ⟨j,T⟩ w ⟨b,hI⟩;dsimp only at hI b ⊢;have H:=b.l7;have hj:=hI;clear hI;refine Z0 9 [0] Z (Af Z (λh3=>?_) (λh3=>?_))
 ·refine Zc 5 Z ?_;obtain ⟨⟨⟨g,pg,wh,x,nn⟩,pk⟩,a⟩:∃e:DeE,os[j]?=some e:=⟨_,Ab0 U⟩;have a1:=a4 _ (Ab1 a)
  have a0:=a1.2;refine Zc 3 Z (Ad Z (Aw Z (z:=6) (j:=j) (r:=j*6) J Z Z Z U ((H.rd 6 Z m).at (u:=Aa g) (Br a 0 _ Z)) U) (Ad Z (BF Z (k:=0) (r:=j*6) J Z ((H.rd 6 Z m).at (u:=Aa g) (Br a 0 _ Z)) Z) (Ad Z (AK Z Z J (AB ((H.rd 6 Z m).at (u:=Aa g) (Br a 0 _ Z)))) (Ai Z (call8 _) (Lp g 4 a1.1 U) H ?_))));intro w H;refine Z0 9 [0] Z (Af Z (λh4=>?_) (λh4=>?_))
  ·refine Zc 4 Z (Ad Z (Aw Z (z:=6) (j:=j) (r:=j*6) J Z Z Z U ((H.rd 6 Z m).at (u:=Aa g) (Br a 0 _ Z)) U) (Ad Z (BF Z (k:=3) (r:=j*6+3) J Z ((H.rd 6 Z m).at (u:=Aa g) (Br a 0 _ Z)) Z) (Ad Z (AK Z Z J (AB ((H.rd 6 Z m).at (u:=Aa x) (Br a 3 _ Z)))) (Ad Z (AW Z Z (out:=[Aa 0,Aa 0,Aa 5,Aa x,Aa 0,.slice none 0 0]) J) (AA Z (call13 _) (Eo _ _ 5 x _ (.slice none 0 0) Z) H ?_)))));rintro _ w _ ⟨c6,rfl,rfl⟩ H;replace H:=H.l8;refine AA Z (call12 _) (V4 _ _ _ _ _ _ 5 (F5 5 x).body (CI _ _) _ _ (λh q=>Ep q (by rw[Ab7];exact CI _ _))) H.f1 ?_;rintro _ w _ ⟨a9,e9,T2,rfl,rfl⟩ H;refine Z1 9 [] [(j:Int)+1] Z U ?_;replace H:=H.f1.d;refine gf ?_;intro _ o;refine ⟨⟨j+1,T2⟩,o.cz,⟨H,?_⟩,?_⟩
   ·show j+1<=os.length;omega
   (dsimp only;omega)
  refine Z0 6 [0] Z (Af Z (λh5=>?_) (λh5=>?_))
  ·replace H:=H.f6;refine AL (Sep z (A::R)) 14 Z J (A0 H λw b=>?_)
   have H:=b.l7;refine A7 [0,1,2] [] J (λ_ _=>AJ) (by exact H.pick 7 [0] Z) Z J Z Z (AQ 3 J Z Z J J J Z Z Z (Aw Z (z:=6) (j:=j) (r:=j*6) J Z Z Z U ((H.rd 0 Z m).at (u:=Aa g) (Br a 0 _ Z)) U) (H.pick 7 [0] Z) (AQ 4 J Z Z J J J Z Z Z (BF Z (k:=1) (r:=j*6+1) J Z ((H.rd 0 Z m).at (u:=Aa g) (Br a 0 _ Z)) Z) (H.pick 7 [0] Z) (AQ 5 J Z Z J J J Z Z Z (AK Z Z J (λ_ hs=>(hs.rd 0 Z m).at (u:=Aa pg) (Br a 1 _ Z))) (H.pick 7 [0] Z) (A7 [6,7] [] J (λ_ _=>AJ) (by exact H.pick 7 [0] Z) Z J Z Z (AQ 8 J Z Z J J J Z Z Z (Aw Z (z:=6) (j:=j) (r:=j*6) J Z Z Z U ((H.rd 0 Z m).at (u:=Aa g) (Br a 0 _ Z)) U) (H.pick 7 [0] Z) (AQ 9 J Z Z J J J Z Z Z (BF Z (k:=3) (r:=j*6+3) J Z ((H.rd 0 Z m).at (u:=Aa g) (Br a 0 _ Z)) Z) (H.pick 7 [0] Z) (AQ 10 J Z Z J J J Z Z Z (AK Z Z J (λ_ hs=>(hs.rd 0 Z m).at (u:=Aa x) (Br a 3 _ Z))) (H.pick 7 [0] Z) (AQ 11 J Z Z J J J Z Z Z (AW Z Z (out:=[Aa 0,Aa 0,Aa 5,Aa x,Aa 0,.slice none 0 0]) J) (H.pick 7 [0] Z) (An [12] J O (Ar (A6 Z Z Z Z Z Z (λw=>call13 _ w) (Eo _ _ 5 x _ (.slice none 0 0) Z) H Z ?_)))))))))));rintro _ w _ ⟨c8,rfl,rfl⟩ H;replace H:=H.l8;refine Am (λ_=>(H.pick 8 [1] Z)) (An [13] J O (Ar (A6 Z Z Z Z Z Z (λw=>call22 _ w) (V5 _ _ _ _ _ _ pg a0 5 (F5 5 x).body (CI _ _) _ _ (λh q=>Ep q (by rw[Ab7];exact CI _ _))) H.f2 Z ?_)));rintro _ w _ ⟨e9,T2,rfl,rfl⟩ H;replace H:=H.l8;refine Am (λh=>absurd Z h) (AT J (gn (Z1 8 [] [(j:Int)+1] Z U ?_)));replace H:=H.f1.d.f1.f6.f6.f6.f6.f6.f6;refine gf ?_;intro _ o;refine ⟨⟨j+1,T2⟩,o.cz,⟨H,?_⟩,?_⟩
   ·show j+1<=os.length;omega
   (dsimp only;omega)
  refine Z0 6 [0] Z (Af Z (λh6=>?_) (λh6=>?_))
  ·refine Zc 4 Z (Ad Z (Aw Z (z:=6) (j:=j) (r:=j*6) J Z Z Z U ((H.rd 6 Z m).at (u:=Aa g) (Br a 0 _ Z)) U) (Ad Z (BF Z (k:=1) (r:=j*6+1) J Z ((H.rd 6 Z m).at (u:=Aa g) (Br a 0 _ Z)) Z) (Ad Z (AK Z Z J (AB ((H.rd 6 Z m).at (u:=Aa pg) (Br a 1 _ Z)))) (AA Z (call17 _) (AaS _ _ _ _ _ _ pg a0) H ?_))));rintro _ w _ ⟨e9,T2,rfl,rfl⟩ H;refine Z1 9 [] [(j:Int)+1] Z U (gf ?_);intro _ o;refine ⟨⟨j+1,T2⟩,o.cz,⟨H,?_⟩,?_⟩
   ·show j+1<=os.length;omega
   (dsimp only;omega)
  refine Z0 6 [0] Z (Af Z (λh7=>?_) (λh7=>?_))
  ·refine Zc 4 Z (Ad Z (Aw Z (z:=6) (j:=j) (r:=j*6) J Z Z Z U ((H.rd 6 Z m).at (u:=Aa g) (Br a 0 _ Z)) U) (Ad Z (BF Z (k:=1) (r:=j*6+1) J Z ((H.rd 6 Z m).at (u:=Aa g) (Br a 0 _ Z)) Z) (Ad Z (AK Z Z J (AB ((H.rd 6 Z m).at (u:=Aa pg) (Br a 1 _ Z)))) (AA Z (call15 _) (V6 _ _ _ _ _ _ pg a0) H ?_))));rintro _ w _ ⟨e9,T2,rfl,rfl⟩ H;refine Z1 9 [] [(j:Int)+1] Z U (gf ?_);intro _ o;refine ⟨⟨j+1,T2⟩,o.cz,⟨H,?_⟩,?_⟩
   ·show j+1<=os.length;omega
   (dsimp only;omega)
  (exfalso;have h9:=SB g (show 0<4 by omega);omega)
 refine Zc 2 Z (gx (Zc 8 Z (DQ Z (λh8=>?_) (λh8=>?_))))
 ·refine Z2 6 [0,4,0] H Z (AA Z (call23 _) (Abu (Tb:=(Tb,pd)) _ _ _ _ _ _ U) H ?_);rintro _ w _ ⟨rfl,K9,b7,rfl⟩ H;refine Zc 5 Z (AA Z (call14 _) (b7) H ?_);rintro _ w _ (⟨rfl,rfl⟩|⟨e9,b6,rfl,rfl⟩) b
  ·have H:=b.l7;refine Z0 6 [3] Z (Ai Z (call16 _) (JW Tb hT) H ?_);intro w H;refine Zc 4 Z (Zr Z ?_);exact ⟨_,⟨Z,Z⟩,H.pick 7 [6,0] Z⟩
  have H:=b.l7;refine Z0 3 [0] Z (Af Z (λh9=>?_) (λh9=>?_))
  ·exact absurd h9 b6
  refine Zc 9 Z ?_;refine Ay (σ:=Nat) (λn=>[(18,Aa (n:Int)),(9,V pp),(11,Aa (cnt (frC 40 C9) 0 1024:Int)),(12,.slice qo 40 qc),(13,.slice ho 40 hc)])
    (λn w=>Sep z (poW (Tb,pd) pp 40 M9 C9::bagW es::grow 3 1 (.slice ho 40 hc) 40 (DE C9 40)::grow 40 2 (.slice qo 40 qc) 40 (EG es)::blk s [V pd,V pr,V pp,V pq] 32::anyR pq 40 (1+i)::A::R) w/\(n<=40)) (λn=>40-n) 0
    fr_z ⟨H,Acg _⟩ ?_
  clear H;rintro n w ⟨b,hI⟩;have H:=b.l7;have a8:=hI;clear hI;refine Z0 7 [0] Z (Af Z (λc2=>?_) (λc2=>?_))
  ·refine Zc 5 Z ?_;obtain ⟨X9,t,b⟩:=H.pw3;clear H;have H:Sep z (blk pp [.pointer (some ⟨X9.ps,0,none⟩),.pointer (some ⟨X9.pc,0,none⟩),.pointer (some ⟨X9.pa,0,none⟩),Aa ((40:Nat):Int),.bool false] 63::stoA X9.ps X9.pd X9.D X9.G none::poR 40 C9 none X9::bagW es::grow 3 1 (.slice ho 40 hc) 40 (DE C9 40)::grow 40 2 (.slice qo 40 qc) 40 (EG es)::blk s [V pd,V pr,V pp,V pq] 32::anyR pq 40 (1+i)::A::R) w:=b
   clear b;replace H:=H.l9;refine Z2 7 [0,0,0,0] H Z (AA Z (call21 _) (Of t n U) H.f1 ?_);rintro _ w _ ⟨v9,B9,p,rfl,rfl⟩ H;replace H:=H.l10;obtain ⟨f,c,rfl⟩:=H.sy 0 (λq=>(p _ q).slc);refine Za 3 [] H Z ?_;intro b8 w H;refine Z4 5 [0] H Z ?_;intro w H;replace H:=H.f4.f3.f4;replace H:=(Sep.toPw3 (X:=X9) H t).l9;obtain ⟨⟨xg,xv⟩,a⟩:∃e:Jo,es[n]?=some e:=⟨_,Ab0 U⟩;obtain rfl:xg=(BH 40 M9 C9 n):=by have h9:=congrArg (λl=>l[n]?) a2;simp only[Ach,a,Aec (show n<40 by omega),Acz,Ab6] at h9;exact h9
   refine BA (Sep z (poW (Tb,pd) pp 40 M9 C9::blk b8 [Aa ((BH 40 M9 C9 n).kind),.slice f ((BH 40 M9 C9 n).body.length) c] 40::B9::bagW es::grow 3 1 (.slice ho 40 hc) 40 (DE C9 40)::grow 40 2 (.slice qo 40 qc) 40 (EG es)::blk s [V pd,V pr,V pp,V pq] 32::anyR pq 40 (1+i)::A::R)) 7 Z J (A0 H λw b=>?_);have H:=b.l9;refine Cj [0,1,2] [1,2] [] (by exact H.pick 9 [0,1,2,3,4,5,6,7,8] Z) Z J Z (EO 3 Z J J J Z Z Z (Aw Z (z:=2) (j:=n) (r:=n*2) J Z Z Z U ((H.rv 5 (·.rd)).at (Hn a 0 _ Z)) U) (H.pick 9 [0,1,2,3,4,5,6,7,8] Z) (EO 4 Z J J J Z Z Z (BO Z Z (vs:=[Aa (BH 40 M9 C9 n).kind,xv]) J O (λ_ hs=>(λk u hk=>(hs.rv 5 (·.rd)).at (Hn a k u hk)))) (H.pick 9 [0,1,2,3,4,5,6,7,8] Z) (BZ [5] J O (Ar (A6 Z Z Z Z Z Z (λw=>call24 _ w) (PI (BH 40 M9 C9 n).kind _ _ (BH 40 M9 C9 n).body _ _ p (λh q=>q _ (Ab1 a))) H.f3.f3 Z ?_)))));rintro _ w _ ⟨rfl,rfl⟩ H;replace H:=H.l9;refine BI (H.pick 9 [2,3,0,1,4,5,6,7,8] Z) (Cj [6] [] [] (by exact H.pick 9 [2,3,0,1,4,5,6,7,8] Z) Z J Z (a_done J (gn (Zc 2 Z (BA (Sep z (B9::bagW es::poW (Tb,pd) pp 40 M9 C9::blk b8 [Aa ((BH 40 M9 C9 n).kind),.slice f ((BH 40 M9 C9 n).body.length) c] 40::grow 3 1 (.slice ho 40 hc) 40 (DE C9 40)::grow 40 2 (.slice qo 40 qc) 40 (EG es)::blk s [V pd,V pr,V pp,V pq] 32::anyR pq 40 (1+i)::A::R)) 16 Z J (A0 H λw b=>?_))))));have H:=b.l9;refine Cj [0,1,2,3,4,5,6,7,8,10,11] [4] [] (by exact H.pick 9 [0,1,2,3,4,5,6,7,8] Z) Z J Z (EO 12 Z J J J Z Z Z (Aw Z (z:=1) (j:=n) (r:=n) J Z Z Z U ((H.rv 4 (·.rd)).at (u:=Aa (C9 n:Int)) (HW C9 U)) U) (H.pick 9 [0,1,2,3,4,5,6,7,8] Z) (EO 13 Z J J J Z Z Z (AK Z Z J (λ_ hs=>(hs.rv 4 (·.rd)).at (u:=Aa (C9 n:Int)) (HW C9 U))) (H.pick 9 [0,1,2,3,4,5,6,7,8] Z) (BZ [9] J O (Ar (A6 Z Z Z Z Z Z (λw=>call18 _ w) (PG _ _ _ _ n U) H.f2 Z ?_)))));rintro _ w _ ⟨rfl,rfl⟩ H;replace H:=H.l9;refine BI (H.pick 9 [1,2,0,3,4,5,6,7,8] Z) (Cj [14,15] [0] [] (by exact H.pick 9 [1,2,0,3,4,5,6,7,8] Z) Z J Z (a_done J (gn (Zc 1 Z (Af Z (λa5=>?_) (λa5=>?_))))))
   ·exact absurd Z a5
   refine Z1 8 [] [(n:Int)+1] Z U ?_;replace H:=H.f3.d.f1.d;refine gf ?_;intro _ o;refine ⟨(n+1),o.cz,⟨H,?_⟩,?_⟩
   ·omega
   omega
  obtain rfl:n=40:=by omega
  refine Zc 2 Z (gx (Zc 5 Z (Ai Z (call10 _) (Th _ _ _ _) H ?_)));intro w H;refine Z0 3 [0] Z (Ak 210 Z (λb3=>?_) (λb3=>?_))
  ·refine Zc 1 Z (Ai Z (call25 _) (PH _ _ _ _) H ?_);intro w H;refine Zc 3 Z ?_;replace H:=H.pwTab.l7;refine Ai Z (call16 _) (JW Tb hT) H ?_;intro w H;refine Zc 5 Z (Zr Z ?_);exact ⟨_,⟨Z,Z⟩,H.pick 7 [6,0] Z⟩
  exact absurd Z b3
 refine Zc 2 Z (Ai Z (call20 _) (JZ _ _ _ _ _ _) H ?_);intro w H;refine Zc 4 Z ?_;replace H:=(Sep.toW H).l7;refine Zc 5 Z ?_;refine Ay (σ:=Nat) (λn=>[(18,Aa (n:Int)),(9,V pp),(11,Aa (cnt (frC 40 C9) 0 1024:Int)),(12,.slice qo 40 qc),(13,.slice ho 40 hc)])
   (λn w=>Sep z (poW (Tb,pd) pp 40 M9 C9::bagW es::grow 3 1 (.slice ho 40 hc) 40 (DE C9 40)::grow 40 2 (.slice qo 40 qc) 40 (EG es)::blk s [V pd,V pr,V pp,V pq] 32::anyR pq 40 (1+i)::A::R) w/\(n<=40)) (λn=>40-n) 0
   fr_z ⟨H,Acg _⟩ ?_
 clear H;rintro n w ⟨b,hI⟩;have H:=b.l7;have a8:=hI;clear hI;refine Z0 7 [0] Z (Af Z (λc0=>?_) (λc0=>?_))
 ·refine Zc 5 Z ?_;obtain ⟨X9,t,b⟩:=H.pw3;clear H;have H:Sep z (blk pp [.pointer (some ⟨X9.ps,0,none⟩),.pointer (some ⟨X9.pc,0,none⟩),.pointer (some ⟨X9.pa,0,none⟩),Aa ((40:Nat):Int),.bool false] 63::stoA X9.ps X9.pd X9.D X9.G none::poR 40 C9 none X9::bagW es::grow 3 1 (.slice ho 40 hc) 40 (DE C9 40)::grow 40 2 (.slice qo 40 qc) 40 (EG es)::blk s [V pd,V pr,V pp,V pq] 32::anyR pq 40 (1+i)::A::R) w:=b
  clear b;replace H:=H.l9;refine Z2 7 [0,0,0,0] H Z (AA Z (call21 _) (Of t n U) H.f1 ?_);rintro _ w _ ⟨v9,B9,p,rfl,rfl⟩ H;replace H:=H.l10;obtain ⟨f,c,rfl⟩:=H.sy 0 (λq=>(p _ q).slc);refine Za 3 [] H Z ?_;intro b9 w H;refine Z4 5 [0] H Z ?_;intro w H;replace H:=H.f4.f3.f4;replace H:=(Sep.toPw3 (X:=X9) H t).l9;obtain ⟨⟨xg,xv⟩,a⟩:∃e:Jo,es[n]?=some e:=⟨_,Ab0 U⟩;obtain rfl:xg=(BH 40 M9 C9 n):=by have h9:=congrArg (λl=>l[n]?) a2;simp only[Ach,a,Aec (show n<40 by omega),Acz,Ab6] at h9;exact h9
  refine BA (Sep z (poW (Tb,pd) pp 40 M9 C9::blk b9 [Aa ((BH 40 M9 C9 n).kind),.slice f ((BH 40 M9 C9 n).body.length) c] 40::B9::bagW es::grow 3 1 (.slice ho 40 hc) 40 (DE C9 40)::grow 40 2 (.slice qo 40 qc) 40 (EG es)::blk s [V pd,V pr,V pp,V pq] 32::anyR pq 40 (1+i)::A::R)) 7 Z J (A0 H λw b=>?_);have H:=b.l9;refine Cj [0,1,2] [1,2] [] (by exact H.pick 9 [0,1,2,3,4,5,6,7,8] Z) Z J Z (EO 3 Z J J J Z Z Z (Aw Z (z:=2) (j:=n) (r:=n*2) J Z Z Z U ((H.rv 5 (·.rd)).at (Hn a 0 _ Z)) U) (H.pick 9 [0,1,2,3,4,5,6,7,8] Z) (EO 4 Z J J J Z Z Z (BO Z Z (vs:=[Aa (BH 40 M9 C9 n).kind,xv]) J O (λ_ hs=>(λk u hk=>(hs.rv 5 (·.rd)).at (Hn a k u hk)))) (H.pick 9 [0,1,2,3,4,5,6,7,8] Z) (BZ [5] J O (Ar (A6 Z Z Z Z Z Z (λw=>call24 _ w) (PI (BH 40 M9 C9 n).kind _ _ (BH 40 M9 C9 n).body _ _ p (λh q=>q _ (Ab1 a))) H.f3.f3 Z ?_)))));rintro _ w _ ⟨rfl,rfl⟩ H;replace H:=H.l9;refine BI (H.pick 9 [2,3,0,1,4,5,6,7,8] Z) (Cj [6] [] [] (by exact H.pick 9 [2,3,0,1,4,5,6,7,8] Z) Z J Z (a_done J (gn (Zc 2 Z (BA (Sep z (B9::bagW es::poW (Tb,pd) pp 40 M9 C9::blk b9 [Aa ((BH 40 M9 C9 n).kind),.slice f ((BH 40 M9 C9 n).body.length) c] 40::grow 3 1 (.slice ho 40 hc) 40 (DE C9 40)::grow 40 2 (.slice qo 40 qc) 40 (EG es)::blk s [V pd,V pr,V pp,V pq] 32::anyR pq 40 (1+i)::A::R)) 16 Z J (A0 H λw b=>?_))))));have H:=b.l9;refine Cj [0,1,2,3,4,5,6,7,8,10,11] [4] [] (by exact H.pick 9 [0,1,2,3,4,5,6,7,8] Z) Z J Z (EO 12 Z J J J Z Z Z (Aw Z (z:=1) (j:=n) (r:=n) J Z Z Z U ((H.rv 4 (·.rd)).at (u:=Aa (C9 n:Int)) (HW C9 U)) U) (H.pick 9 [0,1,2,3,4,5,6,7,8] Z) (EO 13 Z J J J Z Z Z (AK Z Z J (λ_ hs=>(hs.rv 4 (·.rd)).at (u:=Aa (C9 n:Int)) (HW C9 U))) (H.pick 9 [0,1,2,3,4,5,6,7,8] Z) (BZ [9] J O (Ar (A6 Z Z Z Z Z Z (λw=>call18 _ w) (PG _ _ _ _ n U) H.f2 Z ?_)))));rintro _ w _ ⟨rfl,rfl⟩ H;replace H:=H.l9;refine BI (H.pick 9 [1,2,0,3,4,5,6,7,8] Z) (Cj [14,15] [0] [] (by exact H.pick 9 [1,2,0,3,4,5,6,7,8] Z) Z J Z (a_done J (gn (Zc 1 Z (Af Z (λa7=>?_) (λa7=>?_))))))
  ·exact absurd Z a7
  refine Z1 8 [] [(n:Int)+1] Z U ?_;replace H:=H.f3.d.f1.d;refine gf ?_;intro _ o;refine ⟨(n+1),o.cz,⟨H,?_⟩,?_⟩
  ·omega
  omega
 obtain rfl:n=40:=by omega
 refine Zc 2 Z (gx (Zc 5 Z (Ai Z (call10 _) (Th _ _ _ _) H ?_)));intro w H;refine Z0 3 [0] Z (Ak 210 Z (λb0=>?_) (λb0=>?_))
 ·refine Zc 1 Z (Ai Z (call25 _) (PH _ _ _ _) H ?_);intro w H;refine Zc 3 Z ?_;replace H:=H.pwTab.l7;refine Ai Z (call16 _) (JW Tb hT) H ?_;intro w H;refine Zc 5 Z (Zr Z ?_);exact ⟨_,⟨Z,Z⟩,H.pick 7 [6,0] Z⟩
 exact absurd Z b0
end
open Go.ChangeShapes Go.WideShapes Go.ChangeAt Go.RowKit Go.Joins
theorem Y5(a:Os):laidMet prog Rows.poolWholeUptoRow.laid ((IL a).forCall (λ_ _=>0) ⟨#[],#[.slice none 0 0,.slice none 0 0,.bool false],[]⟩).memory:=
 laidMet_of_run' 8 J J
theorem Ti(b:Os){H:Type}(enc:TypeId×Value->H):∃a,DataW.whole enc prog ((IL b).forCall (λ_ _=>0) ⟨#[],#[.slice none 0 0,.slice none 0 0,.bool false],[]⟩).memory f6.params.toList Rows.poolWholeSpec.vars false #[Value.slice none 0 0,.slice none 0 0,.bool false].toList 8=some ([.nil,.nil,.lit (.bool false)],[],a):=
 ⟨[],by kernel_rfl⟩
theorem pwh_contract(H:Type)(enc:TypeId×Value->H)(W:World)(base:Nat)(args:Array Value)(ds gs:List (DataW H))(c:List MemPlace)
  (a:∀(j:Nat) t v,f6.params[j]?=some t->args[j]?=some v->Value.okWide prog W .any base t v)
  (hW:DataW.Whole enc prog f6.params.toList Rows.poolWholeSpec.vars false W args.toList ds gs c)(hk:Rows.uptoSmall H (ds++gs)=true)(g:laidMetH prog Rows.poolWholeUptoRow.laid W):
  Calls prog 6 args W λe W'=>∃v,e=.returned v/\Rows.poolWholeSpec.post enc prog f6 false true false false W args v W':=by
 have b:=hW;obtain ⟨p,q,w,hV,rfl,_,_⟩:=hW;have hA:DataW.TrodAll enc prog W 0 (λ_=>true) true f6.params.toList args.toList ds p:=w;rw[params6] at hA a;obtain ⟨v0,v1,v2,d0,d1,d2,p0,p1,p2,rfl,rfl,rfl,h0,h1,h2⟩:=Abs hA;obtain ⟨rfl,rfl⟩:=trodVars_none hV;simp only[AcR] at b hk;have t0:∀x∈p0,x.block<W.heap.size:=λx hx=>by have:=b.lt x (by simp[hx]);simpa using this
 have t1:∀x∈p1,x.block<W.heap.size:=λx hx=>by have:=b.lt x (by simp[hx]);simpa using this
 have hb:Rows.uptoBulkAll [d0,d1,d2]<=1048576:=of_decide_eq_true hk;simp only[Rows.uptoBulkAll] at hb;obtain ⟨a2,l0,c0,rfl⟩:=okWide_slice underlying50 (a 0 50 v0 Z Z);obtain ⟨y,m⟩:=id h0;obtain ⟨z,n,f,l⟩:=Od (h:=m);obtain ⟨a1,l1,c1,rfl⟩:=okWide_slice underlying50 (a 1 50 v1 Z Z);obtain ⟨a0,k⟩:=id h1;obtain ⟨o,i,d,s⟩:=Od (h:=k);obtain ⟨i2,rfl,rfl,rfl⟩:=open_bool underlying4 (a 2 4 v2 Z Z) h2;refine (Cn.run2 (YB (Mk g)) (OC (N1 W) (Abr (Mk g)) _ _ i2 (z.map Prod.fst) (o.map Prod.fst) (by rw[Ab7];omega) (Ja W) (λh r=>WN (N2 (Mk g) n (WL f) h r) (Ab7 ..).symm) (λh r=>WN (N2 (Mk g) i (WL d) h r) (Ab7 ..).symm) (WM f) (WM d))).mono λe W' hR=>?_;obtain ⟨u,rfl,rfl,x⟩:∃u,e=Ending.returned u/\u=.bool true/\Ext No W W':=by cases e<;>first|exact ⟨_,rfl,hR⟩|exact hR.elim
 exact ⟨_,rfl,_,_,_,[],_,[],b,trodAll_mk1 (shut_bool underlying4 true),YC (Below.trod PA J (of_decide_eq_true J) h0 x.below t0) (Below.trod PA J (of_decide_eq_true J) h1 x.below t1) (shut_bool underlying4 i2),rfl,x.below.frame _,λh=>by cases h⟩
theorem QQ(e:Os)(a:e.Started)(H:Type)(enc:TypeId×Value->H)(F:Stop.Interp):
  ReturnsInHanded {} checked e 6 .any ((Rows.OpenSpec.upto Rows.poolWholeSpec).preRow enc prog f6 Rows.poolWholeUptoRow.domain false Rows.poolWholeUptoRow.laid) (((Rows.OpenSpec.upto Rows.poolWholeSpec).at F).post enc prog f6 false true false false):=by
 obtain ⟨f,j⟩:=Ti e enc;refine returnsInHanded_of_row (C:=checked) (s:=Rows.OpenSpec.upto Rows.poolWholeSpec) own a J func6
  (witness_row_at (enc:=enc) (C:=checked) false (IL e) #[.slice none 0 0,.slice none 0 0,.bool false] Z J J J
   (OpenSpec.preRow_of_cond 8 j J (λk g=>by cases g;kernel_rfl) J (Y5 e))) ?_
 intro W base args ds l b d h _ c _ i _ _;exact pwh_contract H enc W base args ds l b d h (c _ Z) i
theorem pwh_said:Rows.PoolWholeUptoSaid:=
 OpenClaim.holds_of_cond 6 f6 Z Z Z Z Z Z Z ⟨Z,Z,Z,Z,Z⟩ Z Z Z Z Z J func6 J
  (of_decide_eq_true J) (by unfold Func.isWrapper;first|(rw[if_pos (by decide+kernel)];kernel_rfl)|(rw[if_neg (by decide+kernel)];exact ⟨rfl,rfl⟩))
  (λb a H enc _ F=>by rw[OpenClaim.pre_eq_preRow];exact QQ b a H enc F)
theorem Tj(f:FuncId)(a:Func)(e:Tryz.pinned.checked.prog.funcNamed "polder/polderlaw10.PoolWhole"=some f)(b:Tryz.pinned.checked.prog.funcs[f]?=some a):
  false=Tryz.pinned.checked.prog.looks []/\∀(j:Nat) t,a.params[j]?=some t->Tryz.pinned.checked.prog.wantsStandIn t=false:=by
 obtain rfl:f=6:=Aeh ((show prog.funcNamed "polder/polderlaw10.PoolWhole"=some 6 by kernel_rfl).symm.trans e) |>.symm;obtain rfl:a=f6:=(Aeh (func6.symm.trans b)).symm;refine ⟨by kernel_rfl,λj t c=>?_⟩;rw[params6] at c;have d:=Array.mem_of_getElem? c;simp at d;rcases d with rfl|rfl|rfl<;>first|exact (show prog.wantsStandIn 50=false by kernel_rfl)|exact (show prog.wantsStandIn 4=false by kernel_rfl)
theorem poolWhole_holds:Rows.PoolWholeUptoCardSaid:=
 Claim7.holds_tied_plain_at .later [] _ _ _ _ pwh_said (λ_ h=>by cases h) J (λ_ h=>by cases h) poolWholeUpto_row_tie Z ⟨Z,Z⟩ J Z Tj J
end Go.Proofs.YthbbejpbkglmlaaGreatDoor
