/-
  Steps to: VolumesRefused No condition.
-/
import Derived.Test.YtkblhjdljaoghaaGreatDoorSome4
set_option maxRecDepth 100000
set_option linter.unusedSimpArgs false
set_option linter.unusedVariables false
open Go.Proofs.Tryz
namespace Go.Proofs.YtkblhjdljaoghaaGreatDoor
open Go.RowKit
variable{n m i j e g r:Nat}{t s p q:Int}{V:List Value}{B S:List UInt8}{T:TypeId}{L:List (Nat×Value)}{v u y:Value}{z:World}{l:List Int}{R:List Nat}{N:Act->World->Prop}{b c:Bool}{x:Operand}{o:List Oper}{K:Value->World->Prop}{C:Nat->Nat}{P:Program}{F:Nat->Bool}{a:Act}
variable{Γ:List Ai}{h:Hp}{A:Ai}
variable{D:Dsk}
variable{X:List E}
theorem ZZ{vs:List Vl}{e:Vl}(h:vs[i]?=some e):AY (vs.take i)++e.cells=AY (vs.take (i+1)):=by
 rw[AeQ,h,JK];simp[AY]
theorem T5{e:Vl}(a:e.Fit):Ak 100 [.agg #[I e.id,I e.st,I e.sz,I e.q,I e.r,I e.mp]] [] (λv G=>v=.bool true/\G=[]):=by
 intro z R w H;have j:=a.id;have h:=a.st;have l:=a.sz;have i:=a.q;have k:=a.r;have n:=a.mp;refine Ae func100 Z ntmps100 Z (Za 2 [] H Z ?_);intro m w H;refine Z2 7 [0,0,0] H Z (z_E_ Z (call98 _) (CY) H ?_);intro w H;refine Zc 1 Z (An 6 Z (λb=>?_) (λb=>?_))
 ·refine Z2 2 [1,0,0] H Z (z_E_ Z (call98 _) (CY) H ?_);intro w H;refine Zc 2 Z (An 11 Z (λc=>?_) (λc=>?_))
  ·refine Z2 2 [2,0,0] H Z (z_E_ Z (call98 _) (CY) H ?_);intro w H;refine Zc 2 Z (An 16 Z (λg=>?_) (λg=>?_))
   ·refine Z2 2 [3,0,0] H Z (z_E_ Z (call98 _) (CY) H ?_);intro w H;refine Zc 2 Z (An 21 Z (λd=>?_) (λd=>?_))
    ·refine Z2 2 [4,0,0] H Z (z_E_ Z (call98 _) (CY) H ?_);intro w H;refine Zc 2 Z (An 26 Z (λf=>?_) (λf=>?_))
     ·refine Z2 2 [5,0,0] H Z (z_E_ Z (call98 _) (CY) H ?_);intro w H;refine Zc 5 Z (Zr Z ?_);exact ⟨_,⟨congrArg Value.bool (by first|rfl|exact decide_eq_true U),Z⟩,H.perm 1 [] Z Z⟩
     (exfalso;omega)
    (exfalso;omega)
   (exfalso;omega)
  (exfalso;omega)
 (exfalso;omega)
set_option maxHeartbeats 2000000 in
theorem Jb (nx:Int) (sk:List Int) (vs:List Vl) {B:Ai} {sv:Value} (hA:∀h,A h->rdH 6 y vs.length (AY vs) h) (hB:∀h,B h->rdH 1 sv sk.length (sk.map I) h) (hs:sk.length<=8) (hv:vs.length=8) (a4:0<=nx/\nx<=1073741824) (a0:∀x∈sk,0<=x/\x<=1023) (hf:∀e∈vs,e.Fit):Ak 47 [.agg #[I nx,y,sv]] [A,B] (λv G=>∃pw:Nat,v=.tuple #[.slice (some ⟨pw,0,none⟩) 240 240,I 0]/\G=[blk pw (Bb (AL (Cf nx sk vs vs.length)) ((21+19*8:Nat):Int)) 173,A,B]):=by
 intro z R w H;replace H:=H.l2;obtain ⟨c,m,rfl⟩:=H.sy 0 (λq=>(hA _ q).slc);obtain ⟨f,l,rfl⟩:=H.sy 1 (λq=>(hB _ q).slc);refine Ae func47 Z ntmps47 Z (Za 2 [] H Z ?_);intro g w H;refine Z2 9 [0,0,0] H Z (z_E_ Z (call98 _) (CY) H ?_);intro w H;replace H:=H.l3;refine Ad Z (AG Z Z) (Zc 1 Z (An 13 Z (λh1=>U) (λh1=>?_)));refine Z2 6 [2,0,0,0] H Z (An 19 Z (λh2=>U) (λh2=>?_));refine Z2 7 [1,0,0,0] H Z (Af Z (λh3=>U) (λh3=>?_));refine Zc 4 Z (AU Z (Ce (P:=prog) H Z (zs:=(Bb (AL []) 0)) J) ?_);rintro _ w ⟨b,rfl,H⟩;replace H:=H.l4;refine Z2 6 [0,1,0] H Z (z_E_ Z (call99 _) (CH 0 4 nx (AW (by first|omega|(simp[Ah]<;>omega))) U) H ?_);intro w H;replace H:=H.l4;rw[show Bw (AL []) (Ag 4 nx) 0=AL (Ag 4 nx) from BG Z (by first|omega|(simp[Ah]<;>omega))] at H;have H:Sep z (blk b (Bb (AL (Ag 4 nx)) 4) 173::blk g [I nx,.slice c vs.length m,.slice f sk.length l] 41::A::B::R) w:=H;refine Z2 7 [2,1,0] H Z (z_E_ Z (call99 _) (CH 4 1 (sk.length:Int) (AW (by first|omega|(simp[Ah]<;>omega))) U) H ?_);intro w H;replace H:=H.l4;rw[show Bw (AL (Ag 4 nx)) (Ag 1 (sk.length:Int)) 4=AL (Ag 4 nx++Ag 1 (sk.length:Int)) from BG (by first|omega|(simp[Ah]<;>omega)) (by first|omega|(simp[Ah]<;>omega))] at H;have H:Sep z (blk b (Bb (AL (Ag 4 nx++Ag 1 (sk.length:Int))) 5) 173::blk g [I nx,.slice c vs.length m,.slice f sk.length l] 41::A::B::R) w:=H;refine Z2 12 [2,1,0] H Z ?_;refine AF (σ:=Nat) (λi=>[(35,I (i:Int)),(1,Y g),(4,Y b),(33,.slice f sk.length l),(34,I (sk.length:Int))])
   (λi w=>Sep z (blk b (Bb (AL (Ey nx sk i)) ((5+2*i:Nat):Int)) 173::blk g [I nx,.slice c vs.length m,.slice f sk.length l] 41::A::B::R) w/\(i<=sk.length)) (λi=>sk.length-i) 0
   fr_z ⟨(by simpa [Ey] using H),AeR _⟩ ?_
 clear H;rintro i w ⟨H',t⟩;have H:=H'.l4;have o:=t;clear t;have n:=IH nx sk o;refine Z0 6 [0] Z (Af Z (λh4=>?_) (λh4=>?_))
 ·refine Zc 5 Z ?_;obtain ⟨x,hx⟩:∃x,sk[i]?=some x:=⟨_,Aef U⟩;have a5:=a0 x (Aeg hx)
  have s:=(H.rd 3 Z hB).at (j:=i) (u:=I x) (by simp[hx]);refine Zc 1 Z (Ad Z (Aj Z (z:=1) (j:=i) (r:=i) J Z Z Z U s U) (Ad Z (Ax Z Z J (AB s)) (Zc 7 Z (z_E_ Z (call98 _) (CY) H ?_))));intro w H;replace H:=H.l4;refine Ad Z (AG Z Z) (Zc 2 Z (Af Z (λh5=>U) (λh5=>?_)));refine Zc 4 Z (z_E_ Z (call99 _) (CH (5+2*i) 2 x (AW (by first|omega|(simp[Ah,n]<;>omega))) U) H ?_);intro w H;replace H:=H.l4;rw[show ((5+2*i+2:Nat):Int)=(((5+2*(i+1):Nat):Int):Int) from by omega] at H;rw[show Bw (AL (Ey nx sk i)) (Ag 2 x) (5+2*i)=AL (Ey nx sk i++Ag 2 x) from BG (by first|omega|(simp[Ah,n]<;>omega)) (by first|omega|(simp[Ah,n]<;>omega))] at H;have H:Sep z (blk b (Bb (AL (Ey nx sk i++Ag 2 x)) ((5+2*(i+1):Nat):Int)) 173::blk g [I nx,.slice c vs.length m,.slice f sk.length l] 41::A::B::R) w:=H;refine Z1 7 [] [(i:Int)+1] Z U (gf ?_);intro _ hF;refine ⟨(i+1),hF.cz,⟨(by rw[T0 nx hx];exact H),?_⟩,?_⟩
  ·omega
  omega
 obtain rfl:i=sk.length:=by omega
 refine Zc 2 Z (gx (Z0 5 [256] Z (AC Z Z (Am 0 H Z Z Z Z (vs:=[I 21]) Z (Ab Z Aw) J (by rw[Fi (AW (by first|omega|(simp[Ah,n]<;>omega)))];simp) (out:=(Bb (AL (Ey nx sk sk.length)) 21)) (Js (AW (by first|omega|(simp[Ah,n]<;>omega))))) ?_)));rintro w H;replace H:=H.l4;rw[T4 nx hs vs] at H;refine Z2 12 [1,1,0] H Z ?_;refine AF (σ:=Nat) (λi=>[(49,I (i:Int)),(4,Y b),(47,.slice c vs.length m),(48,I (vs.length:Int))])
   (λi w=>Sep z (blk b (Bb (AL (Cf nx sk vs i)) ((21+19*i:Nat):Int)) 173::blk g [I nx,.slice c vs.length m,.slice f sk.length l] 41::A::B::R) w/\(i<=vs.length)) (λi=>vs.length-i) 0
   fr_z ⟨H,AeR _⟩ ?_
 clear H;rintro i w ⟨H',t⟩;have H:=H'.l4;have o:=t;clear t;have a:=Ez nx hs o;refine Z0 6 [0] Z (Af Z (λh6=>?_) (λh6=>?_))
 ·refine Zc 5 Z ?_;obtain ⟨e,he⟩:∃e,vs[i]?=some e:=⟨_,Aef U⟩;have a1:=hf e (Aeg he)
  have a2:=(H.rd 2 Z hA).at (AI he 0 _ Z);refine Zc 1 Z (Ad Z (Aj Z (z:=6) (j:=i) (r:=i*6) J Z Z Z U a2 U) (Ad Z (Bt Z Z (vs:=e.cells) J (by simp[Vl.cells]) (AB (λk u hk=>(H.rd 2 Z hA).at (AI he k u hk)))) (Za 0 [] H Z ?_)));intro p w H;refine Z4 7 [0,0,6] H Z ?_;intro w H;refine z_E_ Z (call100 _) (T5 a1) H ?_;intro w H;refine Z2 10 [0,0,0] H Z (z_E_ Z (call99 _) (CH (21+19*i) 4 e.id (AW (by first|omega|(simp[Ah,a]<;>omega))) U) H.f1 ?_);intro w H;replace H:=H.l5;rw[show Bw (AL (Cf nx sk vs i)) (Ag 4 e.id) (21+19*i)=AL (Cf nx sk vs i++Ag 4 e.id) from BG (by first|omega|(simp[Ah,a]<;>omega)) (by first|omega|(simp[Ah,a]<;>omega))] at H;have H:Sep z (blk b (Bb (AL (Cf nx sk vs i++Ag 4 e.id)) ((21+19*i+4:Nat):Int)) 173::blk p [I e.id,I e.st,I e.sz,I e.q,I e.r,I e.mp] 59::blk g [I nx,.slice c vs.length m,.slice f sk.length l] 41::A::B::R) w:=H;refine Z2 6 [1,1,0] H Z (z_E_ Z (call99 _) (CH (21+19*i+4) 1 e.st (AW (by first|omega|(simp[Ah,a]<;>omega))) U) H ?_);intro w H;replace H:=H.l5;rw[show Bw (AL (Cf nx sk vs i++Ag 4 e.id)) (Ag 1 e.st) (21+19*i+4)=AL (Cf nx sk vs i++Ag 4 e.id++Ag 1 e.st) from BG (by first|omega|(simp[Ah,a]<;>omega)) (by first|omega|(simp[Ah,a]<;>omega))] at H;have H:Sep z (blk b (Bb (AL (Cf nx sk vs i++Ag 4 e.id++Ag 1 e.st)) ((21+19*i+5:Nat):Int)) 173::blk p [I e.id,I e.st,I e.sz,I e.q,I e.r,I e.mp] 59::blk g [I nx,.slice c vs.length m,.slice f sk.length l] 41::A::B::R) w:=H;refine Z2 6 [2,1,0] H Z (z_E_ Z (call99 _) (CH (21+19*i+5) 4 e.sz (AW (by first|omega|(simp[Ah,a]<;>omega))) U) H ?_);intro w H;replace H:=H.l5;rw[show Bw (AL (Cf nx sk vs i++Ag 4 e.id++Ag 1 e.st)) (Ag 4 e.sz) (21+19*i+5)=AL (Cf nx sk vs i++Ag 4 e.id++Ag 1 e.st++Ag 4 e.sz) from BG (by first|omega|(simp[Ah,a]<;>omega)) (by first|omega|(simp[Ah,a]<;>omega))] at H;have H:Sep z (blk b (Bb (AL (Cf nx sk vs i++Ag 4 e.id++Ag 1 e.st++Ag 4 e.sz)) ((21+19*i+9:Nat):Int)) 173::blk p [I e.id,I e.st,I e.sz,I e.q,I e.r,I e.mp] 59::blk g [I nx,.slice c vs.length m,.slice f sk.length l] 41::A::B::R) w:=H;refine Z2 6 [3,1,0] H Z (z_E_ Z (call99 _) (CH (21+19*i+9) 4 e.q (AW (by first|omega|(simp[Ah,a]<;>omega))) U) H ?_);intro w H;replace H:=H.l5;rw[show Bw (AL (Cf nx sk vs i++Ag 4 e.id++Ag 1 e.st++Ag 4 e.sz)) (Ag 4 e.q) (21+19*i+9)=AL (Cf nx sk vs i++Ag 4 e.id++Ag 1 e.st++Ag 4 e.sz++Ag 4 e.q) from BG (by first|omega|(simp[Ah,a]<;>omega)) (by first|omega|(simp[Ah,a]<;>omega))] at H;have H:Sep z (blk b (Bb (AL (Cf nx sk vs i++Ag 4 e.id++Ag 1 e.st++Ag 4 e.sz++Ag 4 e.q)) ((21+19*i+13:Nat):Int)) 173::blk p [I e.id,I e.st,I e.sz,I e.q,I e.r,I e.mp] 59::blk g [I nx,.slice c vs.length m,.slice f sk.length l] 41::A::B::R) w:=H;refine Z2 6 [4,1,0] H Z (z_E_ Z (call99 _) (CH (21+19*i+13) 2 e.r (AW (by first|omega|(simp[Ah,a]<;>omega))) U) H ?_);intro w H;replace H:=H.l5;rw[show Bw (AL (Cf nx sk vs i++Ag 4 e.id++Ag 1 e.st++Ag 4 e.sz++Ag 4 e.q)) (Ag 2 e.r) (21+19*i+13)=AL (Cf nx sk vs i++Ag 4 e.id++Ag 1 e.st++Ag 4 e.sz++Ag 4 e.q++Ag 2 e.r) from BG (by first|omega|(simp[Ah,a]<;>omega)) (by first|omega|(simp[Ah,a]<;>omega))] at H;have H:Sep z (blk b (Bb (AL (Cf nx sk vs i++Ag 4 e.id++Ag 1 e.st++Ag 4 e.sz++Ag 4 e.q++Ag 2 e.r)) ((21+19*i+15:Nat):Int)) 173::blk p [I e.id,I e.st,I e.sz,I e.q,I e.r,I e.mp] 59::blk g [I nx,.slice c vs.length m,.slice f sk.length l] 41::A::B::R) w:=H;refine Z2 5 [5,1,0] H Z (z_E_ Z (call99 _) (CH (21+19*i+15) 4 e.mp (AW (by first|omega|(simp[Ah,a]<;>omega))) U) H ?_);intro w H;replace H:=H.l5;rw[show ((21+19*i+19:Nat):Int)=(((21+19*(i+1):Nat):Int):Int) from by omega] at H;rw[show Bw (AL (Cf nx sk vs i++Ag 4 e.id++Ag 1 e.st++Ag 4 e.sz++Ag 4 e.q++Ag 2 e.r)) (Ag 4 e.mp) (21+19*i+15)=AL (Cf nx sk vs i++Ag 4 e.id++Ag 1 e.st++Ag 4 e.sz++Ag 4 e.q++Ag 2 e.r++Ag 4 e.mp) from BG (by first|omega|(simp[Ah,a]<;>omega)) (by first|omega|(simp[Ah,a]<;>omega))] at H;have H:Sep z (blk b (Bb (AL (Cf nx sk vs i++Ag 4 e.id++Ag 1 e.st++Ag 4 e.sz++Ag 4 e.q++Ag 2 e.r++Ag 4 e.mp)) ((21+19*(i+1):Nat):Int)) 173::blk p [I e.id,I e.st,I e.sz,I e.q,I e.r,I e.mp] 59::blk g [I nx,.slice c vs.length m,.slice f sk.length l] 41::A::B::R) w:=H;refine Z1 7 [] [(i:Int)+1] Z U ?_;replace H:=H.f1.d;refine gf ?_;intro _ hF;refine ⟨(i+1),hF.cz,⟨(by rw[T3 nx sk he];exact H),?_⟩,?_⟩
  ·omega
  omega
 obtain rfl:i=vs.length:=by omega
 refine Zc 2 Z (gx (Zc 4 Z (z_E_ Z (call101 _) (LX (AW (by first|omega|(simp[Ah,a]<;>omega)))) H ?_)));intro w H;refine Zc 5 Z (Zr Z ?_);rw[show 21+19*vs.length=21+19*8 by rw[hv]] at H;exact ⟨_,⟨b,Z,Z⟩,H.perm 4 [0,2,3] Z Z⟩
set_option maxHeartbeats 4000000 in
theorem T6 (b o c:Nat) (bd:List UInt8) (A:Ai) (k:∀h,A h->rdH 1 (.slice (some ⟨b,o,none⟩) 240 c) 240 (bd.map u8) h) (nx:Int) (sk:List Int) (vs:List Vl) (hs:sk.length<=8) (j:vs.length=8) (a4:0<=nx/\nx<=1073741824) (a1:∀x∈sk,0<=x/\x<=1023) (hf:∀e∈vs,e.Fit) (a:bd=Dr nx sk vs):Ak 114 [.slice (some ⟨b,o,none⟩) 240 c] [A] (λv G=>∃v1 v2:Value,(sk=[]->v2=.slice none 0 0)/\v=.tuple #[.agg #[I nx,v1,v2],.bool true]/\G=[grow 59 6 v1 vs.length (AY vs),grow 3 1 v2 sk.length (sk.map I),A]):=by
 intro z R w H;replace H:=H.l1;have c3:=H.sy 0 (λq=>(k _ q).cap);have g0:A5 ((bd.drop 0).take 4)=nx:=by rw[a];exact Wz hs j a4
 have g1:A5 ((bd.drop 4).take 1)=(sk.length:Int):=by rw[a];exact WA hs j
 refine Ae func114 Z ntmps114 Z (Za 2 [] H Z ?_);intro p w H;refine Za 6 [] H Z ?_;intro s w H;refine Za 18 [0,4] H Z ?_;intro n w H;refine Z4 5 [0] H Z ?_;intro w H;refine z_E_ Z (call164 _) (CB 4 b o 240 (c) ((bd.drop 0).take 240) (λh q=>by have:=(k h q).cut (lo:=0) (m:=240) (c':=c) U U U;exact this) U U ((bd.drop 0).take 4) (by rw[AeG,AeH U]) (o+4) 236 (c-4) U U U) H.f3.f1 ?_;intro w H;replace H:=H.l4;refine AD 17 (v:=I nx) Z (congrArg I g0) (Za 1 [] H Z ?_);intro l w H;refine Z4 5 [0] H Z ?_;intro w H;refine z_E_ Z (call164 _) (CB 1 b (o+4) 236 ((c-4)) ((bd.drop 4).take 236) (λh q=>by have:=(k h q).cut (lo:=4) (m:=236) (c':=(c-4)) U U U;exact this) U U ((bd.drop 4).take 1) (by rw[AeG,AeH U]) (o+5) 235 (c-5) U U U) H.f2.f2 ?_;intro w H;replace H:=H.l5;refine AD 19 (v:=I (sk.length:Int)) Z (congrArg I g1) (Z0 10 [0] Z (Af Z (λh1=>U) (λh1=>?_)));refine Zc 4 Z ?_;replace H:=(H.nilg 3 1).l6;refine Zc 6 Z ?_;refine AF (σ:=Nat×Value) (λ⟨i,v⟩=>[(24,I (i:Int)),(2,Y p),(3,.bool false),(4,Y s),(5,Y n),(6,Y l),(7,I (sk.length:Int)),(23,I (sk.length:Int))])
   (λ⟨i,v⟩ w=>Sep z (grow 3 1 v i ((sk.take i).map I)::blk n [.slice (some ⟨b,(o+(5+2*i)),none⟩) (240-(5+2*i)) (c-(5+2*i))] 259::A::blk l [I nx,.slice none 0 0,v] 41::blk s [I 0,.slice none 0 0,.slice none 0 0] 41::blk p [I 0,.slice none 0 0,.slice none 0 0] 41::R) w/\(i<=sk.length/\(i=0->v=.slice none 0 0))) (λ⟨i,v⟩=>sk.length-i) ⟨0,.slice none 0 0⟩
   fr_z ⟨H,⟨AeR _,λ_=>rfl⟩⟩ ?_
 clear H;rintro ⟨i,v⟩ w ⟨f,t⟩;dsimp only at t f ⊢;have H:=f.l6;have sv:=H.sy 0 (·.slc);obtain ⟨a7,b8⟩:=t;refine Z0 6 [0] Z (Af Z (λh2=>?_) (λh2=>?_))
 ·refine Zc 4 Z ?_;obtain ⟨x,hx⟩:∃x,sk[i]?=some x:=⟨_,Aef U⟩;have c0:=a1 x (Aeg hx)
  have gx:A5 ((bd.drop (5+2*i)).take 2)=x:=by rw[a];exact Ach hs j hx c0
  replace H:=H.f3;refine Bf (Sep z (blk l [I nx,.slice none 0 0,v] 41::R)) 7 Z J (A4 H λw f=>?_);have H:=f.l6;refine Bo [0,1] [2,0] J (λ_ hx=>(AN (hx.blk 0 Z) AH)) (by exact H.pick 6 [0] Z) Z J Z Z (Ay [2] J O (Al (Br Z Z Z Z Z Z (λw=>call164 _ w) (CB 2 b (o+(5+2*i)) (240-(5+2*i)) ((c-(5+2*i))) ((bd.drop (5+2*i)).take (240-(5+2*i))) (λh q=>by have:=(k h q).cut (lo:=(5+2*i)) (m:=(240-(5+2*i))) (c':=(c-(5+2*i))) U U U;exact this) U U ((bd.drop (5+2*i)).take 2) (by rw[AeG,AeH U]) (o+(5+2*(i+1))) (240-(5+2*(i+1))) (c-(5+2*(i+1))) U U U) H.f3.f3 Z ?_)));rintro _ w _ ⟨rfl,rfl⟩ H;replace H:=H.l6;refine AD 28 (v:=I x) Z (congrArg I gx) (Ar (λ_=>(H.pick 6 [2] Z)) (Ay [3] J O (Al (BU Z Z Z Z (AP H Z J BC Z (by decide) (by decide) (out:=[I x]) J) ?_))));rintro _ w ⟨b5,rfl,H⟩;replace H:=H.l7;refine Ar (λ_=>(H.pick 7 [3] Z)) (Ay [4] J O (Al (BU Z Z Z Z (AX 4 H Z Z J BC Z Z (H.rv 0 (·.rd U U O Z)) (by simp[Value.oneCell']) U) ?_)));rintro v6 w f;have f:Sep z (blk b5 [I x] 3::blk n [.slice (some ⟨b,(o+(5+2*(i+1))),none⟩) (240-(5+2*(i+1))) (c-(5+2*(i+1)))] 259::A::blk l [I nx,.slice none 0 0,v] 41::grow 3 1 v6 (i+1) ((sk.take i).map I++[I x])::blk s [I 0,.slice none 0 0,.slice none 0 0] 41::blk p [I 0,.slice none 0 0,.slice none 0 0] 41::R) w:=f;have b9:((sk.take i).map I++[I x]:List Value)=(sk.take (i+1)).map I:=(D6 hx);rw[b9] at f;have H:=f.l7;have a5:=H.sy 4 (·.slc);refine Ar (λ_=>(H.pick 7 [3] Z)) (Bo [5] [2] J (λ_ _=>AH) (by exact H.pick 7 [3] Z) Z J Z Z (Ay [6] J O (Al (Bl Z Z Z (JZ 3 H Z Z Z Z a5.cells a5.one J) ?_))));rintro w H;replace H:=H.l7;refine Ar (λh=>absurd Z h) (AV J (gn (Z1 6 [] [(i:Int)+1] Z U ?_)));replace H:=H.d.f5.f5.f4.f4.f4.f5;refine gf ?_;intro _ hF;refine ⟨⟨i+1,v6⟩,hF.cz,⟨H,?_⟩,?_⟩
  ·exact ⟨by dsimp only;omega,λq=>absurd q (by dsimp only;omega)⟩
  (dsimp only;omega)
 obtain rfl:i=sk.length:=by omega
 refine Zc 2 Z (gx (Z1 11 [] [8-(sk.length:Int)] Z U ?_));refine AF (σ:=Nat) (λi=>[(35,I (i:Int)),(2,Y p),(4,Y s),(5,Y n),(6,Y l),(34,I (8-(sk.length:Int)))])
   (λi w=>Sep z (grow 3 1 v sk.length ((sk.take sk.length).map I)::blk n [.slice (some ⟨b,(o+(5+2*sk.length+2*i)),none⟩) (240-(5+2*sk.length+2*i)) (c-(5+2*sk.length+2*i))] 259::A::blk l [I nx,.slice none 0 0,v] 41::blk s [I 0,.slice none 0 0,.slice none 0 0] 41::blk p [I 0,.slice none 0 0,.slice none 0 0] 41::R) w/\(i<=8-sk.length)) (λi=>8-sk.length-i) 0
   fr_z ⟨H,AeR _⟩ ?_
 clear H;rintro i w ⟨f,t⟩;have H:=f.l6;have a7:=t;clear t;refine Z0 6 [0] Z (Af Z (λh3=>?_) (λh3=>?_))
 ·refine Zc 6 Z (z_E_ Z (call164 _) (CB 2 b (o+(5+2*sk.length+2*i)) (240-(5+2*sk.length+2*i)) ((c-(5+2*sk.length+2*i))) ((bd.drop (5+2*sk.length+2*i)).take (240-(5+2*sk.length+2*i))) (λh q=>by have:=(k h q).cut (lo:=(5+2*sk.length+2*i)) (m:=(240-(5+2*sk.length+2*i))) (c':=(c-(5+2*sk.length+2*i))) U U U;exact this) U U ((bd.drop (5+2*sk.length+2*i)).take 2) (by rw[AeG,AeH U]) (o+(5+2*sk.length+2*(i+1))) (240-(5+2*sk.length+2*(i+1))) (c-(5+2*sk.length+2*(i+1))) U U U) H.f2.f2 ?_);intro w H;replace H:=H.l6;refine AD 37 (v:=I 0) Z (congrArg I (by rw[a];exact ZY hs j U)) (Z1 11 [4] [(i:Int)+1] Z U ?_);replace H:=H.f5.f5.f5.f4.f4.f5;refine gf ?_;intro _ hF;refine ⟨(i+1),hF.cz,⟨H,?_⟩,?_⟩
  ·omega
  omega
 obtain rfl:i=8-sk.length:=by omega
 have a9:5+2*sk.length+2*(8-sk.length)=21:=by omega
 rw[a9] at H;refine Zc 2 Z (gx (Zc 4 Z ?_));have H:Sep z (grow 3 1 v sk.length ((sk.take sk.length).map I)::blk n [.slice (some ⟨b,(o+21),none⟩) 219 (c-21)] 259::A::blk l [I nx,.slice none 0 0,v] 41::blk s [I 0,.slice none 0 0,.slice none 0 0] 41::blk p [I 0,.slice none 0 0,.slice none 0 0] 41::R) w:=H;replace H:=(H.nilg 59 6).l7;refine Zc 5 Z ?_;refine AF (σ:=Nat×Value) (λ⟨i,u⟩=>[(41,I (i:Int)),(2,Y p),(4,Y s),(5,Y n),(6,Y l)])
   (λ⟨i,u⟩ w=>Sep z (grow 59 6 u i (AY (vs.take i))::grow 3 1 v sk.length ((sk.take sk.length).map I)::blk n [.slice (some ⟨b,(o+(21+19*i)),none⟩) (240-(21+19*i)) (c-(21+19*i))] 259::A::blk l [I nx,u,v] 41::blk s [I 0,.slice none 0 0,.slice none 0 0] 41::blk p [I 0,.slice none 0 0,.slice none 0 0] 41::R) w/\(i<=vs.length)) (λ⟨i,u⟩=>vs.length-i) ⟨0,.slice none 0 0⟩
   fr_z ⟨H,AeR _⟩ ?_
 clear H;rintro ⟨i,u⟩ w ⟨f,t⟩;dsimp only at t f ⊢;have H:=f.l7;have su:=H.sy 0 (·.slc);have sv:=H.sy 1 (·.slc);have a7:=t;refine Z0 6 [0] Z (Af Z (λh4=>?_) (λh4=>?_))
 ·refine Zc 4 Z ?_;obtain ⟨e,y⟩:∃e,vs[i]?=some e:=⟨_,Aef U⟩;have g:=hf e (Aeg y)
  have a6:A5 ((bd.drop (21+19*i)).take 4)=e.id:=by rw[a];exact Aci hs j y g
  have a8:A5 ((bd.drop (21+19*i+4)).take 1)=e.st:=by rw[a];exact Acj hs j y g
  have a0:A5 ((bd.drop (21+19*i+5)).take 4)=e.sz:=by rw[a];exact Ack hs j y g
  have b0:A5 ((bd.drop (21+19*i+9)).take 4)=e.q:=by rw[a];exact Adl hs j y g
  have c1:A5 ((bd.drop (21+19*i+13)).take 2)=e.r:=by rw[a];exact Adm hs j y g
  have a2:A5 ((bd.drop (21+19*i+15)).take 4)=e.mp:=by rw[a];exact Acl hs j y g
  replace H:=H.f4;refine Bf (Sep z (blk l [I nx,u,v] 41::R)) 13 Z J (A4 H λw f=>?_);have H:=f.l7;refine Bo [0,1] [1,0] J (λ_ hx=>(AN (hx.blk 0 Z) AH)) (by exact H.pick 7 [0] Z) Z J Z Z (Ay [2] J O (Al (Br Z Z Z Z Z Z (λw=>call164 _ w) (CB 4 b (o+(21+19*i)) (240-(21+19*i)) ((c-(21+19*i))) ((bd.drop (21+19*i)).take (240-(21+19*i))) (λh q=>by have:=(k h q).cut (lo:=(21+19*i)) (m:=(240-(21+19*i))) (c':=(c-(21+19*i))) U U U;exact this) U U ((bd.drop (21+19*i)).take 4) (by rw[AeG,AeH U]) (o+(21+19*i+4)) (240-(21+19*i+4)) (c-(21+19*i+4)) U U U) H.f4.f4 Z ?_)));rintro _ w _ ⟨rfl,rfl⟩ H;replace H:=H.l7;refine AD 45 (v:=I e.id) Z (congrArg I a6) (Ar (λ_=>(H.pick 7 [2] Z)) (Ay [3] J O (Al (Br Z Z Z Z Z Z (λw=>call164 _ w) (CB 1 b (o+(21+19*i+4)) (240-(21+19*i+4)) ((c-(21+19*i+4))) ((bd.drop (21+19*i+4)).take (240-(21+19*i+4))) (λh q=>by have:=(k h q).cut (lo:=(21+19*i+4)) (m:=(240-(21+19*i+4))) (c':=(c-(21+19*i+4))) U U U;exact this) U U ((bd.drop (21+19*i+4)).take 1) (by rw[AeG,AeH U]) (o+(21+19*i+5)) (240-(21+19*i+5)) (c-(21+19*i+5)) U U U) H Z ?_))));rintro _ w _ ⟨rfl,rfl⟩ H;replace H:=H.l7;refine AD 46 (v:=I e.st) Z (congrArg I a8) (Ar (λ_=>(H.pick 7 [2] Z)) (Ay [4] J O (Al (Br Z Z Z Z Z Z (λw=>call164 _ w) (CB 4 b (o+(21+19*i+5)) (240-(21+19*i+5)) ((c-(21+19*i+5))) ((bd.drop (21+19*i+5)).take (240-(21+19*i+5))) (λh q=>by have:=(k h q).cut (lo:=(21+19*i+5)) (m:=(240-(21+19*i+5))) (c':=(c-(21+19*i+5))) U U U;exact this) U U ((bd.drop (21+19*i+5)).take 4) (by rw[AeG,AeH U]) (o+(21+19*i+9)) (240-(21+19*i+9)) (c-(21+19*i+9)) U U U) H Z ?_))));rintro _ w _ ⟨rfl,rfl⟩ H;replace H:=H.l7;refine AD 47 (v:=I e.sz) Z (congrArg I a0) (Ar (λ_=>(H.pick 7 [2] Z)) (Ay [5] J O (Al (Br Z Z Z Z Z Z (λw=>call164 _ w) (CB 4 b (o+(21+19*i+9)) (240-(21+19*i+9)) ((c-(21+19*i+9))) ((bd.drop (21+19*i+9)).take (240-(21+19*i+9))) (λh q=>by have:=(k h q).cut (lo:=(21+19*i+9)) (m:=(240-(21+19*i+9))) (c':=(c-(21+19*i+9))) U U U;exact this) U U ((bd.drop (21+19*i+9)).take 4) (by rw[AeG,AeH U]) (o+(21+19*i+13)) (240-(21+19*i+13)) (c-(21+19*i+13)) U U U) H Z ?_))));rintro _ w _ ⟨rfl,rfl⟩ H;replace H:=H.l7;refine AD 48 (v:=I e.q) Z (congrArg I b0) (Ar (λ_=>(H.pick 7 [2] Z)) (Ay [6] J O (Al (Br Z Z Z Z Z Z (λw=>call164 _ w) (CB 2 b (o+(21+19*i+13)) (240-(21+19*i+13)) ((c-(21+19*i+13))) ((bd.drop (21+19*i+13)).take (240-(21+19*i+13))) (λh q=>by have:=(k h q).cut (lo:=(21+19*i+13)) (m:=(240-(21+19*i+13))) (c':=(c-(21+19*i+13))) U U U;exact this) U U ((bd.drop (21+19*i+13)).take 2) (by rw[AeG,AeH U]) (o+(21+19*i+15)) (240-(21+19*i+15)) (c-(21+19*i+15)) U U U) H Z ?_))));rintro _ w _ ⟨rfl,rfl⟩ H;replace H:=H.l7;refine AD 49 (v:=I e.r) Z (congrArg I c1) (Ar (λ_=>(H.pick 7 [2] Z)) (Ay [7] J O (Al (Br Z Z Z Z Z Z (λw=>call164 _ w) (CB 4 b (o+(21+19*i+15)) (240-(21+19*i+15)) ((c-(21+19*i+15))) ((bd.drop (21+19*i+15)).take (240-(21+19*i+15))) (λh q=>by have:=(k h q).cut (lo:=(21+19*i+15)) (m:=(240-(21+19*i+15))) (c':=(c-(21+19*i+15))) U U U;exact this) U U ((bd.drop (21+19*i+15)).take 4) (by rw[AeG,AeH U]) (o+(21+19*(i+1))) (240-(21+19*(i+1))) (c-(21+19*(i+1))) U U U) H Z ?_))));rintro _ w _ ⟨rfl,rfl⟩ H;replace H:=H.l7;refine AD 50 (v:=I e.mp) Z (congrArg I a2) (Ar (λ_=>(H.pick 7 [2] Z)) (By 8 J Z Z J J J Z Z Z (Be Z Z (out:=[I e.id,I e.st,I e.sz,I e.q,I e.r,I e.mp]) J) (H.pick 7 [2] Z) (Ay [9] J O (Al (BU Z Z Z Z (AP H Z J Ci Z (by decide) (by decide) (out:=[I e.id,I e.st,I e.sz,I e.q,I e.r,I e.mp]) J) ?_)))));rintro _ w ⟨b7,rfl,H⟩;replace H:=H.l8;refine Ar (λ_=>(H.pick 8 [3] Z)) (Ay [10] J O (Al (BU Z Z Z Z (AX 4 H Z Z J Ci Z Z (H.rv 0 (·.rd U U O Z)) (λc hc=>QT [e] c (by simpa [AY,Vl.cells] using hc)) U) ?_)));rintro v8 w f;have f:Sep z (blk b7 [I e.id,I e.st,I e.sz,I e.q,I e.r,I e.mp] 59::blk n [.slice (some ⟨b,(o+(21+19*(i+1))),none⟩) (240-(21+19*(i+1))) (c-(21+19*(i+1)))] 259::A::blk l [I nx,u,v] 41::grow 59 6 v8 (i+1) (AY (vs.take i)++[I e.id,I e.st,I e.sz,I e.q,I e.r,I e.mp])::grow 3 1 v sk.length ((sk.take sk.length).map I)::blk s [I 0,.slice none 0 0,.slice none 0 0] 41::blk p [I 0,.slice none 0 0,.slice none 0 0] 41::R) w:=f;have b6:(AY (vs.take i)++[I e.id,I e.st,I e.sz,I e.q,I e.r,I e.mp]:List Value)=AY (vs.take (i+1)):=(ZZ y);rw[b6] at f;have H:=f.l8;have a3:=H.sy 4 (·.slc);refine Ar (λ_=>(H.pick 8 [3] Z)) (Bo [11] [1] J (λ_ _=>AH) (by exact H.pick 8 [3] Z) Z J Z Z (Ay [12] J O (Al (Bl Z Z Z (Lw 3 H Z Z Z Z a3.cells a3.one J) ?_))));rintro w H;replace H:=H.l8;refine Ar (λh=>absurd Z h) (AV J (gn (Z1 6 [] [(i:Int)+1] Z U ?_)));replace H:=H.d.f6.f6.f4.f4.f4.f6.f6;refine gf ?_;intro _ hF;refine ⟨⟨i+1,v8⟩,hF.cz,⟨H,?_⟩,?_⟩
  ·dsimp only;omega
  (dsimp only;omega)
 obtain rfl:i=vs.length:=by omega
 refine Zc 2 Z (gx (Zc 4 Z ?_));rw[show vs.take vs.length=vs from Afa,show sk.take sk.length=sk from Afa] at H;refine Z2 2 [4,3] H Z (Au Z (call47 _) (Jb nx sk vs (λh q=>q.rd) (λh q=>q.rd) hs j a4 a1 hf) H ?_);rintro _ w _ ⟨pw,rfl,rfl⟩ H;refine Z0 12 [4] Z (z_E_ Z (call165 _) (K6 b (o+(21+19*vs.length)) (240-(21+19*vs.length)) ((c-(21+19*vs.length))) ((bd.drop (21+19*vs.length)).take (240-(21+19*vs.length))) (λh q=>by have:=(k h q).cut (lo:=(21+19*vs.length)) (m:=(240-(21+19*vs.length))) (c':=(c-(21+19*vs.length))) U U U;exact this) (.inr ⟨by omega,by rw[a,show 21+19*vs.length=173 by omega,show 240-173=67 from Z];exact O7 hs j,by omega⟩)) H.f4.f4 ?_);intro w H;replace H:=H.l8;refine Ad Z (AG Z Z) (Zc 3 Z (Af Z (λh5=>?_) (λh5=>?_)))
 ·exact absurd (by rw[a,show 21+19*vs.length=173 by omega,show 240-173=67 from Z];exact O7 hs j) h5
 refine Z2 5 [5,3] H Z (AC Z Z (Am 7 H Z Z Z Z (vs:=[I nx,u,v]) Z (Ab Z (Ab su.one (Ab sv.one Aw))) J O (out:=[I nx,u,v]) Z) ?_);rintro w H;replace H:=H.l8;refine Zc 4 Z (Zl [7,3] H Z ?_);exact ⟨_,⟨u,v,λq=>b8 (by rw[q];rfl),Z,Z⟩,H.perm 8 [3,4,1] Z Z⟩
set_option maxHeartbeats 2000000 in
theorem RY (dn n:Nat) (hn:16<=n/\n<=1024) (a1:(CC n s t 2).Ok (dn:Int)):Ak 21 [Y j,I (n:Int),I s,I t] [diskA j (Cv dn)] (λv G=>∃(p:Dsk) (c:StG) (bs:List UInt8),bs.length=256/\bs=AL (Cf 1 [] (List.replicate 8 v0) (List.replicate 8 v0).length)/\OInv p c.x c.B (λgot=>got=c.rs)/\Clean p/\(c.x.gen<=((5:Nat):Int)/\c.x.epoch<=((5:Nat):Int))/\p.n=dn/\c.x.pages=n/\c.M=Ek (λ_=>noPg) (some (gF n (bs.take 240) (manyN n),1+manyN n))/\v=I 0/\G=[diskA j p]):=by
 intro z R w H;have b2:=OK hn.1;have b3:=Ki hn.2;refine Ae func21 Z ntmps21 Z (Zc 12 Z (z_E_ Z (call44 _) (VT dn a1) H ?_));intro w H;refine Z0 15 [4] Z (Au Z (call45 _) (TF (Y3 a1) (VR) (show (2:Int)<=(2:Nat)/\(1:Int)<=(2:Nat) by omega) U) H ?_);rintro _ w _ ⟨ps,D0,a9,r,a7,a2,rfl,rfl⟩ H;subst r;have a:Sep z (stoA ps j D0 (Qx (CC n s t 2) (λ_=>noPg)) none::R) w:=H;clear H;have H:=a.l1;refine Z0 21 [4] Z (z_E_ Z (call46 _) (Qy) H ?_);intro w H;refine Z0 14 [4] Z (AU Z (Zg (k:=8) (out:=Xx) H Z J Ci Z Z U J) ?_);rintro _ w ⟨b1,rfl,H⟩;refine Zc 1 Z ?_;replace H:=(H.nilg 3 1).l3;refine Au Z (call47 _) (Jb 1 [] (List.replicate 8 v0) (λh q=>q.rd U U (by simp[Xx]) (by rfl)) (λh q=>q.rd) O O U O (λe he=>by rw[(Af5.1 he).2];exact v0_fit)) H.f1 ?_;rintro _ w _ ⟨pw,rfl,rfl⟩ H;obtain ⟨bs,g⟩:∃bs,bs=AL (Cf 1 [] (List.replicate 8 v0) (List.replicate 8 v0).length):=⟨_,Z⟩;have l:bs.length=256:=by rw[g];exact AW (by rw[Ez 1 O (Ael _),Afl];omega)
 rw[<-g] at H;refine Z0 23 [4] Z (Au Z (call48 _) (Gz 0 (by show (0:Int)<(n:Int);omega) ⟨1,bs.take 240⟩ ⟨by show (1:Int)<=1/\(1:Int)<=5;omega,by show (bs.take 240).length=240;rw[AeA];omega⟩ (λh q=>q.rd U U (V4 l) (Zh l))) H.f3 ?_);rintro _ w _ (⟨b,rfl,rfl⟩|⟨_,rfl,rfl⟩) a
 ·(exfalso;have:=b.2;omega)
 have H:=a.l4;rw[Zj n] at H;refine Z0 15 [4] Z (Au Z (call49 _) (Tv U) H ?_);rintro _ w _ ⟨pc,bn,m,rfl,rfl⟩ H;refine Z0 20 [4] Z (z_E_ Z (call50 _) (Gf U) H ?_);intro w H;refine Z1 12 [] [(manyN n:Int)+1] Z U ?_;refine AF (σ:=Nat×List IE×Nat) (λ⟨i,o,clk⟩=>[(70,I (i:Int)),(8,I 0),(10,Y ps),(15,Y pc),(16,I (manyN n:Int)),(69,I ((manyN n:Int)+1))])
   (λ⟨i,o,clk⟩ w=>Sep z (coB pc bn n m::Ch bn (C1 i) n::AJ m o clk::stoA ps j D0 (Qx (CC n s t 2) (λ_=>noPg)) (some (gF n (bs.take 240) 0,1+0))::blk pw (Bb bs ((21+19*8:Nat):Int)) 173::blk b1 Xx 59::grow 3 1 (.slice none 0 0) 0 []::R) w/\(i<=manyN n+1/\WasOk (C1 i) (λ_=>0) n o clk)) (λ⟨i,o,clk⟩=>manyN n+1-i) ⟨0,[],0⟩
   fr_z ⟨(by rw[QC];exact H),⟨by omega,by rw[QC];exact WasOk.nil _ _ _⟩⟩ ?_
 clear H;rintro ⟨i,o,clk⟩ w ⟨a,u⟩;dsimp only at u a ⊢;have H:=a.l7;obtain ⟨a5,W⟩:=u;have a0:C1 i i=0:=by simp[C1]
 refine Z0 6 [0] Z (Af Z (λh1=>?_) (λh1=>?_))
 ·refine Zc 13 Z (Au Z (call51 _) (I2 (λ_=>0) i 1 U U (by rw[a0];rfl) U (by rw[a0];omega) W) H ?_);rintro _ w _ ⟨l2,y,W2,rfl,rfl⟩ H;refine Z1 7 [] [(i:Int)+1] Z U (gf ?_);intro _ hF;refine ⟨⟨i+1,l2,y⟩,hF.cz,⟨(by rw[<-QB];exact H),?_⟩,?_⟩
  ·dsimp only;exact ⟨by omega,by rw[<-QB];exact W2⟩
  (dsimp only;omega)
 obtain rfl:i=manyN n+1:=by omega
 refine Zc 2 Z (gx (Zc 10 Z ?_));refine AF (σ:=Nat) (λi=>[(78,I (i:Int)),(10,Y ps),(15,Y pc),(77,I (manyN n:Int))])
   (λi w=>Sep z (coB pc bn n m::Ch bn (C1 (manyN n+1)) n::AJ m o clk::stoA ps j D0 (Qx (CC n s t 2) (λ_=>noPg)) (some (gF n (bs.take 240) i,1+i))::blk pw (Bb bs ((21+19*8:Nat):Int)) 173::blk b1 Xx 59::grow 3 1 (.slice none 0 0) 0 []::R) w/\(i<=manyN n)) (λi=>manyN n-i) 0
   fr_z ⟨H,by omega⟩ ?_
 clear H;rintro i w ⟨a,u⟩;have H:=a.l7;have a5:=u;clear u;refine Z0 6 [0] Z (Af Z (λh2=>?_) (λh2=>?_))
 ·refine Z1 17 [] [((1+i:Nat):Int)] Z U (Au Z (call52 _) (Qr i U U (RR)) H ?_);rintro _ w _ ⟨pq,rfl,rfl⟩ H;refine Zc 1 Z (Au Z (call48 _) (Gz (1+i) (by show ((1+i:Nat):Int)<(n:Int);omega) (DC (C1 (manyN n+1)) n i) (Fc) (λh q=>q.rd U U (OJ (Fc).2) (QA (Fc).2))) H.f4 ?_);rintro _ w _ (⟨b,rfl,rfl⟩|⟨_,rfl,rfl⟩) a
  ·(exfalso;have:=b.2;omega)
  have H:=a.l8;rw[Zi] at H;refine Z1 17 [4] [(i:Int)+1] Z U ?_;replace H:=H.f1.d.f6.f6.f6.f3.f6.f6.f6;refine gf ?_;intro _ hF;refine ⟨(i+1),hF.cz,⟨H,?_⟩,?_⟩
  ·omega
  omega
 obtain rfl:i=manyN n:=by omega
 refine Zc 2 Z (gx (Zc 6 Z (Au Z (call53 _) (OG 3 a7 U) H.f3 ?_)));rintro _ w _ ⟨p,c,f,a8,⟨a4,b0⟩,a6,rfl,rfl⟩ H;refine Z0 15 [4] Z (Au Z (call54 _) (sync_s 5 f) H ?_);rintro _ w _ ⟨rfl,a3,rfl⟩ H;refine Zc 4 Z (Zr Z ?_);have H2:=H.pick 7 [0] Z;obtain ⟨hO,a⟩:=H2.flDisk (by have:=f.q;omega);exact ⟨_,⟨p.fl,c,bs,l,g,hO,a3.clean,⟨f.gen,f.epoch⟩,a8.trans (a2.trans (VS _ _ _ _)),(a6.elim (λe=>by rw[e];rfl) (λe=>by rw[e];rfl)),a4,Z,Z⟩,a⟩
section
section
variable{P:Program}{ops:List Oper}{N R:Act->World->Prop}{X:Nat->Act->World->Prop}{n d i:Nat}{ds:List Deferred}{L:List (Nat×Value)}{w z:World}{k:Kd}{rest:List Oper}{o:Oper}{Γ pre R':List Ai}{post:Value->List Ai->Prop}{f:FuncId}{vs us:List Value}{x:Operand}{args:List Operand}{tys:Array TypeId}
theorem Kt{a:Act}(c:Fr n ds L a)(d:o.op=.call {callee:=.value x,args:=args.toArray,argTypes:=tys})(g:ev L x=some (.func (.func f) #[] us.toArray))(b:evs L args=some vs)(e:∀w,(callFunc f (vs++us).toArray).run P w=.ok (.enter f (vs++us).toArray) w):(execOp a.eval o).run P w=.ok (.enter f (vs++us).toArray) w:=by
 have e1:=c.evs b;have e2:=c.ev g;unfold execOp;simp only[d,resolve,e2,Deferred.ofValue,invoke];simp only[go_sem,AeZ,e1,AeY];simpa using e w
theorem AdV(h:IQ ops L n o=some d)(y:o.op=.call {callee:=.value x,args:=args.toArray,argTypes:=tys})(m:ev L x=some (.func (.func f) #[] us.toArray))(b:evs L args=some vs)(l:∀w,(callFunc f (vs++us).toArray).run P w=.ok (.enter f (vs++us).toArray) w)(t:Cn P f (vs++us) pre post)(H:Sep z (pre++R') w)
  (K:∀v g Γ',post v Γ'->Sep z (Γ'++R') g->∀a',Fr n ds ((d,v)::L) a'->BT P N X R (.o ops rest k) a' g):∀a,Fr n ds L a->BT P N X R (.o ops (o::rest) k) a w:=by
 intro a i;obtain ⟨u,r,j⟩:=Eg h;show wpList P ops.toArray _ (o::rest) a w;unfold wpList;rw[if_pos (wantL_ok i u)];left;unfold Oper.wp;rw[Kt i y m b l,AgP];exact Agx (t.use H) λe g q=>by
  cases e with
  | returned v=>obtain ⟨Γ',p,s⟩:=q;simp only[r];exact K v g Γ' p s _ (i.put d v j)
  | panicked c=>exact q.elim
  | outgrown=>exact q.elim
theorem Acm{K:Act->World->Prop}(hi:ops[i]?=some o)(u:BN ops L o.guard=true)(r:o.dst=some d)(h:Nat.blt d n=true)(y:o.op=.call {callee:=.value x,args:=args.toArray,argTypes:=tys})(l:ev L x=some (.func (.func f) #[] us.toArray))(b:evs L args=some vs)(k:∀w,(callFunc f (vs++us).toArray).run P w=.ok (.enter f (vs++us).toArray) w)(t:Cn P f (vs++us) pre post)(H:Sep z Γ w)(e:Γ=pre++R')
  (m:∀v g Γ',post v Γ'->Sep z (Γ'++R') g->∀a',Fr n ds ((d,v)::L) a'->K a' g):∀a,Fr n ds L a->wpOp P ops.toArray (Qp N X R) i K a w:=by
 intro a j;unfold wpOp;rw[Afh,hi];simp only;rw[if_pos (wantL_ok j u)];left;unfold Oper.wp;rw[Kt j y l b k,AgP];exact Agx (t.use (e▸H)) λe g q=>by
  cases e with
  | returned v=>obtain ⟨Γ',p,s⟩:=q;simp only[r];exact m v g Γ' p s _ (j.put d v h)
  | panicked c=>exact q.elim
  | outgrown=>exact q.elim
end
def B4(sv:Value)(sk:List Int):Ai:=λh=>grow 3 1 sv sk.length (sk.map (Value.int .i64)) h/\(sk=[]->sv=.slice none 0 0)
def voA(pv pp:Nat)(nx:Int)(sk:List Int)(vs:List Vl):Ai:=λh=>∃u:Value×Value,True/\seps [blk pv [.pointer (some ⟨pp,0,none⟩),.int .i64 nx,u.1,u.2] 71,grow 59 6 u.1 vs.length (AY vs),B4 u.2 sk] h
theorem Sep.vo{z w:World}{Γ:List Ai}{vs:List Vl}(H:Sep z (voA m j t l vs::Γ) w):∃b a:Value,Sep z (YtkblhjdljaoghaaGreatDoor.blk m [Y j,I t,b,a] 71::YtkblhjdljaoghaaGreatDoor.grow 59 6 b vs.length (AY vs)::B4 a l::Γ) w:=by
 obtain ⟨u,_,H⟩:=H.into (p:=λ_:Value×Value=>True) (As:=λu=>[YtkblhjdljaoghaaGreatDoor.blk m [Y j,I t,u.1,u.2] 71,YtkblhjdljaoghaaGreatDoor.grow 59 6 u.1 vs.length (AY vs),B4 u.2 l]) (λ_ q=>q);exact ⟨u.1,u.2,H⟩
theorem Sep.toVo{z w:World}{Γ:List Ai}{vs:List Vl}(H:Sep z (YtkblhjdljaoghaaGreatDoor.blk m [Y j,I t,v,u] 71::YtkblhjdljaoghaaGreatDoor.grow 59 6 v vs.length (AY vs)::B4 u l::Γ) w):Sep z (voA m j t l vs::Γ) w:=H.made 3 (λh q=>⟨(v,u),trivial,q⟩)
theorem WB(b a e:Nat)(vs:List Vl)(A:Ai)(i:∀h,A h->rdH 6 (.slice (some ⟨b,a,none⟩) vs.length e) vs.length (AY vs) h)(k:0<vs.length/\vs.length<=1073741824):Ak 58 [.slice (some ⟨b,a,none⟩) vs.length e] [A] (λv G=>∃f:Value,v=f/\G=[grow 59 6 f vs.length (AY vs),A]):=by
 intro z R w H;refine Ae func58 Z ntmps58 Z (Zc 9 Z (Ad Z (Io Z J Z Z) (Zc 7 Z (AU Z (EY H Z J Ci) ?_))));rintro _ w ⟨j,rfl,H⟩;refine Zc 1 Z ?_;replace H:=(H.mono 0 (B:=grow 59 6 (.slice (some ⟨j,0,none⟩) 0 0) 0 []) Z (λh q=>q.grow U U O Z)).l2;refine AU Z (AX 0 H Z Z J Ci Z Z (H.rd 1 Z i) (QT _) U) ?_;rintro l w d;have c:([]++AY vs:List Value)=AY vs:=by simp
 rw[c] at d;rw[show (0+vs.length:Nat)=vs.length from by omega] at d;have H:=d.l2;refine Zc 4 Z (Zr Z ?_);exact ⟨_,⟨_,Z,Z⟩,H⟩
theorem T7(b a e:Nat)(sk:List Int)(i:∀h,A h->rdH 1 (.slice (some ⟨b,a,none⟩) sk.length e) sk.length (sk.map I) h)(k:0<sk.length/\sk.length<=1073741824):Ak 59 [.slice (some ⟨b,a,none⟩) sk.length e] [A] (λv G=>∃f:Value,v=f/\G=[grow 3 1 f sk.length (sk.map I),A]):=by
 intro z R w H;refine Ae func59 Z ntmps59 Z (Zc 9 Z (Ad Z (Io Z J Z Z) (Zc 7 Z (AU Z (EY H Z J BC) ?_))));rintro _ w ⟨j,rfl,H⟩;refine Zc 1 Z ?_;replace H:=(H.mono 0 (B:=grow 3 1 (.slice (some ⟨j,0,none⟩) 0 0) 0 []) Z (λh q=>q.grow U U O Z)).l2;refine AU Z (AX 0 H Z Z J BC Z Z (H.rd 1 Z i) (GY) U) ?_;rintro l w d;have c:([]++sk.map I:List Value)=sk.map I:=by simp
 rw[c] at d;rw[show (0+sk.length:Nat)=sk.length from by omega] at d;have H:=d.l2;refine Zc 4 Z (Zr Z ?_);exact ⟨_,⟨_,Z,Z⟩,H⟩
theorem RZ:Ak 59 [.slice none 0 0] [] (λv G=>v=.slice none 0 0/\G=[]):=by
 intro z R w H;refine Ae func59 Z ntmps59 Z (Zc 9 Z (Ad Z (Uy Z J Z Z) (Zc 9 Z (Zr Z ?_))));exact ⟨_,⟨Z,Z⟩,H⟩
theorem rdH.addr{sz n c:Nat}{a:Option Addr}{xs:List Value}(r:rdH sz (.slice a n c) n xs h)(k:0<n*sz):∃b p,a=some ⟨b,p,none⟩:=by
 obtain ⟨d,c',e,i,j,l,f⟩:=r;cases e;obtain ⟨u,g⟩:∃u,xs[0]?=some u:=⟨_,Aef U⟩;obtain ⟨b,p,e,_⟩:=f 0 u g;exact ⟨b,p,e⟩
theorem R5(e:Value)(vs:List Vl)(A:Ai)(d:∀h,A h->rdH 6 e vs.length (AY vs) h)(g:0<vs.length/\vs.length<=1073741824):Ak 58 [e] [A] (λv G=>∃f:Value,v=f/\G=[grow 59 6 f vs.length (AY vs),A]):=by
 intro z R w H;obtain ⟨i,c,rfl⟩:=H.sy 0 (λq=>(d _ q).slc);obtain ⟨b,a,rfl⟩:=H.sy 0 (λq=>(d _ q).addr U);exact WB b a c vs A d g z R w H
theorem Z6(d:Value)(sk:List Int)(hs:sk.length<=1073741824):Ak 59 [d] [B4 d sk] (λv G=>∃g:Value,v=g/\G=[B4 g sk,B4 d sk]):=by
 intro z R w H;by_cases h0:sk=[]
 ·subst h0
  have e:=H.sy 0 (·.2 Z);subst e;refine Ret.mono (RZ z (B4 (.slice none 0 0) []::R) w H) ?_;rintro v j ⟨Γ',⟨rfl,rfl⟩,f⟩;exact ⟨_,⟨_,Z,Z⟩,(f.nilg 3 1).mono 0 (B:=B4 (.slice none 0 0) []) Z (λh q=>⟨q,λ_=>rfl⟩)⟩
 have i:0<sk.length:=Ahf.2 h0;obtain ⟨l,c,rfl⟩:=H.sy 0 (·.1.slc);obtain ⟨b,a,rfl⟩:=H.sy 0 (·.1.rd.addr U);refine Ret.mono (T7 b a c sk (λh q=>q.rd) ⟨i,hs⟩ z R w (H.mono 0 (B:=grow 3 1 (.slice (some ⟨b,a,none⟩) sk.length c) sk.length (sk.map I)) Z (λh q=>q.1))) ?_;rintro v j ⟨Γ',⟨k,rfl,rfl⟩,f⟩;exact ⟨_,⟨_,Z,Z⟩,(f.mono 0 (B:=B4 v sk) Z (λh q=>⟨q,λe=>absurd e h0⟩)).mono 1 (B:=B4 (.slice (some ⟨b,a,none⟩) sk.length c) sk) Z (λh q=>⟨q,λe=>absurd e h0⟩)⟩
end
theorem M6(sk:List Int)(vs:List Vl)(f:∀h,A h->rdH 6 u vs.length (AY vs) h)(j:vs.length=8)(hs:sk.length<=8):Ak 25 [.agg #[I t,u,y]] [A,B4 y sk] (λv G=>∃c b:Value,v=.agg #[I t,c,b]/\G=[grow 59 6 c vs.length (AY vs),B4 b sk,A,B4 y sk]):=by
 intro z R w H;replace H:=H.l2;refine Ae func25 Z ntmps25 Z (Za 2 [] H Z ?_);intro i w H;refine Za 0 [] H Z ?_;intro k w H;refine Zc 3 Z ?_;replace H:=H.f1;refine Bf (Sep z (blk i [I t,u,y] 41::R)) 10 Z J (A4 H λw g=>?_);have H:=g.l4;refine Bo [0,1,2,3,5,6] [0,0,1,0,2,0] J (λ_ e=>(AN (e.blk 0 Z) AH)) (by exact H.pick 4 [0] Z) Z J Z Z (Ay [4] J O (Al (Br Z Z Z Z Z Z (λw=>call58 _ w) (R5 u vs A f U) H.f2 Z ?_)));rintro c w _ ⟨_,rfl,rfl⟩ H;replace H:=H.l5;have d:=H.sy 0 (·.slc);refine Ar (λ_=>(H.pick 5 [2] Z)) (Ay [7] J O (Al (Br Z Z Z Z Z Z (λw=>call59 _ w) (Z6 y sk U) H.f4 Z ?_)));rintro b w _ ⟨_,rfl,rfl⟩ H;replace H:=H.l6;have a:=H.sy 0 (·.1.slc);refine Ar (λ_=>(H.pick 6 [4] Z)) ?_;obtain ⟨a1,c1,rfl⟩:=d;obtain ⟨a2,c2,rfl⟩:=a;refine By 8 J Z Z J J J Z Z Z (Be Z Z (out:=[I t,.slice a1 vs.length c1,.slice a2 sk.length c2]) J) (H.pick 6 [4] Z) (Ay [9] J O (Al (Bl Z Z Z (Am 5 H Z Z Z Z (vs:=[I t,.slice a1 vs.length c1,.slice a2 sk.length c2]) Z (by simp[u8,u32,Value.oneCell']) J O (out:=[I t,.slice a1 vs.length c1,.slice a2 sk.length c2]) Z) ?_)));rintro w H;replace H:=H.l6;refine Ar (λh=>absurd Z h) (AV J (gn (Zc 2 Z (Zl [5,3] H Z ?_))));exact ⟨_,⟨_,_,Z,Z⟩,H.pick 6 [2,0,3,1] Z⟩
section
abbrev Pl:=Vl×List E
def pl0:Pl:=(v0,[])
structure PlOk(N:Hm)(nx:Int)(p:Pl):Prop where
 id:1<=p.1.id/\p.1.id<nx
 st:p.1.st=1\/p.1.st=2
 sz:1<=p.1.sz/\p.1.sz<=1048576
 q:0<=p.1.q/\p.1.q<=1048576
 r:0<=p.1.r/\p.1.r<=1023
 root:Root N p.1.r.toNat p.2
 nd:(vals p.2).Nodup
 mp:p.1.mp=(p.2.length:Int)
 key:∀e∈p.2,e.1<p.1.sz
def C3(P:List Pl):List Nat:=P.flatMap λp=>Ba p.1.r.toNat
structure VInv(n:Nat)(o:TB)(nx:Int)(P:List Pl):Prop where
 n:n<=639
 len:P.length=8
 nb:1<=nx/\nx<=1073741824
 all:∀p∈P,p=pl0\/PlOk o.N nx p
 ids:P.Pairwise λa b=>a.1.id=b.1.id->a.1.id=0
 r:o.R.Perm (C3 P)
theorem Ml(P:List Pl):(C3 P).length<=P.length:=by
 induction P with
 | nil=>simp[C3]
 | cons p t ih=>
  have:(Ba p.1.r.toNat).length<=1:=by unfold Ba;split<;>simp
  simp only[C3,AeJ,Aeh,Aej] at ih ⊢;omega
theorem QV{P:List Pl}(h:i<P.length)(p:Pl):(C3 (P.set i p)).Perm (Ba p.1.r.toNat++C3 (P.eraseIdx i)):=by
 have e:P.set i p=P.take i++p::P.drop (i+1):=by rw[Afd,if_pos h]
 rw[e,List.eraseIdx_eq_take_drop_succ];simp only[C3,Af3,AeJ];rw[<-Aek,<-Aek];exact Afz _ Af7
theorem Jc{P:List Pl}{p:Pl}(h:P[i]?=some p):(C3 P).Perm (Ba p.1.r.toNat++C3 (P.eraseIdx i)):=by
 obtain ⟨a,rfl⟩:=Aee.1 h;have:=QV a P[i];rwa[Af8] at this
theorem Mn{P:List Pl}{p:Pl}(h:p∈P)(a:p.1.r.toNat≠0):p.1.r.toNat∈C3 P:=
 Agj.2 ⟨p,h,by unfold Ba;rw[if_neg a];simp⟩
variable{n:Nat}{o:TB}{nx:Int}{P:List Pl}
theorem VInv.lw(h:VInv n o nx P){p:Pl}(hi:P[i]?=some p)(hp:PlOk o.N nx p):LwI n ⟨o.N,o.C,Ba p.1.r.toNat++C3 (P.eraseIdx i)⟩ p.1.r.toNat p.2 (C3 (P.eraseIdx i)):=
 ⟨h.n,by have:=Ml (P.eraseIdx i);have:=List.length_eraseIdx_le P i;have:=h.len;omega,hp.root,hp.nd,Z⟩
theorem T8{N N2:Hm}(h:Root N 0 X):Root N2 0 X:=by
 rcases h with ⟨_,e⟩|⟨e,_⟩
 ·exact .inl ⟨Z,e⟩
 exact absurd Z e
theorem PlOk.kp{N N2:Hm}{p:Pl}(h:PlOk N nx p)(a:p.1.r.toNat≠0->Root N p.1.r.toNat p.2->Root N2 p.1.r.toNat p.2)(b:nx<=t):PlOk N2 t p:=
 ⟨⟨h.id.1,by have:=h.id.2;omega⟩,h.st,h.sz,h.q,h.r,by
  by_cases e:p.1.r.toNat=0
  ·have:=h.root;rw[e] at this ⊢;exact T8 this
  exact a e h.root,h.nd,h.mp,h.key⟩
theorem Hj{α:Type}{l:List α}{x:α}(h:l[j]?=some x)(a:j≠i):x∈l.eraseIdx i:=by
 rw[Ahc];exact ⟨j,a,h⟩
theorem VInv.upd(h:VInv n o nx P){p p2:Pl}(hi:P[i]?=some p){o2:TB}(k:nx<=t/\t<=1073741824)(hk:Kp o.N o2.N (C3 (P.eraseIdx i)))(hp:PlOk o2.N t p2)
  (s:p2.1.id=p.1.id\/∀q∈P,q.1.id≠p2.1.id)(x:o2.R.Perm (Ba p2.1.r.toNat++C3 (P.eraseIdx i))):VInv n o2 t (P.set i p2):=by
 have w:=(Aee.1 hi).1;have m:∀j q,P[j]?=some q->j≠i->q=pl0\/PlOk o2.N t q:=λj q d u=>by
  rcases h.all q (Aeg d) with e|e
  ·exact .inl e
  exact .inr (e.kp (λz y=>hk _ (Mn (Hj d u) z) _ y) k.1)
 refine ⟨h.n,by rw[AeX];exact h.len,⟨by have:=h.nb;omega,k.2⟩,λq hq=>?_,?_,x.trans (QV w p2).symm⟩
 ·obtain ⟨j,d⟩:=Ae1.1 hq
  rw[Afq] at d;split at d
  ·rename_i e
   first
    | (cases d;exact .inr hp)
    | (split at d<;>cases d;exact .inr hp)
  exact m j q d U
 have c:=h.ids;rw[Afx] at c ⊢;intro a b l g f;rw[AeX] at l g;rw[Ag2,Ag2];have gp:∀j (d:j<P.length),P[j]?=some P[j]:=λj d=>Aef d;have v:P[i]=p:=by have:=gp i w;rw[hi] at this;exact (Age this).symm
 by_cases e1:i=a
 ·subst e1
  rw[if_pos Z,if_neg U];rcases s with e|e
  ·rw[e];have:=c i b l g f;rw[v] at this;exact this
  intro q;exact absurd q.symm (e _ (AfR g))
 rw[if_neg e1];by_cases e2:i=b
 ·subst e2
  rw[if_pos Z];rcases s with e|e
  ·rw[e];have:=c a i l g f;rw[v] at this;exact this
  intro q;exact absurd q (e _ (AfR l))
 rw[if_neg e2];exact c a b l g f
theorem VInv.fit(h:VInv n o nx P)(K:TrK n o none):∀e∈P.map Prod.fst,Vl.Fit e:=λe c=>by
 obtain ⟨p,hp,rfl⟩:=Aen.1 c;rcases h.all p hp with rfl|a
 ·exact v0_fit
 have j:=h.n;have:=JI K.i U (show ∀e∈p.2,∃b,Dm o none e.2=some (.dt b) from a.root.data) a.nd;have k:=h.nb;obtain ⟨g,q,d,f,l,_,_,m,_⟩:=a;exact ⟨by omega,by omega,by omega,by omega,by omega,by omega⟩

structure Wv where
 id:Int
 sz:Int
 q:Int
 u:Value
 V:List Bk
abbrev O8:=Int×Int×Int×List Bk
def Wv.core(x:Wv):O8:=(x.id,x.sz,x.q,x.V)
def CI(N:Hm)(p:Pl):O8:=(p.1.id,p.1.sz,p.1.q,A7 N p.2)
def Dz(p:Pl):Bool:=decide (p.1.st=1)
def DA(N:Hm)(P:List Pl):List O8:=(P.filter Dz).map (CI N)
structure VRel(N:Hm)(P:List Pl)(W:List Wv):Prop where
 p:(DA N P).Perm (W.map Wv.core)
 s:W.Pairwise λa b=>a.id<b.id
theorem Mp{α:Type}{f:α->Int}{l:List α}{a a2:α}(h:l[i]?=some a)(c:∀j b,l[j]?=some b->f b=f a->j=i):l.set i a2=l.map λb=>if f b=f a then a2 else b:=by
 apply Afs;intro j;rw[Afq,Aer];by_cases e:i=j
 ·subst e
  rw[if_pos Z,if_pos (Aee.1 h).1,h];simp
 rw[if_neg e]
 cases hj:l[j]? with
 | none=>rfl
 | some b=>
  rw[AeV,if_neg (λq=>e (c j b hj q).symm)]
theorem O9{α:Type}{f:α->Int}{l:List α}{a:α}(h:l[i]?=some a)(g:∀j b,l[j]?=some b->f b=f a->j=i):l.take i++l.drop (i+1)=l.filter λb=>decide (f b≠f a):=by
 have k:=(Aee.1 h).1;have e:l=l.take i++a::l.drop (i+1):=by
  have:=AeO i l;rw[Ae2 k,show l[i]=a from by have:=Aef k;rw[h] at this;exact (Age this).symm] at this;exact this.symm
 conv=>rhs;rw[e]
 rw[AfQ,AhF,if_neg O];congr 1
 ·refine (Agw.2 λb d=>?_).symm
  obtain ⟨j,c⟩:=Ae1.1 d;have m:=c;rw[Ae0] at c;split at c
  ·simp only[decide_eq_true_eq];intro q;have:=g j b c q;omega
  cases c
 refine (Agw.2 λb d=>?_).symm;obtain ⟨j,c⟩:=Ae1.1 d;rw[Afn] at c;simp only[decide_eq_true_eq];intro q;have:=g _ b c q;omega
variable{W:List Wv}{N N2:Hm}
theorem VInv.uniq(h:VInv n o nx P){p q:Pl}(hi:P[i]?=some p)(d:P[j]?=some q)(e:q.1.id=p.1.id)(c:p.1.id≠0):j=i:=by
 have a:=h.ids;rw[Afx] at a;obtain ⟨a1,rfl⟩:=Aee.1 hi;obtain ⟨b,rfl⟩:=Aee.1 d;rcases AfL i j with q|q|q
 ·exact absurd (a i j a1 b q e.symm) c
 ·exact q.symm
 exact absurd (a j i b a1 q e) U
theorem VRel.uniq(h:VRel N P W){x y:Wv}(hi:W[i]?=some x)(c:W[j]?=some y)(e:y.id=x.id):j=i:=by
 have a:=h.s;rw[Afx] at a;obtain ⟨a1,rfl⟩:=Aee.1 hi;obtain ⟨b,rfl⟩:=Aee.1 c;rcases AfL i j with q|q|q
 ·have:=a i j a1 b q;omega
 ·exact q.symm
 have:=a j i b a1 q;omega
theorem VRel.at(h:VRel N P W){p:Pl}(hi:P[i]?=some p)(hs:p.1.st=1):∃(j:Nat) (x:Wv),W[j]?=some x/\x.core=CI N p:=by
 have:CI N p∈DA N P:=Aen.2 ⟨p,Afe.2 ⟨Aeg hi,by simp[Dz,hs]⟩,Z⟩;obtain ⟨x,a,e⟩:=Aen.1 (h.p.mem_iff.1 this);obtain ⟨j,b⟩:=Ae1.1 a;exact ⟨j,x,b,e⟩
theorem VRel.back(h:VRel N P W){x:Wv}(c:W[j]?=some x):∃(i:Nat) (p:Pl),P[i]?=some p/\p.1.st=1/\x.core=CI N p:=by
 have:x.core∈W.map Wv.core:=Aen.2 ⟨x,Aeg c,Z⟩;obtain ⟨p,hp,e⟩:=Aen.1 (h.p.mem_iff.2 this);obtain ⟨a,b⟩:=Afe.1 hp;obtain ⟨i,hi⟩:=Ae1.1 a;exact ⟨i,p,hi,by simpa [Dz] using b,e.symm⟩
theorem M7(h:∀p∈P,p.1.st=1->A7 N2 p.2=A7 N p.2):DA N2 P=DA N P:=by
 unfold DA;refine AfE λp hp=>?_;obtain ⟨a,b⟩:=Afe.1 hp;unfold CI;rw[h p a (by simpa [Dz] using b)]
theorem VRel.upd(h:VRel N P W)(y:VInv n o nx P){p p2:Pl}{x x2:Wv}(hi:P[i]?=some p)(l:W[j]?=some x)(v:p.1.id≠0)(hs:p.1.st=1)(m:p2.1.st=1)(e:x.id=p.1.id)(e2:x2.core=CI N2 p2)(a0:p2.1.id=p.1.id)
  (hN:∀q∈P,q.1.st=1->q.1.id≠p.1.id->A7 N2 q.2=A7 N q.2):VRel N2 (P.set i p2) (W.set j x2):=by
 have a1:x2.id=x.id:=by have:=congrArg Prod.fst e2;simp only[Wv.core,CI] at this;omega
 have eP:=Mp (f:=λb:Pl=>b.1.id) (a2:=p2) hi (λk b g q=>y.uniq hi g q v);have eW:=Mp (f:=Wv.id) (a2:=x2) l (λk b g q=>h.uniq l g q);refine ⟨?_,?_⟩
 ·have e1:DA N2 (P.set i p2)=(DA N P).map λc=>if c.1=p.1.id then CI N2 p2 else c:=by
   rw[eP];unfold DA;rw[Agm,Afp,Afp];have ef:P.filter (Dz∘λb=>if b.1.id=p.1.id then p2 else b)=P.filter Dz:=by
    refine Aht λb d=>?_;simp only[Function.comp];split
    ·rename_i q
     obtain ⟨k,g⟩:=Ae1.1 d;have:=y.uniq hi g q v;subst this;rw[hi] at g;cases g;simp[Dz,hs,m]
    rfl
   rw[ef];refine AfE λb d=>?_;obtain ⟨b1,b2⟩:=Afe.1 d;simp only[Function.comp];split
   ·rename_i q;rw[if_pos (by simpa [CI] using q)]
   rename_i q;rw[if_neg (by simpa [CI] using q)];unfold CI;rw[hN b b1 (by simpa [Dz] using b2) q]
  have e3:(W.set j x2).map Wv.core=(W.map Wv.core).map λc=>if c.1=p.1.id then CI N2 p2 else c:=by
   rw[eW,Afp,Afp];refine AfE λb d=>?_;simp only[Function.comp];split
   ·rename_i q;rw[if_pos (by simp only[Wv.core];omega),e2]
   rename_i q;rw[if_neg (by simp only[Wv.core];omega)]
  rw[e1,e3];exact h.p.map _
 have u:=h.s;rw[Afx] at u ⊢;intro a b w d r;rw[AeX] at w d;have:=u a b w d r;have z:=(Aee.1 l).1;have t:W[j]=x:=(Aee.1 l).2;rw[Ag2,Ag2];split<;>split
 ·omega
 ·rename_i q _;subst q;rw[t] at this;omega
 ·rename_i _ q;subst q;rw[t] at this;omega
 exact this
theorem VRel.del(h:VRel N P W)(y:VInv n o nx P){p p2:Pl}{x:Wv}(hi:P[i]?=some p)(r:W[j]?=some x)(t:p.1.id≠0)(a:p2.1.st≠1)(e:x.id=p.1.id)
  (hN:∀q∈P,q.1.st=1->A7 N2 q.2=A7 N q.2):VRel N2 (P.set i p2) (W.take j++W.drop (j+1)):=by
 have w:=Mp (f:=λb:Pl=>b.1.id) (a2:=p2) hi (λk b d q=>y.uniq hi d q t);have m:=O9 (f:=Wv.id) r (λk b d q=>h.uniq r d q);refine ⟨?_,?_⟩
 ·have e1:DA N2 (P.set i p2)=(DA N P).filter λc=>decide (c.1≠p.1.id):=by
   rw[w,<-M7 hN];unfold DA;rw[Agm,Agm,Afp,List.filter_filter];have u:P.filter (Dz∘λb=>if b.1.id=p.1.id then p2 else b)=P.filter λb=>((λc:O8=>decide (c.1≠p.1.id))∘CI N2) b&&Dz b:=by
    refine Aht λb g=>?_;simp only[Function.comp,CI];split
    ·rename_i q;simp[Dz,q,a]
    rename_i q;simp[q]
   rw[u];refine AfE λb g=>?_;obtain ⟨_,l⟩:=Afe.1 g;simp only[Function.comp,CI,AeF,decide_eq_true_eq] at l ⊢;rw[if_neg (of_decide_eq_true l.1)]
  have v:(W.take j++W.drop (j+1)).map Wv.core=(W.map Wv.core).filter λc=>decide (c.1≠p.1.id):=by
   rw[m,Agm];congr 1;refine Aht λb _=>?_;simp only[Function.comp,Wv.core,e];exact decide_eq_decide.2 Ahx
  rw[e1,v];exact h.p.filter _
 rw[m];exact h.s.filter _
theorem VRel.new(h:VRel N P W){p p2:Pl}{x2:Wv}(hi:P[i]?=some p)(hs:p.1.st≠1)(c:p2.1.st=1)(e2:x2.core=CI N2 p2)(d:∀x∈W,x.id<x2.id)
  (hN:∀q∈P,q.1.st=1->A7 N2 q.2=A7 N q.2):VRel N2 (P.set i p2) (W++[x2]):=by
 have g:=(Aee.1 hi).1;have e:P.set i p2=P.take i++p2::P.drop (i+1):=by rw[Afd,if_pos g]
 have l:P=P.take i++p::P.drop (i+1):=by
  have:=AeO i P;rw[Ae2 g,show P[i]=p from (Aee.1 hi).2] at this;exact this.symm
 refine ⟨?_,?_⟩
 ·have hp:=h.p
  rw[<-M7 hN] at hp;have e1:DA N2 P=DA N2 (P.take i)++DA N2 (P.drop (i+1)):=by
   conv=>lhs;rw[l]
   unfold DA;rw[AfQ,AhF,if_neg (by simp[Dz,hs]),AeK]
  have j:DA N2 (P.set i p2)=DA N2 (P.take i)++CI N2 p2::DA N2 (P.drop (i+1)):=by
   rw[e];unfold DA;rw[AfQ,AhF,if_pos (by simp[Dz,c]),AeK,AeM]
  rw[j,AeK,AeM,e2];rw[e1] at hp;refine Afj.trans ((Afm _ hp).trans ?_);exact (List.perm_append_singleton _ _).symm
 rw[List.pairwise_append];exact ⟨h.s,by simp,λa k b f=>by simp at f;subst f;exact d a k⟩
theorem VRel.len(h:VRel N P W):W.length<=P.length:=by
 have:=h.p.length_eq;simp only[DA,Aei] at this;rw[<-this];exact AfW _ _
end
variable{W:List Wv}
section
section
variable{P:Program}{C:World->Prop}{o:Oper}{n:Nat}{ds:List Deferred}{L:List (Nat×Value)}{x y:Operand}{xt yt:TypeId}
def Hk(P:Program)(t:TypeId)(m:Nat):Bool:=match P.underlying t with
 | some (.struct fs)=>decide (fs.toList.map (λf=>f.offset)=List.range m)&&fs.toList.all λf=>f.name != "_" && Gi P f.type&&(match P.underlying f.type with|some (.int _)=>true|_=>false)
 | _=>false
theorem Nh{α β:Type}(l:List α)(b b':β)(f:α->β->Sem (ForInStep β))(p:α->Bool)(w:World)(h:∀a∈l,(f a b).run P w=.ok (if p a=true then .yield b else .done b') w):(forIn l b f).run P w=.ok (if l.all p=true then b else b') w:=by
 induction l with
 | nil=>simp[go_sem]
 | cons a l ih=>
  rw[List.forIn_cons,Aex,h a O]
  cases hp:p a with
  | true=>simp only[if_true,List.all_cons,hp,Bool.true_and];exact ih λa c=>h a (by simp[c])
  | false=>simp[go_sem,hp]
theorem T9{cs es:List Int}(g:Hk P xt m=true)(h1:cs.length=m)(h2:es.length=m)(hs:P.stoodInHeld xt=false)(w:World):(Op.equal xt (.agg (cs.map I).toArray) (.agg (es.map I).toArray)).run P w=.ok (decide (cs=es)) w:=by
 unfold Hk at g;split at g
 ·rename_i n h
  rw[AeF] at g;obtain ⟨a,i⟩:=g;have a:=of_decide_eq_true a;have c:∀d,(Op.equalIn (d+1+1) xt (.agg (cs.map I).toArray) (.agg (es.map I).toArray)).run P w=.ok (decide (cs=es)) w:=λd=>by
   rw[Op.equalIn];simp only[Aex,run_underlying h,Aet];have hh:(program).run P w=.ok P w:=by simp[program,Sem.run]
   simp only[hh,Aet,hs,Afu,if_false];rw[Aex,<-Array.forIn_toList,Nh (b':=⟨some false,⟨⟩⟩) (p:=λf=>decide (cs[f.offset]?=es[f.offset]?))]
   ·have e:n.toList.all (λf=>decide (cs[f.offset]?=es[f.offset]?))=decide (cs=es):=by
     rw[Aez,Af4,decide_eq_true_iff];constructor
     ·intro q
      apply Afs;intro k;rcases Aeu k m with o|o
      ·have t:k∈n.toList.map (λf=>f.offset):=by rw[a];exact AfT.2 o
       obtain ⟨f,j,rfl⟩:=Aen.1 t;simpa using q f j
      rw[AeL U,AeL U]
     intro q f _;rw[q];simp
    rw[e];by_cases q:cs=es
    ·simp[q,go_sem]
    simp[q,go_sem]
   intro f j;have b:=(Af4.1 i) f j;simp only[AeF] at b;obtain ⟨⟨h3,x⟩,r⟩:=b;have z:f.offset<m:=by
    have:f.offset∈n.toList.map (λf=>f.offset):=Aen.2 ⟨f,j,Z⟩;rw[a] at this;exact AfT.1 this
   have s:f.name≠"_":=by simpa using h3
   rw[if_pos s];split at r
   ·rename_i k2 hu
    have hp:∀l:List Int,l.length=m->(part f.type (l.map I).toArray f.offset).run P w=.ok (I (l.getD f.offset 0)) w:=λl hl=>by
     have hc:((l.map I).toArray)[f.offset]?=some (I (l.getD f.offset 0)):=by
      simp[Aef (show f.offset<l.length by omega),List.getD]
     simp only[part,Aex,FN x,Aet,if_false,Afu,hc,AeC]
    have he:∀u v:Int,(Op.equalIn (d+1) f.type (I u) (I v)).run P w=.ok (u==v) w:=λu v=>by
     rw[Op.equalIn];simp[Aex,run_underlying hu,go_sem]
    simp only[Aex,hp cs h1,hp es h2,he,Aet];have y:(cs.getD f.offset 0==es.getD f.offset 0)=decide (cs[f.offset]?=es[f.offset]?):=by
     rw[Aef (show f.offset<cs.length by omega),Aef (show f.offset<es.length by omega)];simp[List.getD,Aef (show f.offset<cs.length by omega),Aef (show f.offset<es.length by omega)];rw[Aez];simp
    rw[y];by_cases q:cs[f.offset]?=es[f.offset]?
    ·simp[q,go_sem]
    simp[q,go_sem]
   cases r
  exact c 9998
 cases g
theorem Ua{cs es:List Int}(f:o.op=.binOp .eql xt x y yt)(j:Hk P xt m=true)(d:cs.length=m)(e:es.length=m)(hs:P.stoodInHeld xt=false)(g:P.eqGuardType P.depth xt=false)(h:ev L x=some (.agg (cs.map I).toArray))(i:ev L y=some (.agg (es.map I).toArray)):Av P C n ds L o (.bool (decide (cs=es))):=λa c w _=>by
 have b:(eqGuard .eql xt x y (.agg (cs.map I).toArray) (.agg (es.map I).toArray)).run P w=.ok () w:=by
  simp[eqGuard,Aex,program,Sem.run,g]
 simp only[execOp,f,c.ev h,c.ev i];simp only[binOp,Aex,b,T9 j d e hs,Aet,AeC]
theorem Acn{cs es:List Int}(f:o.op=.binOp .neq xt x y yt)(j:Hk P xt m=true)(d:cs.length=m)(e:es.length=m)(hs:P.stoodInHeld xt=false)(g:P.eqGuardType P.depth xt=false)(h:ev L x=some (.agg (cs.map I).toArray))(i:ev L y=some (.agg (es.map I).toArray)):Av P C n ds L o (.bool (decide (cs≠es))):=λa c w _=>by
 have b:(eqGuard .neq xt x y (.agg (cs.map I).toArray) (.agg (es.map I).toArray)).run P w=.ok () w:=by
  simp[eqGuard,Aex,program,Sem.run,g]
 simp only[execOp,f,c.ev h,c.ev i];simp only[binOp,Aex,b,T9 j d e hs,Aet,AeC];simp
end
theorem Adn{e:Vl}(h:[(0:Int),0,0,0,0,0]=[e.id,e.st,e.sz,e.q,e.r,e.mp]):e=v0:=by
 cases e
 simp at h;obtain ⟨a,b,g,c,d,f⟩:=h;subst a b g c d f;rfl
def Bp(sz:Int)(snd:Bool)(at_ count:Int):Int:=if snd=true/\1<=count/\count<=8 then (if 0<=at_/\at_<=sz-count then 0 else 34) else 1
theorem Hl:Ak 26 [I t,I s,I p] [] (λv G=>v=.bool (decide (s<=t/\t<=p))/\G=[]):=by
 intro z R w H;refine Ae func26 Z ntmps26 Z (Z0 11 [0] Z (An 10 Z (λa=>?_) (λa=>?_)))
 ·refine Z0 8 [0] Z (Zr Z ?_);exact ⟨_,⟨congrArg Value.bool (by first|(rw[Aez];simp<;>omega)|(simp<;>omega)),Z⟩,H⟩
 refine Zc 8 Z (Zr Z ?_);exact ⟨_,⟨congrArg Value.bool (by first|(rw[Aez];simp<;>omega)|(simp<;>omega)),Z⟩,H⟩
theorem FZ{vs:List Vl}:Ak 7 [Y m] [voA m i t l vs] (λv G=>v=Y i/\G=[voA m i t l vs]):=by
 intro z R w H;obtain ⟨d,c,H⟩:=H.vo;refine Ae func7 Z ntmps7 Z (Z2 15 [0,0,0] H Z (Zr Z ?_));exact ⟨_,⟨Z,Z⟩,(H.pick 3 [0,1,2] Z).toVo⟩
theorem JL{vs:List Vl}(id:Int)(hv:vs.length=8):Ak 37 [Y m,I id] [voA m g t l vs] (λv G=>(∃(i:Nat) (e:Vl),(vs[i]?=some e/\e.st=1/\e.id=id)/\v=I (i:Int)/\G=[voA m g t l vs])\/((∀e∈vs,¬(e.st=1/\e.id=id))/\v=I (-1)/\G=[voA m g t l vs])):=by
 intro z R w H;obtain ⟨vv,x,H⟩:=H.vo;have p:=H.sy 1 (·.slc);obtain ⟨y,u,rfl⟩:=p;refine Ae func37 Z ntmps37 Z (Z2 18 [1,2,0,0] H Z ?_);refine AF (σ:=Nat) (λi=>[(12,I (i:Int)),(0,Y m),(1,I id),(11,I (vs.length:Int))])
   (λi w=>Sep z (blk m [Y g,I t,.slice y vs.length u,x] 71::grow 59 6 (.slice y vs.length u) vs.length (AY vs)::B4 x l::R) w/\(i<=vs.length/\∀(j:Nat) (e:Vl),j<i->vs[j]?=some e->¬(e.st=1/\e.id=id))) (λi=>vs.length-i) 0
   fr_z ⟨H,⟨AeR _,λj e h=>by omega⟩⟩ ?_
 clear H;rintro i w ⟨H',hI⟩;have H:=H'.l3;obtain ⟨hi,c⟩:=hI;refine Z0 6 [0] Z (Af Z (λh1=>?_) (λh1=>?_))
 ·refine Zc 11 Z ?_;obtain ⟨e,n⟩:∃e,vs[i]?=some e:=⟨_,Aef U⟩;have b:=(H.rv 1 (·.rd)).at (AI n 0 _ Z)
  have f:=(H.rv 1 (·.rd)).at (AI n 1 _ Z);refine Z2 7 [1,2,0,0] H Z (Ad Z (Aj Z (z:=6) (j:=i) (r:=i*6) J Z Z Z U b U) (Ad Z (Bi Z (k:=1) (r:=i*6+1) J Z b Z) (Ad Z (Ax Z Z J (AB f)) (Z0 2 [0] Z (An 25 Z (λh2=>?_) (λh2=>?_))))))
  ·refine Z2 6 [1,2,0,0] H Z (Ad Z (Aj Z (z:=6) (j:=i) (r:=i*6) J Z Z Z U b U) (Ad Z (Bi Z (k:=0) (r:=i*6) J Z b Z) (Ad Z (Ax Z Z J (AB b)) (Z0 5 [0] Z (Af Z (λh3=>?_) (λh3=>?_))))))
   ·refine Zc 7 Z (Zr Z ?_);exact ⟨_,.inl ⟨i,e,⟨n,by assumption,by assumption⟩,Z,Z⟩,(H.pick 3 [0,1,2] Z).toVo⟩
   refine Z1 7 [] [(i:Int)+1] Z U (gf ?_);intro _ s;refine ⟨(i+1),s.cz,⟨H,?_⟩,?_⟩
   ·refine ⟨by omega,λj d o a=>?_⟩;rcases Aeu j i with q|q
    ·exact c j d q a
    obtain rfl:j=i:=by omega
    rw[n] at a;cases a;omega
   omega
  refine Z1 22 [] [(i:Int)+1] Z U (gf ?_);intro _ s;refine ⟨(i+1),s.cz,⟨H,?_⟩,?_⟩
  ·refine ⟨by omega,λj d o a=>?_⟩;rcases Aeu j i with q|q
   ·exact c j d q a
   obtain rfl:j=i:=by omega
   rw[n] at a;cases a;omega
  omega
 refine Zc 2 Z (gx (Zc 8 Z (Zr Z ?_)));exact ⟨_,.inr ⟨λd a=>(by obtain ⟨j,o⟩:=Ae1.1 a;exact c j d (by have:=(Aee.1 o).1;omega) o),Z,Z⟩,(H.pick 3 [0,1,2] Z).toVo⟩
theorem WC{o:Value}(vs:List Vl)(g:∀h,A h->rdH 6 o vs.length (AY vs) h)(hv:vs.length=8):Ak 60 [o,.agg #[I 0,I 0,I 0,I 0,I 0,I 0]] [A] (λv G=>(∃i:Nat,vs[i]?=some v0/\v=I (i:Int)/\G=[A])\/((∀e∈vs,e≠v0)/\v=I (-1)/\G=[A])):=by
 intro z R w H;obtain ⟨am,mc,rfl⟩:=H.sy 0 (λq=>(g _ q).slc);refine Ae func60 Z ntmps60 Z (Za 2 [] H Z ?_);intro p w H;refine Zc 12 Z ?_;refine AF (σ:=Nat) (λi=>[(8,I (i:Int)),(0,.slice am vs.length mc),(3,Y p),(7,I (vs.length:Int))])
   (λi w=>Sep z (blk p [I 0,I 0,I 0,I 0,I 0,I 0] 59::A::R) w/\(i<=vs.length/\∀(j:Nat) (e:Vl),j<i->vs[j]?=some e->e≠v0)) (λi=>vs.length-i) 0
   fr_z ⟨H,⟨AeR _,λj e h=>by omega⟩⟩ ?_
 clear H;rintro i w ⟨l,hI⟩;have H:=l.l2;obtain ⟨hi,b⟩:=hI;refine Z0 6 [0] Z (Af Z (λs=>?_) (λs=>?_))
 ·refine Zc 11 Z ?_;obtain ⟨e,f⟩:∃e,vs[i]?=some e:=⟨_,Aef U⟩;have c:=(H.rv 1 (g _)).at (AI f 0 _ Z)
  refine Bu (Sep z _) J J H.drew (GL 3 [0,6] [] Z J (AM Z Z Z (Aj Z (z:=6) (j:=i) (r:=i*6) J Z Z Z U c U) (AM Z Z Z (Bt Z Z (vs:=e.cells) J (by simp[Vl.cells]) (λ_ y=>(λk u hk=>(y.rv 1 (g _)).at (AI f k u hk)))) (AM Z Z Z (Ua (cs:=[(0:Int),0,0,0,0,0]) (es:=[e.id,e.st,e.sz,e.q,e.r,e.mp]) (m:=6) Z J Z Z J J Z Z) (BB (λw l=>?_))))));have H:=l.l2;refine gn (Zc 1 Z (Af Z (λt=>?_) (λt=>?_)))
  ·refine Zc 7 Z (Zr Z ?_);exact ⟨_,.inl ⟨i,f.trans (congrArg some (Adn (e:=e) (by assumption))),Z,Z⟩,H.pick 2 [1] Z⟩
  refine Z1 7 [] [(i:Int)+1] Z U (gf ?_);intro _ hF;refine ⟨(i+1),hF.cz,⟨H,?_⟩,?_⟩
  ·refine ⟨by omega,λj d n a=>?_⟩;rcases Aeu j i with q|q
   ·exact b j d q a
   obtain rfl:j=i:=by omega
   have x:d=e:=by rw[f] at a;exact (Age a).symm
   rw[x];exact λq=>absurd (show [(0:Int),0,0,0,0,0]=[e.id,e.st,e.sz,e.q,e.r,e.mp] by rw[q];rfl) (by assumption)
  omega
 refine Zc 2 Z (gx (Zc 8 Z (Zr Z ?_)));exact ⟨_,.inr ⟨λd a=>(by obtain ⟨j,n⟩:=Ae1.1 a;exact b j d (by have:=(Aee.1 n).1;omega) n),Z,Z⟩,H.pick 2 [1] Z⟩
theorem QW{vs:List Vl}(g:vs.length=8):Ak 27 [Y m] [voA m j t l vs] (λv G=>(∃i:Nat,(vs[i]?=some v0/\t<1073741824)/\v=.tuple #[I (i:Int),I 0]/\G=[voA m j t l vs])\/((∀e∈vs,e≠v0)/\v=.tuple #[I 0,I 32]/\G=[voA m j t l vs])\/((v0∈vs/\1073741824<=t)/\v=.tuple #[I 0,I 15]/\G=[voA m j t l vs])):=by
 intro z R w H;obtain ⟨p,o,H⟩:=H.vo;refine Ae func27 Z ntmps27 Z (Z2 13 [1,2,0,0] H Z (Ad Z (Be Z Z (out:=[I 0,I 0,I 0,I 0,I 0,I 0]) J) (Au Z (call60 _) (WC vs (λh q=>q.rd) g) H.f1 ?_)));rintro _ w _ (⟨i,c,rfl,rfl⟩|⟨a,rfl,rfl⟩) b
 ·have H:=b.l3;refine Z0 12 [0] Z (Af Z (λd=>U) (λd=>?_))
  refine Z2 11 [1,1,1,0,0] H Z (Af Z (λk=>?_) (λk=>?_))
  ·refine Zc 7 Z (Zr Z ?_);exact ⟨_,.inr (.inr ⟨⟨Aeg c,by omega⟩,Z,Z⟩),(H.pick 3 [1,0,2] Z).toVo⟩
  refine Zc 11 Z (Zr Z ?_);exact ⟨_,.inl ⟨i,⟨c,by omega⟩,Z,Z⟩,(H.pick 3 [1,0,2] Z).toVo⟩
 have H:=b.l3;refine Z0 20 [3] Z (Zr Z ?_);exact ⟨_,.inr (.inl ⟨a,Z,Z⟩),(H.pick 3 [1,0,2] Z).toVo⟩
theorem Pa{vs:List Vl}{a:Int}(hv:vs.length=8)(x:∀e∈vs,-1073741824<=e.sz/\e.sz<=1073741824)(a5: -9223372036854775808<=p/\p<=9223372036854775807)(a3: -9223372036854775808<=a/\a<=9223372036854775807):Ak 29 [Y m,I s,I p,I a,.bool b] [voA m g t l vs] (λv G=>((∀e∈vs,¬(e.st=1/\e.id=s))/\v=.tuple #[I 0,I 31]/\G=[voA m g t l vs])\/(∃(i:Nat) (e:Vl),(vs[i]?=some e/\e.st=1/\e.id=s)/\v=.tuple #[I (if Bp e.sz b p a=0 then (i:Int) else 0),I (Bp e.sz b p a)]/\G=[voA m g t l vs])):=by
 intro z R w H;refine Ae func29 Z ntmps29 Z (Zc 10 Z (Au Z (call37 _) (JL s U) H ?_));rintro _ w _ (⟨i,e,⟨h,d,c⟩,rfl,rfl⟩|⟨y,rfl,rfl⟩) H'
 ·have H:=H'.l1;refine Z0 12 [0] Z (Af Z (λh1=>U) (λh1=>?_))
  refine Zc 5 Z (FP 22 Z (λh2=>?_) (λh2=>?_))
  ·refine Zc 15 Z (Zr Z ?_);have f:Bp e.sz b p a=1:=by unfold Bp;rw[if_neg (λq=>by first|omega|(obtain ⟨q1,_⟩:=q;simp_all))]
   exact ⟨_,.inr ⟨i,e,⟨h,d,c⟩,by rw[f];rfl,Z⟩,H.pick 1 [0] Z⟩
  refine Zc 1 Z (z_E_ Z (call26 _) (Hl) H ?_);intro w H;refine Ad Z (AG Z Z) (Zc 4 Z (Af Z (λh3=>?_) (λh3=>?_)))
  ·refine Zc 7 Z (Zr Z ?_);have f:Bp e.sz b p a=1:=by unfold Bp;rw[if_neg (λq=>by first|omega|(obtain ⟨q1,_⟩:=q;simp_all))]
   exact ⟨_,.inr ⟨i,e,⟨h,d,c⟩,by rw[f];rfl,Z⟩,H.pick 1 [0] Z⟩
  refine Zc 1 Z ?_;obtain ⟨vv,sv,H⟩:=H.vo;have u:=H.sy 1 (·.slc);obtain ⟨am,mc,rfl⟩:=u;have a2:=(Aee.1 h).1;have a0:=x e (Aeg h);have n:=(H.rv 1 (·.rd)).at (AI h 0 _ Z);have o:=(H.rv 1 (·.rd)).at (AI h 2 _ Z);refine Z0 4 [0] Z (An 30 Z (λh4=>?_) (λh4=>?_))
  ·refine Zc 25 Z (Zr Z ?_);have f:Bp e.sz b p a=34:=by unfold Bp;rw[if_pos ⟨by first|assumption|simp_all,by omega,by omega⟩,if_neg U]
   exact ⟨_,.inr ⟨i,e,⟨h,d,c⟩,by rw[f];rfl,Z⟩,(H.pick 3 [0,1,2] Z).toVo⟩
  refine Z2 7 [1,2,0,0] H Z (Ad Z (Aj Z (z:=6) (j:=i) (r:=i*6) J Z Z Z U n U) (Ad Z (Bi Z (k:=2) (r:=i*6+2) J Z n Z) (Ad Z (Ax Z Z J (AB o)) (Z1 7 [0] [e.sz-a] Z U (Af Z (λh5=>?_) (λh5=>?_))))))
  ·refine Zc 7 Z (Zr Z ?_);have f:Bp e.sz b p a=34:=by unfold Bp;rw[if_pos ⟨by first|assumption|simp_all,by omega,by omega⟩,if_neg U]
   exact ⟨_,.inr ⟨i,e,⟨h,d,c⟩,by rw[f];rfl,Z⟩,(H.pick 3 [0,1,2] Z).toVo⟩
  refine Zc 11 Z (Zr Z ?_);have f:Bp e.sz b p a=0:=by unfold Bp;rw[if_pos ⟨by first|assumption|simp_all,by omega,by omega⟩,if_pos U]
  exact ⟨_,.inr ⟨i,e,⟨h,d,c⟩,by rw[f];rfl,Z⟩,(H.pick 3 [0,1,2] Z).toVo⟩
 have H:=H'.l1;refine Z0 20 [3] Z (Zr Z ?_);exact ⟨_,.inl ⟨y,Z,Z⟩,H.pick 1 [0] Z⟩
theorem Z7(a pp ps e d pd n:Nat)(nx:Int)(sk:List Int)(vs:List Vl)(D:Dsk)(G:StG)(c:Bool)(mb:Nat)(h:Fine D G mb):Ak 33 [Y a] [voA a pp nx sk vs,plB pp ps e d n c,stoA ps pd D G none] (λv X=>v=I 0/\Fine D.fl {G with sure:=G.rs.length} mb/\X=[voA a pp nx sk vs,plB pp ps e d n c,stoA ps pd D.fl {G with sure:=G.rs.length} none]):=by
 intro z R w H;replace H:=H.l3;obtain ⟨j,i,H⟩:=H.vo;replace H:=H.l5;refine Ae func33 Z ntmps33 Z (Z2 15 [0,0,0,0,0,3,0] H Z (Au Z (call54 _) (sync_s mb h) H.f4 ?_));rintro _ w _ ⟨rfl,b,rfl⟩ H;refine Zc 4 Z (Zr Z ?_);exact ⟨_,⟨Z,b,Z⟩,(H.pick 5 [1,2,3,4,0] Z).toVo⟩
end
section
variable{Tb:Ai}{z w:World}{Γ:List Ai}{pp mb n:Nat}{o:TB}{t:TS}{R:List Nat}
theorem trA.perm0{Q:List Nat}(hp:o.R.Perm Q)(a:trA Tb pp mb n o none h):trA Tb pp mb n ⟨o.N,o.C,Q⟩ none h:=by
 obtain ⟨M0,b,a⟩:=a;exact ⟨M0,⟨b.m,b.i.perm hp⟩,a⟩
theorem WD{pp mb n:Nat}{o:TB}(t:TS)(R:List Nat)(x:Pg)(g:x.Ok)(B:Ai)(p:∀h,B h->rdH 1 u 240 (x.body.map u8) h)(j:t.k<40):
  Ak 133 [Y pp,I 0,.agg #[I x.kind,u]] [trA Tb pp mb n o (some (t,R)),B] (λv G=>∃k,k<=t.k+1/\v=I 0/\G=[trA Tb pp mb n o (some (⟨t.N,t.C,t.F,k⟩,R)),B]):=by
 intro z R' w H;have K:=H.says 0 Z (λh a=>trA.k a);obtain ⟨⟨M0,M⟩,c,H⟩:=H.tr1;refine Ret.mono (Cn.at (write_p pp mb n M0 o.C ⟨M,t.C,t.F,t.k⟩ 0 x g u B p j ⟨.inl Z,by have:=K.hn;omega⟩ (by have:=K.one 0 (AeR _);simp only[curC] at this;show t.C 0≠0;omega)) H 2 [0,1] Z Z) ?_;rintro v q ⟨Γ',⟨d,f,rfl,rfl⟩,l⟩;refine ⟨_,⟨d,f,Z,Z⟩,Sep.toTr1 (C:=t.C) (F:=t.F) (k:=d) (N:=t.N) l c.1 ⟨λe c' b=>?_,c.2.i⟩⟩;have:=(c.2.i.nin e c' b).1;rw[fup_ne _ _ U];exact c.2.m e c' b
theorem Ib{pp mb n:Nat}{vs:List Vl}{o:TB}:Ak 33 [Y m] [voA m pp s l vs,trA Tb pp mb n o none] (λv G=>v=I 0/\G=[voA m pp s l vs,trA Tb pp mb n o none]):=by
 intro z R' w H;obtain ⟨M0,b,H⟩:=(H.pick 2 [1,0] Z).tr0;obtain ⟨X,a,H⟩:=H.po;refine Ret.mono (Cn.at (Z7 m pp X.ps X.pc X.pa X.pd n s l vs X.D X.G false mb a.fine) H 8 [7,0,1,2,3,4,5,6] Z Z) ?_;rintro v f ⟨Γ',⟨rfl,d,rfl⟩,c⟩;refine ⟨_,⟨Z,Z⟩,(Sep.toTr0 (o:=o) ((c.pick 8 [1,2,3,4,5,6,7,0] Z).toPo (X:= {X with D:=X.D.fl,G:= {X.G with sure:=X.G.rs.length}}) (M0:=M0) (t:=none) ⟨a.hn,d,a.pg,a.tab,a.m0,a.cp,a.c0,a.one,a.idle,λT e=>(by cases e)⟩ Z) b).pick 2 [1,0] Z⟩
end
section
variable{Tb:Ai}
set_option maxHeartbeats 2000000 in
theorem Ub {vs:List Vl} {o:TB} (t:TS) (R0:List Nat) (b:List Int) (a:List Vl) (hA:∀h,A h->rdH 6 u a.length (AY a) h) (d:a.length=8) (c:b.length<=8) (r:0<=p/\p<=1073741824) (g:∀x∈b,0<=x/\x<=1023) (a4:∀e∈a,e.Fit) (hk:t.k+1+manyN n<=40) (a3:j<=1000000000):Ak 72 [Y m,.agg #[I p,u,y]] [voA m i s l vs,A,B4 y b,trA Tb i j n o (some (t,R0))] (λv G=>v=I 0/\G=[voA m i p b a,A,B4 y b,trA Tb i (j+2) n ⟨t.N,t.C,R0⟩ none]):=by
 intro z R w H;replace H:=H.l4;obtain ⟨vv,sv,H⟩:=H.vo;replace H:=H.l6;refine Ae func72 Z ntmps72 Z (Za 2 [] H Z ?_);intro b1 w H;refine Z2 10 [0,1,0] H Z (z_E_ Z (call18 _) (GB i j n o _) H.f6 ?_);intro w H;replace H:=H.l7;refine AD 12 (v:=.bool true) Z Z (Z2 9 [1,3] H Z (Au Z (call47 _) (Jb p b a hA (λh q=>q.1.rd) c d r g a4) H.f6.f6 ?_));rintro _ w _ ⟨pw,rfl,rfl⟩ H;replace H:=H.l8;refine Z2 22 [3,0,5,0] H Z (Au Z (call133 _) (WD t R0 ⟨1,Dr p b a⟩ ⟨by show (1:Int)<=1/\(1:Int)<=5;omega,Ks c d⟩ (blk pw (Bb (AL (Cf p b a a.length)) ((21+19*8:Nat):Int)) 173) (λh q=>HN q (AW (by rw[Ez p c (Ael _),d];omega)) U U U (by rfl)) U) H.f3 ?_);rintro _ w _ ⟨k2,a6,rfl,rfl⟩ H;replace H:=H.l8;refine Z2 20 [4,0,5,0] H Z (z_E_ Z (call134 _) (Wh (⟨t.N,t.C,t.F,k2⟩:TS) R0 (by show k2+manyN n<=40;omega) a3) H ?_);intro w H;replace H:=H.l8;refine Z2 16 [4,4,3] H Z (Au Z (call25 _) (M6 b a (λh q=>hA h q) d c) H.f3.f3 ?_);rintro _ w _ ⟨a2,a0,rfl,rfl⟩ H;replace H:=H.l10;have f:=H.sy 0 (·.slc);have a1:=H.sy 1 (·.1.slc);refine Z0 2 [1] Z (AC Z Z (Am 7 H Z Z Z Z (vs:=[I p,a2,a0]) Z (Ab Z (Ab f.one (Ab a1.one Aw))) J O (out:=[Y i,I p,a2,a0]) Z) ?_);rintro w H;replace H:=H.l10;refine Zc 8 Z (Zr Z ?_);exact ⟨_,⟨Z,Z⟩,(H.pick 10 [7,0,1,2,3,4] Z).toVo⟩
end
section
variable{Tb:Ai}
theorem Ic{vs:List Vl}(i:vs.length=8)(hs:l.length<=8):Ak 9 [Y n] [voA n m t l vs] (λv G=>∃f e:Value,v=.agg #[I t,f,e]/\G=[grow 59 6 f vs.length (AY vs),B4 e l,voA n m t l vs]):=by
 intro z R w H;replace H:=H.l1;obtain ⟨o,k,H⟩:=H.vo;replace H:=H.l3;refine Ae func9 Z ntmps9 Z (Za 2 [] H Z ?_);intro p w H;refine Z2 8 [1,1,3] H Z (Au Z (call25 _) (M6 l vs (λh q=>q.rd) i hs) H.f3.f3 ?_);rintro _ w _ ⟨b,a,rfl,rfl⟩ H;replace H:=H.l6;have c:=H.sy 0 (·.slc);have d:=H.sy 1 (·.1.slc);refine AC Z Z (Am 4 H Z Z Z Z (vs:=[I t,b,a]) Z (Ab Z (Ab c.one (Ab d.one Aw))) J O (out:=[I t,b,a]) Z) ?_;rintro w H;replace H:=H.l6;refine Zc 3 Z (Zl [4,3] H Z ?_);exact ⟨_,⟨b,a,Z,Z⟩,((H.pick 6 [5,2,3,0,1] Z).toVo).pick 3 [1,2,0] Z⟩
set_option maxHeartbeats 2000000 in
theorem change_c (m pp mb n:Nat) (nx:Int) (vs:List Vl) (o:TB) (hv:vs.length=8) (E0:Ai) (f:FuncId) (us:List Value) (l:∀a w,(callFunc f a).run prog w=.ok (.enter f a) w) (x:Int->Ai->Prop) (g:Int->List Vl->TS->List Nat->Ai->Prop) (a7:∀(c:Nat) (v1 v2:Value),Ak f (Y c::us) [blk c [I nx,v1,v2] 41,grow 59 6 v1 vs.length (AY vs),B4 v2 [],voA m pp nx [] vs,trA Tb pp mb n o (some ((⟨o.N,o.C,AR n o.C,0⟩:TS),o.R)),E0] (λv G=>(∃(e:Int) (d:Ai) (s:TS×List Nat),(e≠0/\x e d)/\v=I e/\G=[voA m pp nx [] vs,trA Tb pp mb n o (some s),d])\/(∃(nx2:Int) (b:List Vl) (t:TS) (j:List Nat) (d:Ai),g nx2 b t j d/\v=I 0/\G=[blk c [I nx2,v1,v2] 41,grow 59 6 v1 b.length (AY b),B4 v2 [],voA m pp nx [] vs,trA Tb pp mb n o (some (t,j)),d]))) (hG:∀nx2 b t j d,g nx2 b t j d->b.length=8/\(0<=nx2/\nx2<=1073741824)/\(∀e∈b,e.Fit)/\t.k+1+manyN n<=40) (a3:mb<=1000000000):Ak 38 [Y m,(.func (.func f) #[] us.toArray)] [voA m pp nx ([]) vs,trA Tb pp mb n o none,E0] (λv G=>(∃(e:Int) (d:Ai),(e≠0/\x e d)/\v=I e/\G=[voA m pp nx [] vs,trA Tb pp mb n o none,d])\/(∃(nx2:Int) (b:List Vl) (t:TS) (j:List Nat) (d:Ai),g nx2 b t j d/\v=I 0/\G=[voA m pp nx2 [] b,trA Tb pp (mb+2) n ⟨t.N,t.C,j⟩ none,d])):=by
 intro z R w H;refine Ae func38 Z ntmps38 Z (Zc 7 Z ?_);obtain ⟨vv,sv,H⟩:=H.vo;refine Z2 5 [0,0,0] H Z (z_E_ Z (call70 _) (Zz) H.f3 ?_);intro w H;replace H:=((H.pick 5 [1,2,3,0,4] Z).toVo).l3;refine Z0 15 [4] Z (Au Z (call9 _) (Ic hv O) H ?_);rintro _ w _ ⟨r,p,rfl,rfl⟩ H;have a0:=H.sy 0 (·.slc);have y:=H.sy 1 (·.1.slc);refine Za 0 [] H Z ?_;intro b2 w H;refine AC Z Z (Am 0 H Z Z Z Z (vs:=[I nx,r,p]) Z (Ab Z (Ab a0.one (Ab y.one Aw))) J O (out:=[I nx,r,p]) Z) ?_;rintro w H;refine Zc 6 Z (AdV Z Z Z Z (l _) (a7 b2 r p) H ?_);rintro _ w _ (⟨e,d,s,⟨a2,u⟩,rfl,rfl⟩|⟨nx2,b,t,j,d,i,rfl,rfl⟩) H'
 ·have H:=H'.l3;refine Z0 9 [0] Z (Af Z (λh1=>?_) (λh1=>?_))
  ·refine Zc 1 Z ?_;obtain ⟨b3,b4,H⟩:=H.vo
   refine Z2 5 [0,0,0] H Z (z_E_ Z (call71 _) (ZA) H.f3 ?_);intro w H;replace H:=((H.pick 5 [1,2,3,0,4] Z).toVo).l3;refine Zc 9 Z (Zr Z ?_);exact ⟨_,.inl ⟨e,d,⟨a2,u⟩,Z,Z⟩,H.pick 3 [0,1,2] Z⟩
  (exfalso;omega)
 have H:=H'.l6;obtain ⟨a1,a5,a4,a6⟩:=hG _ _ _ _ _ i;refine Z2 16 [4,0,3] H Z (z_E_ Z (call72 _) (Ub t j [] b (λh q=>q.rd) a1 O a5 O a4 a6 a3) H.f4.f3.f3.f4 ?_);intro w H;refine Zc 4 Z (Zr Z ?_);exact ⟨_,.inr ⟨nx2,b,t,j,d,i,Z,Z⟩,H.pick 6 [0,3,5] Z⟩
end
section
variable{Tb:Ai}
section
variable{P:Program}{o:Oper}{w z:World}{Γ:List Ai}{n:Nat}{ds:List Deferred}{L:List (Nat×Value)}{v:Value}{x y:Operand}
theorem CW(i:Nat)(H:Sep z Γ w){e:TypeId}{q:Nat}{t:Option Addr}{vs:List Value}(hi:Γ[i]?=some (grow e j (.slice t m r) m V))(ho:o.op=.store T x y)(hx:ev L x=some (GG t q))(hy:ev L y=some v)(hv:v.cells=vs.toArray)(h1:∀u∈vs,u.oneCell'=true)
  (hs:(P.info? T).map (·.size)=some vs.length)(hm:0<m)(hq:q+vs.length<=m*j){out:List Value}(c:V.take q++vs++V.drop (q+vs.length)=out):
  DI P n ds L o w (λl=>Sep z (Γ.set i (grow e j (.slice t m r) m out)) l):=λa hF=>by
 have s:V.length=m*j:=H.says i hi (λh g=>g.len);obtain ⟨g,a1,rest,hu,h3,h4,h5,H2⟩:=H.ungrow i hi hm;cases hu;have d:i<Γ.length:=(Aee.1 hi).1;have k:(Γ.set i (blk g (V++rest) e))[i]?=some (blk g (V++rest) e):=by rw[Afy d]
 have a0:m*j+(r-m)*j=r*j:=by rw[<-AhI];congr 1;omega
 obtain ⟨l,hr,H3⟩:=Am (P:=P) (n:=n) (ds:=ds) (L:=L) i H2 (p:=0+q) (vs:=vs) k ho hx hy hv h1 hs (by rw[Aeh,s,h5];omega) (out:=out++rest) (by
  rw[AfP,Aew U,AeW U,<-c];simp only[Aek]) a hF
 refine ⟨l,hr,?_⟩;rw[AgX] at H3;have f:out.length=m*j:=by rw[<-c];simp only[Aeh,AeA,AeP];omega
 have:=H3.mono i (B:=grow e j (.slice (some ⟨g,0,none⟩) m r) m out) (by rw[Afy d]) (λh b=>blk.grow b h3 h4 (by rw[Aeh,f,h5];omega) (by rw[<-f,AeI];rfl));rw[AgX] at this;exact this
end
theorem EJ{vs:List Vl}{e e2:Vl}(h:vs[i]?=some e)(k:Nat)(g:k+V.length<=6)(c:e.cells.take k++V++e.cells.drop (k+V.length)=e2.cells):(AY vs).take (i*6+k)++V++(AY vs).drop (i*6+k+V.length)=AY (vs.set i e2):=by
 obtain ⟨a,rfl⟩:=Aee.1 h;have e1:vs=vs.take i++vs[i]::vs.drop (i+1):=by rw[<-Ae2 a,AeO]
 have b:vs.set i e2=vs.take i++e2::vs.drop (i+1):=by rw[Afd,if_pos a]
 have j:(AY (vs.take i)).length=i*6:=by rw[ZV,AeA,AeH U]
 have d:AY vs=AY (vs.take i)++(vs[i].cells++AY (vs.drop (i+1))):=by
  have:=congrArg AY e1;rw[JK] at this;exact this.trans (congrArg (AY (vs.take i)++ ·) Z)
 have f:vs[i].cells.length=6:=rfl;rw[d,b,JK];rw[show i*6+k=(AY (vs.take i)).length+k by omega,Ahl,show (AY (vs.take i)).length+k+V.length=(AY (vs.take i)).length+(k+V.length) by omega,Ahm,Aew U,AeW U];have:AY (e2::vs.drop (i+1))=e2.cells++AY (vs.drop (i+1)):=by simp[AY]
 rw[this,<-c];simp only[Aek]
theorem Z8(c g:Nat)(nx:Int)(d b:Value)(vs:List Vl)(i:Nat)(e:Vl)(h:vs[i]?=some e)(o:vs.length=8):Ak 39 [Y c,Y g] [blk c [I nx,d,b] 41,grow 59 6 d vs.length (AY vs),B4 b ([]),blk g [I (i:Int)] 3] (λv G=>v=I 0/\G=[blk c [I nx,d,b] 41,grow 59 6 d vs.length (AY (vs.set i {e with st:=2})),B4 b ([]),blk g [I (i:Int)] 3]):=by
 intro z R w H;have f:=H.sy 1 (·.slc);obtain ⟨p,q,rfl⟩:=f;have n:=(Aee.1 h).1;have a:=(H.rv 1 (·.rd)).at (AI h 0 _ Z);refine Ae func39 Z ntmps39 Z (Zc 6 Z (BJ 7 J J (A4 H λw l=>?_)));have H:=l.l4;refine PU 5 [1,0,1] (AN (H.blk 0 Z) (AN (H.blk 3 Z) AH)) Z J Z (Cd Z Z Z (Aj Z (z:=6) (j:=i) (r:=i*6) J Z Z Z U a U) (Cd Z Z Z (Bi Z (k:=1) (r:=i*6+1) J Z a Z) (CG (gw (AC Z Z (CW 1 H Z Z Z Z (vs:=[I 2]) Z (by simp[Value.oneCell']) J U (by simp only[Aej,AeE];omega) (out:=AY (vs.set i {e with st:=2})) (EJ (e2:= {e with st:=2}) h 1 O (by simp[Vl.cells,v0]))) ?_)))));rintro w H;refine Zc 8 Z (Zr Z ?_);exact ⟨_,⟨Z,Z⟩,H.pick 4 [0,1,2,3] Z⟩
theorem Z9(c bs h:Nat)(nx:Int)(f d:Value)(vs:List Vl)(i:Nat)(e:Vl)(l:vs[i]?=some e)(p:vs.length=8)(a:Int):Ak 41 [Y c,Y bs,Y h] [blk c [I nx,f,d] 41,grow 59 6 f vs.length (AY vs),B4 d ([]),blk bs [I a] 3,blk h [I (i:Int)] 3] (λv G=>v=I 0/\G=[blk c [I nx,f,d] 41,grow 59 6 f vs.length (AY (vs.set i {e with sz:=a})),B4 d ([]),blk bs [I a] 3,blk h [I (i:Int)] 3]):=by
 intro z R w H;have g:=H.sy 1 (·.slc);obtain ⟨q,s,rfl⟩:=g;have o:=(Aee.1 l).1;have b:=(H.rv 1 (·.rd)).at (AI l 0 _ Z);refine Ae func41 Z ntmps41 Z (Zc 6 Z (BJ 8 J J (A4 H λw m=>?_)));have H:=m.l5;refine PU 6 [1,0,1,2] (AN (H.blk 0 Z) (AN (H.blk 4 Z) (AN (H.blk 3 Z) AH))) Z J Z (Cd Z Z Z (Aj Z (z:=6) (j:=i) (r:=i*6) J Z Z Z U b U) (Cd Z Z Z (Bi Z (k:=2) (r:=i*6+2) J Z b Z) (CG (gw (AC Z Z (CW 1 H Z Z Z Z (vs:=[I a]) Z (by simp[Value.oneCell']) J U (by simp only[Aej,AeE];omega) (out:=AY (vs.set i {e with sz:=a})) (EJ (e2:= {e with sz:=a}) l 2 O (by simp[Vl.cells,v0]))) ?_)))));rintro w H;refine Zc 8 Z (Zr Z ?_);exact ⟨_,⟨Z,Z⟩,H.pick 5 [0,1,2,3,4] Z⟩
theorem QX{n:Nat}{o:TB}{s:TS×List Nat}:Ak 116 [Y m] [trA Tb m i n o (some s)] (λv G=>v=I 0/\G=[trA Tb m i n o (some s)]):=by
 intro z R w H;refine Ae func116 Z ntmps116 Z (Zc 19 Z (z_E_ Z (call18 _) (GB m i n o _) H ?_));intro w H;refine AD 6 (v:=.bool true) Z Z (Zc 12 Z (Zr Z ?_));exact ⟨_,⟨Z,Z⟩,H⟩
theorem Aco(pp mb n:Nat)(o:TB)(t:TS)(a:List Nat)(p:Nat)(e:p≠0)(hp:manyN n<p/\p<n)(c:1<=t.C p)(d:a.length+n<1000):Ak 62 [Y pp,I (p:Int)] [trA Tb pp mb n o (some (t,a))] (λv G=>v=.tuple #[I (p:Int),I 0]/\G=[trA Tb pp mb n o (some ({t with C:=fup t.C p (t.C p+1)},p::a))]):=by
 intro z R w H;refine Ae func62 Z ntmps62 Z (Zc 10 Z (z_E_ Z (call116 _) (QX) H ?_));intro w H;refine Z0 19 [4,0] Z (Af Z (λb=>U) (λb=>?_));refine Zc 7 Z (z_E_ Z (call117 _) (XE pp mb n o t a p hp c d) H ?_);intro w H;refine Z0 20 [4] Z (Zr Z ?_);exact ⟨_,⟨Z,Z⟩,H⟩
theorem Aaa(pp mb n:Nat)(o:TB)(s:TS×List Nat):Ak 62 [Y pp,I 0] [trA Tb pp mb n o (some s)] (λv G=>v=.tuple #[I 0,I 0]/\G=[trA Tb pp mb n o (some s)]):=by
 intro z R w H;refine Ae func62 Z ntmps62 Z (Zc 10 Z (z_E_ Z (call116 _) (QX) H ?_));intro w H;refine Z0 27 [4,3] Z (Zr Z ?_);exact ⟨_,⟨Z,Z⟩,H⟩
theorem WE{n:Nat}{o:TB}(t:TS)(b:List Nat)(r:Int)(f:0<=r)(a:r.toNat≠0->(manyN n<r.toNat/\r.toNat<n)/\1<=t.C r.toNat)(d:b.length+n<1000):Ak 62 [Y m,I r] [trA Tb m i n o (some (t,b))] (λv G=>∃C2,v=.tuple #[I r,I 0]/\G=[trA Tb m i n o (some (⟨t.N,C2,t.F,t.k⟩,Ba r.toNat++b))]):=by
 obtain ⟨p,rfl⟩:=Af0 f;intro z R w H;have e:((p:Int)).toNat=p:=rfl;rw[e] at a ⊢;by_cases h0:p=0
 ·subst h0
  refine Ret.mono (Aaa m i n o (t,b) z R w H) ?_;rintro v g ⟨Γ',⟨rfl,rfl⟩,c⟩;exact ⟨_,⟨t.C,Z,Z⟩,c⟩
 refine Ret.mono (Aco m i n o t b p h0 (a h0).1 (a h0).2 d z R w H) ?_;rintro v g ⟨Γ',⟨rfl,rfl⟩,c⟩;exact ⟨_,⟨_,Z,Z⟩,by rw[DR h0];exact c⟩
set_option maxHeartbeats 2000000 in
theorem WF (a pp mb n:Nat) (o:TB) (c f g s:Nat) (nx:Int) (h d:Value) (vs:List Vl) (i:Nat) (e:Vl) (t:vs[i]?=some e) (hv:vs.length=8) (x:Vl) (a0:0<=nx/\nx<1073741824) (m:0<=x.r) (k:x.r.toNat≠0->(manyN n<x.r.toNat/\x.r.toNat<n)/\1<=o.C x.r.toNat) (hb:o.R.length+n<1000):Ak 61 [Y c,Y f,Y g,Y s] [blk c [I nx,h,d] 41,grow 59 6 h vs.length (AY vs),B4 d ([]),voA a pp nx ([]) vs,trA Tb pp mb n o (some ((⟨o.N,o.C,AR n o.C,0⟩:TS),o.R)),blk f [Y a] 32,blk g [I x.id,I x.st,I x.sz,I x.q,I x.r,I x.mp] 59,blk s [I (i:Int)] 3] (λv G=>∃C2,v=I 0/\G=[blk c [I (nx+1),h,d] 41,grow 59 6 h vs.length (AY (vs.set i x)),B4 d ([]),voA a pp nx ([]) vs,trA Tb pp mb n o (some (⟨o.N,C2,AR n o.C,0⟩,Ba x.r.toNat++o.R)),blk f [Y a] 32,blk g [I x.id,I x.st,I x.sz,I x.q,I x.r,I x.mp] 59,blk s [I (i:Int)] 3]):=by
 intro z R w H;replace H:=H.l8;have p:=H.sy 1 (·.slc);obtain ⟨am,mc,rfl⟩:=p;have a2:=(Aee.1 t).1;have b:=(H.rv 1 (·.rd)).at (AI t 0 _ Z);replace H:=H.f3;obtain ⟨y,sv,H⟩:=H.vo;replace H:=H.l10;refine Ae func61 Z ntmps61 Z (Zc 11 Z ?_);replace H:=H.f8.f1.f8;refine AS (Sep z (blk f [Y a] 32::blk a [Y pp,I nx,y,sv] 71::blk g [I x.id,I x.st,I x.sz,I x.q,I x.r,I x.mp] 59::R)) 13 Z J (A4 H λw l=>?_);have H:=l.l10;refine AZ [0,1,2,3,4,5] [0,0,0,1,0,4,2,0] [] (by exact H.pick 10 [0,1,2] Z) Z J Z (AE [6] J O (Al (Br Z Z Z Z Z Z (λw=>call62 _ w) (WE (⟨o.N,o.C,AR n o.C,0⟩:TS) o.R x.r m k hb) H.f8 Z ?_)));rintro _ w _ ⟨C2,rfl,rfl⟩ H;replace H:=H.l10;refine Az (H.pick 10 [1,2,3] Z) (AZ [7,8,9,10] [4] [] (by exact H.pick 10 [1,2,3] Z) Z J Z (AE [11] J O (Al (Bl Z Z Z (AdH 3 H Z Z Z Z Z Z J) ?_))));rintro w H;replace H:=H.l10;refine Az (H.pick 10 [1,2,3] Z) (AZ [12] [] [] (by exact H.pick 10 [1,2,3] Z) Z J Z (a_done J (gn (Zc 2 Z (BJ 7 J J (A4 H λw l=>?_))))));have H:=l.l10;refine MC 6 [1,6,0,9,0,3,6] [] H Z J (Cd Z Z Z (Aj Z (z:=6) (j:=i) (r:=i*6) J Z Z Z U b U) (CG (gw (AC Z Z (CW 7 H Z Z Z Z (vs:=[I x.id,I x.st,I x.sz,I x.q,I x.r,I x.mp]) Z (by simp[Value.oneCell']) J U (by simp only[Aej,AeE];omega) (out:=AY (vs.set i x)) (EJ (e2:=x) t 0 O (by simp[Vl.cells,v0]))) ?_))));rintro w H;replace H:=H.l10;refine Z5 21 [0,6,0,0,6] [nx+1] H Z U ?_;intro w H;refine Zr Z ?_;exact ⟨_,⟨C2,Z,Z⟩,((H.pick 10 [2,4,5,6,7,8,0,1,3,9] Z).toVo).pick 8 [1,2,3,0,4,5,6,7] Z⟩
end
section
variable{Tb:Ai}
theorem GD{vs:List Vl}{x:Vl}(h:∀e∈vs,e.Fit)(a:x.Fit):∀e∈vs.set i x,e.Fit:=λe b=>by
 rcases Ahw b with q|q
 ·exact h e q
 rw[q];exact a
theorem R6(h pp mb n:Nat)(nx:Int)(vs:List Vl)(o:TB)(y:vs.length=8){f:FuncId}(us:List Value)(d:∀a w,(callFunc f a).run prog w=.ok (.enter f a) w)(nx2:Int)(b:List Vl)(R2:List Nat)
  (s:∀(c:Nat) (i g:Value),Ak f (Y c::us) [blk c [I nx,i,g] 41,grow 59 6 i vs.length (AY vs),B4 g [],voA h pp nx [] vs,trA Tb pp mb n o (some (⟨o.N,o.C,AR n o.C,0⟩,o.R)),A] (λv G=>∃C2,v=I 0/\G=[blk c [I nx2,i,g] 41,grow 59 6 i vs.length (AY b),B4 g [],voA h pp nx [] vs,trA Tb pp mb n o (some (⟨o.N,C2,AR n o.C,0⟩,R2)),A]))
  (l:b.length=vs.length)(r:0<=nx2/\nx2<=1073741824)(q:∀e∈b,e.Fit)(u:manyN n<=9)(m:mb<=1000000000):
  Ak 38 [Y h,.func (.func f) #[] us.toArray] [voA h pp nx [] vs,trA Tb pp mb n o none,A] (λv G=>∃C2,v=I 0/\G=[voA h pp nx2 [] b,trA Tb pp (mb+2) n ⟨o.N,C2,R2⟩ none,A]):=by
 intro z R w H;refine Ret.mono (change_c h pp mb n nx vs o y A f us d (λ_ _=>False) (λj k t R0 E2=>∃C2,j=nx2/\k=b/\t=⟨o.N,C2,AR n o.C,0⟩/\R0=R2/\E2=A) (λc i g z R w H=>?_) ?_ m z R w H) ?_
 ·refine Ret.mono (s c i g z R w H) ?_
  rintro v x ⟨Γ',⟨C2,rfl,rfl⟩,p⟩;exact ⟨_,.inr ⟨nx2,b,_,R2,A,⟨C2,Z,Z,Z,Z,Z⟩,Z,Z⟩,by rw[l];exact p⟩
 ·rintro _ _ _ _ _ ⟨C2,rfl,rfl,rfl,rfl,rfl⟩;exact ⟨by omega,r,q,by show 0+1+manyN n<=40;omega⟩
 rintro v x ⟨Γ',(⟨e,E2,⟨_,hb⟩,_⟩|⟨j,k,t,R0,E2,⟨C2,rfl,rfl,rfl,rfl,rfl⟩,rfl,rfl⟩),p⟩
 ·exact hb.elim
 exact ⟨_,⟨C2,Z,Z⟩,p⟩
theorem Aab{vs:List Vl}{o:TB}(l:vs.length=8)(f:0<=t/\t<=1073741824)(s:∀e∈vs,e.Fit){d:Nat}(i:Nat)(e:Vl)(p:vs[i]?=some e)(k:manyN n<=9)(h:g<=1000000000):Ak 38 [Y m,.func (.func 39) #[] #[Y d]] [voA m j t [] vs,trA Tb j g n o none,blk d [I (i:Int)] 3] (λv G=>∃C2,v=I 0/\G=[voA m j t [] (vs.set i {e with st:=2}),trA Tb j (g+2) n ⟨o.N,C2,o.R⟩ none,blk d [I (i:Int)] 3]):=by
 have b:=s e (Aeg p);refine R6 m j g n t vs o l [Y d] (λa w=>call39 a w) t _ o.R (λc x u z R w H=>?_) O f (GD s ⟨b.id,by show (0:Int)<=2/\(2:Int)<=2;omega,b.sz,b.q,b.r,b.mp⟩) k h;refine Ret.mono (Cn.at (Z8 c d t x u vs i e p l) H 6 [0,1,2,5,3,4] Z Z) ?_;rintro v w' ⟨Γ',⟨rfl,rfl⟩,y⟩;exact ⟨_,⟨o.C,Z,Z⟩,y.pick 6 [0,1,2,4,5,3] Z⟩
theorem Aac{vs:List Vl}{o:TB}(u:vs.length=8)(k:0<=t/\t<=1073741824)(y:∀e∈vs,e.Fit){bs d:Nat}(i:Nat)(e:Vl)(x:vs[i]?=some e)(b:Int)(a0:1<=b/\b<=1048576)(s:manyN n<=9)(l:g<=1000000000):Ak 38 [Y m,.func (.func 41) #[] #[Y bs,Y d]] [voA m j t [] vs,trA Tb j g n o none,blk bs [I b] 3,blk d [I (i:Int)] 3] (λv G=>∃C2,v=I 0/\G=[voA m j t [] (vs.set i {e with sz:=b}),trA Tb j (g+2) n ⟨o.N,C2,o.R⟩ none,blk bs [I b] 3,blk d [I (i:Int)] 3]):=by
 intro z R w H;have f:=y e (Aeg x);have H2:=((H.pick 4 [2,3,0,1] Z).made 2 (A:=seps [blk bs [I b] 3,blk d [I (i:Int)] 3]) (λh q=>q)).pick 3 [1,2,0] Z;refine Ret.mono (R6 m j g n t vs o u [Y bs,Y d] (λa w=>call41 a w) t (vs.set i {e with sz:=b}) o.R (λc v1 v2 z R w H=>?_) O k (GD y ⟨f.id,f.st,by show 0<=b/\b<=1048576;omega,f.q,f.r,f.mp⟩) s l z R w H2) ?_
 ·have H3:=(H.pick 6 [5,0,1,2,3,4] Z).opened
  refine Ret.mono (Cn.at (Z9 c bs d t v1 v2 vs i e x u b) H3 7 [2,3,4,0,1,5,6] Z Z) ?_;rintro v w' ⟨Γ',⟨rfl,rfl⟩,p⟩;exact ⟨_,⟨o.C,Z,Z⟩,((p.pick 7 [3,4,0,1,2,5,6] Z).made 2 (λh q=>q)).pick 6 [1,2,3,4,5,0] Z⟩
 rintro v w' ⟨Γ',⟨C2,rfl,rfl⟩,p⟩;exact ⟨_,⟨C2,Z,Z⟩,((p.pick 3 [2,0,1] Z).opened).pick 4 [2,3,0,1] Z⟩
theorem Aad{vs:List Vl}{o:TB}(y:vs.length=8)(l:0<=t/\t<1073741824)(hf:∀e∈vs,e.Fit){d b f:Nat}(i:Nat)(e:Vl)(he:vs[i]?=some e)(x:Vl)(hx:x.Fit)(k:x.r.toNat≠0->(manyN n<x.r.toNat/\x.r.toNat<n)/\1<=o.C x.r.toNat)(hb:o.R.length+n<1000)(u:manyN n<=9)(p:g<=1000000000):Ak 38 [Y m,.func (.func 61) #[] #[Y d,Y b,Y f]] [voA m j t [] vs,trA Tb j g n o none,blk d [Y m] 32,blk b [I x.id,I x.st,I x.sz,I x.q,I x.r,I x.mp] 59,blk f [I (i:Int)] 3] (λv G=>∃C2,v=I 0/\G=[voA m j (t+1) [] (vs.set i x),trA Tb j (g+2) n ⟨o.N,C2,Ba x.r.toNat++o.R⟩ none,blk d [Y m] 32,blk b [I x.id,I x.st,I x.sz,I x.q,I x.r,I x.mp] 59,blk f [I (i:Int)] 3]):=by
 intro z R w H;have H2:=((H.pick 5 [2,3,4,0,1] Z).made 3 (A:=seps [blk d [Y m] 32,blk b [I x.id,I x.st,I x.sz,I x.q,I x.r,I x.mp] 59,blk f [I (i:Int)] 3]) (λh q=>q)).pick 3 [1,2,0] Z;refine Ret.mono (R6 m j g n t vs o y [Y d,Y b,Y f] (λa w=>call61 a w) (t+1) (vs.set i x) (Ba x.r.toNat++o.R) (λc v1 v2 z R w H=>?_) O ⟨by omega,by omega⟩ (GD hf hx) u p z R w H2) ?_
 ·have H3:=(H.pick 6 [5,0,1,2,3,4] Z).opened
  refine Ret.mono (Cn.at (WF m j g n o c d b f t v1 v2 vs i e he y x l hx.r.1 k hb) H3 8 [3,4,5,6,7,0,1,2] Z Z) ?_;rintro v w' ⟨Γ',⟨C2,rfl,rfl⟩,s⟩;exact ⟨_,⟨C2,Z,Z⟩,((s.pick 8 [5,6,7,0,1,2,3,4] Z).made 3 (λh q=>q)).pick 6 [1,2,3,4,5,0] Z⟩
 rintro v w' ⟨Γ',⟨C2,rfl,rfl⟩,s⟩;exact ⟨_,⟨C2,Z,Z⟩,((s.pick 3 [2,0,1] Z).opened).pick 5 [3,4,0,1,2] Z⟩
set_option maxHeartbeats 2000000 in
theorem Jd {vs:List Vl} {o:TB} (q:vs.length=8) (b:0<=t/\t<=1073741824) (r:∀e∈vs,e.Fit) (d:manyN n<=9) (c:g<=1000000000) (id:Int):Ak 16 [Y m,I id] [voA m j t ([]) vs,trA Tb j g n o none] (λv G=>((∀e∈vs,¬(e.st=1/\e.id=id))/\v=I 31/\G=[voA m j t [] vs,trA Tb j g n o none])\/(∃(i:Nat) (e:Vl) (C2:Nat->Nat),(vs[i]?=some e/\e.st=1/\e.id=id)/\v=I 0/\G=[voA m j t [] (vs.set i {e with st:=2}),trA Tb j (g+2) n ⟨o.N,C2,o.R⟩ none])):=by
 intro z R w H;refine Ae func16 Z ntmps16 Z (Zc 9 Z (Au Z (call37 _) (JL id U) H ?_));rintro _ w _ (⟨i,e,⟨k,a,h⟩,rfl,rfl⟩|⟨f,rfl,rfl⟩) l
 ·have H:=l.l2;refine Za 0 [] H Z ?_;intro u w H;refine Z4 10 [0,0,0,0] H Z ?_;intro w H;refine Af Z (λp=>U) (λp=>?_)
  refine Zc 5 Z (Ad Z (C6 Z Z Z) (Au Z (call38 _) (Aab q b r i e k d c) H.f2.f2 ?_));rintro _ w _ ⟨C2,rfl,rfl⟩ H;refine Z0 16 [4] Z (z_E_ Z (call33 _) (Ib) H ?_);intro w H;refine Zc 4 Z (Zr Z ?_);exact ⟨_,.inr ⟨i,e,C2,⟨k,a,h⟩,Z,Z⟩,H.pick 3 [0,1] Z⟩
 have H:=l.l2;refine Za 0 [] H Z ?_;intro s w H;refine Z4 17 [0,0,0,3] H Z ?_;intro w H;refine Zr Z ?_;exact ⟨_,.inl ⟨f,Z,Z⟩,H.pick 3 [1,2] Z⟩
set_option maxHeartbeats 2000000 in
theorem QY {vs:List Vl} {o:TB} (p:vs.length=8) (a:0<=t/\t<=1073741824) (hf:∀e∈vs,e.Fit) (f:manyN n<=9) (d:g<=1000000000) (i:Nat) (e:Vl) (he:vs[i]?=some e) (x:Vl) (b:x.Fit) (h:t<1073741824) (c:x.r.toNat≠0->(manyN n<x.r.toNat/\x.r.toNat<n)/\1<=o.C x.r.toNat) (s:o.R.length+n<1000):Ak 28 [Y m,I (i:Int),.agg #[I x.id,I x.st,I x.sz,I x.q,I x.r,I x.mp]] [voA m j t ([]) vs,trA Tb j g n o none] (λv G=>∃C2:Nat->Nat,v=.tuple #[I t,I 0]/\G=[voA m j (t+1) [] (vs.set i ⟨t,1,x.sz,x.q,x.r,x.mp⟩),trA Tb j (g+2) n ⟨o.N,C2,Ba x.r.toNat++o.R⟩ none]):=by
 intro z R w H;replace H:=H.l2;obtain ⟨vv,sv,H⟩:=H.vo;replace H:=H.l4;refine Ae func28 Z ntmps28 Z (Za 2 [] H Z ?_);intro b1 w H;refine Za 0 [] H Z ?_;intro u w H;refine Za 0 [] H Z ?_;intro b3 w H;refine Z4 18 [2,0,1,1,3,0,0,0,1,0] H Z ?_;intro w H;have k:=(H.pick 7 [3,4,5,0,1,2,6] Z).toVo;clear H;have H:Sep z (voA m j t ([]) vs::blk b3 [I t,I 1,I x.sz,I x.q,I x.r,I x.mp] 59::blk u [I (i:Int)] 3::blk b1 [Y m] 32::trA Tb j g n o none::R) w:=k;clear k;refine Z2 2 [3,0] H Z (Ad Z (C6 Z Z Z) (Au Z (call38 _) (Aad p ⟨a.1,h⟩ hf i e he ⟨t,1,x.sz,x.q,x.r,x.mp⟩ ⟨a,by show (0:Int)<=1/\(1:Int)<=2;omega,b.sz,b.q,b.r,b.mp⟩ c s f d) H.f2.f2.f3.f4.f4 ?_));rintro _ w _ ⟨C2,rfl,rfl⟩ H;replace H:=H.l5;refine Z2 13 [3,2,0] H Z (z_E_ Z (call33 _) (Ib) H ?_);intro w H;replace H:=H.l5;refine Z2 22 [4,0,3,0] H Z (Zr Z ?_);exact ⟨_,⟨C2,Z,Z⟩,H.pick 5 [0,1] Z⟩
set_option maxHeartbeats 2000000 in
theorem Hn {vs:List Vl} {o:TB} (s:vs.length=8) (f:0<=t/\t<=1073741824) (hf:∀e∈vs,e.Fit) (r:manyN n<=9) (h:g<=1000000000) (b a:Int) (x:o.R.length+n<1000):Ak 10 [Y m,I b,I a] [voA m j t ([]) vs,trA Tb j g n o none] (λv G=>(¬((1<=b/\b<=1048576)/\0<=a/\a<=1048576)/\v=.tuple #[I 0,I 1]/\G=[voA m j t [] vs,trA Tb j g n o none])\/(((1<=b/\b<=1048576)/\0<=a/\a<=1048576)/\(((∀e∈vs,e≠v0)/\v=.tuple #[I 0,I 32]/\G=[voA m j t [] vs,trA Tb j g n o none])\/(1073741824<=t/\v=.tuple #[I 0,I 15]/\G=[voA m j t [] vs,trA Tb j g n o none])\/(∃(i:Nat) (C2:Nat->Nat),(vs[i]?=some v0/\t<1073741824)/\v=.tuple #[I t,I 0]/\G=[voA m j (t+1) [] (vs.set i ⟨t,1,b,a,0,0⟩),trA Tb j (g+2) n ⟨o.N,C2,o.R⟩ none])))):=by
 intro z R w H;refine Ae func10 Z ntmps10 Z (Zc 10 Z (z_E_ Z (call26 _) (Hl) H ?_));intro w H;refine Ad Z (AG Z Z) (Zc 1 Z (An 13 Z (λu=>?_) (λu=>?_)))
 ·refine Zc 14 Z (Zr Z ?_);exact ⟨_,.inl ⟨by omega,Z,Z⟩,H.pick 2 [0,1] Z⟩
 refine Zc 1 Z (z_E_ Z (call26 _) (Hl) H ?_);intro w H;refine Ad Z (AG Z Z) (Zc 3 Z (Af Z (λy=>?_) (λy=>?_)))
 ·refine Zc 7 Z (Zr Z ?_);exact ⟨_,.inl ⟨by omega,Z,Z⟩,H.pick 2 [0,1] Z⟩
 refine Zc 5 Z (Au Z (call27 _) (QW s) H ?_);rintro _ w _ (⟨k,⟨p,c⟩,rfl,rfl⟩|⟨d,rfl,rfl⟩|⟨⟨p,c⟩,rfl,rfl⟩) l
 ·have H:=l.l2;refine Z0 23 [4] Z (Ad Z (Be Z Z (out:=[I 0,I 0,I b,I a,I 0,I 0]) J) (Au Z (call28 _) (QY s f hf r h k v0 p ⟨0,0,b,a,0,0⟩ ⟨by show (0:Int)<=0/\(0:Int)<=1073741824;omega,by show (0:Int)<=0/\(0:Int)<=2;omega,by show 0<=b/\b<=1048576;omega,by show 0<=a/\a<=1048576;omega,by show (0:Int)<=0/\(0:Int)<=1023;omega,by show (0:Int)<=0/\(0:Int)<=1048576;omega⟩ c (λq=>absurd Z q) x) H ?_));rintro _ w _ ⟨C2,rfl,rfl⟩ H;refine Zc 7 Z (Zr Z ?_);exact ⟨_,.inr ⟨by omega,.inr (.inr ⟨k,C2,⟨p,c⟩,Z,Z⟩)⟩,H.pick 2 [0,1] Z⟩
 ·have H:=l.l2;refine Z0 23 [3] Z (Zr Z ?_);exact ⟨_,.inr ⟨by omega,.inl ⟨d,Z,Z⟩⟩,H.pick 2 [0,1] Z⟩
 have H:=l.l2;refine Z0 23 [3] Z (Zr Z ?_);exact ⟨_,.inr ⟨by omega,.inr (.inl ⟨c,Z,Z⟩)⟩,H.pick 2 [0,1] Z⟩
set_option maxHeartbeats 2000000 in
theorem JM {mb:Nat} {vs:List Vl} {o:TB} (hv:vs.length=8) (s:0<=t/\t<=1073741824) (hf:∀e∈vs,e.Fit) (a0:manyN n<=9) (x:mb<=1000000000) (id:Int) (q:∀e∈vs,e.r.toNat≠0->(manyN n<e.r.toNat/\e.r.toNat<n)/\1<=o.C e.r.toNat) (hb:o.R.length+n<1000):Ak 15 [Y m,I id] [voA m g t ([]) vs,trA Tb g mb n o none] (λv G=>((∀e∈vs,¬(e.st=1/\e.id=id))/\v=.tuple #[I 0,I 31]/\G=[voA m g t [] vs,trA Tb g mb n o none])\/(∃(j:Nat) (e:Vl),(vs[j]?=some e/\e.st=1/\e.id=id)/\(((∀e∈vs,e≠v0)/\v=.tuple #[I 0,I 32]/\G=[voA m g t [] vs,trA Tb g mb n o none])\/(1073741824<=t/\v=.tuple #[I 0,I 15]/\G=[voA m g t [] vs,trA Tb g mb n o none])\/(∃(i:Nat) (C2:Nat->Nat),(vs[i]?=some v0/\t<1073741824)/\v=.tuple #[I t,I 0]/\G=[voA m g (t+1) [] (vs.set i {e with id:=t,st:=1}),trA Tb g (mb+2) n ⟨o.N,C2,Ba e.r.toNat++o.R⟩ none])))):=by
 intro z R w H;refine Ae func15 Z ntmps15 Z (Zc 10 Z (Au Z (call37 _) (JL id U) H ?_));rintro _ w _ (⟨i,e,⟨b,f,d⟩,rfl,rfl⟩|⟨a1,rfl,rfl⟩) h
 ·have H:=h.l2;refine Z0 10 [0] Z (Af Z (λh1=>U) (λh1=>?_))
  refine Zc 5 Z (Au Z (call27 _) (QW hv) H ?_);rintro _ w _ (⟨k,⟨y,a⟩,rfl,rfl⟩|⟨c,rfl,rfl⟩|⟨⟨y,a⟩,rfl,rfl⟩) h
  ·have H:=h.l2;refine Z0 18 [4] Z ?_;obtain ⟨vv,sv,H⟩:=H.vo;have p:=H.sy 1 (·.slc)
   obtain ⟨am,mc,rfl⟩:=p;have a3:=(Aee.1 b).1;have l:=(H.rv 1 (·.rd)).at (AI b 0 _ Z);refine Z2 9 [1,2,0,0] H Z (Ad Z (Aj Z (z:=6) (j:=i) (r:=i*6) J Z Z Z U l U) (Ad Z (Bt Z Z (vs:=e.cells) J (by simp[Vl.cells]) (AB (λk u hk=>(H.rv 1 (·.rd)).at (AI b k u hk)))) ?_));replace H:=((H.pick 4 [0,1,2,3] Z).toVo).l2;refine Au Z (call28 _) (QY hv s hf a0 x k v0 y e (hf e (Aeg b)) a (q e (Aeg b)) hb) H ?_;rintro _ w _ ⟨C2,rfl,rfl⟩ H;refine Zc 7 Z (Zr Z ?_);exact ⟨_,.inr ⟨i,e,⟨b,f,d⟩,.inr (.inr ⟨k,C2,⟨y,a⟩,Z,Z⟩)⟩,H.pick 2 [0,1] Z⟩
  ·have H:=h.l2;refine Z0 23 [3] Z (Zr Z ?_);exact ⟨_,.inr ⟨i,e,⟨b,f,d⟩,.inl ⟨c,Z,Z⟩⟩,H.pick 2 [0,1] Z⟩
  have H:=h.l2;refine Z0 23 [3] Z (Zr Z ?_);exact ⟨_,.inr ⟨i,e,⟨b,f,d⟩,.inr (.inl ⟨a,Z,Z⟩)⟩,H.pick 2 [0,1] Z⟩
 have H:=h.l2;refine Z0 18 [3] Z (Zr Z ?_);exact ⟨_,.inl ⟨a1,Z,Z⟩,H.pick 2 [0,1] Z⟩
end
section
variable{Tb:Ai}
structure OtE where
 k:Int
 d:Bool
 f:Int
def OtE.cells(e:OtE):List Value:=[.int .i64 e.k,.bool e.d,.int .i64 e.f]
end
section
variable{Tb:Ai}
end
section
variable{Tb:Ai}
end
section
section
variable{P:Program}{o:Oper}{w z:World}{Γ:List Ai}{n:Nat}{ds:List Deferred}{L:List (Nat×Value)}{v:Value}{x y:Operand}
end

end
def Bx(a b:Int)(L:List E):List E:=L.filter λe=>decide (a<=e.1/\e.1<b)
theorem Aae(a b:Int)(X Y_:List E):Bx a b (X++Y_)=Bx a b X++Bx a b Y_:=AfQ ..
theorem scF_no(h:∀e∈X,e.1<t\/s<=e.1):Bx t s X=[]:=List.filter_eq_nil_iff.2 λe a q=>by
 have:=h e a;have:=of_decide_eq_true q;omega
theorem Aaf{L:List E}(h:∀e∈L,t<=e.1/\e.1<s):Bx t s L=L:=Agw.2 λe a=>decide_eq_true (h e a)
def Bv(m:Nat)(l X:List E):List E:=l++X.take (m-l.length)
theorem Aag(m:Nat)(l X Y_:List E):Bv m l (X++Y_)=Bv m (Bv m l X) Y_:=by
 unfold Bv;rw[Ag1,Aek];congr 3;rw[Aeh,AeA];omega
theorem scT_full{l:List E}(h:m<=l.length):Bv m l X=l:=by unfold Bv;rw[Nat.sub_eq_zero_of_le h];simp
theorem Aah(m:Nat)(l:List E):Bv m l []=l:=by simp[Bv]
theorem Aai{e:E}(h:X.length<m):Bv m X [e]=X++[e]:=by unfold Bv;rw[Aem (by simp;omega)]
theorem Pb(m:Nat)(l X:List E):(Bv m l X).length<=l.length+X.length:=by unfold Bv;rw[Aeh,AeA];omega
theorem Pd(a b:Int)(L:List E):(Bx a b L).length<=L.length:=AfW ..
theorem Ho(m:Nat)(l:List E)(a b:Int)(L0 L2:List E):Bv m l (Bx a b (L0++L2))=Bv m (Bv m l (Bx a b L0)) (Bx a b L2):=by rw[Aae,Aag]
theorem Fm{l:List E}{a b:Int}{L0 L2:List E}(h:m<=(Bv m l (Bx a b L0)).length\/∀e∈L2,e.1<a\/b<=e.1):Bv m l (Bx a b (L0++L2))=Bv m l (Bx a b L0):=by
 rw[Ho];rcases h with h|h
 ·exact scT_full h
 rw[scF_no h,Aah]
theorem M8{L0:List E}{e:E}(a:(Bv m X (Bx t s L0)).length<m)(b:t<=e.1/\e.1<s):Bv m X (Bx t s (L0++[e]))=Bv m X (Bx t s L0)++[e]:=by
 rw[Ho,Aaf (L:=[e]) (by simpa using b),Aai a]
theorem Sq.ge{N:Hm}{h:Nat}{es:List E}{hi:Int}{L:List E}(s:Sq (λc a b L=>Tr N h c a b 4 L) es hi L)(hs:Srt es)(d:∀e∈es,e.1<hi):∀x∈L,nx es hi<=x.1:=λx f=>
 ((Sq.srt s hs d (λ_ _ _ _ q=>Tr.srt q)).2.1 x f).1
theorem Srt.drop{es:List E}(h:Srt es)(i:Nat):Srt (es.drop i):=List.Pairwise.drop h
theorem Srt.at_ge{es:List E}(h:Srt es){e:E}(b:es[i]?=some e):∀x∈es.drop i,e.1<=x.1:=λx a=>by
 obtain ⟨hi,rfl⟩:=Aee.1 b;have:=h.drop i;rw[Ae2 hi] at a this;rcases Aeq.1 a with rfl|a
 ·exact Afo _
 exact AgW ((Srt.cons.1 this).1 x a)

def stp(N:Hm):Nat->Nat->Nat
 | 0,_=>1
 | h+1,r=>match N r with
  | some (.nd d)=>(d.es.map λe=>1+stp N h e.2).sum
  | _=>1
section
variable{Tb:Ai}
end
section
variable{Tb:Ai}
end
section
variable{Tb:Ai}
end
section
variable{Tb:Ai}
set_option maxHeartbeats 4000000 in
theorem Acp (pp mb n:Nat) (o:TB) (c f g:Int) (ra:Nat) (lo hi:Int) (m_:Nat) (L l:List E) (u:Value) (hT:Tr o.N 0 ra lo hi m_ L) (c1:l.length+L.length<=1048576):Ak 73 [Y pp,I (ra:Int),I c,I f,I g,u] [trA Tb pp mb n o none,grow 212 2 u l.length (EM l)] (λv G=>∃u2:Value,v=.tuple #[u2,I 0]/\G=[trA Tb pp mb n o none,grow 212 2 u2 (Bv g.toNat l (Bx c f L)).length (EM (Bv g.toNat l (Bx c f L)))]):=by
 intro z R w H;have K:=H.says 0 Z (λh a=>trA.k a);have hn:=K.hn;obtain ⟨es,hN,b8,a3,a1,a4,b7⟩:=hT;obtain rfl:es=L:=a4.symm;have b4:es.length<=8:=a1.len;refine Ae func73 Z ntmps73 Z (Zc 10 Z (Au Z (call119 _) (HY pp mb n o none ra true es hN) H ?_));rintro _ w _ ⟨nk,nv,rfl,rfl⟩ H;have a9:=H.sy 0 (·.slc);obtain ⟨ka,kc,rfl⟩:=a9;have a7:=H.sy 1 (·.slc);obtain ⟨va,vc,rfl⟩:=a7;refine Za 3 [] H Z ?_;intro b1 w H;refine Z4 24 [0,4,1,0,0] H Z ?_;intro w H;refine AF (σ:=Nat×Value) (λ⟨i,u⟩=>[(29,I (i:Int)),(5,u),(0,Y pp),(2,I c),(3,I f),(4,I g),(14,Y b1),(28,I (((kL es).length:Nat):Int))])
   (λ⟨i,u⟩ w=>Sep z (blk b1 [.bool true,.slice ka ((kL es).length) kc,.slice va ((vL es).length) vc] 195::grow 3 1 (.slice ka ((kL es).length) kc) ((kL es).length) ((kL es).map I)::grow 3 1 (.slice va ((vL es).length) vc) ((vL es).length) ((vL es).map I)::trA Tb pp mb n o none::grow 212 2 u ((Bv g.toNat l (Bx c f (es.take i))).length) (EM (Bv g.toNat l (Bx c f (es.take i))))::R) w/\(i<=es.length)) (λ⟨i,u⟩=>es.length-i) ⟨0,u⟩
   fr_z ⟨(by simpa [Bv,Bx] using H),AeR _⟩ ?_
 clear H;rintro ⟨i,u⟩ w ⟨s,hI⟩;dsimp only at hI s ⊢;have H:=s.l5;have su:=H.sy 4 (·.slc);have b3:=hI;clear hI;have c0:(kL es).length=es.length:=by simp
 have c2:(vL es).length=es.length:=by simp
 refine Z0 6 [0] Z (Af Z (λh1=>?_) (λh1=>?_))
 ·refine Zc 12 Z ?_;have a6:i<es.length:=by simp only[Aei] at *;omega
  obtain ⟨e,he⟩:∃e,es[i]?=some e:=⟨_,Aef a6⟩;have a5:=Aeg he;have b6:=a3 e a5;have q:=(H.rv 1 (·.rd)).at (j:=i) (u:=I e.1) (by simp[kL,he]);have a8:=(H.rv 2 (·.rd)).at (j:=i) (u:=I (e.2:Int)) (by simp[vL,he]);have a0:=a1.srt.at_ge he;have y:es.take (i+1)=es.take i++[e]:=by rw[AeQ,he];rfl
  refine Zc 2 Z (Ad Z (Ee Z (sz:=2) J Z su) (Z0 3 [0] Z (An 37 Z (λh2=>?_) (λh2=>?_))))
  ·refine Zc 20 Z (Zr Z ?_);have p:(Bv g.toNat l (Bx c f es))=(Bv g.toNat l (Bx c f (es.take i))):=by have:=Fm (m:=g.toNat) (l:=l) (a:=c) (b:=f) (L0:=es.take i) (L2:=es.drop i) (by first|exact .inl U|exact .inr (λx hx=>.inr (by have:=a0 x hx;omega)));rwa[AeO] at this
   exact ⟨_,⟨u,Z,Z⟩,by rw[p];exact H.pick 5 [3,4] Z⟩
  refine Z2 3 [1,0,0] H Z (Ad Z (Aj Z (z:=1) (j:=i) (r:=i) J Z Z Z U q U) (Ad Z (Ax Z Z J (AB q)) (Z0 6 [0] Z (Af Z (λh3=>?_) (λh3=>?_)))))
  ·refine Zc 8 Z (Zr Z ?_);have p:(Bv g.toNat l (Bx c f es))=(Bv g.toNat l (Bx c f (es.take i))):=by have:=Fm (m:=g.toNat) (l:=l) (a:=c) (b:=f) (L0:=es.take i) (L2:=es.drop i) (by first|exact .inl U|exact .inr (λx hx=>.inr (by have:=a0 x hx;omega)));rwa[AeO] at this
   exact ⟨_,⟨u,Z,Z⟩,by rw[p];exact H.pick 5 [3,4] Z⟩
  refine Z2 8 [0,0,0,1,0,0] H Z (Ad Z (Aj Z (z:=1) (j:=i) (r:=i) J Z Z Z U q U) (Ad Z (Ax Z Z J (AB q)) (Z0 6 [0] Z (Af Z (λh4=>?_) (λh4=>?_)))))
  ·refine AS (Sep z (blk b1 [.bool true,.slice ka ((kL es).length) kc,.slice va ((vL es).length) vc] 195::grow 3 1 (.slice ka ((kL es).length) kc) ((kL es).length) ((kL es).map I)::grow 3 1 (.slice va ((vL es).length) vc) ((vL es).length) ((vL es).map I)::R)) 15 Z J (A4 H λw s=>?_)
   have H:=s.l5;refine AZ [0,1,2,3] [1,0,0] [] (by exact H.pick 5 [0,1,2] Z) Z J Z (BQ 4 Z J J J Z Z Z (Aj Z (z:=1) (j:=i) (r:=i) J Z Z Z U q U) (H.pick 5 [0,1,2] Z) (BQ 5 Z J J J Z Z Z (Ax Z Z J (λ_ t=>(t.rv 1 (·.rd)).at (j:=i) (u:=I e.1) (by simp[kL,he]))) (H.pick 5 [0,1,2] Z) (AZ [6,7,8] [2,0,0] [] (by exact H.pick 5 [0,1,2] Z) Z J Z (BQ 9 Z J J J Z Z Z (Aj Z (z:=1) (j:=i) (r:=i) J Z Z Z U a8 U) (H.pick 5 [0,1,2] Z) (BQ 10 Z J J J Z Z Z (Ax Z Z J (λ_ t=>(t.rv 2 (·.rd)).at (j:=i) (u:=I (e.2:Int)) (by simp[vL,he]))) (H.pick 5 [0,1,2] Z) (AZ [11] [] [] (by exact H.pick 5 [0,1,2] Z) Z J Z (AE [12] J O (Al (BU Z Z Z Z (AP H Z J FI Z (by decide) (by decide) (out:=[I e.1,I (e.2:Int)]) J) ?_)))))))));rintro _ w ⟨b2,rfl,H⟩;refine Az (H.pick 6 [1,2,3] Z) (AE [13] J O (Al (BU Z Z Z Z (AX 5 H Z Z J FI Z Z (H.rv 0 (·.rd U U O Z)) (by simp[Value.oneCell']) (by have:=Pb g.toNat l (Bx c f (es.take i));have:=Pd c f (es.take i);rw[AeA] at this;omega)) ?_)));rintro v3 w s;have s:Sep z (blk b2 [I e.1,I (e.2:Int)] 212::blk b1 [.bool true,.slice ka ((kL es).length) kc,.slice va ((vL es).length) vc] 195::grow 3 1 (.slice ka ((kL es).length) kc) ((kL es).length) ((kL es).map I)::grow 3 1 (.slice va ((vL es).length) vc) ((vL es).length) ((vL es).map I)::trA Tb pp mb n o none::grow 212 2 v3 ((Bv g.toNat l (Bx c f (es.take i))).length+1) (EM (Bv g.toNat l (Bx c f (es.take i)))++[I e.1,I (e.2:Int)])::R) w:=s;have a2:(EM (Bv g.toNat l (Bx c f (es.take i)))++[I e.1,I (e.2:Int)]:List Value)=EM (Bv g.toNat l (Bx c f (es.take (i+1)))):=(by rw[y,M8 U ⟨by omega,by omega⟩,ZS];rfl);rw[a2] at s;rw[show ((Bv g.toNat l (Bx c f (es.take i))).length+1:Nat)=(Bv g.toNat l (Bx c f (es.take (i+1)))).length from (by rw[y,M8 U ⟨by omega,by omega⟩,Aeh];rfl)] at s;have H:=s.l6;refine Az (H.pick 6 [1,2,3] Z) (AZ [14] [] [] (by exact H.pick 6 [1,2,3] Z) Z J Z (a_done J (gn (Z1 7 [] [(i:Int)+1] Z U ?_))));replace H:=H.d;refine gf ?_;intro _ hF;refine ⟨⟨i+1,v3⟩,hF.cz,⟨H,?_⟩,?_⟩
   ·show i+1<=es.length;omega
   (dsimp only;omega)
  refine Z3 35 [0,0,0] [(i:Int)+1] H Z U (gf ?_);intro _ hF;refine ⟨⟨i+1,u⟩,hF.cz,⟨(by rw[show (Bv g.toNat l (Bx c f (es.take (i+1))))=(Bv g.toNat l (Bx c f (es.take i))) from by rw[y];exact Fm (.inr (λx hx=>by simp at hx;subst hx;omega))];exact H),?_⟩,?_⟩
  ·show i+1<=es.length;omega
  (dsimp only;omega)
 refine Zc 2 Z (gx (Zc 10 Z (Zr Z ?_)));have p:(Bv g.toNat l (Bx c f es))=(Bv g.toNat l (Bx c f (es.take i))):=by rw[show es.take i=es from Aem (by simp only[Aei] at *;omega)]
 exact ⟨_,⟨u,Z,Z⟩,by rw[p];exact H.pick 5 [3,4] Z⟩
set_option maxHeartbeats 4000000 in
theorem Acq (pp mb n:Nat) (o:TB) (f d g:Int) (h:Nat) (ih:∀(ra:Nat) (lo hi:Int) (m_:Nat) (L l:List E) (u:Value),Tr o.N h ra lo hi m_ L->l.length+L.length<=1048576->Ak 73 [Y pp,I (ra:Int),I f,I d,I g,u] [trA Tb pp mb n o none,grow 212 2 u l.length (EM l)] (λv G=>∃u2:Value,v=.tuple #[u2,I 0]/\G=[trA Tb pp mb n o none,grow 212 2 u2 (Bv g.toNat l (Bx f d L)).length (EM (Bv g.toNat l (Bx f d L)))])) (ra:Nat) (lo hi:Int) (m_:Nat) (L l:List E) (u:Value) (hT:Tr o.N (h+1) ra lo hi m_ L) (s:l.length+L.length<=1048576):Ak 73 [Y pp,I (ra:Int),I f,I d,I g,u] [trA Tb pp mb n o none,grow 212 2 u l.length (EM l)] (λv G=>∃u2:Value,v=.tuple #[u2,I 0]/\G=[trA Tb pp mb n o none,grow 212 2 u2 (Bv g.toNat l (Bx f d L)).length (EM (Bv g.toNat l (Bx f d L)))]):=by
 intro z R w H;have K:=H.says 0 Z (λh a=>trA.k a);have hn:=K.hn;obtain ⟨es,hN,c4,a4,a6,a8⟩:=hT;have c1:es.length<=8:=a6.len;refine Ae func73 Z ntmps73 Z (Zc 10 Z (Au Z (call119 _) (HY pp mb n o none ra false es hN) H ?_));rintro _ w _ ⟨nk,nv,rfl,rfl⟩ H;have b8:=H.sy 0 (·.slc);obtain ⟨ka,kc,rfl⟩:=b8;have b3:=H.sy 1 (·.slc);obtain ⟨va,vc,rfl⟩:=b3;refine Za 3 [] H Z ?_;intro b1 w H;refine Z4 24 [0,4,1,0,0] H Z ?_;intro w H;refine AF (σ:=Nat×Value×List E×List E) (λ⟨i,u,L0,L2⟩=>[(29,I (i:Int)),(5,u),(0,Y pp),(2,I f),(3,I d),(4,I g),(14,Y b1),(28,I (((kL es).length:Nat):Int))])
   (λ⟨i,u,L0,L2⟩ w=>Sep z (blk b1 [.bool false,.slice ka ((kL es).length) kc,.slice va ((vL es).length) vc] 195::grow 3 1 (.slice ka ((kL es).length) kc) ((kL es).length) ((kL es).map I)::grow 3 1 (.slice va ((vL es).length) vc) ((vL es).length) ((vL es).map I)::trA Tb pp mb n o none::grow 212 2 u ((Bv g.toNat l (Bx f d L0)).length) (EM (Bv g.toNat l (Bx f d L0)))::R) w/\(i<=es.length/\L=L0++L2/\Sq (λc a b L=>Tr o.N h c a b 4 L) (es.drop i) hi L2)) (λ⟨i,u,L0,L2⟩=>es.length-i) ⟨0,u,[],L⟩
   fr_z ⟨(by simpa [Bv,Bx] using H),⟨AeR _,Z,a8⟩⟩ ?_
 clear H;rintro ⟨i,u,L0,L2⟩ w ⟨H',hI⟩;dsimp only at hI H' ⊢;have H:=H'.l5;have su:=H.sy 4 (·.slc);obtain ⟨b9,m,a1⟩:=hI;have c5:(kL es).length=es.length:=by simp
 have c6:(vL es).length=es.length:=by simp
 refine Z0 6 [0] Z (Af Z (λh1=>?_) (λh1=>?_))
 ·refine Zc 12 Z ?_;have a7:i<es.length:=by simp only[Aei] at *;omega
  obtain ⟨e,he⟩:∃e,es[i]?=some e:=⟨_,Aef a7⟩;have b4:=Aeg he;have c2:=a4 e b4;have a2:=(H.rv 1 (·.rd)).at (j:=i) (u:=I e.1) (by simp[kL,he]);have t:=(H.rv 2 (·.rd)).at (j:=i) (u:=I (e.2:Int)) (by simp[vL,he]);obtain ⟨Lc,L3,q,a3,a0⟩:=Adj he a1;have b2:=Ae2 a7;have a5:∀x∈L2,e.1<=x.1:=λx hx=>by have:=Sq.ge a1 (a6.srt.drop i) (λy hy=>(a4 y (Afw hy)).2) x hx;rw[b2] at this;have b7:=(Aee.1 he).2;simp only[nx] at this;rw[b7] at this;exact this
  have b0:=a3.srt.2;refine Zc 2 Z (Ad Z (Ee Z (sz:=2) J Z su) (Z0 3 [0] Z (An 37 Z (λh2=>?_) (λh2=>?_))))
  ·refine Zc 20 Z (Zr Z ?_);have p:(Bv g.toNat l (Bx f d L))=(Bv g.toNat l (Bx f d L0)):=by rw[m];exact Fm (by first|exact .inl U|exact .inr (λx hx=>.inr (by have:=a5 x hx;omega)))
   exact ⟨_,⟨u,Z,Z⟩,by rw[p];exact H.pick 5 [3,4] Z⟩
  refine Z2 3 [1,0,0] H Z (Ad Z (Aj Z (z:=1) (j:=i) (r:=i) J Z Z Z U a2 U) (Ad Z (Ax Z Z J (AB a2)) (Z0 6 [0] Z (Af Z (λh3=>?_) (λh3=>?_)))))
  ·refine Zc 8 Z (Zr Z ?_);have p:(Bv g.toNat l (Bx f d L))=(Bv g.toNat l (Bx f d L0)):=by rw[m];exact Fm (by first|exact .inl U|exact .inr (λx hx=>.inr (by have:=a5 x hx;omega)))
   exact ⟨_,⟨u,Z,Z⟩,by rw[p];exact H.pick 5 [3,4] Z⟩
  refine Z3 30 [0,0,0,0,0,0,1,0,0,0] [(i:Int)+1] H Z U (An 84 Z (λh4=>?_) (λh4=>?_))
  ·refine Z2 20 [2,0,0] H Z (Ad Z (Aj Z (z:=1) (j:=i) (r:=i) J Z Z Z U t U) (Ad Z (Ax Z Z J (AB t)) (Zc 4 Z (Au Z (call73 _) (ih e.2 e.1 (nx (es.drop (i+1)) hi) 4 Lc (Bv g.toNat l (Bx f d L0)) u a3 (by have:=Pb g.toNat l (Bx f d L0);have:=Pd f d L0;rw[m,q] at s;simp only[Aeh] at s;omega)) H.f4.f4 ?_))));rintro _ w _ ⟨u2,rfl,rfl⟩ H;have H':Sep z (trA Tb pp mb n o none::grow 212 2 u2 ((Bv g.toNat l (Bx f d (L0++Lc))).length) (EM (Bv g.toNat l (Bx f d (L0++Lc))))::blk b1 [.bool false,.slice ka ((kL es).length) kc,.slice va ((vL es).length) vc] 195::grow 3 1 (.slice ka ((kL es).length) kc) ((kL es).length) ((kL es).map I)::grow 3 1 (.slice va ((vL es).length) vc) ((vL es).length) ((vL es).map I)::R) w:=by rw[Ho];exact H
   have H:=H'.l5;refine Z1 22 [4] [(i:Int)+1] Z U ?_;replace H:=H.f1.f1.f4.f4.f4;refine gf ?_;intro _ hF;refine ⟨⟨i+1,u2,L0++Lc,L3⟩,hF.cz,⟨H,?_⟩,?_⟩
   ·exact ⟨by show i+1<=es.length;omega,by show L=L0++Lc++L3;rw[m,q,Aek],a0⟩
   (dsimp only;omega)
  refine Z3 4 [1,0,0] [(i:Int)+1] H Z U ?_;have a9:=(H.rv 1 (·.rd)).at (j:=i+1) (u:=I (nx (es.drop (i+1)) hi)) (Adk hi (by simp only[Aei] at *;omega));refine Ad Z (Aj Z (z:=1) (j:=(i+1)) (r:=(i+1)) J Z Z U (by simp only[Aei] at *;omega) a2 U) (Ad Z (Ax Z Z J (AB a9)) (Z0 7 [0] Z (Af Z (λh5=>?_) (λh5=>?_))))
  ·refine Z2 6 [2,0,0] H Z (Ad Z (Aj Z (z:=1) (j:=i) (r:=i) J Z Z Z U t U) (Ad Z (Ax Z Z J (AB t)) (Zc 4 Z (Au Z (call73 _) (ih e.2 e.1 (nx (es.drop (i+1)) hi) 4 Lc (Bv g.toNat l (Bx f d L0)) u a3 (by have:=Pb g.toNat l (Bx f d L0);have:=Pd f d L0;rw[m,q] at s;simp only[Aeh] at s;omega)) H.f4.f4 ?_))));rintro _ w _ ⟨u2,rfl,rfl⟩ H;have H':Sep z (trA Tb pp mb n o none::grow 212 2 u2 ((Bv g.toNat l (Bx f d (L0++Lc))).length) (EM (Bv g.toNat l (Bx f d (L0++Lc))))::blk b1 [.bool false,.slice ka ((kL es).length) kc,.slice va ((vL es).length) vc] 195::grow 3 1 (.slice ka ((kL es).length) kc) ((kL es).length) ((kL es).map I)::grow 3 1 (.slice va ((vL es).length) vc) ((vL es).length) ((vL es).map I)::R) w:=by rw[Ho];exact H
   have H:=H'.l5;refine Z1 22 [4] [(i:Int)+1] Z U ?_;replace H:=H.f1.f1.f4.f4.f4;refine gf ?_;intro _ hF;refine ⟨⟨i+1,u2,L0++Lc,L3⟩,hF.cz,⟨H,?_⟩,?_⟩
   ·exact ⟨by show i+1<=es.length;omega,by show L=L0++Lc++L3;rw[m,q,Aek],a0⟩
   (dsimp only;omega)
  refine Z1 8 [] [(i:Int)+1] Z U (gf ?_);intro _ hF;refine ⟨⟨i+1,u,L0++Lc,L3⟩,hF.cz,⟨(by rw[show (Bv g.toNat l (Bx f d (L0++Lc)))=(Bv g.toNat l (Bx f d L0)) from Fm (.inr (λx hx=>by have:=b0 x hx;omega))];exact H),?_⟩,?_⟩
  ·exact ⟨by show i+1<=es.length;omega,by show L=L0++Lc++L3;rw[m,q,Aek],a0⟩
  (dsimp only;omega)
 refine Zc 2 Z (gx (Zc 10 Z (Zr Z ?_)));have p:(Bv g.toNat l (Bx f d L))=(Bv g.toNat l (Bx f d L0)):=by have:L2=[]:=(by have b6:i=es.length:=(by simp only[Aei] at *;omega);have h:=a1;rw[b6,List.drop_length] at h;exact h);rw[m,this,AeY]
 exact ⟨_,⟨u,Z,Z⟩,by rw[p];exact H.pick 5 [3,4] Z⟩
end
section
variable{Tb:Ai}
theorem Ado{o:TB}(h:Nat):∀(a:Nat) (lo hi:Int) (b:Nat) (L l:List E) (u:Value),Tr o.N h a lo hi b L->l.length+L.length<=1048576->Ak 73 [Y m,I (a:Int),I t,I s,I p,u] [trA Tb m i n o none,grow 212 2 u l.length (EM l)] (λv G=>∃u2:Value,v=.tuple #[u2,I 0]/\G=[trA Tb m i n o none,grow 212 2 u2 (Bv p.toNat l (Bx t s L)).length (EM (Bv p.toNat l (Bx t s L)))]):=by
 induction h with
 | zero=>exact λa lo hi b L l u=>Acp m i n o t s p a lo hi b L l u
 | succ h ih=>exact λa lo hi b L l u=>Acq m i n o t s p h ih a lo hi b L l u
theorem Acr(pp mb n:Nat)(o:TB)(g:Nat)(L:List E)(c d a:Int)(j:Root o.N g L)(i:L.length<=1048576):Ak 40 [Y pp,I (g:Int),I c,I d,I a] [trA Tb pp mb n o none] (λv G=>∃u2:Value,v=.tuple #[u2,I 0]/\G=[trA Tb pp mb n o none,grow 212 2 u2 (Bv a.toNat [] (Bx c d L)).length (EM (Bv a.toNat [] (Bx c d L)))]):=by
 intro z R w H;have b:g=0->L=[]:=λq=>by rcases j with ⟨_,e⟩|⟨e,_⟩;exact e;exact absurd q e
 refine Ae func40 Z ntmps40 Z (Z0 22 [0] Z (An 16 Z (λk=>?_) (λk=>?_)))
 ·refine Zc 18 Z (Zr Z ?_);have f:(Bv a.toNat [] (Bx c d L))=[]:=by first|(rw[b U];simp[Bv,Bx])|(rw[show a.toNat=0 by omega];simp[Bv])|(rw[scF_no (λe _=>by omega)];simp[Bv])
  exact ⟨_,⟨.slice none 0 0,rfl,rfl⟩,by rw[f];exact (((H.pick 1 [0] rfl).nilg 212 2).f1)⟩
 refine Z0 4 [0] Z (An 20 Z (λl=>?_) (λl=>?_))
 ·refine Zc 14 Z (Zr Z ?_);have f:(Bv a.toNat [] (Bx c d L))=[]:=by first|(rw[b U];simp[Bv,Bx])|(rw[show a.toNat=0 by omega];simp[Bv])|(rw[scF_no (λe _=>by omega)];simp[Bv])
  exact ⟨_,⟨.slice none 0 0,rfl,rfl⟩,by rw[f];exact (((H.pick 1 [0] rfl).nilg 212 2).f1)⟩
 refine Z0 6 [0] Z (Af Z (λp=>?_) (λp=>?_))
 ·refine Zc 7 Z (Zr Z ?_);have f:(Bv a.toNat [] (Bx c d L))=[]:=by first|(rw[b U];simp[Bv,Bx])|(rw[show a.toNat=0 by omega];simp[Bv])|(rw[scF_no (λe _=>by omega)];simp[Bv])
  exact ⟨_,⟨.slice none 0 0,rfl,rfl⟩,by rw[f];exact (((H.pick 1 [0] rfl).nilg 212 2).f1)⟩
 refine Zc 3 Z ?_;replace H:=(H.nilg 212 2).l2;obtain ⟨_,h,m⟩:=j.resolve_left (λq=>by have:=q.1;omega);refine Zc 6 Z (Au Z (call73 _) (Ado h g _ _ _ L [] _ m (by simpa using i)) H.f1 ?_);rintro _ w _ ⟨u2,rfl,rfl⟩ H;refine Zc 7 Z (Zr Z ?_);exact ⟨_,⟨u2,Z,Z⟩,H.pick 2 [0,1] Z⟩
end
section
variable{Tb:Ai}
theorem Hq{P:List Pl}{vs:List Vl}(b:vs=P.map Prod.fst){e:Vl}(h:vs[i]?=some e):∃L:List E,P[i]?=some (e,L):=by
 rw[b,Aer] at h;obtain ⟨p,a,rfl⟩:=AgA.1 h;exact ⟨p.2,a⟩
theorem VInv.ok{o:TB}{P:List Pl}(h:VInv n o t P){p:Pl}(hi:P[i]?=some p)(hs:p.1.st=1):PlOk o.N t p:=by
 rcases h.all p (Aeg hi) with rfl|q
 ·simp[pl0,v0] at hs
 exact q
theorem PlOk.vok{N:Hm}{p:Pl}(h:PlOk N t p)(f:t<=1073741824)(g:p.2.length<=1024):D7 p.1.id p.1.st p.1.sz p.1.q (p.1.r.toNat:Int) p.1.mp:=by
 obtain ⟨d,c,a,b,e,_,_,i,_⟩:=h;exact ⟨by omega,c,a,b,by omega,by omega,by omega⟩
theorem R7{o:TB}{T:TT}(K:TrK n o T){p:Pl}(h:PlOk (Dm o T) t p):p.2.length<=1024:=by
 have:=JI K.i U h.root.data h.nd;have:=K.hn;omega
theorem R8{p:Vl}(h:0<=p.r):(p.r.toNat:Int)=p.r:=by omega
theorem Acs{o:TB}(r:Int)(c:0<=r)(L:List E)(b:Root o.N r.toNat L)(a:L.length<=1048576):Ak 40 [Y m,I r,I t,I s,I q] [trA Tb m i n o none] (λv G=>∃u2:Value,v=.tuple #[u2,I 0]/\G=[trA Tb m i n o none,grow 212 2 u2 (Bv q.toNat [] (Bx t s L)).length (EM (Bv q.toNat [] (Bx t s L)))]):=by
 obtain ⟨p,rfl⟩:=Af0 c;exact Acr m i n o p L t s q b a
theorem Aaj{o:TB}(T:TT)(e:Vl)(L:List E)(nx:Int)(hp:PlOk (Dm o T) nx (e,L))(f:nx<=1073741824)(g:L.length<=1024)(h:0<=t/\t<e.sz):Ak 34 [Y m,.agg #[I e.id,I e.st,I e.sz,I e.q,I e.r,I e.mp],I t] [trA Tb m i n o T] (λv G=>∃b:Nat,(B9 t (A7 (Dm o T) L)).length=64/\v=.tuple #[.slice (some ⟨b,0,none⟩) 64 64,I 0]/\G=[blk b ((B9 t (A7 (Dm o T) L)).map u8) 5,trA Tb m i n o T]):=by
 have d:=hp.r.1;have c:=hp.vok f g;have a:=ZU (Tb:=Tb) m i n o T e.id e.st e.sz e.q e.mp t e.r.toNat L hp.root c;rw[R8 d] at a;intro z R w H;refine Ret.mono (a z R w H) ?_;rintro v k ⟨Γ',(⟨_,q⟩|⟨q,_⟩),j⟩
 ·exact ⟨Γ',q,j⟩
 exact absurd h q
set_option maxHeartbeats 4000000 in
theorem Gg {mb:Nat} (P:List Pl) {vs:List Vl} (y:vs=P.map Prod.fst) {o:TB} (x:VInv n o t P) (a3:mb<=1000000000) (id b:Int):Ak 17 [Y m,I id,I b] [voA m g t ([]) vs,trA Tb g mb n o none] (λv G=>((∀e∈vs,¬(e.st=1/\e.id=id))/\v=I 31/\G=[voA m g t [] vs,trA Tb g mb n o none])\/(∃(i:Nat) (e:Vl) (L:List E),(P[i]?=some (e,L)/\e.st=1/\e.id=id)/\((¬(1<=b/\b<=1048576)/\v=I 1/\G=[voA m g t [] vs,trA Tb g mb n o none])\/(((1<=b/\b<=1048576)/\Bx b 1048576 L≠[])/\v=I 33/\G=[voA m g t [] vs,trA Tb g mb n o none])\/(((1<=b/\b<=1048576)/\Bx b 1048576 L=[])/\∃C2:Nat->Nat,v=I 0/\G=[voA m g t [] (vs.set i {e with sz:=b}),trA Tb g (mb+2) n ⟨o.N,C2,o.R⟩ none])))):=by
 intro z R w H;have K:=H.says 1 Z (λh a=>trA.k a);have hn:=K.hn;have hv:vs.length=8:=by rw[y,Aei];exact x.len
 have hf:∀e∈vs,e.Fit:=by rw[y];exact x.fit K
 have b0:=x.n;have a2:=x.nb;have a8:manyN n<=6:=by unfold manyN;omega
 refine Ae func17 Z ntmps17 Z (Za 2 [] H Z ?_);intro b1 w H;refine Zc 7 Z (Au Z (call37 _) (JL id U) H.f1 ?_);rintro _ w _ (⟨i,e,⟨u,d,s⟩,rfl,rfl⟩|⟨a4,rfl,rfl⟩) p
 ·have H:=p.l3;refine Za 0 [] H Z ?_;intro b2 w H;refine Z4 12 [0,0,0,0] H Z ?_;intro w H;refine Af Z (λh1=>U) (λh1=>?_)
  refine Z2 3 [2,0] H Z (z_E_ Z (call26 _) (Hl) H ?_);intro w H;refine Ad Z (AG Z Z) (Zc 3 Z (Af Z (λh2=>?_) (λh2=>?_)))
  ·refine Zc 6 Z (Zr Z ?_);obtain ⟨L,c⟩:=Hq y u;exact ⟨_,.inr ⟨i,e,L,⟨c,d,s⟩,.inl ⟨by omega,Z,Z⟩⟩,H.pick 4 [1,3] Z⟩
  refine Zc 4 Z ?_;obtain ⟨L,c⟩:=Hq y u;have f:=x.ok c d;have a9:=(Aee.1 u).1;replace H:=H.f1;obtain ⟨vv,sv,H⟩:=H.vo;have a0:=H.sy 1 (·.slc);obtain ⟨am,mc,rfl⟩:=a0;have l:=(H.rv 1 (·.rd)).at (AI u 0 _ Z);replace H:=H.f3.f4.f3.f3;refine AS (Sep z (blk m [Y g,I t,.slice am vs.length mc,sv] 71::grow 59 6 (.slice am vs.length mc) vs.length (AY vs)::blk b1 [I b] 3::blk b2 [I (i:Int)] 3::R)) 20 Z J (A4 H λw p=>?_);have H:=p.l6;refine AZ [0,1,2,3,4,5,6,7,8,9] [0,0,0,1,2,0,0,3,0] [] (by exact H.pick 6 [0,1,2,3] Z) Z J Z (BQ 10 Z J J J Z Z Z (Aj Z (z:=6) (j:=i) (r:=i*6) J Z Z Z U l U) (H.pick 6 [0,1,2,3] Z) (BQ 11 Z J J J Z Z Z (Bi Z (k:=4) (r:=i*6+4) J Z l Z) (H.pick 6 [0,1,2,3] Z) (BQ 12 Z J J J Z Z Z (Ax Z Z J (λ_ hx=>(hx.rv 1 (·.rd)).at (AI u 4 _ Z))) (H.pick 6 [0,1,2,3] Z) (AZ [13] [2,0] [] (by exact H.pick 6 [0,1,2,3] Z) Z J Z (AE [14] J O (Al (Br Z Z Z Z Z Z (λw=>call40 _ w) (Acs e.r f.r.1 L f.root (by have:L.length<=1024:=R7 K (T:=none) f;omega)) H.f5 Z ?_)))))));rintro _ w _ ⟨u3,rfl,rfl⟩ H;have a1:=H.sy 1 (·.rd.slc);refine Az (H.pick 7 [2,3,4,5] Z) (AZ [15,16,17,18,19] [] [] (by exact H.pick 7 [2,3,4,5] Z) Z J Z (a_done J (gn (Z0 15 [4] Z (Ad Z (Ee Z (sz:=2) J Z a1) (Z0 3 [0] Z (Af Z (λh3=>?_) (λh3=>?_))))))))
  ·have hX:Bx b 1048576 L≠[]:=λq=>by rw[q] at h3;simp[Bv] at h3
   refine Zc 6 Z (Zr Z ?_);exact ⟨_,.inr ⟨i,e,L,⟨c,d,s⟩,.inr (.inl ⟨⟨by omega,hX⟩,Z,Z⟩)⟩,(H.pick 7 [2,3,6,0] Z).toVo⟩
  have hX:Bx b 1048576 L=[]:=Afg λq=>h3 (by have:=Ahf.2 q;simp only[Bv,AeT,AeA,AeE];show (0:Int)<((min ((1:Int).toNat-0) (Bx b 1048576 L).length:Nat):Int);have h1:(1:Int).toNat=1:=rfl;omega);refine Zc 3 Z ?_;have p:=(H.pick 7 [2,3,6,0,1,4,5] Z).toVo;clear H;have H:Sep z (voA m g t ([]) vs::trA Tb g mb n o none::grow 212 2 u3 ((Bv (1:Int).toNat [] (Bx b 1048576 L)).length) (EM (Bv (1:Int).toNat [] (Bx b 1048576 L)))::blk b1 [I b] 3::blk b2 [I (i:Int)] 3::R) w:=p;clear p;refine Zc 2 Z (Ad Z (C6 Z Z Z) (Au Z (call38 _) (Aac hv ⟨by omega,a2.2⟩ hf i e u b U U a3) H.f4.f4.f3.f3 ?_));rintro _ w _ ⟨C2,rfl,rfl⟩ H;refine Z0 16 [4] Z (z_E_ Z (call33 _) (Ib) H ?_);intro w H;refine Zc 4 Z (Zr Z ?_);exact ⟨_,.inr ⟨i,e,L,⟨c,d,s⟩,.inr (.inr ⟨⟨by omega,hX⟩,C2,Z,Z⟩)⟩,H.pick 5 [0,1] Z⟩
 have H:=p.l3;refine Za 0 [] H Z ?_;intro b3 w H;refine Z4 19 [0,0,0,3] H Z ?_;intro w H;refine Zr Z ?_;exact ⟨_,.inl ⟨a4,Z,Z⟩,H.pick 4 [1,3] Z⟩
end
section
variable{Tb:Ai}
def rdB(V:List Bk)(at_:Int):Nat->List UInt8
 | 0=>[]
 | k+1=>rdB V at_ k++B9 (at_+(k:Int)) V
theorem Aak{V:List Bk}:(rdB V t n).map u8++(B9 (t+(n:Int)) V).map u8=(rdB V t (n+1)).map u8:=by simp[rdB]
theorem F0(h:Bp t b s p=0):b=true/\(1<=p/\p<=8)/\0<=s/\s<=t-p:=by
 unfold Bp at h;split at h
 ·rename_i q
  split at h
  ·rename_i r;exact ⟨q.1,q.2,r⟩
  cases h
 cases h
set_option maxHeartbeats 4000000 in
theorem F1 {mb:Nat} (P:List Pl) {vs:List Vl} (hP:vs=P.map Prod.fst) {o:TB} (p:VInv n o t P) (b5:mb<=1000000000) (id at_ b:Int) (a1: -9223372036854775808<=at_/\at_<=9223372036854775807) (b0: -9223372036854775808<=b/\b<=9223372036854775807):Ak 13 [Y m,I id,I at_,I b] [voA m g t ([]) vs,trA Tb g mb n o none] (λv G=>((∀e∈vs,¬(e.st=1/\e.id=id))/\v=.tuple #[.slice none 0 0,I 31]/\G=[voA m g t [] vs,trA Tb g mb n o none])\/(∃(i:Nat) (e:Vl) (L:List E),(P[i]?=some (e,L)/\e.st=1/\e.id=id)/\((Bp e.sz true at_ b≠0/\v=.tuple #[.slice none 0 0,I (Bp e.sz true at_ b)]/\G=[voA m g t [] vs,trA Tb g mb n o none])\/(Bp e.sz true at_ b=0/\∃u:Value,v=.tuple #[u,I 0]/\G=[grow 5 1 u (rdB (A7 o.N L) at_ b.toNat).length ((rdB (A7 o.N L) at_ b.toNat).map u8),voA m g t [] vs,trA Tb g mb n o none])))):=by
 intro z R w H;have K:=H.says 1 Z (λh a=>trA.k a);have hn:=K.hn;have hv:vs.length=8:=by rw[hP,Aei];exact p.len
 have hf:∀e∈vs,e.Fit:=by rw[hP];exact p.fit K
 have b9:=p.n;have a7:=p.nb
 refine Ae func13 Z ntmps13 Z (Zc 12 Z (Au Z (call29 _) (Pa hv (λe x=>(by have:=(hf e x).sz;omega)) a1 b0) H ?_));rintro _ w _ (⟨b2,rfl,rfl⟩|⟨i,e,⟨x,s,a2⟩,rfl,rfl⟩) c
 ·have H:=c.l2;refine Z0 23 [3] Z (Zr Z ?_);exact ⟨_,.inl ⟨b2,Z,Z⟩,H.pick 2 [0,1] Z⟩
 have H:=c.l2;refine Z0 14 [0] Z (Af Z (λh1=>?_) (λh1=>?_))
 ·refine Zc 8 Z (Zr Z ?_);obtain ⟨L,l⟩:=Hq hP x;exact ⟨_,.inr ⟨i,e,L,⟨l,s,a2⟩,.inl ⟨by assumption,Z,Z⟩⟩,H.pick 2 [0,1] Z⟩
 refine Zc 3 Z ?_;have hE:Bp e.sz true at_ b=0:=Afg λq=>by contradiction
 refine AD 10 (v:=I (i:Int)) Z (congrArg I (if_pos hE)) ?_;have a8:=F0 hE;obtain ⟨L,l⟩:=Hq hP x;have y:=p.ok l s;have b3:1<=e.sz/\e.sz<=1048576:=y.sz;have b7:=(Aee.1 x).1;obtain ⟨vv,sv,H⟩:=H.vo;have a5:=H.sy 1 (·.slc);obtain ⟨am,mc,rfl⟩:=a5;have a0:L.length<=1024:=R7 K (T:=none) y;replace H:=(H.nilg 5 1).l5;refine Zc 12 Z ?_;refine AF (σ:=Nat×Value) (λ⟨j,u⟩=>[(28,I (j:Int)),(12,u),(0,Y m),(2,I at_),(10,I (i:Int)),(27,I b)])
   (λ⟨j,u⟩ w=>Sep z (grow 5 1 u (64*j) ((rdB (A7 o.N L) at_ j).map u8)::blk m [Y g,I t,.slice am vs.length mc,sv] 71::grow 59 6 (.slice am vs.length mc) vs.length (AY vs)::B4 sv ([])::trA Tb g mb n o none::R) w/\((j:Int)<=b/\(rdB (A7 o.N L) at_ j).length=64*j)) (λ⟨j,u⟩=>b.toNat-j) ⟨0,.slice none 0 0⟩
   (λ_ hF=>(hF.co Z (by go_num) hF.cz)) ⟨(by simpa [rdB] using H),⟨by show ((0:Nat):Int)<=b;omega,Z⟩⟩ ?_
 clear H;rintro ⟨j,u⟩ w ⟨c,p⟩;dsimp only at p c ⊢;have H:=c.l5;have su:=H.sy 0 (·.slc);obtain ⟨hj,a3⟩:=p;refine Z0 6 [0] Z (Af Z (λh2=>?_) (λh2=>?_))
 ·refine Zc 11 Z ?_;have a4:=(H.rv 2 (·.rd)).at (AI x 0 _ Z)
  replace H:=H.f2.f2;refine AS (Sep z (blk m [Y g,I t,.slice am vs.length mc,sv] 71::grow 59 6 (.slice am vs.length mc) vs.length (AY vs)::R)) 21 Z J (A4 H λw c=>?_);have H:=c.l5;refine AZ [0,1,2,3,4,5,6,7,8,9] [0,0,0,1,2,0,0] [] (by exact H.pick 5 [0,1] Z) Z J Z (BQ 10 Z J J J Z Z Z (Aj Z (z:=6) (j:=i) (r:=i*6) J Z Z Z U a4 U) (H.pick 5 [0,1] Z) (BQ 11 Z J J J Z Z Z (Bt Z Z (vs:=e.cells) J (by simp[Vl.cells]) (λ_ hx=>(λk u hk=>(hx.rv 1 (·.rd)).at (AI x k u hk)))) (H.pick 5 [0,1] Z) (HJ [12,13,14] [] [at_+(j:Int)] (by exact H.pick 5 [0,1] Z) Z J U Z (AE [15] J O (Al (Br Z Z Z Z Z Z (λw=>call34 _ w) (Aaj none e L t y a7.2 a0 U) H.f4 Z ?_))))));rintro _ w _ ⟨rb,f,rfl,rfl⟩ H;have a9:(B9 (at_+(j:Int)) (A7 o.N L)).length=64:=f;refine Az (H.pick 6 [2,3] Z) (AZ [16,17,18,19,20] [] [] (by exact H.pick 6 [2,3] Z) Z J Z (a_done J (gn (Z0 14 [4] Z (AU Z (AX 4 H Z Z J CM Z Z (H.rv 0 (·.rd U U (by rw[Aei];have:=f;omega) (by rw[Aey,AeS,Aem (by rw[Aei];have:=f;omega)]))) (by simp[u8,Value.oneCell']) U) ?_)))));rintro v1 w c;have c:Sep z (blk rb ((B9 (at_+(j:Int)) (A7 o.N L)).map u8) 5::trA Tb g mb n o none::blk m [Y g,I t,.slice am vs.length mc,sv] 71::grow 59 6 (.slice am vs.length mc) vs.length (AY vs)::grow 5 1 v1 ((64*j)+64) ((rdB (A7 o.N L) at_ j).map u8++(B9 (at_+(j:Int)) (A7 o.N L)).map u8)::B4 sv ([])::R) w:=c;have a6:((rdB (A7 o.N L) at_ j).map u8++(B9 (at_+(j:Int)) (A7 o.N L)).map u8:List Value)=(rdB (A7 o.N L) at_ (j+1)).map u8:=(Aak);rw[a6] at c;rw[show ((64*j)+64:Nat)=64*(j+1) from by omega] at c;have H:=c.l6;refine Z1 8 [] [(j:Int)+1] Z U ?_;replace H:=H.d.f4.f3.f3.f4;refine gf ?_;intro _ hF;refine ⟨⟨j+1,v1⟩,hF.cz,⟨H,?_⟩,?_⟩
  ·exact ⟨by show ((j+1:Nat):Int)<=b;omega,by show (rdB (A7 o.N L) at_ (j+1)).length=64*(j+1);simp only[rdB,Aeh,a3,a9];omega⟩
  (dsimp only;omega)
 refine Zc 2 Z (gx (Zc 10 Z (Zr Z ?_)));have b1:j=b.toNat:=by omega
 subst b1;rw[<-a3] at H;exact ⟨_,.inr ⟨i,e,L,⟨l,s,a2⟩,.inr ⟨hE,_,Z,Z⟩⟩,(((H.pick 5 [1,2,3,4,0] Z).toVo).pick 3 [2,0,1] Z)⟩
end
section
variable{Tb:Ai}
set_option maxHeartbeats 4000000 in
theorem WH (pv pp mb n:Nat) (o:TB) (c b7 bi bk:Nat) (nx:Int) (v1 v2:Value) (vs:List Vl) (i k:Nat) (e:Vl) (he:vs[i]?=some e) (hv:vs.length=8) {t0:TS} {R1:List Nat} (F:Ai) (f:FuncId) (us:List Value) (l:∀a w,(callFunc f a).run prog w=.ok (.enter f a) w) (a1:Int->Prop) (x:Vl->TS->List Nat->Prop) (a0:Ak f (.agg #[I e.id,I e.st,I e.sz,I e.q,I e.r,I e.mp]::I (k:Int)::us) [voA pv pp nx [] vs,trA Tb pp mb n o (some (t0,R1)),F] (λv G=>(∃(er:Int) (s:TS×List Nat),(er≠0/\a1 er)/\v=.tuple #[.agg #[I 0,I 0,I 0,I 0,I 0,I 0],I er]/\G=[voA pv pp nx [] vs,trA Tb pp mb n o (some s),F])\/(∃(b:Vl) (t:TS) (p:List Nat),x b t p/\v=.tuple #[.agg #[I b.id,I b.st,I b.sz,I b.q,I b.r,I b.mp],I 0]/\G=[voA pv pp nx [] vs,trA Tb pp mb n o (some (t,p)),F]))):Ak 63 [Y c,Y b7,Y bi,Y bk] [blk c [I nx,v1,v2] 41,grow 59 6 v1 vs.length (AY vs),B4 v2 ([]),voA pv pp nx ([]) vs,trA Tb pp mb n o (some (t0,R1)),blk b7 [(.func (.func f) #[] us.toArray)] 87,blk bi [I (i:Int)] 3,blk bk [I (k:Int)] 3,F] (λv G=>(∃(er:Int) (s:TS×List Nat),(er≠0/\a1 er)/\v=I er/\G=[voA pv pp nx [] vs,trA Tb pp mb n o (some s),blk b7 [(.func (.func f) #[] us.toArray)] 87,blk bi [I (i:Int)] 3,blk bk [I (k:Int)] 3,F])\/(∃(b:Vl) (t:TS) (p:List Nat),x b t p/\v=I 0/\G=[blk c [I nx,v1,v2] 41,grow 59 6 v1 vs.length (AY (vs.set i b)),B4 v2 [],voA pv pp nx [] vs,trA Tb pp mb n o (some (t,p)),blk b7 [(.func (.func f) #[] us.toArray)] 87,blk bi [I (i:Int)] 3,blk bk [I (k:Int)] 3,F])):=by
 intro z R w H;have a2:=H.sy 1 (·.slc);obtain ⟨am,mc,rfl⟩:=a2;have a3:=(Aee.1 he).1;have d:=(H.rv 1 (·.rd)).at (AI he 0 _ Z);refine Ae func63 Z ntmps63 Z (Zc 6 Z ?_);replace H:=H.f7.f7.f3.f3.f7;refine AS (Sep z (blk b7 [(.func (.func f) #[] us.toArray)] 87::blk c [I nx,.slice am vs.length mc,v2] 41::grow 59 6 (.slice am vs.length mc) vs.length (AY vs)::blk bi [I (i:Int)] 3::blk bk [I (k:Int)] 3::R)) 16 Z J (A4 H λw g=>?_);have H:=g.l9;refine AZ [0,1,2,3,4,5] [0,0,1,1,0,3,0] [] (by exact H.pick 9 [0,1,2,3,4] Z) Z J Z (BQ 6 Z J J J Z Z Z (Aj Z (z:=6) (j:=i) (r:=i*6) J Z Z Z U d U) (H.pick 9 [0,1,2,3,4] Z) (BQ 7 Z J J J Z Z Z (Bt Z Z (vs:=e.cells) J (by simp[Vl.cells]) (λ_ hx=>(λk u hk=>(hx.rv 2 (·.rd)).at (AI he k u hk)))) (H.pick 9 [0,1,2,3,4] Z) (AZ [8] [4,0] [] (by exact H.pick 9 [0,1,2,3,4] Z) Z J Z (AE [9,13] J O (JY ?_ ?_)))))
 ·refine Acm Z Z Z Z Z Z Z (λw=>l _ w) (a0) H.f8.f8.f8 Z ?_;rintro _ w _ (⟨er,s,⟨y,m⟩,rfl,rfl⟩|⟨b,t,p,h,rfl,rfl⟩) g
  ·have H:=g.l9;refine Az (H.pick 9 [3,4,5,6,7] Z) (AZ [10,11,12] [] [] (by exact H.pick 9 [3,4,5,6,7] Z) Z J Z (AE [13] J O (Al (BU Z Z Z Z (Ce (P:=prog) H Z (zs:=[I 0,I 0,I 0,I 0,I 0,I 0]) J) ?_))));rintro _ w ⟨b1,rfl,H⟩;refine Az (H.pick 10 [4,5,6,7,8] Z) (AE [14] J O (Al (Bl Z Z Z (Am 0 H Z Z Z Z (vs:=[I 0,I 0,I 0,I 0,I 0,I 0]) Z (by simp[u8,u32,Value.oneCell']) J O (out:=[I 0,I 0,I 0,I 0,I 0,I 0]) Z) ?_)));rintro w H;refine Az (H.pick 10 [4,5,6,7,8] Z) (AZ [15] [] [] (by exact H.pick 10 [4,5,6,7,8] Z) Z J Z (a_done J (gn (Zc 2 Z (BJ 7 J J (A4 H λw g=>?_))))))
   have H:=g.l10;refine MC 6 [1,5,0,7,0,0,6] [] H Z J (Cd Z Z Z (Aj Z (z:=6) (j:=i) (r:=i*6) J Z Z Z U d U) (CG (gw (AC Z Z (CW 6 H Z Z Z Z (vs:=[I 0,I 0,I 0,I 0,I 0,I 0]) Z (by simp[Value.oneCell']) J U (by simp only[Aej,AeE];omega) (out:=AY (vs.set i v0)) (EJ (e2:=v0) he 0 O (by simp[Vl.cells,v0]))) ?_))));rintro w H;refine Zc 9 Z (Zr Z ?_);exact ⟨_,.inl ⟨er,s,⟨y,m⟩,Z,Z⟩,H.pick 10 [1,2,4,7,8,3] Z⟩
  have H:=g.l9;refine Az (H.pick 9 [3,4,5,6,7] Z) (AZ [10,11,12] [] [] (by exact H.pick 9 [3,4,5,6,7] Z) Z J Z (AE [13] J O (Al (BU Z Z Z Z (Ce (P:=prog) H Z (zs:=[I 0,I 0,I 0,I 0,I 0,I 0]) J) ?_))));rintro _ w ⟨b2,rfl,H⟩;refine Az (H.pick 10 [4,5,6,7,8] Z) (AE [14] J O (Al (Bl Z Z Z (Am 0 H Z Z Z Z (vs:=[I b.id,I b.st,I b.sz,I b.q,I b.r,I b.mp]) Z (by simp[u8,u32,Value.oneCell']) J O (out:=[I b.id,I b.st,I b.sz,I b.q,I b.r,I b.mp]) Z) ?_)));rintro w H;refine Az (H.pick 10 [4,5,6,7,8] Z) (AZ [15] [] [] (by exact H.pick 10 [4,5,6,7,8] Z) Z J Z (a_done J (gn (Zc 2 Z (BJ 7 J J (A4 H λw g=>?_))))));have H:=g.l10;refine MC 6 [1,5,0,7,0,0,6] [] H Z J (Cd Z Z Z (Aj Z (z:=6) (j:=i) (r:=i*6) J Z Z Z U d U) (CG (gw (AC Z Z (CW 6 H Z Z Z Z (vs:=[I b.id,I b.st,I b.sz,I b.q,I b.r,I b.mp]) Z (by simp[Value.oneCell']) J U (by simp only[Aej,AeE];omega) (out:=AY (vs.set i b)) (EJ (e2:=b) he 0 O (by simp[Vl.cells,v0]))) ?_))));rintro w H;refine Zc 9 Z (Zr Z ?_);exact ⟨_,.inr ⟨b,t,p,h,Z,Z⟩,H.pick 10 [5,6,9,1,2,4,7,8,3] Z⟩
 refine BU Z Z Z Z (Ce (P:=prog) H Z (zs:=[I 0,I 0,I 0,I 0,I 0,I 0]) J) ?_;rintro _ w ⟨b3,rfl,H⟩;refine Az (H.pick 10 [1,2,3,4,5] Z) (AE [9] J O (Al (Acm Z Z Z Z Z Z Z (λw=>l _ w) (a0) H.f9.f9.f9 Z ?_)));rintro _ w _ (⟨er,s,⟨y,m⟩,rfl,rfl⟩|⟨b,t,p,h,rfl,rfl⟩) g
 ·have H:=g.l10;refine Az (H.pick 10 [4,5,6,7,8] Z) (AZ [10,11,12] [] [] (by exact H.pick 10 [4,5,6,7,8] Z) Z J Z (AE [14] J O (Al (Bl Z Z Z (Am 3 H Z Z Z Z (vs:=[I 0,I 0,I 0,I 0,I 0,I 0]) Z (by simp[u8,u32,Value.oneCell']) J O (out:=[I 0,I 0,I 0,I 0,I 0,I 0]) Z) ?_))));rintro w H;refine Az (H.pick 10 [4,5,6,7,8] Z) (AZ [15] [] [] (by exact H.pick 10 [4,5,6,7,8] Z) Z J Z (a_done J (gn (Zc 2 Z (BJ 7 J J (A4 H λw g=>?_))))))
  have H:=g.l10;refine MC 6 [1,5,0,7,0,3,6] [] H Z J (Cd Z Z Z (Aj Z (z:=6) (j:=i) (r:=i*6) J Z Z Z U d U) (CG (gw (AC Z Z (CW 6 H Z Z Z Z (vs:=[I 0,I 0,I 0,I 0,I 0,I 0]) Z (by simp[Value.oneCell']) J U (by simp only[Aej,AeE];omega) (out:=AY (vs.set i v0)) (EJ (e2:=v0) he 0 O (by simp[Vl.cells,v0]))) ?_))));rintro w H;refine Zc 9 Z (Zr Z ?_);exact ⟨_,.inl ⟨er,s,⟨y,m⟩,Z,Z⟩,H.pick 10 [0,1,4,7,8,2] Z⟩
 have H:=g.l10;refine Az (H.pick 10 [4,5,6,7,8] Z) (AZ [10,11,12] [] [] (by exact H.pick 10 [4,5,6,7,8] Z) Z J Z (AE [14] J O (Al (Bl Z Z Z (Am 3 H Z Z Z Z (vs:=[I b.id,I b.st,I b.sz,I b.q,I b.r,I b.mp]) Z (by simp[u8,u32,Value.oneCell']) J O (out:=[I b.id,I b.st,I b.sz,I b.q,I b.r,I b.mp]) Z) ?_))));rintro w H;refine Az (H.pick 10 [4,5,6,7,8] Z) (AZ [15] [] [] (by exact H.pick 10 [4,5,6,7,8] Z) Z J Z (a_done J (gn (Zc 2 Z (BJ 7 J J (A4 H λw g=>?_))))));have H:=g.l10;refine MC 6 [1,5,0,7,0,3,6] [] H Z J (Cd Z Z Z (Aj Z (z:=6) (j:=i) (r:=i*6) J Z Z Z U d U) (CG (gw (AC Z Z (CW 6 H Z Z Z Z (vs:=[I b.id,I b.st,I b.sz,I b.q,I b.r,I b.mp]) Z (by simp[Value.oneCell']) J U (by simp only[Aej,AeE];omega) (out:=AY (vs.set i b)) (EJ (e2:=b) he 0 O (by simp[Vl.cells,v0]))) ?_))));rintro w H;refine Zc 9 Z (Zr Z ?_);exact ⟨_,.inr ⟨b,t,p,h,Z,Z⟩,H.pick 10 [5,6,9,0,1,4,7,8,2] Z⟩
end
section
variable{Tb:Ai}
theorem WI(p pp mb n:Nat)(nx:Int)(vs:List Vl)(o:TB)(hv:vs.length=8)(a1:0<=nx/\nx<=1073741824)(hf:∀e∈vs,e.Fit)(i k:Nat)(e:Vl)(he:vs[i]?=some e)(F:Ai)(f:FuncId)(us:List Value)(x:∀a w,(callFunc f a).run prog w=.ok (.enter f a) w)(u:Int->Prop)(d:Vl->TS->List Nat->Prop)
  (a3:Ak f (.agg #[I e.id,I e.st,I e.sz,I e.q,I e.r,I e.mp]::I (k:Int)::us) [voA p pp nx [] vs,trA Tb pp mb n o (some (⟨o.N,o.C,AR n o.C,0⟩,o.R)),F] (λv G=>(∃(er:Int) (s:TS×List Nat),(er≠0/\u er)/\v=.tuple #[.agg #[I 0,I 0,I 0,I 0,I 0,I 0],I er]/\G=[voA p pp nx [] vs,trA Tb pp mb n o (some s),F])\/(∃(b:Vl) (t:TS) (l:List Nat),d b t l/\v=.tuple #[.agg #[I b.id,I b.st,I b.sz,I b.q,I b.r,I b.mp],I 0]/\G=[voA p pp nx [] vs,trA Tb pp mb n o (some (t,l)),F])))(hG:∀b t l,d b t l->b.Fit/\t.k+1+manyN n<=40)(a2:mb<=1000000000):
  Ak 38 [Y p,.func (.func 63) #[] #[Y m,Y j,Y g]] [voA p pp nx [] vs,trA Tb pp mb n o none,blk m [(.func (.func f) #[] us.toArray)] 87,blk j [I (i:Int)] 3,blk g [I (k:Int)] 3,F] (λv G=>(∃er:Int,(er≠0/\u er)/\v=I er/\G=[voA p pp nx [] vs,trA Tb pp mb n o none,blk m [(.func (.func f) #[] us.toArray)] 87,blk j [I (i:Int)] 3,blk g [I (k:Int)] 3,F])\/(∃(b:Vl) (t:TS) (l:List Nat),d b t l/\v=I 0/\G=[voA p pp nx [] (vs.set i b),trA Tb pp (mb+2) n ⟨t.N,t.C,l⟩ none,blk m [(.func (.func f) #[] us.toArray)] 87,blk j [I (i:Int)] 3,blk g [I (k:Int)] 3,F])):=by
 intro z R w H;have H2:=((H.pick 6 [2,3,4,5,0,1] Z).made 4 (A:=seps [blk m [(.func (.func f) #[] us.toArray)] 87,blk j [I (i:Int)] 3,blk g [I (k:Int)] 3,F]) (λh q=>q)).pick 3 [1,2,0] Z;refine Ret.mono (change_c p pp mb n nx vs o hv _ _ [Y m,Y j,Y g] (λa w=>call63 a w) (λer E2=>u er/\E2=seps [blk m [(.func (.func f) #[] us.toArray)] 87,blk j [I (i:Int)] 3,blk g [I (k:Int)] 3,F]) (λnx2 a0 t R0 E2=>∃b,nx2=nx/\a0=vs.set i b/\d b t R0/\E2=seps [blk m [(.func (.func f) #[] us.toArray)] 87,blk j [I (i:Int)] 3,blk g [I (k:Int)] 3,F]) (λc v1 v2 z R w H=>?_) ?_ a2 z R w H2) ?_
 ·have H3:=(H.pick 6 [5,0,1,2,3,4] Z).opened
  refine Ret.mono (Cn.at (WH p pp mb n o c m j g nx v1 v2 vs i k e he hv F f us x u d a3) H3 9 [4,5,6,7,8,0,1,2,3] Z Z) ?_;rintro v w' ⟨Γ',(⟨er,s,⟨h1,h2⟩,rfl,rfl⟩|⟨b,t,l,hg,rfl,rfl⟩),y⟩
  ·exact ⟨_,.inl ⟨er,_,s,⟨h1,h2,Z⟩,Z,Z⟩,((y.pick 6 [2,3,4,5,0,1] Z).made 4 (λh q=>q)).pick 3 [1,2,0] Z⟩
  exact ⟨_,.inr ⟨nx,vs.set i b,t,l,_,⟨b,Z,Z,hg,Z⟩,Z,Z⟩,by rw[AeX];exact ((y.pick 9 [5,6,7,8,0,1,2,3,4] Z).made 4 (λh q=>q)).pick 6 [1,2,3,4,5,0] Z⟩
 ·rintro _ _ t R0 _ ⟨b,rfl,rfl,hg,rfl⟩
  obtain ⟨g1,g2⟩:=hG _ _ _ hg;exact ⟨by simp[hv],a1,GD hf g1,g2⟩
 rintro v w' ⟨Γ',(⟨er,E2,⟨h1,h2,rfl⟩,rfl,rfl⟩|⟨nx2,a0,t,R0,E2,⟨b,rfl,rfl,hg,rfl⟩,rfl,rfl⟩),y⟩
 ·exact ⟨_,.inl ⟨er,⟨h1,h2⟩,Z,Z⟩,((y.pick 3 [2,0,1] Z).opened).pick 6 [4,5,0,1,2,3] Z⟩
 exact ⟨_,.inr ⟨b,t,R0,hg,Z,Z⟩,((y.pick 3 [2,0,1] Z).opened).pick 6 [4,5,0,1,2,3] Z⟩
set_option maxHeartbeats 4000000 in
theorem QZ (g pp mb n:Nat) (nx:Int) (vs:List Vl) (o:TB) (e:Vl) (L:List E) (i:Nat) (hi:i<vs.length) (hv:vs.length=8) (y:0<=nx/\nx<=1073741824) (b:Int) (a6:0<=b/\b<=8) (a3:mb+16<=1000000000) (F:Ai) (f:FuncId) (j:∀a w,(callFunc f a).run prog w=.ok (.enter f a) w) (J_:Nat->TB->Vl->List E->Prop) (Er:Nat->TB->Vl->List E->Int->Prop) (hJ:J_ 0 o e L) (a1:∀k o2 e2 L2,J_ k o2 e2 L2->∀x∈vs.set i e2,x.Fit) (a0:∀(k:Nat) (o2:TB) (e2:Vl) (L2:List E) (m2:Nat),(k:Int)<b->J_ k o2 e2 L2->Ak f (.agg #[I e2.id,I e2.st,I e2.sz,I e2.q,I e2.r,I e2.mp]::I (k:Int)::V) [voA g pp nx [] (vs.set i e2),trA Tb pp m2 n o2 (some (⟨o2.N,o2.C,AR n o2.C,0⟩,o2.R)),F] (λv G=>(∃(er:Int) (s:TS×List Nat),(er≠0/\Er k o2 e2 L2 er)/\v=.tuple #[.agg #[I 0,I 0,I 0,I 0,I 0,I 0],I er]/\G=[voA g pp nx [] (vs.set i e2),trA Tb pp m2 n o2 (some s),F])\/(∃(c:Vl) (t:TS) (m:List Nat),((∃L3,J_ (k+1) ⟨t.N,t.C,m⟩ c L3)/\c.Fit/\t.k+1+manyN n<=40)/\v=.tuple #[.agg #[I c.id,I c.st,I c.sz,I c.q,I c.r,I c.mp],I 0]/\G=[voA g pp nx [] (vs.set i e2),trA Tb pp m2 n o2 (some (t,m)),F]))):Ak 30 [Y g,I (i:Int),I b,(.func (.func f) #[] V.toArray)] [voA g pp nx ([]) (vs.set i e),trA Tb pp mb n o none,F] (λv G=>(∃(k:Nat) (o2:TB) (e2:Vl) (L2:List E) (er:Int),((k:Int)<b/\J_ k o2 e2 L2/\er≠0/\Er k o2 e2 L2 er)/\v=.tuple #[I (k:Int),I er]/\G=[voA g pp nx [] (vs.set i e2),trA Tb pp (mb+2*k) n o2 none,F])\/(∃(k:Nat) (o2:TB) (e2:Vl) (L2:List E),((k:Int)=b/\J_ k o2 e2 L2)/\v=.tuple #[I b,I 0]/\G=[voA g pp nx [] (vs.set i e2),trA Tb pp (mb+2*k) n o2 none,F])):=by
 intro z R w H;refine Ae func30 Z ntmps30 Z (Za 2 [] H Z ?_);intro b1 w H;refine Za 0 [] H Z ?_;intro b2 w H;refine Zc 12 Z ?_;refine AF (σ:=Nat×TB×Vl×List E) (λ⟨k,o2,e2,L2⟩=>[(13,I (k:Int)),(0,Y g),(2,I b),(5,Y b1),(7,Y b2),(12,I b)])
   (λ⟨k,o2,e2,L2⟩ w=>Sep z (blk b2 [(.func (.func f) #[] V.toArray)] 87::blk b1 [I (i:Int)] 3::voA g pp nx ([]) (vs.set i e2)::trA Tb pp (mb+2*k) n o2 none::F::R) w/\((k:Int)<=b/\J_ k o2 e2 L2)) (λ⟨k,o2,e2,L2⟩=>b.toNat-k) ⟨0,o,e,L⟩
   fr_z ⟨H,⟨by show ((0:Nat):Int)<=b;omega,hJ⟩⟩ ?_
 clear H;rintro ⟨k,o2,e2,L2⟩ w ⟨l,hI⟩;dsimp only at hI l ⊢;have H:=l.l5;obtain ⟨a7,h⟩:=hI;refine Z0 6 [0] Z (Af Z (λh1=>?_) (λh1=>?_))
 ·refine Za 7 [] H Z ?_;intro b3 w H;refine Z4 6 [0] H Z ?_;intro w H;refine Ad Z (C6 Z Z Z) (Au Z (call38 _) (WI g pp (mb+2*k) n nx (vs.set i e2) o2 (by simp[hv]) y (a1 _ _ _ _ h) i k e2 (Afy hi) F f V j (Er k o2 e2 L2) (λc t m=>(∃L3,J_ (k+1) ⟨t.N,t.C,m⟩ c L3)/\c.Fit/\t.k+1+manyN n<=40) (a0 k o2 e2 L2 _ U h) (λ_ _ _ q=>q.2) U) H.f5.f1.f3.f3.f5.f5 ?_);rintro _ w _ (⟨er,⟨u,p⟩,rfl,rfl⟩|⟨c,t,m,⟨⟨L3,a2⟩,a5,a4⟩,rfl,rfl⟩) l
  ·have H:=l.l6;refine Z0 9 [0] Z (Af Z (λh2=>?_) (λh2=>?_))
   ·refine Z2 9 [4,0] H Z (Zr Z ?_);exact ⟨_,.inl ⟨k,o2,e2,L2,er,⟨by omega,h,u,p⟩,Z,Z⟩,H.pick 6 [0,1,5] Z⟩
   (exfalso;omega)
  rw[AgX] at l;have H:Sep z (voA g pp nx ([]) (vs.set i c)::trA Tb pp (mb+2*(k+1)) n ⟨t.N,t.C,m⟩ none::blk b2 [(.func (.func f) #[] V.toArray)] 87::blk b1 [I (i:Int)] 3::blk b3 [I (k:Int)] 3::F::R) w:=l;clear l;refine Z1 17 [4] [(k:Int)+1] Z U ?_;replace H:=H.f4.d.f4.f2.f2.f4.f4;refine gf ?_;intro _ hF;refine ⟨⟨k+1,⟨t.N,t.C,m⟩,c,L3⟩,hF.cz,⟨H,?_⟩,?_⟩
  ·exact ⟨by show ((k+1:Nat):Int)<=b;omega,a2⟩
  (dsimp only;omega)
 refine Zc 2 Z (gx (Zc 10 Z (Zr Z ?_)));exact ⟨_,.inr ⟨k,o2,e2,L2,⟨by omega,h⟩,Z,Z⟩,H.pick 5 [2,3,4] Z⟩
end
section
variable{Tb:Ai}
theorem WJ{o:TB}(e:Vl)(L:List E)(Q:List Nat)(D:Ai)(bs:List UInt8)(nx:Int)(g:LwI n o e.r.toNat L Q)(a:PlOk o.N nx (e,L))(p:nx<=1073741824)(s:L.length<=1024)(x:0<=t/\t<e.sz)(k:bs.length=64)(l:∀h,D h->rdH 1 u bs.length (bs.map u8) h):
  Ak 32 [Y m,.agg #[I e.id,I e.st,I e.sz,I e.q,I e.r,I e.mp],I t,u] [trA Tb m i n o (some (⟨o.N,o.C,AR n o.C,0⟩,o.R)),D] (λv G=>((getE t L=0/\e.q<=e.mp)/\v=.tuple #[.agg #[I 0,I 0,I 0,I 0,I 0,I 0],I 30]/\G=[trA Tb m i n o (some (⟨o.N,o.C,AR n o.C,0⟩,o.R)),D])\/((¬(getE t L=0/\e.q<=e.mp)/\cnt (AR n o.C) 0 1024<=11)/\∃b,v=.tuple #[.agg #[I 0,I 0,I 0,I 0,I 0,I 0],I 20]/\G=[trA Tb m i n o (some b),D])\/(¬(getE t L=0/\e.q<=e.mp)/\∃(t3:TS) (r val:Nat),WrF n o t3 e.r.toNat r Q t val bs L/\v=.tuple #[.agg #[I e.id,I e.st,I e.sz,I e.q,I (r:Int),I (if getE t L=0 then e.mp+1 else e.mp)],I 0]/\G=[trA Tb m i n o (some (t3,Ba r++Q)),D])):=by
 have j:=Wx (Tb:=Tb) m i n o e.id e.st e.sz e.q e.mp t e.r.toNat L Q D u bs g (a.vok p s) l;rw[R8 a.r.1,<-g.r] at j;intro z R w H;refine Ret.mono (j z R w H) ?_;rintro v y ⟨Γ',(⟨q,_⟩|⟨_,q,_⟩|⟨_,q,rfl,rfl⟩|⟨⟨_,_,c⟩,d,b,rfl,rfl⟩|⟨⟨_,_,c⟩,t3,r,val,d,rfl,rfl⟩),f⟩
 ·exact absurd x q
 ·exact absurd k q
 ·exact ⟨_,.inl ⟨q,Z,Z⟩,f⟩
 ·exact ⟨_,.inr (.inl ⟨⟨c,d⟩,b,Z,Z⟩),f⟩
 exact ⟨_,.inr (.inr ⟨c,t3,r,val,d,Z,Z⟩),f⟩
theorem WK{o:TB}(e:Vl)(L:List E)(Q:List Nat)(nx:Int)(d:LwI n o e.r.toNat L Q)(a:PlOk o.N nx (e,L))(g:nx<=1073741824)(h:L.length<=1024)(k:0<=t/\t<e.sz):
  Ak 36 [Y m,.agg #[I e.id,I e.st,I e.sz,I e.q,I e.r,I e.mp],I t] [trA Tb m i n o (some (⟨o.N,o.C,AR n o.C,0⟩,o.R))] (λv G=>(¬CE t L/\v=.tuple #[.agg #[I e.id,I e.st,I e.sz,I e.q,I e.r,I e.mp],I 0]/\G=[trA Tb m i n o (some (⟨o.N,o.C,AR n o.C,0⟩,o.R))])\/(cnt (AR n o.C) 0 1024<=12/\∃b,v=.tuple #[.agg #[I 0,I 0,I 0,I 0,I 0,I 0],I 20]/\G=[trA Tb m i n o (some b)])\/(CE t L/\∃(t3:TS) (r:Nat),UnF n o t3 r Q t L/\v=.tuple #[.agg #[I e.id,I e.st,I e.sz,I e.q,I (r:Int),I (e.mp-1)],I 0]/\G=[trA Tb m i n o (some (t3,Ba r++Q))])):=by
 have f:=Wy (Tb:=Tb) m i n o e.id e.st e.sz e.q e.mp t e.r.toNat L Q d (a.vok g h);rw[R8 a.r.1,<-d.r] at f;intro z R w H;refine Ret.mono (f z R w H) ?_;rintro v l ⟨Γ',(⟨q,_⟩|⟨⟨_,q⟩,rfl,rfl⟩|⟨⟨_,q⟩,b,rfl,rfl⟩|⟨⟨_,q⟩,t3,r,j,rfl,rfl⟩),c⟩
 ·exact absurd k q
 ·exact ⟨_,.inl ⟨q,Z,Z⟩,c⟩
 ·exact ⟨_,.inr (.inl ⟨q,b,Z,Z⟩),c⟩
 exact ⟨_,.inr (.inr ⟨q,t3,r,j,Z,Z⟩),c⟩
set_option maxHeartbeats 4000000 in
theorem Uc (b pp mb n:Nat) (nx:Int) (vs:List Vl) (o:TB) (e:Vl) (L:List E) (Q:List Nat) (at_:Int) (k:Nat) (hI:LwI n o e.r.toNat L Q) (j:PlOk o.N nx (e,L)) (l:nx<=1073741824) (hl:L.length<=1024) (hk:0<=at_+(k:Int)/\at_+(k:Int)<e.sz) (d c f a:Nat) (bs:List UInt8) (a1:(k+1)*64<=bs.length) (a0:bs.length<=1073741824):Ak 31 [.agg #[I e.id,I e.st,I e.sz,I e.q,I e.r,I e.mp],I (k:Int),Y d,Y c,Y f] [voA b pp nx ([]) vs,trA Tb pp mb n o (some (⟨o.N,o.C,AR n o.C,0⟩,o.R)),blk d [Y b] 32,blk c [I at_] 3,blk f [.slice (some ⟨a,0,none⟩) bs.length bs.length] 47,blk a (bs.map u8) 5] (λv G=>((getE (at_+(k:Int)) L=0/\e.q<=e.mp)/\v=.tuple #[.agg #[I 0,I 0,I 0,I 0,I 0,I 0],I 30]/\G=[voA b pp nx [] vs,trA Tb pp mb n o (some (⟨o.N,o.C,AR n o.C,0⟩,o.R)),blk d [Y b] 32,blk c [I at_] 3,blk f [.slice (some ⟨a,0,none⟩) bs.length bs.length] 47,blk a (bs.map u8) 5])\/((¬(getE (at_+(k:Int)) L=0/\e.q<=e.mp)/\cnt (AR n o.C) 0 1024<=11)/\∃m,v=.tuple #[.agg #[I 0,I 0,I 0,I 0,I 0,I 0],I 20]/\G=[voA b pp nx [] vs,trA Tb pp mb n o (some m),blk d [Y b] 32,blk c [I at_] 3,blk f [.slice (some ⟨a,0,none⟩) bs.length bs.length] 47,blk a (bs.map u8) 5])\/(¬(getE (at_+(k:Int)) L=0/\e.q<=e.mp)/\∃(t3:TS) (r val:Nat),WrF n o t3 e.r.toNat r Q (at_+(k:Int)) val ((bs.drop (k*64)).take 64) L/\v=.tuple #[.agg #[I e.id,I e.st,I e.sz,I e.q,I (r:Int),I (if getE (at_+(k:Int)) L=0 then e.mp+1 else e.mp)],I 0]/\G=[voA b pp nx [] vs,trA Tb pp mb n o (some (t3,Ba r++Q)),blk d [Y b] 32,blk c [I at_] 3,blk f [.slice (some ⟨a,0,none⟩) bs.length bs.length] 47,blk a (bs.map u8) 5])):=by
 intro z R w H;replace H:=H.l6;obtain ⟨x,sv,H⟩:=H.vo;replace H:=H.l8;have s:1<=e.sz/\e.sz<=1048576:=j.sz;have i:((bs.drop (k*64)).take 64).length=64:=by rw[AeA,AeP];omega
 refine Ae func31 Z ntmps31 Z (Za 2 [] H Z ?_);intro b1 w H;refine Za 0 [] H Z ?_;intro b2 w H;refine Zc 4 Z ?_;replace H:=H.f8.f8.f3.f4.f8;refine AS (Sep z (blk d [Y b] 32::blk b [Y pp,I nx,x,sv] 71::blk b1 [I e.id,I e.st,I e.sz,I e.q,I e.r,I e.mp] 59::blk c [I at_] 3::blk f [.slice (some ⟨a,0,none⟩) bs.length bs.length] 47::R)) 20 Z J (A4 H λw g=>?_);have H:=g.l10;refine HJ [0,1,2,3,4,5,6,7,8,9,10,11,12,13] [0,0,0,1,0,2,6,3,0,4,0] [at_+(k:Int),((k*64:Nat):Int),((k+1:Nat):Int),(((k+1)*64:Nat):Int)] (by exact H.pick 10 [0,1,2,3,4] Z) Z J U Z (BQ 14 Z J J J Z Z Z (BM Z (z:=1) (p:=(k*64)) (q:=((k+1)*64)) (o':=k*64) (l':=64) (c':=bs.length-k*64) J Z (.inr ⟨_,_,_,Z,Z,Z⟩) (.inr ⟨_,_,_,Z,Z,Z⟩) U U U U U U) (H.pick 10 [0,1,2,3,4] Z) (AE [15] J O (Al (Br Z Z Z Z Z Z (λw=>call32 _ w) (WJ e L Q (blk a (bs.map u8) 5) ((bs.drop (k*64)).take 64) nx hI j l hl hk i (λh q=>by rw[i];exact q.rd U U (by rw[Aei];omega) (by rw[AeS,<-AfX,<-Afr]))) H.f9.f9 Z ?_))));rintro _ w _ (⟨hq,rfl,rfl⟩|⟨hq,m,rfl,rfl⟩|⟨hq,t3,r,val,u,rfl,rfl⟩) g
 ·have H:=g.l10;refine Az (H.pick 10 [2,3,4,5,6] Z) (AZ [16,17] [] [] (by exact H.pick 10 [2,3,4,5,6] Z) Z J Z (AE [18] J O (Al (Bl Z Z Z (Am 7 H Z Z Z Z (vs:=[I 0,I 0,I 0,I 0,I 0,I 0]) Z (by simp[u8,u32,Value.oneCell']) J O (out:=[I 0,I 0,I 0,I 0,I 0,I 0]) Z) ?_))));rintro w H;replace H:=H.l10;refine Az (H.pick 10 [2,3,4,5,6] Z) (AZ [19] [] [] (by exact H.pick 10 [2,3,4,5,6] Z) Z J Z (a_done J (gn (Zc 2 Z (Zl [7,6] H Z ?_)))));exact ⟨_,.inl ⟨hq,Z,Z⟩,(H.pick 10 [3,8,9,0,2,5,6,1] Z).toVo⟩
 ·have H:=g.l10;refine Az (H.pick 10 [2,3,4,5,6] Z) (AZ [16,17] [] [] (by exact H.pick 10 [2,3,4,5,6] Z) Z J Z (AE [18] J O (Al (Bl Z Z Z (Am 7 H Z Z Z Z (vs:=[I 0,I 0,I 0,I 0,I 0,I 0]) Z (by simp[u8,u32,Value.oneCell']) J O (out:=[I 0,I 0,I 0,I 0,I 0,I 0]) Z) ?_))));rintro w H;replace H:=H.l10;refine Az (H.pick 10 [2,3,4,5,6] Z) (AZ [19] [] [] (by exact H.pick 10 [2,3,4,5,6] Z) Z J Z (a_done J (gn (Zc 2 Z (Zl [7,6] H Z ?_)))));exact ⟨_,.inr (.inl ⟨hq,m,Z,Z⟩),(H.pick 10 [3,8,9,0,2,5,6,1] Z).toVo⟩
 have H:=g.l10;refine Az (H.pick 10 [2,3,4,5,6] Z) (AZ [16,17] [] [] (by exact H.pick 10 [2,3,4,5,6] Z) Z J Z (AE [18] J O (Al (Bl Z Z Z (Am 7 H Z Z Z Z (vs:=[I e.id,I e.st,I e.sz,I e.q,I (r:Int),I (if getE (at_+(k:Int)) L=0 then e.mp+1 else e.mp)]) Z (by simp[u8,u32,Value.oneCell']) J O (out:=[I e.id,I e.st,I e.sz,I e.q,I (r:Int),I (if getE (at_+(k:Int)) L=0 then e.mp+1 else e.mp)]) Z) ?_))));rintro w H;replace H:=H.l10;refine Az (H.pick 10 [2,3,4,5,6] Z) (AZ [19] [] [] (by exact H.pick 10 [2,3,4,5,6] Z) Z J Z (a_done J (gn (Zc 2 Z (Zl [7,6] H Z ?_)))));exact ⟨_,.inr (.inr ⟨hq,t3,r,val,u,Z,Z⟩),(H.pick 10 [3,8,9,0,2,5,6,1] Z).toVo⟩
set_option maxHeartbeats 4000000 in
theorem Ud (a pp mb n:Nat) (nx:Int) (vs:List Vl) (o:TB) (e:Vl) (L:List E) (Q:List Nat) (at_:Int) (k:Nat) (u:LwI n o e.r.toNat L Q) (f:PlOk o.N nx (e,L)) (g:nx<=1073741824) (y:L.length<=1024) (s:0<=at_+(k:Int)/\at_+(k:Int)<e.sz) (c b:Nat):Ak 35 [.agg #[I e.id,I e.st,I e.sz,I e.q,I e.r,I e.mp],I (k:Int),Y c,Y b] [voA a pp nx ([]) vs,trA Tb pp mb n o (some (⟨o.N,o.C,AR n o.C,0⟩,o.R)),blk c [Y a] 32,blk b [I at_] 3] (λv G=>(¬CE (at_+(k:Int)) L/\v=.tuple #[.agg #[I e.id,I e.st,I e.sz,I e.q,I e.r,I e.mp],I 0]/\G=[voA a pp nx [] vs,trA Tb pp mb n o (some (⟨o.N,o.C,AR n o.C,0⟩,o.R)),blk c [Y a] 32,blk b [I at_] 3])\/(cnt (AR n o.C) 0 1024<=12/\∃h,v=.tuple #[.agg #[I 0,I 0,I 0,I 0,I 0,I 0],I 20]/\G=[voA a pp nx [] vs,trA Tb pp mb n o (some h),blk c [Y a] 32,blk b [I at_] 3])\/(CE (at_+(k:Int)) L/\∃(t3:TS) (r:Nat),UnF n o t3 r Q (at_+(k:Int)) L/\v=.tuple #[.agg #[I e.id,I e.st,I e.sz,I e.q,I (r:Int),I (e.mp-1)],I 0]/\G=[voA a pp nx [] vs,trA Tb pp mb n o (some (t3,Ba r++Q)),blk c [Y a] 32,blk b [I at_] 3])):=by
 intro z R w H;replace H:=H.l4;obtain ⟨l,x,H⟩:=H.vo;replace H:=H.l6;have i:1<=e.sz/\e.sz<=1048576:=f.sz;refine Ae func35 Z ntmps35 Z (Za 2 [] H Z ?_);intro t w H;refine Za 0 [] H Z ?_;intro b2 w H;refine Zc 4 Z ?_;replace H:=H.f7.f2.f3.f7;refine AS (Sep z (blk c [Y a] 32::blk a [Y pp,I nx,l,x] 71::blk t [I e.id,I e.st,I e.sz,I e.q,I e.r,I e.mp] 59::blk b [I at_] 3::R)) 13 Z J (A4 H λw d=>?_);have H:=d.l8;refine HJ [0,1,2,3,4,5,6,7] [0,0,0,1,0,2,6,3,0] [at_+(k:Int)] (by exact H.pick 8 [0,1,2,3] Z) Z J U Z (AE [8] J O (Al (Br Z Z Z Z Z Z (λw=>call36 _ w) (WK e L Q nx u f g y s) H.f7 Z ?_)));rintro _ w _ (⟨hq,rfl,rfl⟩|⟨hq,h,rfl,rfl⟩|⟨hq,t3,r,m,rfl,rfl⟩) d
 ·have H:=d.l8;refine Az (H.pick 8 [1,2,3,4] Z) (AZ [9,10] [] [] (by exact H.pick 8 [1,2,3,4] Z) Z J Z (AE [11] J O (Al (Bl Z Z Z (Am 5 H Z Z Z Z (vs:=[I e.id,I e.st,I e.sz,I e.q,I e.r,I e.mp]) Z (by simp[u8,u32,Value.oneCell']) J O (out:=[I e.id,I e.st,I e.sz,I e.q,I e.r,I e.mp]) Z) ?_))));rintro w H;replace H:=H.l8;refine Az (H.pick 8 [1,2,3,4] Z) (AZ [12] [] [] (by exact H.pick 8 [1,2,3,4] Z) Z J Z (a_done J (gn (Zc 2 Z (Zl [5,6] H Z ?_)))));exact ⟨_,.inl ⟨hq,Z,Z⟩,(H.pick 8 [2,6,7,0,1,4] Z).toVo⟩
 ·have H:=d.l8;refine Az (H.pick 8 [1,2,3,4] Z) (AZ [9,10] [] [] (by exact H.pick 8 [1,2,3,4] Z) Z J Z (AE [11] J O (Al (Bl Z Z Z (Am 5 H Z Z Z Z (vs:=[I 0,I 0,I 0,I 0,I 0,I 0]) Z (by simp[u8,u32,Value.oneCell']) J O (out:=[I 0,I 0,I 0,I 0,I 0,I 0]) Z) ?_))));rintro w H;replace H:=H.l8;refine Az (H.pick 8 [1,2,3,4] Z) (AZ [12] [] [] (by exact H.pick 8 [1,2,3,4] Z) Z J Z (a_done J (gn (Zc 2 Z (Zl [5,6] H Z ?_)))));exact ⟨_,.inr (.inl ⟨hq,h,Z,Z⟩),(H.pick 8 [2,6,7,0,1,4] Z).toVo⟩
 have H:=d.l8;refine Az (H.pick 8 [1,2,3,4] Z) (AZ [9,10] [] [] (by exact H.pick 8 [1,2,3,4] Z) Z J Z (AE [11] J O (Al (Bl Z Z Z (Am 5 H Z Z Z Z (vs:=[I e.id,I e.st,I e.sz,I e.q,I (r:Int),I (e.mp-1)]) Z (by simp[u8,u32,Value.oneCell']) J O (out:=[I e.id,I e.st,I e.sz,I e.q,I (r:Int),I (e.mp-1)]) Z) ?_))));rintro w H;replace H:=H.l8;refine Az (H.pick 8 [1,2,3,4] Z) (AZ [12] [] [] (by exact H.pick 8 [1,2,3,4] Z) Z J Z (a_done J (gn (Zc 2 Z (Zl [5,6] H Z ?_)))));exact ⟨_,.inr (.inr ⟨hq,t3,r,m,Z,Z⟩),(H.pick 8 [2,6,7,0,1,4] Z).toVo⟩
end
section
variable{Tb:Ai}
def KV(N N2:Hm)(Q:List Nat):Prop:=∀c∈Q,∀M,Root N c M->Root N2 c M/\A7 N2 M=A7 N M
theorem KV.refl(N:Hm)(Q:List Nat):KV N N Q:=λ_ _ _ h=>⟨h,Z⟩
theorem KV.trans{N N2 e:Hm}{Q:List Nat}(a:KV N N2 Q)(b:KV N2 e Q):KV N e Q:=λc d M h=>by
 obtain ⟨f,g⟩:=a c d M h;obtain ⟨j,i⟩:=b c d M f;exact ⟨j,i.trans g⟩
theorem KV.of{N N2:Hm}{Q:List Nat}(a:Kp N N2 Q)(b:Dt N N2):KV N N2 Q:=λc d M h=>⟨a c d M h,b.vol h (a c d M h)⟩
theorem KV.kp{N N2:Hm}{Q:List Nat}(a:KV N N2 Q):Kp N N2 Q:=λc b M h=>(a c b M h).1
theorem PlOk.fit{N:Hm}{nx:Int}{p:Pl}(h:PlOk N nx p)(e:nx<=1073741824)(f:p.2.length<=1048576):p.1.Fit:=by
 obtain ⟨c,i,a,b,d,_,_,g,_⟩:=h;exact ⟨by omega,by omega,by omega,by omega,by omega,by omega⟩
structure EaJ(n:Nat)(o:TB)(nx:Int)(e:Vl)(Q:List Nat)(k:Nat)(o2:TB)(e2:Vl)(L2:List E):Prop where
 lw:LwI n o2 e2.r.toNat L2 Q
 ok:PlOk o2.N nx (e2,L2)
 len:L2.length<=1024
 kv:KV o.N o2.N Q
 fld:e2.id=e.id/\e2.st=e.st/\e2.sz=e.sz/\e2.q=e.q
 fr:cnt (AR n o.C) 0 1024<=cnt (AR n o2.C) 0 1024+12*k
 z:k=0->o2=o/\e2=e
variable{n:Nat}{o o2:TB}{nx:Int}{e e2:Vl}{Q:List Nat}{k:Nat}{L L2:List E}
theorem EaJ.zero(h:LwI n o e.r.toNat L Q)(a:PlOk o.N nx (e,L))(b:L.length<=1024):EaJ n o nx e Q 0 o e L:=⟨h,a,b,KV.refl _ _,⟨Z,Z,Z,Z⟩,by omega,λ_=>⟨Z,Z⟩⟩
theorem EaJ.pos(h:EaJ n o nx e Q k o2 e2 L2)(K:TrK n o2 none):∀x∈L2,1<=x.2:=λx a=>(G3 K.i U (show ∀e∈L2,∃b,Dm o2 none e.2=some (.dt b) from h.ok.root.data) x a).1
theorem EaJ.wr(h:EaJ n o nx e Q k o2 e2 L2)(K:TrK n o2 none){t3:TS}{val:Nat}{bs:List UInt8}(w:WrF n o2 t3 e2.r.toNat r Q t val bs L2)(d:0<=t/\t<e2.sz)(i:r<=1023)(c:(putE t val L2).length<=1024):
  EaJ n o nx e Q (k+1) ⟨t3.N,t3.C,Ba r++Q⟩ {e2 with r:=(r:Int),mp:=if getE t L2=0 then e2.mp+1 else e2.mp} (putE t val L2):=by
 have hs:=h.ok.root.srt.1;have a:=h.ok.mp;have hp:=PH hs (h.pos K) t val;refine ⟨h.lw.done w.root w.nd Z,⟨h.ok.id,h.ok.st,h.ok.sz,h.ok.q,⟨by show (0:Int)<=(r:Int);omega,by show (r:Int)<=1023;omega⟩,w.root,w.nd,?_,λx b=>?_⟩,c,h.kv.trans (KV.of w.kp w.dt),h.fld,?_,λq=>by omega⟩
 ·show (if getE t L2=0 then e2.mp+1 else e2.mp)=_
  dsimp only at a ⊢;rw[hp,a]
 ·rcases (putE_mem hs x).1 b with q|q
  ·rw[q];exact d.2
  exact h.ok.key x q.1
 have:=h.fr;have:=w.f;have:=w.g;dsimp only;omega
theorem EaJ.un(h:EaJ n o nx e Q k o2 e2 L2){t3:TS}(w:UnF n o2 t3 r Q t L2)(b:CE t L2)(d:r<=1023):
  EaJ n o nx e Q (k+1) ⟨t3.N,t3.C,Ba r++Q⟩ {e2 with r:=(r:Int),mp:=e2.mp-1} (BY t L2):=by
 have hs:=h.ok.root.srt.1;have a:=h.ok.mp;have hp:=PI hs b;refine ⟨h.lw.done w.root w.nd Z,⟨h.ok.id,h.ok.st,h.ok.sz,h.ok.q,⟨by show (0:Int)<=(r:Int);omega,by show (r:Int)<=1023;omega⟩,w.root,w.nd,?_,λx c=>h.ok.key x (Afe.1 c).1⟩,Agu (AfW _ _) h.len,h.kv.trans (KV.of w.kp w.dt),h.fld,?_,λq=>by omega⟩
 ·show e2.mp-1=_
  dsimp only at a ⊢;rw[<-hp,a]
 have:=h.fr;have:=w.f;have:=w.g;dsimp only;omega
theorem EaJ.no(h:EaJ n o nx e Q k o2 e2 L2):EaJ n o nx e Q (k+1) o2 e2 L2:=⟨h.lw,h.ok,h.len,h.kv,h.fld,by have:=h.fr;omega,λq=>by omega⟩
def DN(bs:List UInt8)(k:Nat):List UInt8:=(bs.drop (k*64)).take 64
def EA(at_ q:Int)(k:Nat)(V:List Bk):Prop:=¬G4 (at_+(k:Int)) V/\q<=(V.length:Int)
def WTr(at_ q:Int)(bs:List UInt8)(V0:List Bk)(k:Nat)(V:List Bk):Prop:=∃vf:Nat->List Bk,vf 0=V0/\vf k=V/\∀j,j<k->¬EA at_ q j (vf j)/\∀V2,PutAt (at_+(j:Int)) (DN bs j) (vf j) V2->V2=vf (j+1)
theorem WTr.zero(at_ q:Int)(bs:List UInt8)(V:List Bk):WTr at_ q bs V 0 V:=⟨λ_=>V,Z,Z,λj h=>by omega⟩
theorem WTr.step{bs:List UInt8}{e V d:List Bk}(h:WTr t q bs e k V)(f:¬EA t q k V)(g:∀V2,PutAt (t+(k:Int)) (DN bs k) V V2->V2=d):WTr t q bs e (k+1) d:=by
 obtain ⟨vf,a,b,c⟩:=h;refine ⟨fup vf (k+1) d,by rw[fup_ne _ _ U];exact a,BK _ _ _,λj i=>?_⟩;rcases Aeu j k with q|q
 ·rw[fup_ne _ _ U,fup_ne _ _ U];exact c j q
 obtain rfl:j=k:=by omega
 rw[fup_ne _ _ U,BK,b];exact ⟨f,g⟩
def Db(at_:Int):Nat->List Bk->List Bk
 | 0,V=>V
 | k+1,V=>Bz (at_+(k:Int)) (Db at_ k V)
theorem EaJ.quo(h:EaJ n o nx e Q k o2 e2 L2)(K:TrK n o2 none)(at_:Int):(getE (at_+(k:Int)) L2=0/\e2.q<=e2.mp)↔EA at_ e.q k (A7 o2.N L2):=by
 have c:=h.ok.mp;dsimp only at c;unfold EA;rw[Ww (h.pos K),Kq,h.fld.2.2.2,c];constructor
 ·rintro ⟨a,b⟩;exact ⟨λq=>q a,b⟩
 rintro ⟨a,b⟩;exact ⟨Afg a,b⟩
def JW(n:Nat)(o:TB)(nx:Int)(e:Vl)(Q:List Nat)(at_:Int)(bs:List UInt8)(V0:List Bk)(k:Nat)(o2:TB)(e2:Vl)(L2:List E):Prop:=EaJ n o nx e Q k o2 e2 L2/\WTr at_ e.q bs V0 k (A7 o2.N L2)
def JU(n:Nat)(o:TB)(nx:Int)(e:Vl)(Q:List Nat)(at_:Int)(V0:List Bk)(k:Nat)(o2:TB)(e2:Vl)(L2:List E):Prop:=EaJ n o nx e Q k o2 e2 L2/\A7 o2.N L2=Db at_ k V0
def ErW(n:Nat)(e:Vl)(at_:Int)(k:Nat)(o2:TB)(L2:List E)(er:Int):Prop:=(er=30/\EA at_ e.q k (A7 o2.N L2))\/(er=20/\¬EA at_ e.q k (A7 o2.N L2)/\cnt (AR n o2.C) 0 1024<=11)
end
section
variable{Tb:Ai}
variable{Tb:Ai}
theorem Acv(f pp n:Nat)(nx:Int)(vs:List Vl)(o:TB)(e:Vl)(i:Nat)(Q:List Nat)(m:nx<=1073741824)(at_:Int)(bs:List UInt8)(V0:List Bk)(u j x d:Nat)(a1:bs.length<=1073741824)(a4:p*64<=bs.length)(a6:0<=at_/\at_<=e.sz-p):
  ∀(k:Nat) (o2:TB) (e2:Vl) (L2:List E) (m2:Nat),(k:Int)<p->JW n o nx e Q at_ bs V0 k o2 e2 L2->Ak 31 (.agg #[I e2.id,I e2.st,I e2.sz,I e2.q,I e2.r,I e2.mp]::I (k:Int)::[Y u,Y j,Y x]) [voA f pp nx [] (vs.set i e2),trA Tb pp m2 n o2 (some (⟨o2.N,o2.C,AR n o2.C,0⟩,o2.R)),seps [blk u [Y f] 32,blk j [I at_] 3,blk x [.slice (some ⟨d,0,none⟩) bs.length bs.length] 47,blk d (bs.map u8) 5]] (λv G=>(∃(er:Int) (s:TS×List Nat),(er≠0/\ErW n e at_ k o2 L2 er)/\v=.tuple #[.agg #[I 0,I 0,I 0,I 0,I 0,I 0],I er]/\G=[voA f pp nx [] (vs.set i e2),trA Tb pp m2 n o2 (some s),seps [blk u [Y f] 32,blk j [I at_] 3,blk x [.slice (some ⟨d,0,none⟩) bs.length bs.length] 47,blk d (bs.map u8) 5]])\/(∃(c:Vl) (t:TS) (R3:List Nat),((∃L3,JW n o nx e Q at_ bs V0 (k+1) ⟨t.N,t.C,R3⟩ c L3)/\c.Fit/\t.k+1+manyN n<=40)/\v=.tuple #[.agg #[I c.id,I c.st,I c.sz,I c.q,I c.r,I c.mp],I 0]/\G=[voA f pp nx [] (vs.set i e2),trA Tb pp m2 n o2 (some (t,R3)),seps [blk u [Y f] 32,blk j [I at_] 3,blk x [.slice (some ⟨d,0,none⟩) bs.length bs.length] 47,blk d (bs.map u8) 5]])):=by
 intro k o2 e2 L2 m2 hk hJ z R w H;obtain ⟨b,hT⟩:=hJ;have K0:=H.says 1 Z (λh a=>trA.k0 a);have hz:=b.fld.2.2.1;have H3:=(H.pick 3 [2,0,1] Z).opened;have y:0<=at_+(k:Int)/\at_+(k:Int)<e2.sz:=⟨by omega,by rw[hz];omega⟩;refine Ret.mono (Cn.at (Uc f pp m2 n nx (vs.set i e2) o2 e2 L2 Q at_ k b.lw b.ok m b.len y u j x d bs U a1) H3 6 [4,5,0,1,2,3] Z Z) ?_;rintro v w' ⟨Γ',(⟨hq,rfl,rfl⟩|⟨⟨hq,hf⟩,s3,rfl,rfl⟩|⟨hq,t3,r,val,g,rfl,rfl⟩),H'⟩
 ·exact ⟨_,.inl ⟨30,_,⟨by omega,.inl ⟨Z,(b.quo K0 at_).1 hq⟩⟩,Z,Z⟩,((H'.pick 6 [2,3,4,5,0,1] Z).made 4 (λh q=>q)).pick 3 [1,2,0] Z⟩
 ·exact ⟨_,.inl ⟨20,_,⟨by omega,.inr ⟨Z,λq=>hq ((b.quo K0 at_).2 q),hf⟩⟩,Z,Z⟩,((H'.pick 6 [2,3,4,5,0,1] Z).made 4 (λh q=>q)).pick 3 [1,2,0] Z⟩
 have K3:=H'.says 1 Z (λh a=>trA.k a);have a2:r<=1023:=by
  by_cases h0:r=0
  ·omega
  have:=(K3.i.rin r (by show r∈Ba r++Q;rw[DR h0];simp)).2;have:=K3.hn;omega
 have a0:(putE (at_+(k:Int)) val L2).length<=1024:=by
  have:=JI K3.i U g.root.data g.nd;have:=K3.hn;omega
 have l:=b.wr K0 g y a2 a0;have a5:=g.k;have a3:manyN n<=6:=by have:=b.lw.n;unfold manyN;omega
 exact ⟨_,.inr ⟨_,t3,Ba r++Q,⟨⟨_,l,hT.step (λq=>hq ((b.quo K0 at_).2 q)) (λV2 hp=>g.vol V2 hp)⟩,l.ok.fit m (by show (putE (at_+(k:Int)) val L2).length<=1048576;omega),by omega⟩,Z,Z⟩,((H'.pick 6 [2,3,4,5,0,1] Z).made 4 (λh q=>q)).pick 3 [1,2,0] Z⟩
theorem Acw(g pp n:Nat)(nx:Int)(vs:List Vl)(o:TB)(e:Vl)(i:Nat)(Q:List Nat)(f:nx<=1073741824)(at_:Int)(y:List Bk)(l j:Nat)(a4:0<=at_/\at_<=e.sz-p):
  ∀(k:Nat) (o2:TB) (e2:Vl) (L2:List E) (m:Nat),(k:Int)<p->JU n o nx e Q at_ y k o2 e2 L2->Ak 35 (.agg #[I e2.id,I e2.st,I e2.sz,I e2.q,I e2.r,I e2.mp]::I (k:Int)::[Y l,Y j]) [voA g pp nx [] (vs.set i e2),trA Tb pp m n o2 (some (⟨o2.N,o2.C,AR n o2.C,0⟩,o2.R)),seps [blk l [Y g] 32,blk j [I at_] 3]] (λv G=>(∃(er:Int) (s:TS×List Nat),(er≠0/\er=20/\cnt (AR n o2.C) 0 1024<=12)/\v=.tuple #[.agg #[I 0,I 0,I 0,I 0,I 0,I 0],I er]/\G=[voA g pp nx [] (vs.set i e2),trA Tb pp m n o2 (some s),seps [blk l [Y g] 32,blk j [I at_] 3]])\/(∃(c:Vl) (t:TS) (R3:List Nat),((∃L3,JU n o nx e Q at_ y (k+1) ⟨t.N,t.C,R3⟩ c L3)/\c.Fit/\t.k+1+manyN n<=40)/\v=.tuple #[.agg #[I c.id,I c.st,I c.sz,I c.q,I c.r,I c.mp],I 0]/\G=[voA g pp nx [] (vs.set i e2),trA Tb pp m n o2 (some (t,R3)),seps [blk l [Y g] 32,blk j [I at_] 3]])):=by
 intro k o2 e2 L2 m hk hJ z R w H;obtain ⟨b,hT⟩:=hJ;have hz:=b.fld.2.2.1;have H3:=(H.pick 3 [2,0,1] Z).opened;have a1:0<=at_+(k:Int)/\at_+(k:Int)<e2.sz:=⟨by omega,by rw[hz];omega⟩;have a2:manyN n<=6:=by have:=b.lw.n;unfold manyN;omega
 refine Ret.mono (Cn.at (Ud g pp m n nx (vs.set i e2) o2 e2 L2 Q at_ k b.lw b.ok f b.len a1 l j) H3 4 [2,3,0,1] Z Z) ?_;rintro v w' ⟨Γ',(⟨hq,rfl,rfl⟩|⟨hf,s3,rfl,rfl⟩|⟨hq,t3,r,hU,rfl,rfl⟩),u⟩
 ·refine ⟨_,.inr ⟨e2,_,_,⟨⟨L2,b.no,?_⟩,b.ok.fit f (by have:=b.len;show L2.length<=1048576;omega),by show 0+1+manyN n<=40;omega⟩,Z,Z⟩,((u.pick 4 [2,3,0,1] Z).made 2 (λh q=>q)).pick 3 [1,2,0] Z⟩
  show A7 o2.N L2=Bz (at_+(k:Int)) (Db at_ k y);rw[<-hT,volB_del,GA (λx hx q=>hq ⟨x.2,by rw[<-q];exact hx⟩)]
 ·exact ⟨_,.inl ⟨20,_,⟨by omega,Z,hf⟩,Z,Z⟩,((u.pick 4 [2,3,0,1] Z).made 2 (λh q=>q)).pick 3 [1,2,0] Z⟩
 have K3:=u.says 1 Z (λh a=>trA.k a);have a0:r<=1023:=by
  by_cases h0:r=0
  ·omega
  have:=(K3.i.rin r (by show r∈Ba r++Q;rw[DR h0];simp)).2;have:=K3.hn;omega
 have d:=b.un hU hq a0;have a3:=hU.k;refine ⟨_,.inr ⟨_,t3,Ba r++Q,⟨⟨_,d,?_⟩,d.ok.fit f (by have:=d.len;show (BY (at_+(k:Int)) L2).length<=1048576;omega),by omega⟩,Z,Z⟩,((u.pick 4 [2,3,0,1] Z).made 2 (λh q=>q)).pick 3 [1,2,0] Z⟩;show A7 t3.N (BY (at_+(k:Int)) L2)=Bz (at_+(k:Int)) (Db at_ k y);rw[hU.vol b.ok.root,hT]
end
section
variable{Tb:Ai}
set_option maxHeartbeats 4000000 in
theorem Ku (P:List Pl) {vs:List Vl} (hP:vs=P.map Prod.fst) {o:TB} (x:VInv n o t P) (a5:g+16<=1000000000) (id at_:Int) (a1: -9223372036854775808<=at_/\at_<=9223372036854775807) (c:Nat) (bs:List UInt8) (a4:bs.length<=1073741824) (sy:Bool):Ak 11 [Y m,I id,I at_,.slice (some ⟨c,0,none⟩) bs.length bs.length,.bool sy] [voA m j t ([]) vs,trA Tb j g n o none,blk c (bs.map u8) 5] (λv G=>((∀e∈vs,¬(e.st=1/\e.id=id))/\v=.tuple #[I 0,I 31]/\G=[voA m j t [] vs,trA Tb j g n o none,blk c (bs.map u8) 5])\/(∃(i:Nat) (e:Vl) (L:List E),(P[i]?=some (e,L)/\e.st=1/\e.id=id)/\((Bp e.sz (decide (((bs.length%64:Nat):Int)=0)) at_ ((bs.length/64:Nat):Int)≠0/\v=.tuple #[I 0,I (Bp e.sz (decide (((bs.length%64:Nat):Int)=0)) at_ ((bs.length/64:Nat):Int))]/\G=[voA m j t [] vs,trA Tb j g n o none,blk c (bs.map u8) 5])\/(Bp e.sz (decide (((bs.length%64:Nat):Int)=0)) at_ ((bs.length/64:Nat):Int)=0/\∃(k:Nat) (o2:TB) (e2:Vl) (L2:List E) (m2:Nat) (er:Int),(JW n ⟨o.N,o.C,Ba e.r.toNat++C3 (P.eraseIdx i)⟩ t e (C3 (P.eraseIdx i)) at_ bs (A7 o.N L) k o2 e2 L2/\((er=0/\(k:Int)=((bs.length/64:Nat):Int))\/((k:Int)<((bs.length/64:Nat):Int)/\ErW n e at_ k o2 L2 er))/\m2<=g+16)/\v=.tuple #[I (k:Int),I er]/\G=[voA m j t [] (vs.set i e2),trA Tb j m2 n o2 none,blk c (bs.map u8) 5])))):=by
 intro z R w H;have K:=H.says 1 Z (λh a=>trA.k a);have hn:=K.hn;have hv:vs.length=8:=by rw[hP,Aei];exact x.len
 have hf:∀e∈vs,e.Fit:=by rw[hP];exact x.fit K
 have b5:=x.n;have u:=x.nb
 refine Ae func11 Z ntmps11 Z (Za 2 [] H Z ?_);intro b1 w H;refine Za 0 [] H Z ?_;intro b2 w H;refine Za 0 [] H Z ?_;intro b3 w H;refine Z3 22 [0,0,2,0,1,0,0,0,0] [((bs.length/64:Nat):Int),((bs.length%64:Nat):Int)] H Z U (Au Z (call29 _) (Pa hv (λe he=>(by have:=(hf e he).sz;omega)) a1 ⟨by omega,by omega⟩) H.f3 ?_);rintro _ w _ (⟨a8,rfl,rfl⟩|⟨i,e,⟨he,l,p⟩,rfl,rfl⟩) d
 ·have H:=d.l6;refine Z0 23 [3] Z (Zr Z ?_);exact ⟨_,.inl ⟨a8,Z,Z⟩,H.pick 6 [0,4,5] Z⟩
 have H:=d.l6;refine Z0 14 [0] Z (Af Z (λh1=>?_) (λh1=>?_))
 ·refine Zc 8 Z (Zr Z ?_);obtain ⟨L,b⟩:=Hq hP he;exact ⟨_,.inr ⟨i,e,L,⟨b,l,p⟩,.inl ⟨by assumption,Z,Z⟩⟩,H.pick 6 [0,4,5] Z⟩
 refine Zc 3 Z ?_;have hE:Bp e.sz (decide (((bs.length%64:Nat):Int)=0)) at_ ((bs.length/64:Nat):Int)=0:=Afg λq=>by contradiction
 refine AD 13 (v:=I (i:Int)) Z (congrArg I (if_pos hE)) ?_;have a6:=F0 hE;obtain ⟨L,b⟩:=Hq hP he;have s:=x.ok b l;have a9:1<=e.sz/\e.sz<=1048576:=s.sz;have a7:=(Aee.1 he).1;have a0:L.length<=1024:=R7 K (T:=none) s;have a3:vs.set i e=vs:=by obtain ⟨hl,rfl⟩:=Aee.1 he;exact Af8 hl
 refine Z2 4 [3,0] H Z (Ad Z (C6 Z Z Z) ?_);have d:=(((H.mono 0 (B:=voA m j t [] (vs.set i e)) Z (λh a=>by rw[a3];exact a)).mono 4 (B:=trA Tb j g n ⟨o.N,o.C,Ba e.r.toNat++C3 (P.eraseIdx i)⟩ none) Z (λh a=>a.perm0 (x.r.trans (Jc b)))).pick 6 [3,2,1,5,0,4] Z).made 4 (A:=seps [blk b1 [Y m] 32,blk b2 [I at_] 3,blk b3 [.slice (some ⟨c,0,none⟩) bs.length bs.length] 47,blk c (bs.map u8) 5]) (λh q=>q);clear H;have H:Sep z (seps [blk b1 [Y m] 32,blk b2 [I at_] 3,blk b3 [.slice (some ⟨c,0,none⟩) bs.length bs.length] 47,blk c (bs.map u8) 5]::voA m j t ([]) (vs.set i e)::trA Tb j g n ⟨o.N,o.C,Ba e.r.toNat++C3 (P.eraseIdx i)⟩ none::R) w:=d;clear d;refine Au Z (call30 _) (QZ m j g n t vs ⟨o.N,o.C,Ba e.r.toNat++C3 (P.eraseIdx i)⟩ e L i a7 hv ⟨by omega,u.2⟩ ((bs.length/64:Nat):Int) U a5 (seps [blk b1 [Y m] 32,blk b2 [I at_] 3,blk b3 [.slice (some ⟨c,0,none⟩) bs.length bs.length] 47,blk c (bs.map u8) 5]) 31 (λa w=>call31 a w) (JW n ⟨o.N,o.C,Ba e.r.toNat++C3 (P.eraseIdx i)⟩ t e (C3 (P.eraseIdx i)) at_ bs (A7 o.N L)) (λk o2 e2 L2 er=>ErW n e at_ k o2 L2 er) ⟨EaJ.zero (x.lw b s) s a0,WTr.zero _ _ _ _⟩ (λk o2 e2 L2 y=>GD hf (y.1.ok.fit u.2 (by have:=y.1.len;show L2.length<=1048576;omega))) (Acv m j n t vs ⟨o.N,o.C,Ba e.r.toNat++C3 (P.eraseIdx i)⟩ e i (C3 (P.eraseIdx i)) u.2 at_ bs (A7 o.N L) b1 b2 b3 c a4 U U)) H.f2.f2 ?_;rintro _ w _ (⟨k,o2,e2,L2,er,⟨f,y,b0,a2⟩,rfl,rfl⟩|⟨k,o2,e2,L2,⟨f,y⟩,rfl,rfl⟩) d
 ·have H:=d.l3;have d:=(H.pick 3 [2,0,1] Z).opened
  clear H;have H:Sep z (blk b1 [Y m] 32::blk b2 [I at_] 3::blk b3 [.slice (some ⟨c,0,none⟩) bs.length bs.length] 47::blk c (bs.map u8) 5::voA m j t ([]) (vs.set i e2)::trA Tb j (g+2*k) n o2 none::R) w:=d;clear d;refine Z0 13 [0] Z (An 44 Z (λh2=>U) (λh2=>?_));refine Zc 16 Z (Zr Z ?_);exact ⟨_,.inr ⟨i,e,L,⟨b,l,p⟩,.inr ⟨hE,k,o2,e2,L2,_,er,⟨y,.inr ⟨f,a2⟩,by omega⟩,Z,Z⟩⟩,H.pick 6 [4,5,3] Z⟩
 have H:=d.l3;have d:=(H.pick 3 [2,0,1] Z).opened;clear H;have H:Sep z (blk b1 [Y m] 32::blk b2 [I at_] 3::blk b3 [.slice (some ⟨c,0,none⟩) bs.length bs.length] 47::blk c (bs.map u8) 5::voA m j t ([]) (vs.set i e2)::trA Tb j (g+2*k) n o2 none::R) w:=d;clear d;refine Z0 17 [3] Z (Eq Z (λh3=>?_) (λh3=>?_))
 ·refine Z2 2 [0,0] H Z (z_E_ Z (call33 _) (Ib) H.f5.f5 ?_);intro w H;refine Zc 12 Z (Zr Z ?_);exact ⟨_,.inr ⟨i,e,L,⟨b,l,p⟩,.inr ⟨hE,k,o2,e2,L2,_,0,⟨y,.inl ⟨Z,f⟩,by omega⟩,by rw[<-f],Z⟩⟩,H.pick 6 [0,1,5] Z⟩
 refine Zc 11 Z (Zr Z ?_);exact ⟨_,.inr ⟨i,e,L,⟨b,l,p⟩,.inr ⟨hE,k,o2,e2,L2,_,0,⟨y,.inl ⟨Z,f⟩,by omega⟩,by rw[<-f],Z⟩⟩,H.pick 6 [4,5,3] Z⟩
set_option maxHeartbeats 4000000 in
theorem Kv (P:List Pl) {vs:List Vl} (hP:vs=P.map Prod.fst) {o:TB} (x:VInv n o t P) (a4:g+16<=1000000000) (id at_ b:Int) (a1: -9223372036854775808<=at_/\at_<=9223372036854775807) (a7: -9223372036854775808<=b/\b<=9223372036854775807):Ak 14 [Y m,I id,I at_,I b] [voA m j t ([]) vs,trA Tb j g n o none] (λv G=>((∀e∈vs,¬(e.st=1/\e.id=id))/\v=.tuple #[I 0,I 31]/\G=[voA m j t [] vs,trA Tb j g n o none])\/(∃(i:Nat) (e:Vl) (L:List E),(P[i]?=some (e,L)/\e.st=1/\e.id=id)/\((Bp e.sz true at_ b≠0/\v=.tuple #[I 0,I (Bp e.sz true at_ b)]/\G=[voA m j t [] vs,trA Tb j g n o none])\/(Bp e.sz true at_ b=0/\∃(k:Nat) (o2:TB) (e2:Vl) (L2:List E) (m2:Nat) (er:Int),(JU n ⟨o.N,o.C,Ba e.r.toNat++C3 (P.eraseIdx i)⟩ t e (C3 (P.eraseIdx i)) at_ (A7 o.N L) k o2 e2 L2/\((er=0/\(k:Int)=b)\/((k:Int)<b/\er=20/\cnt (AR n o2.C) 0 1024<=12))/\m2<=g+16)/\v=.tuple #[I (k:Int),I er]/\G=[voA m j t [] (vs.set i e2),trA Tb j m2 n o2 none])))):=by
 intro z R w H;have K:=H.says 1 Z (λh a=>trA.k a);have hn:=K.hn;have hv:vs.length=8:=by rw[hP,Aei];exact x.len
 have hf:∀e∈vs,e.Fit:=by rw[hP];exact x.fit K
 have b4:=x.n;have s:=x.nb
 refine Ae func14 Z ntmps14 Z (Za 2 [] H Z ?_);intro y w H;refine Za 0 [] H Z ?_;intro b2 w H;refine Z2 10 [1,0,0,0] H Z (Au Z (call29 _) (Pa hv (λe he=>(by have:=(hf e he).sz;omega)) a1 a7) H.f2 ?_);rintro _ w _ (⟨a8,rfl,rfl⟩|⟨i,e,⟨he,f,u⟩,rfl,rfl⟩) d
 ·have H:=d.l4;refine Z0 23 [3] Z (Zr Z ?_);exact ⟨_,.inl ⟨a8,Z,Z⟩,H.pick 4 [0,3] Z⟩
 have H:=d.l4;refine Z0 14 [0] Z (Af Z (λh1=>?_) (λh1=>?_))
 ·refine Zc 8 Z (Zr Z ?_);obtain ⟨L,c⟩:=Hq hP he;exact ⟨_,.inr ⟨i,e,L,⟨c,f,u⟩,.inl ⟨by assumption,Z,Z⟩⟩,H.pick 4 [0,3] Z⟩
 refine Zc 3 Z ?_;have hE:Bp e.sz true at_ b=0:=Afg λq=>by contradiction
 refine AD 10 (v:=I (i:Int)) Z (congrArg I (if_pos hE)) ?_;have a5:=F0 hE;obtain ⟨L,c⟩:=Hq hP he;have p:=x.ok c f;have a9:1<=e.sz/\e.sz<=1048576:=p.sz;have a6:=(Aee.1 he).1;have a0:L.length<=1024:=R7 K (T:=none) p;have a3:vs.set i e=vs:=by obtain ⟨hl,rfl⟩:=Aee.1 he;exact Af8 hl
 refine Z2 4 [2,0] H Z (Ad Z (C6 Z Z Z) ?_);have d:=(((H.mono 0 (B:=voA m j t [] (vs.set i e)) Z (λh a=>by rw[a3];exact a)).mono 3 (B:=trA Tb j g n ⟨o.N,o.C,Ba e.r.toNat++C3 (P.eraseIdx i)⟩ none) Z (λh a=>a.perm0 (x.r.trans (Jc c)))).pick 4 [2,1,0,3] Z).made 2 (A:=seps [blk y [Y m] 32,blk b2 [I at_] 3]) (λh q=>q);clear H;have H:Sep z (seps [blk y [Y m] 32,blk b2 [I at_] 3]::voA m j t ([]) (vs.set i e)::trA Tb j g n ⟨o.N,o.C,Ba e.r.toNat++C3 (P.eraseIdx i)⟩ none::R) w:=d;clear d;refine Au Z (call30 _) (QZ m j g n t vs ⟨o.N,o.C,Ba e.r.toNat++C3 (P.eraseIdx i)⟩ e L i a6 hv ⟨by omega,s.2⟩ b U a4 (seps [blk y [Y m] 32,blk b2 [I at_] 3]) 35 (λa w=>call35 a w) (JU n ⟨o.N,o.C,Ba e.r.toNat++C3 (P.eraseIdx i)⟩ t e (C3 (P.eraseIdx i)) at_ (A7 o.N L)) (λk o2 e2 L2 er=>er=20/\cnt (AR n o2.C) 0 1024<=12) ⟨EaJ.zero (x.lw c p) p a0,Z⟩ (λk o2 e2 L2 hJ=>GD hf (hJ.1.ok.fit s.2 (by have:=hJ.1.len;show L2.length<=1048576;omega))) (Acw m j n t vs ⟨o.N,o.C,Ba e.r.toNat++C3 (P.eraseIdx i)⟩ e i (C3 (P.eraseIdx i)) s.2 at_ (A7 o.N L) y b2 U)) H.f2.f2 ?_;rintro _ w _ (⟨k,o2,e2,L2,er,⟨l,hJ,b0,a2⟩,rfl,rfl⟩|⟨k,o2,e2,L2,⟨l,hJ⟩,rfl,rfl⟩) d
 ·have H:=d.l3;have d:=(H.pick 3 [2,0,1] Z).opened
  clear H;have H:Sep z (blk y [Y m] 32::blk b2 [I at_] 3::voA m j t ([]) (vs.set i e2)::trA Tb j (g+2*k) n o2 none::R) w:=d;clear d;refine Zc 7 Z (Zr Z ?_);exact ⟨_,.inr ⟨i,e,L,⟨c,f,u⟩,.inr ⟨hE,k,o2,e2,L2,_,er,⟨hJ,.inr ⟨l,a2⟩,by omega⟩,Z,Z⟩⟩,H.pick 4 [2,3] Z⟩
 have H:=d.l3;have d:=(H.pick 3 [2,0,1] Z).opened;clear H;have H:Sep z (blk y [Y m] 32::blk b2 [I at_] 3::voA m j t ([]) (vs.set i e2)::trA Tb j (g+2*k) n o2 none::R) w:=d;clear d;refine Zc 7 Z (Zr Z ?_);exact ⟨_,.inr ⟨i,e,L,⟨c,f,u⟩,.inr ⟨hE,k,o2,e2,L2,_,0,⟨hJ,.inl ⟨Z,l⟩,by omega⟩,by rw[<-l],Z⟩⟩,H.pick 4 [2,3] Z⟩
end
section
section late
variable{P:Program}{ops:Array Oper}{Q:Exit->Act->World->Prop}{S:World->Prop}{E:List Nat}
theorem ready_un{listed:Array Bool}(d:j∈Region.ready .any ops listed)(e:listed.size=ops.size):listed.getD j false=true->False:=λc=>by
 have b:=(mem_ready.1 d).1;obtain ⟨_,g,a,_⟩:=mem_ready.1 d;have h:=(Ae4.1 a).1;have f:j<listed.size:=by omega
 simp[f] at c b;rw[c] at b;cases b
theorem Ni{i:Nat}{oi:Oper}{v:Value}(hi:ops[i]?=some oi)(p:∀(j:Nat) (o:Oper) cs b,ops[j]?=some o->o.op≠ .select cs b)
  (hQ:∀c a w,Q (.panic c) (a.put oi.dst v) w->Q (.panic c) a w):
  ∀(fuel:Nat) (listed:Array Bool) (a:Act) (w:World),Dc ops listed->listed.size=ops.size->(∀j∈E,listed.getD j false=true\/ET ops m j i=true)->
   (∀j r,ops[j]?=some r->j≠i->listed.getD j true=false->(∀e∈r.after,Region.binds .any e=true->e.on≠i)->oi.apart ops r=true)->
   i∈Region.ready .any ops listed->YieldsIf P ops S oi v a->S w->
   EU P ops Q S E fuel (listed.setIfInBounds i true) (a.put oi.dst v) w->EU P ops Q S E (fuel+1) listed a w:=by
 intro fuel
 induction fuel with
 | zero=>
  intro listed a w hd d _ _ q hy x H;refine ⟨λh=>(by rw[h] at q;cases q),λj t=>?_⟩;by_cases hji:j=i
  ·subst hji;exact hy.wpOp hi x ⟨λ_=>x,H⟩
  have:=ready_mono t hji;rw[H.1] at this;cases this
 | succ fuel ih=>
  intro listed a w hd d hE f q hy x H;refine ⟨λh=>(by rw[h] at q;cases q),λj t=>?_⟩;by_cases hji:j=i
  ·subst hji;exact hy.wpOp hi x ⟨λ_=>x,H⟩
  have h1:=H.2 j (ready_mono t hji);have l:E.contains j=false:=by
   cases hc:E.contains j with
   | false=>rfl
   | true=>
    have hm:j∈E:=by simpa using hc
    rcases hE j hm with h|h
    ·exact (ready_un t d h).elim
    exact (ready_un q d (ready_waits hd d h t)).elim
  obtain ⟨n,r,s,a0⟩:=mem_ready.1 t;have y:∀e∈r.after,Region.binds .any e=true->e.on≠i:=λe he hb a1=>by
   have h1:=a0 e he hb;rw[a1] at h1;exact ready_un q d h1
  have h2:=wpOp_putIf s (f j r s hji n y) (λcs b=>p i oi cs b hi) (λcs b=>p j r cs b s) hQ hy h1;have g:∀k z,ops[k]?=some z->k≠i->(listed.setIfInBounds j true).getD k true=false->
    (∀e∈z.after,Region.binds .any e=true->e.on≠i)->oi.apart ops z=true:=λk z hk a3 u a4=>by
   refine f k z hk a3 ?_ a4;by_cases hjk:j=k
   ·subst hjk;exact n
   rw[getD_set_ne true hjk] at u;exact u
  have a2:∀k∈E,(listed.setIfInBounds j true).getD k false=true\/ET ops m k i=true:=λk hk=>by
   by_cases hjk:j=k
   ·subst hjk
    have hm:E.contains j=true:=by simpa using hk
    rw[hm] at l;cases l
   rw[getD_set_ne false hjk];exact hE k hk
  refine wpOp_mono (λa' w' h3=>⟨λ_=>h3.2.1 l,ih (listed.setIfInBounds j true) a' w' (hd.next t) (by simpa using d) a2 g (ready_mono q (AfV hji)) h3.1 (h3.2.1 l) ?_⟩) h2;rw[Agt _ _ hji];exact h3.2.2
theorem PJ{i:Nat}{oi:Oper}{v:Value}(hi:ops[i]?=some oi)(y:E.contains i=true)(l:∀(j:Nat) (o:Oper) cs b,ops[j]?=some o->o.op≠ .select cs b)
  (hQ:∀c a w,Q (.panic c) (a.put oi.dst v) w->Q (.panic c) a w):
  ∀(fuel:Nat) (listed:Array Bool) (a:Act) (w:World),Dc ops listed->listed.size=ops.size->
   (∀j m,ops[j]?=some m->j≠i->listed.getD j true=false->(∀e∈m.after,Region.binds .any e=true->e.on≠i)->oi.apart ops m=true)->
   i∈Region.ready .any ops listed->YieldsIf P ops (λ_=>True) oi v a->
   EU P ops Q S E fuel (listed.setIfInBounds i true) (a.put oi.dst v) w->EU P ops Q S E (fuel+1) listed a w:=by
 intro fuel
 induction fuel with
 | zero=>
  intro listed a w hd q _ p z H;refine ⟨λh=>(by rw[h] at p;cases p),λj s=>?_⟩;by_cases hji:j=i
  ·subst hji;exact z.wpOp hi trivial ⟨λe=>(by rw[y] at e;cases e),H⟩
  have:=ready_mono s hji;rw[H.1] at this;cases this
 | succ fuel ih=>
  intro listed a w hd q d p z H;refine ⟨λh=>(by rw[h] at p;cases p),λj s=>?_⟩;by_cases hji:j=i
  ·subst hji;exact z.wpOp hi trivial ⟨λe=>(by rw[y] at e;cases e),H⟩
  have h1:=H.2 j (ready_mono s hji);obtain ⟨g,m,n,x⟩:=mem_ready.1 s;have t:∀e∈m.after,Region.binds .any e=true->e.on≠i:=λe he hb a0=>by
   have h1:=x e he hb;rw[a0] at h1;exact ready_un p q h1
  have h2:=wpOp_putIf n (d j m n hji g t) (λcs b=>l i oi cs b hi) (λcs b=>l j m cs b n) hQ z h1;have f:∀k u,ops[k]?=some u->k≠i->(listed.setIfInBounds j true).getD k true=false->
    (∀e∈u.after,Region.binds .any e=true->e.on≠i)->oi.apart ops u=true:=λk u hk a1 r a2=>by
   refine d k u hk a1 ?_ a2;by_cases hjk:j=k
   ·subst hjk;exact g
   rw[getD_set_ne true hjk] at r;exact r
  refine wpOp_mono (λa' w' h3=>⟨h3.2.1,ih (listed.setIfInBounds j true) a' w' (hd.next s) (by simpa using q) f (ready_mono p (AfV hji)) h3.1 ?_⟩) h2;rw[Agt _ _ hji];exact h3.2.2
end late
section late2
variable{P:Program}{ops:List Oper}{N R:Act->World->Prop}{X:Nat->Act->World->Prop}{S:World->Prop}{E:List Nat}{a:Act}{w:World}{fuel:Nat}{listed:Array Bool}{n d i:Nat}{ds:List Deferred}{L:List (Nat×Value)}{v:Value}{o:Oper}
theorem E3(i:Nat)(hi:ops[i]?=some o)(m:(E.all λj=>listed.getD j false||ET ops.toArray ops.length j i)=true)(hs:Region.noSelect ops.toArray=true)(u:Region.free .any ops.toArray listed i=true)(p:(Region.ready .any ops.toArray listed).contains i=true)
  (s:BN ops L o.guard=true)(r:o.dst=some d)(g:Nat.blt d n=true)(k:Av P S n ds L o v)(t:S w)
  (K:∀a',Fr n ds ((d,v)::L) a'->Hw P ops (Qp N X R) S E fuel (listed.setIfInBounds i true) a' w):∀a,Fr n ds L a->Hw P ops (Qp N X R) S E (fuel+1) listed a w:=λa l c e=>
 have f:ops.toArray[i]?=some o:=by simpa using hi
 have b:i∈Region.ready .any ops.toArray listed:=by simpa using p
 Ni (i:=i) (oi:=o) (v:=v) f (AgH hs) (λ_ _ _ h=>h.elim) fuel listed a w c (by simpa using e) (λj x=>by simpa using (Af4.1 m) j x) (AgZ f u) b (.inl ⟨wantL_ok l s,λq h=>k a l q h⟩) t
  (by rw[r];exact K _ (l.put d v g) (c.next b) (by simpa using e))
theorem Pe(i:Nat)(hi:ops[i]?=some o)(l:E.contains i=true)(hs:Region.noSelect ops.toArray=true)(s:Region.free .any ops.toArray listed i=true)(m:(Region.ready .any ops.toArray listed).contains i=true)
  (r:BN ops L o.guard=true)(q:o.dst=some d)(g:Nat.blt d n=true)(j:Av P (λ_=>True) n ds L o v)
  (K:∀a',Fr n ds ((d,v)::L) a'->Hw P ops (Qp N X R) S E fuel (listed.setIfInBounds i true) a' w):∀a,Fr n ds L a->Hw P ops (Qp N X R) S E (fuel+1) listed a w:=λa k c e=>
 have f:ops.toArray[i]?=some o:=by simpa using hi
 have b:i∈Region.ready .any ops.toArray listed:=by simpa using m
 PJ (i:=i) (oi:=o) (v:=v) f l (AgH hs) (λ_ _ _ h=>h.elim) fuel listed a w c (by simpa using e) (AgZ f s) b (.inl ⟨wantL_ok k r,λp h=>j a k p h⟩)
  (by rw[q];exact K _ (k.put d v g) (c.next b) (by simpa using e))
end late2
theorem AdW{P:Program}{ops:List Oper}{C:World->Prop}{Q:Act->Prop}{rest:List Oper}{o:Oper}{n d:Nat}{ds:List Deferred}{L:List (Nat×Value)}{v:Value}{f:FuncId}{x:Operand}{us:List Value}{args:List Operand}{vs:List Value}{tys:Array TypeId}(y:BN ops L o.guard=true)(m:o.dst=some d)(i:Nat.blt d n=true)
  (p:o.op=.call {callee:=.value x,args:=args.toArray,argTypes:=tys})(t:ev L x=some (.func (.func f) #[] us.toArray))(b:evs L args=some vs)(r:∀w,(callFunc f (vs++us).toArray).run P w=.ok (.enter f (vs++us).toArray) w)(h:∀w,C w->Calls P f (vs++us).toArray w (Ret λu k=>u=v/\C k))
  (K:∀a',Fr n ds ((d,v)::L) a'->wpQuiet P ops.toArray C Q rest a'):∀a,Fr n ds L a->wpQuiet P ops.toArray C Q (o::rest) a:=λa g=>
 wpQuiet_step λK' s=>by
  rw[if_pos (wantL_ok g y)];refine ⟨v,λw l=>?_,s _ ?_⟩
  ·unfold Oper.quietAt
   rw[Kt g p t b r];refine ⟨Z,Agx (h w l) λe k q=>?_⟩
   cases e with
   | returned u=>obtain ⟨rfl,j⟩:=q;exact ⟨Z,j⟩
   | panicked c=>exact q.elim
   | outgrown=>exact q.elim
  rw[m];exact K _ (g.put d v i)
def Je(x y:Int):Int:=if x<y then -1 else if y<x then 1 else 0
theorem Q0(x y:Int):Je x y<0↔x<y:=by
 unfold Je;split
 ·omega
 split<;>omega
def Hx(Z_:List Vl)(i j:Nat):Prop:=∀(p q:Nat) (a b:Vl),p<q->q<i->q≠j->Z_[p]?=some a->Z_[q]?=some b->a.id<=b.id
theorem WL(Z_:List Vl):Hx Z_ 1 1:=λp q a b c d=>by omega
theorem R9{Z_:List Vl}{i:Nat}(h:Hx Z_ i i):Hx Z_ (i+1) i:=λp q a b c e d=>h p q a b c U d
theorem II{Z_:List Vl}{i:Nat}(h:Hx Z_ i j)(n:j=0\/∃e f:Vl,Z_[j-1]?=some e/\Z_[j]?=some f/\¬f.id<e.id):Hx Z_ i i:=λp q a b l m _ c g=>by
 by_cases hq:q=j
 ·subst hq
  rcases n with e|⟨e,f,d,k,o⟩
  ·omega
  rw[g] at k;cases k;by_cases hp:p=q-1
  ·subst hp;rw[c] at d;cases d;omega
  have:=h p (q-1) a e U U U c d;omega
 exact h p q a b l m hq c g
theorem Ue{Z_:List Vl}{i:Nat}{e f:Vl}(h:Hx Z_ i j)(m:Z_[j-1]?=some e)(n:Z_[j]?=some f)(u:0<j)(r:f.id<e.id):Hx ((Z_.set j e).set (j-1) f) i (j-1):=λp q a b o l t c d=>by
 have s:=(Aee.1 n).1;have g:∀k,((Z_.set j e).set (j-1) f)[k]?=if k=j-1 then some f else if k=j then some e else Z_[k]? :=λk=>by
  by_cases k1:k=j-1
  ·subst k1;rw[if_pos Z,Afy (by rw[AeX];omega)]
  rw[if_neg k1,Agc U];by_cases k2:k=j
  ·subst k2;rw[if_pos Z,Afy s]
  rw[if_neg k2,Agc U]
 rw[g] at c d;rw[if_neg t] at d;by_cases q2:q=j
 ·rw[if_pos q2] at d;cases d
  split at c
  ·cases c;omega
  rw[if_neg U] at c;exact h p (j-1) a e U U U c m
 rw[if_neg q2] at d;split at c
 ·cases c;exact h j q f b U l q2 n d
 split at c
 ·cases c;exact h (j-1) q e b U l q2 m d
 exact h p q a b o l q2 c d
theorem Uf{Z_:List Vl}{e f:Vl}(c:Z_[j-1]?=some e)(d:Z_[j]?=some f)(g:0<j):((Z_.set j e).set (j-1) f).Perm Z_:=by
 obtain ⟨a,rfl⟩:=Aee.1 c;obtain ⟨b,rfl⟩:=Aee.1 d;exact List.set_set_perm b a
theorem WM{Z_ X:List Vl}(hp:Z_.Perm X){i:Nat}(hi:X.length<=i)(h:Hx Z_ i i):Z_.Pairwise λa b=>a.id<=b.id:=by
 have f:=hp.length_eq;rw[Afx];intro p q c d e;exact h p q _ _ e U U (Aef c) (Aef d)
theorem isnan_c:Ak 190 [I t] [] (λv G=>v=.bool false/\G=[]):=by
 intro z R w H;refine Ae func190 Z ntmps190 Z (Z0 14 [0] Z (Zr Z ?_));exact ⟨_,⟨congrArg Value.bool (decide_eq_false (λq=>q Z)),Z⟩,H⟩
theorem Acx:Ak 145 [I t,I s] [] (λv G=>v=I (Je t s)/\G=[]):=by
 intro z R w H;refine Ae func145 Z ntmps145 Z (Zc 8 Z (z_E_ Z (call190 _) (isnan_c) H ?_));intro w H;refine Zc 6 Z (z_E_ Z (call190 _) (isnan_c) H ?_);intro w H;refine Z0 29 [0] Z (Af Z (λa=>?_) (λa=>?_))
 ·refine Zc 6 Z (Zr Z ?_);exact ⟨_,⟨by unfold Je;rw[if_pos U],Z⟩,H⟩
 refine Z0 10 [0] Z (Af Z (λb=>?_) (λb=>?_))
 ·refine Zc 6 Z (Zr Z ?_);exact ⟨_,⟨by unfold Je;rw[if_neg U,if_pos U],Z⟩,H⟩
 refine Zc 8 Z (Zr Z ?_);exact ⟨_,⟨by unfold Je;rw[if_neg U,if_neg U],Z⟩,H⟩
theorem Aal(a b:Vl):Ak 144 [.agg #[I a.id,I a.st,I a.sz,I a.q,I a.r,I a.mp],.agg #[I b.id,I b.st,I b.sz,I b.q,I b.r,I b.mp]] [] (λv G=>v=I (Je a.id b.id)/\G=[]):=by
 intro z R w H;refine Ae func144 Z ntmps144 Z (Za 2 [] H Z ?_);intro c w H;refine Za 0 [] H Z ?_;intro d w H;refine Z2 9 [0,1,0,0,0,0] H Z (z_E_ Z (call145 _) (Acx) H ?_);intro w H;refine Zc 4 Z (Zr Z ?_);exact ⟨_,⟨Z,Z⟩,H.perm 2 [] Z Z⟩
set_option maxHeartbeats 4000000 in
theorem Acy (X:List Vl) (hX:X.length<=12):Ak 216 [y,I 0,I (X.length:Int),.func (.func 144) #[] #[]] [grow 59 6 y X.length (AY X)] (λv G=>∃Y_:List Vl,(Y_.Perm X/\Y_.Pairwise (λa b=>a.id<=b.id))/\v=.tuple #[]/\G=[grow 59 6 y X.length (AY Y_)]):=by
 intro z R w H;have a0:=H.sy 0 (·.slc);obtain ⟨x,s,rfl⟩:=a0;refine Ae func216 Z ntmps216 Z (Z1 8 [] [1] Z U ?_);refine AF (σ:=Nat×List Vl) (λ⟨i,Z_⟩=>[(8,I (i:Int)),(0,.slice x X.length s),(1,I 0),(2,I (X.length:Int)),(3,.func (.func 144) #[] #[])])
   (λ⟨i,Z_⟩ w=>Sep z (grow 59 6 (.slice x X.length s) X.length (AY Z_)::R) w/\((1<=i/\(i<=X.length\/i=1))/\Z_.Perm X/\Hx Z_ i i)) (λ⟨i,Z_⟩=>X.length-i) ⟨1,X⟩
   fr_z ⟨H,⟨⟨by omega,.inr Z⟩,Ahg _,WL X⟩⟩ ?_
 clear H;rintro ⟨i,Z_⟩ w ⟨d,t⟩;dsimp only at t d ⊢;have H:=d.l1;obtain ⟨hi,hp,hs⟩:=t;have a1:=hp.length_eq;refine Z0 8 [0] Z (Af Z (λh1=>?_) (λh1=>?_))
 ·refine Zc 11 Z ?_;refine AF (σ:=Nat×List Vl) (λ⟨j,Z_⟩=>[(9,I (j:Int)),(0,.slice x X.length s),(1,I 0),(2,I (X.length:Int)),(3,.func (.func 144) #[] #[]),(8,I (i:Int)),(12,I (i:Int)),(13,I (X.length:Int)),(14,.bool (decide ((i:Int)<(X.length:Int)))),(17,I (i:Int))])
    (λ⟨j,Z_⟩ w=>Sep z (grow 59 6 (.slice x X.length s) X.length (AY Z_)::R) w/\(j<=i/\Z_.Perm X/\Hx Z_ (i+1) j)) (λ⟨j,Z_⟩=>j) ⟨i,Z_⟩
    (λ_ n=>(n.all Z)) ⟨H,⟨Ael _,hp,R9 hs⟩⟩ ?_
  clear H;rintro ⟨j,Z_⟩ w ⟨d,t⟩;dsimp only at t d ⊢;have H:=d.l1;obtain ⟨hj,hp,hs⟩:=t;have a1:=hp.length_eq;refine Zc 2 Z (Bu (Sep z _) J J H.drew (BS 4 [] Z J (B8 21 Z (λh2=>?_) (λh2=>?_))))
  ·obtain ⟨e,p⟩:∃e,Z_[j-1]?=some e:=⟨_,Aef U⟩;obtain ⟨f,l⟩:∃f,Z_[j]?=some f:=⟨_,Aef U⟩;have c:=(H.rv 0 (·.rd)).at (AI l 0 _ Z)
   refine BS 3 [] Z J (AM Z Z Z (Aj Z (z:=6) (j:=j) (r:=j*6) J Z Z Z U c U) (AM Z Z Z (Bt Z Z (vs:=f.cells) J (by simp[Vl.cells]) (λ_ o=>(λk u m=>(o.rv 0 (·.rd)).at (AI l k u m)))) (Ha 3 [] [((j-1:Nat):Int)] Z J U (AM Z Z Z (Aj Z (z:=6) (j:=(j-1)) (r:=(j-1)*6) J Z Z U U c U) (AM Z Z Z (Bt Z Z (vs:=e.cells) J (by simp[Vl.cells]) (λ_ o=>(λk u m=>(o.rv 0 (·.rd)).at (AI p k u m)))) (AdW Z Z Z Z Z Z (λw=>call144 _ w) (v:=I (Je f.id e.id)) (cq (Aal f e) (by rintro _ _ ⟨rfl,rfl⟩;exact ⟨Z,Z⟩) 0 [] [] Z Z Z Z) (BS 2 [] Z J (BB (λw d=>?_)))))))));have H:=d.l1;refine gn (Zc 1 Z (Af Z (λh3=>?_) (λh3=>?_)))
   ·have a2:=(Q0 f.id e.id).1 h3
    refine Zc 4 Z (Ov (Sep z (grow 59 6 (.slice x X.length s) X.length (AY Z_)::R)) [2,3,4,15,16,17] 18 Z J (A4 H λw d=>?_));have H:=d.l1;refine Pe 2 Z J J J J Z Z Z (Ck Z Z) (Pe 3 Z J J J J Z Z Z (Ck Z Z) (Pe 4 Z J J J J Z Z Z (Hy Z Z Z (r:=((j-1:Nat):Int)) U U) (E3 0 Z J J J J Z Z Z (Ck Z Z) H (E3 1 Z J J J J Z Z Z (Ck Z Z) H (E3 5 Z J J J J Z Z Z (Ck Z Z) H (E3 6 Z J J J J Z Z Z (Ck Z Z) H (E3 7 Z J J J J Z Z Z (Hy Z Z Z (r:=((j-1:Nat):Int)) U U) H (E3 8 Z J J J J Z Z Z (Aj Z (z:=6) (j:=(j-1)) (r:=(j-1)*6) J Z Z U U c U) H (E3 9 Z J J J J Z Z Z (Bt Z Z (vs:=e.cells) J (by simp[Vl.cells]) (λ_ o=>(λk u m=>(o.rv 0 (·.rd)).at (AI p k u m)))) H (E3 10 Z J J J J Z Z Z (Ck Z Z) H (E3 11 Z J J J J Z Z Z (Ck Z Z) H (E3 12 Z J J J J Z Z Z (Aj Z (z:=6) (j:=j) (r:=j*6) J Z Z Z U c U) H (E3 13 Z J J J J Z Z Z (Bt Z Z (vs:=f.cells) J (by simp[Vl.cells]) (λ_ o=>(λk u m=>(o.rv 0 (·.rd)).at (AI l k u m)))) H ?_)))))))))))));refine E3 14 Z J J J J Z Z Z (Aj Z (z:=6) (j:=j) (r:=j*6) J Z Z Z U c U) H (C7 [15] J O (Al (Bl Z Z Z (CW 0 H Z Z Z Z (vs:=[I e.id,I e.st,I e.sz,I e.q,I e.r,I e.mp]) Z (by simp[Value.oneCell']) J U (by simp only[Aej,AeE];omega) (out:=AY (Z_.set (j) e)) (EJ (e2:=e) l 0 O (by simp[Vl.cells]))) ?_)));rintro w H;refine Ar (λh=>absurd h (by decide)) (C7 [16] J O (Al (BV Z Z Z Z (Aj Z (z:=6) (j:=(j-1)) (r:=(j-1)*6) J Z Z U U c U) (Ar (λh=>absurd h (by decide)) (C7 [17] J O (Al (Bl Z Z Z (CW 0 H Z Z Z Z (vs:=[I f.id,I f.st,I f.sz,I f.q,I f.r,I f.mp]) Z (by simp[Value.oneCell']) J U (by simp only[Aej,AeE];omega) (out:=AY ((Z_.set j e).set (j-1) f)) (EJ (e2:=f) (by rw[Agc U];exact p) 0 O (by simp[Vl.cells]))) ?_)))))));rintro w H;refine Ar (λh=>absurd h (by decide)) (Lf J (gn (Z1 7 [] [((j-1:Nat):Int)] Z U (gf ?_))));intro _ n;refine ⟨⟨j-1,(Z_.set j e).set (j-1) f⟩,n.cz,⟨H,?_⟩,?_⟩
    ·exact ⟨by omega,(Uf p l U).trans hp,Ue hs p l U a2⟩
    (dsimp only;omega)
   have g:¬f.id<e.id:=λq=>h3 ((Q0 f.id e.id).2 q);refine Zc 2 Z (gx (Z1 8 [] [(i:Int)+1] Z U (gf ?_)));intro _ n;refine ⟨⟨i+1,Z_⟩,n.cz,⟨H,?_⟩,?_⟩
   ·refine ⟨⟨by omega,.inl U⟩,hp,?_⟩;first
      | exact II hs (.inl U)
      | exact II hs (.inr ⟨e,f,p,l,g⟩)
   (dsimp only;omega)
  refine BS 13 [] Z J (BB (λw d=>?_));have H:=d.l1;refine gn (Zc 4 Z (gx (Z1 8 [] [(i:Int)+1] Z U (gf ?_))));intro _ n;refine ⟨⟨i+1,Z_⟩,n.cz,⟨H,?_⟩,?_⟩
  ·refine ⟨⟨by omega,.inl U⟩,hp,?_⟩;first
     | exact II hs (.inl U)
     | exact II hs (.inr ⟨e,f,p,l,g⟩)
  (dsimp only;omega)
 refine Zc 2 Z (gx (Zc 1 Z (Zf Z ?_)))
 exact ⟨_,⟨Z_,⟨hp,WM hp U hs⟩,Z,Z⟩,H⟩
end
theorem Acz(a:0<=t)(b:t<=12):Ak 189 [.int .u64 t] [] (λv G=>∃l:Int,v=I l/\G=[]):=by
 intro z R w H;refine (Go.Proofs.Any.bits_Len (P:=prog) (ρ:=I1) {Kf with} t w a U).mono ?_;rintro e c ⟨rfl,rfl⟩;exact ⟨_,⟨_,Z,Z⟩,H⟩
def De(vs:List Vl):List Vl:=vs.filter λe=>decide (e.st=1)
theorem liv_len(vs:List Vl):(De vs).length<=vs.length:=AfW _ _
theorem Pf{vs:List Vl}{e:Vl}(h:vs[i]?=some e):De (vs.take (i+1))=De (vs.take i)++if e.st=1 then [e] else []:=by
 rw[AeQ,h];unfold De;rw[AfQ];by_cases q:e.st=1<;>simp[q]
theorem AcA(X:List Vl)(e:X.length<=12):Ak 188 [u,I 0,I (X.length:Int),I t,.func (.func 144) #[] #[]] [grow 59 6 u X.length (AY X)] (λv G=>∃Y_:List Vl,(Y_.Perm X/\Y_.Pairwise (λa b=>a.id<=b.id))/\v=.tuple #[]/\G=[grow 59 6 u X.length (AY Y_)]):=by
 intro z R w H;refine Ae func188 Z ntmps188 Z (Zc 11 Z (GO 2 (DG (Z1 16 [0] [(X.length:Int)] Z U (Af Z (λc=>?_) (λc=>?_))))))
 ·refine Zc 6 Z (Au Z (call216 _) (Acy X e) H ?_);rintro _ w _ ⟨Y_,d,rfl,rfl⟩ H;refine Zc 3 Z (Zr Z ?_);exact ⟨_,⟨Y_,d,Z,Z⟩,H⟩
 (exfalso;omega)
theorem Aam(X:List Vl)(f:X.length<=12):Ak 143 [u,.func (.func 144) #[] #[]] [grow 59 6 u X.length (AY X)] (λv G=>∃Y_:List Vl,(Y_.Perm X/\Y_.Pairwise (λa b=>a.id<=b.id))/\v=.tuple #[]/\G=[grow 59 6 u X.length (AY Y_)]):=by
 intro z R w H;have c:=H.sy 0 (·.slc);refine Ae func143 Z ntmps143 Z (Zc 3 Z (Ad Z (Ee Z (sz:=6) J Z c) (Zc 7 Z (Ad Z (Ur Z J Z (r:=(X.length:Int)) (by simp[IntKind.wrap,IntKind.bits,IntKind.signed];omega)) (Au Z (call189 _) (Acz U U) H ?_)))));rintro _ w _ ⟨d,rfl,rfl⟩ H;refine Zc 1 Z (Au Z (call188 _) (AcA X f) H ?_);rintro _ w _ ⟨Y_,e,rfl,rfl⟩ H;refine Zc 1 Z (Zf Z ?_);exact ⟨_,⟨Y_,e,Z,Z⟩,H⟩
set_option maxHeartbeats 4000000 in
theorem Q1 {vs:List Vl} (hv:vs.length=8):Ak 86 [Y n] [voA n m t l vs] (λv G=>∃Y_:List Vl,(Y_.Perm (De vs)/\Y_.Pairwise (λa b=>a.id<=b.id))/\G=[grow 59 6 v (De vs).length (AY Y_),voA n m t l vs]):=by
 intro z R w H;refine Ae func86 Z ntmps86 Z (Zc 12 Z ?_);obtain ⟨vv,p,H⟩:=H.vo;have x:=H.sy 1 (·.slc);obtain ⟨h,g,rfl⟩:=x;replace H:=(H.nilg 59 6).l4;refine Z2 11 [1,2,1,0] H Z ?_;refine AF (σ:=Nat×Value) (λ⟨i,u⟩=>[(12,I (i:Int)),(3,u),(2,.slice none 0 0),(10,.slice h vs.length g),(11,I (vs.length:Int))])
   (λ⟨i,u⟩ w=>Sep z (grow 59 6 u ((De (vs.take i)).length) (AY (De (vs.take i)))::blk n [Y m,I t,.slice h vs.length g,p] 71::grow 59 6 (.slice h vs.length g) vs.length (AY vs)::B4 p l::R) w/\(i<=vs.length)) (λ⟨i,u⟩=>vs.length-i) ⟨0,.slice none 0 0⟩
   (λ_ f=>(f.co Z (by go_num) f.cz)) ⟨(by simpa [De,AY] using H),AeR _⟩ ?_
 clear H;rintro ⟨i,u⟩ w ⟨c,hI⟩;dsimp only at hI c ⊢;have H:=c.l4;have su:=H.sy 0 (·.slc);have hi:=hI;clear hI;refine Z0 6 [0] Z (Af Z (λh1=>?_) (λh1=>?_))
 ·refine Zc 5 Z ?_;obtain ⟨e,s⟩:∃e,vs[i]?=some e:=⟨_,Aef U⟩;have o:=(H.rv 2 (·.rd)).at (AI s 0 _ Z)
  have a5:=liv_len (vs.take i);have a2:=List.length_take_le i vs;refine Zc 1 Z (Ad Z (Aj Z (z:=6) (j:=i) (r:=i*6) J Z Z Z U o U) (Ad Z (Bt Z Z (vs:=e.cells) J (by simp[Vl.cells]) (AB (λk u hk=>(H.rv 2 (·.rd)).at (AI s k u hk)))) (Za 0 [] H Z ?_)));intro b1 w H;refine Z4 10 [0,1,0,0,0] H Z ?_;intro w H;refine Af Z (λh2=>?_) (λh2=>?_)
  ·refine Z2 3 [0,6] H Z (AU Z (AP H Z J Ci Z (by decide) (by decide) (out:=[I e.id,I e.st,I e.sz,I e.q,I e.r,I e.mp]) J) ?_);rintro _ w ⟨b2,rfl,H⟩;refine AU Z (AX 2 H Z Z J Ci Z Z (H.rv 0 (·.rd U U O Z)) (by simp[Value.oneCell']) U) ?_;rintro v3 w c;have c:Sep z (blk b2 [I e.id,I e.st,I e.sz,I e.q,I e.r,I e.mp] 59::blk b1 [I e.id,I e.st,I e.sz,I e.q,I e.r,I e.mp] 59::grow 59 6 v3 ((De (vs.take i)).length+1) (AY (De (vs.take i))++[I e.id,I e.st,I e.sz,I e.q,I e.r,I e.mp])::blk n [Y m,I t,.slice h vs.length g,p] 71::grow 59 6 (.slice h vs.length g) vs.length (AY vs)::B4 p l::R) w:=c
   have y:(AY (De (vs.take i))++[I e.id,I e.st,I e.sz,I e.q,I e.r,I e.mp]:List Value)=AY (De (vs.take i)++[e]):=by rw[JK];rfl
   rw[y] at c;have H:=c.l6;refine Z1 8 [] [(i:Int)+1] Z U ?_;replace H:=H.f1.d.d;refine gf ?_;intro _ f;refine ⟨⟨i+1,v3⟩,f.cz,⟨(by rw[Pf s,if_pos (by assumption),Aeh];exact H),?_⟩,?_⟩
   ·show i+1<=vs.length;omega
   (dsimp only;omega)
  refine Z1 7 [] [(i:Int)+1] Z U ?_;replace H:=H.d;refine gf ?_;intro _ f;refine ⟨⟨i+1,u⟩,f.cz,⟨(by rw[Pf s,if_neg (by assumption),AeY];exact H),?_⟩,?_⟩
  ·show i+1<=vs.length;omega
  (dsimp only;omega)
 refine Zc 2 Z (gx (Zc 3 Z ?_));obtain rfl:i=vs.length:=by omega
 rw[Afa] at H;rw[Afa] at su;refine Zc 2 Z (Au Z (call143 _) (Aam (De vs) (by have:=liv_len vs;omega)) H ?_);rintro _ w _ ⟨Y_,⟨a0,a1⟩,rfl,rfl⟩ H;refine Zc 9 Z (Zr Z ?_);exact ⟨_,⟨Y_,⟨a0,a1⟩,Z⟩,((H.pick 4 [1,2,3,0] Z).toVo).pick 2 [1,0] Z⟩
def Wv.cells(x:Wv):List Value:=[.int .i64 x.id,.int .i64 x.sz,.int .i64 x.q,x.u]
def Bq(W:List Wv):List Value:=W.flatMap Wv.cells
theorem Fo(A B:List Wv):Bq (A++B)=Bq A++Bq B:=Af3
theorem Aan(W:List Wv):(Bq W).length=W.length*4:=by
 induction W with
 | nil=>rfl
 | cons x t ih=>simp only[Bq,AeJ,Aeh,Aej] at ih ⊢;rw[ih];simp[Wv.cells];omega
theorem BL:∀{W:List Wv} {j:Nat} {x:Wv},W[j]?=some x->∀k u,(Wv.cells x)[k]?=some u->(Bq W)[j*4+k]?=some u
 | y::t,0,x,h,k,u,hk=>by
  simp at h;subst h;have hl:k<(Wv.cells y).length:=(Aee.1 hk).1;show (Wv.cells y++Bq t)[0*4+k]?=_;rw[Nat.zero_mul,AfP,Aep hl];exact hk
 | y::t,j+1,x,h,k,u,hk=>by
  have ih:=BL (W:=t) (j:=j) (x:=x) (by simpa using h) k u hk;show (Wv.cells y++Bq t)[(j+1)*4+k]?=_;rw[Aev (by simp[Wv.cells];omega)];rw[<-ih];congr 1;simp[Wv.cells];omega
def wdA(pw:Nat)(wn:Int)(W:List Wv):Ai:=λh=>∃u:Value,True/\seps [blk pw [u,.int .i64 wn] 57,grow 62 4 u W.length (Bq W)] h
theorem Sep.wd{w:World}(H:Sep z (wdA n t W::Γ) w):∃u:Value,Sep z (YtkblhjdljaoghaaGreatDoor.blk n [u,I t] 57::YtkblhjdljaoghaaGreatDoor.grow 62 4 u W.length (Bq W)::Γ) w:=by
 obtain ⟨u,_,H⟩:=H.into (p:=λ_:Value=>True) (As:=λu=>[YtkblhjdljaoghaaGreatDoor.blk n [u,I t] 57,YtkblhjdljaoghaaGreatDoor.grow 62 4 u W.length (Bq W)]) (λ_ q=>q);exact ⟨u,H⟩
theorem Sep.toWd{w:World}(H:Sep z (YtkblhjdljaoghaaGreatDoor.blk n [u,I t] 57::YtkblhjdljaoghaaGreatDoor.grow 62 4 u W.length (Bq W)::Γ) w):Sep z (wdA n t W::Γ) w:=H.made 2 (λh q=>⟨u,trivial,q⟩)
theorem Id(id:Int)(a0:W.length<=64):Ak 141 [Y n,I id] [wdA n t W] (λv G=>(∃(j:Nat) (x:Wv),(W[j]?=some x/\x.id=id)/\v=I (j:Int)/\G=[wdA n t W])\/((∀x∈W,x.id≠id)/\v=I (-1)/\G=[wdA n t W])):=by
 intro z R w H;obtain ⟨uw,H⟩:=H.wd;have g:=H.sy 1 (·.slc);obtain ⟨m,o,rfl⟩:=g;have u:=H.sy 1 (·.rd.slcapZ);refine Ae func141 Z ntmps141 Z (Zc 12 Z ?_);refine AF (σ:=Nat) (λi=>[(5,I (i:Int)),(0,Y n),(1,I id)])
   (λi w=>Sep z (blk n [.slice m W.length o,I t] 57::grow 62 4 (.slice m W.length o) W.length (Bq W)::R) w/\(i<=W.length/\∀(j:Nat) (x:Wv),j<i->W[j]?=some x->x.id≠id)) (λi=>W.length-i) 0
   fr_z ⟨H,⟨AeR _,λj e h=>by omega⟩⟩ ?_
 clear H;rintro i w ⟨y,hI⟩;have H:=y.l2;obtain ⟨hi,c⟩:=hI;refine Z2 12 [0,0,0,0] H Z (Af Z (λp=>?_) (λp=>?_))
 ·refine Zc 5 Z ?_;obtain ⟨x,d⟩:∃x,W[i]?=some x:=⟨_,Aef U⟩;have a:=(H.rv 1 (·.rd)).at (BL d 0 _ Z)
  refine Z2 6 [0,0,0] H Z (Ad Z (Aj Z (z:=4) (j:=i) (r:=i*4) J Z Z Z U a U) (Ad Z (Bi Z (k:=0) (r:=i*4) J Z a Z) (Ad Z (Ax Z Z J (AB a)) (Z0 4 [0] Z (Af Z (λs=>?_) (λs=>?_))))))
  ·refine Zc 7 Z (Zr Z ?_);exact ⟨_,.inl ⟨i,x,⟨d,by assumption⟩,Z,Z⟩,(H.pick 2 [0,1] Z).toWd⟩
  refine Z1 8 [] [(i:Int)+1] Z U (gf ?_);intro _ hF;refine ⟨(i+1),hF.cz,⟨H,?_⟩,?_⟩
  ·refine ⟨by omega,λj f l b=>?_⟩;rcases Aeu j i with q|q
   ·exact c j f q b
   obtain rfl:j=i:=by omega
   rw[d] at b;cases b;omega
  omega
 refine Zc 2 Z (gx (Zc 8 Z (Zr Z ?_)));exact ⟨_,.inr ⟨λf b=>(by obtain ⟨j,l⟩:=Ae1.1 b;exact c j f (by have:=(Aee.1 l).1;omega) l),Z,Z⟩,(H.pick 2 [0,1] Z).toWd⟩
theorem Mq{a:Int}(l:W.length<=64)(m:∀x∈W,1<=x.sz/\x.sz<=1048576)(a3: -9223372036854775808<=p/\p<=9223372036854775807)(a1: -9223372036854775808<=a/\a<=9223372036854775807):Ak 137 [Y n,I s,I p,I a,.bool b] [wdA n t W] (λv G=>((∀x∈W,x.id≠s)/\v=.tuple #[I 0,I 31]/\G=[wdA n t W])\/(∃(j:Nat) (x:Wv),(W[j]?=some x/\x.id=s)/\v=.tuple #[I (if Bp x.sz b p a=0 then (j:Int) else 0),I (Bp x.sz b p a)]/\G=[wdA n t W])):=by
 intro z R w H;refine Ae func137 Z ntmps137 Z (Zc 10 Z (Au Z (call141 _) (Id s l) H ?_));rintro _ w _ (⟨j,x,⟨f,c⟩,rfl,rfl⟩|⟨h,rfl,rfl⟩) u
 ·have H:=u.l1;refine Z0 10 [0] Z (Af Z (λh1=>U) (λh1=>?_))
  refine Zc 8 Z (FP 20 Z (λh2=>?_) (λh2=>?_))
  ·refine Zc 17 Z (Zr Z ?_);have e:Bp x.sz b p a=1:=by unfold Bp;rw[if_neg (λq=>by first|omega|(obtain ⟨o,_⟩:=q;simp_all))]
   exact ⟨_,.inr ⟨j,x,⟨f,c⟩,by rw[e];rfl,Z⟩,H.pick 1 [0] Z⟩
  refine Z0 4 [0] Z (An 24 Z (λh3=>?_) (λh3=>?_))
  ·refine Zc 13 Z (Zr Z ?_);have e:Bp x.sz b p a=1:=by unfold Bp;rw[if_neg (λq=>by first|omega|(obtain ⟨o,_⟩:=q;simp_all))]
   exact ⟨_,.inr ⟨j,x,⟨f,c⟩,by rw[e];rfl,Z⟩,H.pick 1 [0] Z⟩
  refine Z0 5 [0] Z (Af Z (λh4=>?_) (λh4=>?_))
  ·refine Zc 7 Z (Zr Z ?_);have e:Bp x.sz b p a=1:=by unfold Bp;rw[if_neg (λq=>by first|omega|(obtain ⟨o,_⟩:=q;simp_all))]
   exact ⟨_,.inr ⟨j,x,⟨f,c⟩,by rw[e];rfl,Z⟩,H.pick 1 [0] Z⟩
  refine Zc 4 Z ?_;obtain ⟨uw,H⟩:=H.wd;have i:=H.sy 1 (·.slc);obtain ⟨aw,cw,rfl⟩:=i;have a2:=(Aee.1 f).1;have d:=(H.rv 1 (·.rd)).at (BL f 0 _ Z);have g:=(H.rv 1 (·.rd)).at (BL f 1 _ Z);have y:=m x (Aeg f);refine Z0 4 [0] Z (An 30 Z (λh5=>?_) (λh5=>?_))
  ·refine Zc 35 Z (Zr Z ?_);have e:Bp x.sz b p a=34:=by unfold Bp;rw[if_pos ⟨by first|assumption|simp_all,by omega,by omega⟩,if_neg U]
   exact ⟨_,.inr ⟨j,x,⟨f,c⟩,by rw[e];rfl,Z⟩,(H.pick 2 [0,1] Z).toWd⟩
  refine Z2 6 [0,0,0] H Z (Ad Z (Aj Z (z:=4) (j:=j) (r:=j*4) J Z Z Z U d U) (Ad Z (Bi Z (k:=1) (r:=j*4+1) J Z d Z) (Ad Z (Ax Z Z J (AB g)) (Z0 3 [0] Z (An 42 Z (λh6=>?_) (λh6=>?_))))))
  ·refine Zc 23 Z (Zr Z ?_);have e:Bp x.sz b p a=34:=by unfold Bp;rw[if_pos ⟨by first|assumption|simp_all,by omega,by omega⟩,if_neg U]
   exact ⟨_,.inr ⟨j,x,⟨f,c⟩,by rw[e];rfl,Z⟩,(H.pick 2 [0,1] Z).toWd⟩
  refine Z2 6 [0,0,0] H Z (Ad Z (Aj Z (z:=4) (j:=j) (r:=j*4) J Z Z Z U d U) (Ad Z (Bi Z (k:=1) (r:=j*4+1) J Z d Z) (Ad Z (Ax Z Z J (AB g)) (Z1 6 [0] [x.sz-p] Z U (Af Z (λh7=>?_) (λh7=>?_))))))
  ·refine Zc 7 Z (Zr Z ?_);have e:Bp x.sz b p a=34:=by unfold Bp;rw[if_pos ⟨by first|assumption|simp_all,by omega,by omega⟩,if_neg U]
   exact ⟨_,.inr ⟨j,x,⟨f,c⟩,by rw[e];rfl,Z⟩,(H.pick 2 [0,1] Z).toWd⟩
  refine Zc 10 Z (Zr Z ?_);have e:Bp x.sz b p a=0:=by unfold Bp;rw[if_pos ⟨by first|assumption|simp_all,by omega,by omega⟩,if_pos U]
  exact ⟨_,.inr ⟨j,x,⟨f,c⟩,by rw[e];rfl,Z⟩,(H.pick 2 [0,1] Z).toWd⟩
 have H:=u.l1;refine Z0 18 [3] Z (Zr Z ?_);exact ⟨_,.inl ⟨h,Z,Z⟩,H.pick 1 [0] Z⟩
set_option maxHeartbeats 6000000 in
theorem Aao (b6:W.length<=64) (A:Ai) (a8:∀x∈W,InB A x.u x.V) (a3:∀x∈W,x.V.length<=1048576):Ak 74 [Y n] [wdA n t W,A] (λv G=>∃(b:Nat) (W2:List Wv) (A2:Ai),(W2.map Wv.core=W.map Wv.core/\Ink A A2/\∀x∈W2,InB A2 x.u x.V)/\v=Y b/\G=[wdA n t W,wdA b t W2,A2]):=by
 intro z R w H;replace H:=H.l2;refine Ae func74 Z ntmps74 Z (Zc 6 Z ?_);obtain ⟨uw,H⟩:=H.wd;replace H:=H.l3;have a6:=H.sy 1 (·.slc);obtain ⟨s,o,rfl⟩:=a6;have b3:=H.sy 1 (·.rd.slcapZ);refine Za 6 [1,0,0] H Z ?_;intro p w H;refine Zc 5 Z ?_;replace H:=(H.nilg 62 4).l5;refine Zc 5 Z ?_;refine AF (σ:=Nat×List Wv×Value×Ai) (λ⟨i,W2,u2,AA⟩=>[(4,I (i:Int)),(0,Y n),(2,.pointer none),(3,Y p)])
   (λ⟨i,W2,u2,AA⟩ w=>Sep z (grow 62 4 u2 W2.length (Bq W2)::blk p [u2,I t] 57::blk n [.slice s W.length o,I t] 57::grow 62 4 (.slice s W.length o) W.length (Bq W)::AA::R) w/\(i<=W.length/\W2.map Wv.core=(W.take i).map Wv.core/\Ink A AA/\∀x∈W2,InB AA x.u x.V)) (λ⟨i,W2,u2,AA⟩=>W.length-i) ⟨0,[],.slice none 0 0,A⟩
   fr_z ⟨(by simpa [Bq] using H),⟨AeR _,by simp,Ink.refl A,by simp⟩⟩ ?_
 clear H;rintro ⟨i,W2,u2,AA⟩ w ⟨e,hI⟩;dsimp only at hI e ⊢;have H:=e.l5;obtain ⟨hi,g,hK,a2⟩:=hI;have b5:W2.length=i:=by have:=congrArg List.length g;simp only[Aei,AeA] at this;omega
 have a0:∀x∈W,InB AA x.u x.V:=λx f=>hK _ _ (a8 x f);refine Z2 12 [0,2,0,0] H Z (Af Z (λh1=>?_) (λh1=>?_))
 ·refine Zc 5 Z ?_;obtain ⟨⟨xi,xs,xq,xu,a⟩,f⟩:∃x:Wv,W[i]?=some x:=⟨_,Aef U⟩;have a4:InB AA xu a:=a0 _ (Aeg f)
  have a9:=H.sy 4 (λq=>(a4 _ q).slc);have m:=(H.rv 3 (·.rd)).at (BL f 0 _ Z);refine Z2 6 [0,2,0] H Z (Ad Z (Aj Z (z:=4) (j:=i) (r:=i*4) J Z Z Z U m U) (Ad Z (Bt Z Z (vs:=[I xi,I xs,I xq,xu]) J O (AB (λk u hk=>(H.rv 3 (·.rd)).at (BL f k u hk)))) (Za 0 [] H Z ?_)));intro b2 w H;refine AC Z Z (Am 0 H Z Z Z Z (vs:=[I xi,I xs,I xq,xu]) Z (Ab Z (Ab Z (Ab Z (Ab a9.one Aw)))) J O (out:=[I xi,I xs,I xq,xu]) Z) ?_;rintro w H;replace H:=H.l6;refine Zc 8 Z ?_;have b0:a.length<=1048576:=a3 _ (Aeg f);refine Z2 4 [3,0,0] H Z ?_;replace H:=(H.nilg 146 2).l7;refine AU Z (AX 0 H Z Z J A8 Z Z (H.rv 6 (a4 _)) (GC) U) ?_;rintro c w e;have a5:([]++B0 a:List Value)=B0 a:=by simp
  rw[a5] at e;rw[show (0+a.length:Nat)=a.length from by omega] at e;have H:=e.l7;have l:=H.sy 0 (·.slc);refine Z0 7 [3] Z (AC Z Z (NB 1 H Z Z Z Z l.cells l.one J) ?_);rintro w H;replace H:=H.l7;refine Zc 2 Z ?_;replace H:=H.f1.f3;refine Bf (Sep z (blk p [u2,I t] 57::blk b2 [I xi,I xs,I xq,c] 62::R)) 11 Z J (A4 H λw e=>?_);have H:=e.l7;refine Bo [0,1,2,3,4] [0,0] J (λ_ f=>(AN (f.blk 0 Z) AH)) (by exact H.pick 7 [0,1] Z) Z J Z Z (By 5 J Z Z J J J Z Z Z (BW Z Z (vs:=[I xi,I xs,I xq,c]) J (λ_ f=>(f.blk 1 Z).part 0 4 _ Z)) (H.pick 7 [0,1] Z) (Ay [6] J O (Al (BU Z Z Z Z (AP H Z J A0 Z (by decide) (by decide) (out:=[I xi,I xs,I xq,c]) J) ?_))));rintro _ w ⟨b4,rfl,H⟩;replace H:=H.l8;refine Ar (λ_=>(H.pick 8 [1,2] Z)) (Ay [7] J O (Al (BU Z Z Z Z (AX 4 H Z Z J A0 Z Z (H.rv 0 (·.rd U U O Z)) (Ab Z (Ab Z (Ab Z (Ab l.one Aw)))) U) ?_)));rintro v5 w e;have e:Sep z (blk b4 [I xi,I xs,I xq,c] 62::blk p [u2,I t] 57::blk b2 [I xi,I xs,I xq,c] 62::grow 146 2 c a.length (B0 a)::grow 62 4 v5 (W2.length+1) (Bq W2++[I xi,I xs,I xq,c])::blk n [.slice s W.length o,I t] 57::grow 62 4 (.slice s W.length o) W.length (Bq W)::AA::R) w:=e;have a7:(Bq W2++[I xi,I xs,I xq,c]:List Value)=Bq (W2++[(⟨xi,xs,xq,c,a⟩:Wv)]):=(by rw[Fo];rfl);rw[a7] at e;rw[show (W2.length+1:Nat)=(W2++[(⟨xi,xs,xq,c,a⟩:Wv)]).length from by simp] at e;have H:=e.l8;have a1:=H.sy 4 (·.slc);refine Ar (λ_=>(H.pick 8 [1,2] Z)) (Bo [8,9] [0] J (λ_ _=>AH) (by exact H.pick 8 [1,2] Z) Z J Z Z (Ay [10] J O (Al (Bl Z Z Z (Ip 1 H Z Z Z Z a1.cells a1.one J) ?_))));rintro w H;replace H:=H.l8;refine Ar (λh=>absurd Z h) (AV J (gn (Zc 2 Z ?_)));have e:=(H.pick 8 [3,7,0,1,2,4,5,6] Z).made 2 (A:=both (grow 146 2 c a.length (B0 a)) AA) (λh q=>q);clear H;have H:Sep z (both (grow 146 2 c a.length (B0 a)) AA::blk b4 [I xi,I xs,I xq,c] 62::blk p [v5,I t] 57::blk b2 [I xi,I xs,I xq,c] 62::grow 62 4 v5 ((W2++[(⟨xi,xs,xq,c,a⟩:Wv)]).length) (Bq (W2++[(⟨xi,xs,xq,c,a⟩:Wv)]))::blk n [.slice s W.length o,I t] 57::grow 62 4 (.slice s W.length o) W.length (Bq W)::R) w:=e;clear e;refine Z1 5 [] [(i:Int)+1] Z U ?_;replace H:=H.f3.d.f1.d.f4.f4.f3.f4;refine gf ?_;intro _ hF;refine ⟨⟨i+1,W2++[⟨xi,xs,xq,c,a⟩],v5,both (grow 146 2 c a.length (B0 a)) AA⟩,hF.cz,⟨H,?_⟩,?_⟩
  ·exact ⟨by show i+1<=W.length;omega,by rw[AeK,g,AeQ,f];simp[Wv.core],hK.trans (Ink.both _ AA),λy hy=>by rcases Aes.1 hy with q|q;exact InB.old (a2 y q);simp at q;subst q;exact InB.grow⟩
  (dsimp only;omega)
 refine Zc 2 Z (gx (Zc 9 Z (Zr Z ?_)));obtain rfl:i=W.length:=by omega
 rw[Afa] at g;have H9:=(H.pick 5 [1,0,2,3,4] Z).toWd;exact ⟨_,⟨p,W2,AA,⟨g,hK,a2⟩,Z,Z⟩,((H9.pick 4 [1,2,0,3] Z).toWd)⟩
theorem InB.nilB :InB A (.slice none 0 0) []:=λh _=>rdH.nil 2 h
theorem Q3(h:∀x∈W,x.u.oneCell'=true):∀c∈Bq W,c.oneCell'=true:=λc a=>by
 obtain ⟨x,b,a⟩:=Agj.1 a;simp only[Wv.cells,Aeq,List.not_mem_nil,or_false] at a;rcases a with rfl|rfl|rfl|rfl
 ·rfl
 ·rfl
 ·rfl
 exact h x b
theorem wdC_drop:∀(L:List Wv) (p:Nat),(Bq L).drop (p*4)=Bq (L.drop p)
 | L,0=>by simp
 | [],p+1=>by simp[Bq]
 | x::L,p+1=>by
  have e1:Bq (x::L)=I x.id::I x.sz::I x.q::x.u::Bq L:=rfl;rw[e1,show (p+1)*4=p*4+4 by omega];simp only[Ae6];exact wdC_drop L p
theorem Ph:∀(L:List Wv) (p:Nat),(Bq L).take (p*4)=Bq (L.take p)
 | L,0=>by simp[Bq]
 | [],p+1=>by simp[Bq]
 | x::L,p+1=>by
  have e1:Bq (x::L)=I x.id::I x.sz::I x.q::x.u::Bq L:=rfl;rw[e1,show (p+1)*4=p*4+4 by omega];simp only[Ae8,Ph L p];rfl
theorem rdH.cutW{a:Option Addr}{c p:Nat}{L:List Wv}(r:rdH 4 (.slice a n c) n (Bq L) h)(b:p+m<=n)(d:n<=c):rdH 4 (.slice (YtkblhjdljaoghaaGreatDoor.cutZ 4 a c p) m (c-p)) m (Bq ((L.drop p).take m)) h:=by
 have:=r.cutZ U b d;rwa[wdC_drop,Ph] at this
set_option maxHeartbeats 4000000 in
theorem Q4 (e:Nat) (a:Int) (W:List Wv) (a0:0<=a/\a<=1073741824) (y:W.length<=64) (A:Ai) (xs xq:Int) (s:Value) (b:List Bk) (i:InB A s b) (r:b.length<=1048576):Ak 135 [Y e,.agg #[I t,I xs,I xq,s]] [wdA e a W,A] (λv G=>(8<=W.length/\v=.tuple #[I 0,I 32]/\G=[wdA e a W,A])\/((W.length<8/\1073741824<=a)/\v=.tuple #[I 0,I 15]/\G=[wdA e a W,A])\/((W.length<8/\a<1073741824)/\∃(u2:Value) (A2:Ai),(Ink A A2/\InB A2 u2 b)/\v=.tuple #[I a,I 0]/\G=[wdA e (a+1) (W++[⟨a,xs,xq,u2,b⟩]),A2])):=by
 intro z R w H;replace H:=H.l2;obtain ⟨uw,H⟩:=H.wd;replace H:=H.l3;have m:=H.sy 1 (·.slc);obtain ⟨k,j,rfl⟩:=m;refine Ae func135 Z ntmps135 Z (Za 2 [] H Z ?_);intro n w H;refine Z2 15 [0,1,0,0] H Z (Af Z (λh1=>?_) (λh1=>?_))
 ·refine Zc 7 Z (Zr Z ?_);exact ⟨_,.inl ⟨by omega,Z,Z⟩,(H.pick 4 [1,2,3] Z).toWd⟩
 refine Z2 12 [1,1,0,0] H Z (Af Z (λh2=>?_) (λh2=>?_))
 ·refine Zc 7 Z (Zr Z ?_);exact ⟨_,.inr (.inl ⟨⟨by omega,by omega⟩,Z,Z⟩),(H.pick 4 [1,2,3] Z).toWd⟩
 refine Z4 22 [1,1,0,0,0,3,0,0] H Z ?_;intro w H;replace H:=(H.nilg 146 2).l5;refine AU Z (AX 0 H Z Z J A8 Z Z (H.rv 4 (i _)) (GC) U) ?_;rintro d w c;have o:([]++B0 b:List Value)=B0 b:=by simp
 rw[o] at c;rw[show (0+b.length:Nat)=b.length from by omega] at c;have H:=c.l5;have f:=H.sy 0 (·.slc);refine Z0 7 [3] Z (AC Z Z (NB 1 H Z Z Z Z f.cells f.one J) ?_);rintro w H;replace H:=H.l5;refine Zc 3 Z ?_;have c:=(H.pick 5 [0,4,1,2,3] Z).made 2 (A:=both (grow 146 2 d b.length (B0 b)) A) (λh q=>q);clear H;have H:Sep z (both (grow 146 2 d b.length (B0 b)) A::blk n [I a,I xs,I xq,d] 62::blk e [.slice k W.length j,I a] 57::grow 62 4 (.slice k W.length j) W.length (Bq W)::R) w:=c;clear c;replace H:=H.f1.f2;refine Bf (Sep z (blk e [.slice k W.length j,I a] 57::blk n [I a,I xs,I xq,d] 62::R)) 11 Z J (A4 H λw c=>?_);have H:=c.l4;refine Bo [0,1,2,3,4] [0,0] J (λ_ p=>(AN (p.blk 0 Z) AH)) (by exact H.pick 4 [0,1] Z) Z J Z Z (By 5 J Z Z J J J Z Z Z (BW Z Z (vs:=[I a,I xs,I xq,d]) J (λ_ p=>(p.blk 1 Z).part 0 4 _ Z)) (H.pick 4 [0,1] Z) (Ay [6] J O (Al (BU Z Z Z Z (AP H Z J A0 Z (by decide) (by decide) (out:=[I a,I xs,I xq,d]) J) ?_))));rintro _ w ⟨x,rfl,H⟩;replace H:=H.l5;refine Ar (λ_=>(H.pick 5 [1,2] Z)) (Ay [7] J O (Al (BU Z Z Z Z (AX 4 H Z Z J A0 Z Z (H.rv 0 (·.rd U U O Z)) (Ab Z (Ab Z (Ab Z (Ab f.one Aw)))) U) ?_)));rintro v4 w c;have c:Sep z (blk x [I a,I xs,I xq,d] 62::blk e [.slice k W.length j,I a] 57::blk n [I a,I xs,I xq,d] 62::both (grow 146 2 d b.length (B0 b)) A::grow 62 4 v4 (W.length+1) (Bq W++[I a,I xs,I xq,d])::R) w:=c;have l:(Bq W++[I a,I xs,I xq,d]:List Value)=Bq (W++[(⟨a,xs,xq,d,b⟩:Wv)]):=(by rw[Fo];rfl);rw[l] at c;rw[show (W.length+1:Nat)=(W++[(⟨a,xs,xq,d,b⟩:Wv)]).length from by simp] at c;have H:=c.l5;have g:=H.sy 4 (·.slc);refine Ar (λ_=>(H.pick 5 [1,2] Z)) (Bo [8,9] [0] J (λ_ _=>AH) (by exact H.pick 5 [1,2] Z) Z J Z Z (Ay [10] J O (Al (Bl Z Z Z (Ip 1 H Z Z Z Z g.cells g.one J) ?_))));rintro w H;replace H:=H.l5;refine Ar (λh=>absurd Z h) (AV J (gn (Z5 22 [1,1,0,1,1,0,2,0] [a+1] H Z U ?_)));intro w H;refine Zr Z ?_;exact ⟨_,.inr (.inr ⟨⟨by omega,by omega⟩,_,_,⟨Ink.both _ A,InB.grow⟩,Z,Z⟩),(H.pick 5 [1,4,3] Z).toWd⟩
theorem Ug(h:0<=t/\t<=1073741824)(k:W.length<=64)(b a:Int):Ak 75 [Y n,I b,I a] [wdA n t W,A] (λv G=>(¬((1<=b/\b<=1048576)/\0<=a/\a<=1048576)/\v=.tuple #[I 0,I 1]/\G=[wdA n t W,A])\/(((1<=b/\b<=1048576)/\0<=a/\a<=1048576)/\((8<=W.length/\v=.tuple #[I 0,I 32]/\G=[wdA n t W,A])\/((W.length<8/\1073741824<=t)/\v=.tuple #[I 0,I 15]/\G=[wdA n t W,A])\/((W.length<8/\t<1073741824)/\∃(u2:Value) (A2:Ai),(Ink A A2/\InB A2 u2 [])/\v=.tuple #[I t,I 0]/\G=[wdA n (t+1) (W++[⟨t,b,a,u2,[]⟩]),A2])))):=by
 intro z R w H;refine Ae func75 Z ntmps75 Z (Z0 12 [0] Z (An 10 Z (λl=>?_) (λl=>?_)))
 ·refine Zc 21 Z (Zr Z ?_);exact ⟨_,.inl ⟨by omega,Z,Z⟩,H.pick 2 [0,1] Z⟩
 refine Z0 4 [0] Z (An 14 Z (λm=>?_) (λm=>?_))
 ·refine Zc 17 Z (Zr Z ?_);exact ⟨_,.inl ⟨by omega,Z,Z⟩,H.pick 2 [0,1] Z⟩
 refine Z0 4 [0] Z (An 18 Z (λp=>?_) (λp=>?_))
 ·refine Zc 13 Z (Zr Z ?_);exact ⟨_,.inl ⟨by omega,Z,Z⟩,H.pick 2 [0,1] Z⟩
 refine Z0 5 [0] Z (Af Z (λo=>?_) (λo=>?_))
 ·refine Zc 7 Z (Zr Z ?_);exact ⟨_,.inl ⟨by omega,Z,Z⟩,H.pick 2 [0,1] Z⟩
 refine Zc 8 Z (Au Z (call135 _) (Q4 n t W h k A b a (.slice none 0 0) [] InB.nilB O) H ?_);rintro _ w _ (⟨c,rfl,rfl⟩|⟨⟨f,g⟩,rfl,rfl⟩|⟨⟨d,e⟩,u2,A2,j,rfl,rfl⟩) i
 ·have H:=i.l2;refine Zc 7 Z (Zr Z ?_);exact ⟨_,.inr ⟨by omega,.inl ⟨c,Z,Z⟩⟩,H.pick 2 [0,1] Z⟩
 ·have H:=i.l2;refine Zc 7 Z (Zr Z ?_);exact ⟨_,.inr ⟨by omega,.inr (.inl ⟨⟨f,g⟩,Z,Z⟩)⟩,H.pick 2 [0,1] Z⟩
 have H:=i.l2;refine Zc 7 Z (Zr Z ?_);exact ⟨_,.inr ⟨by omega,.inr (.inr ⟨⟨d,e⟩,u2,A2,j,Z,Z⟩)⟩,H.pick 2 [0,1] Z⟩
theorem Aap(a3:0<=t/\t<=1073741824)(id:Int)(g:W.length<=64)(a1:∀x∈W,InB A x.u x.V)(m:∀x∈W,x.V.length<=1048576):Ak 80 [Y n,I id] [wdA n t W,A] (λv G=>((∀x∈W,x.id≠id)/\v=.tuple #[I 0,I 31]/\G=[wdA n t W,A])\/(∃(j:Nat) (x:Wv),(W[j]?=some x/\x.id=id)/\((8<=W.length/\v=.tuple #[I 0,I 32]/\G=[wdA n t W,A])\/((W.length<8/\1073741824<=t)/\v=.tuple #[I 0,I 15]/\G=[wdA n t W,A])\/((W.length<8/\t<1073741824)/\∃(u2:Value) (A2:Ai),(Ink A A2/\InB A2 u2 x.V)/\v=.tuple #[I t,I 0]/\G=[wdA n (t+1) (W++[⟨t,x.sz,x.q,u2,x.V⟩]),A2])))):=by
 intro z R w H;refine Ae func80 Z ntmps80 Z (Zc 10 Z (Au Z (call141 _) (Id id g) H ?_));rintro _ w _ (⟨j,x,⟨b,a⟩,rfl,rfl⟩|⟨s,rfl,rfl⟩) d
 ·have H:=d.l2;refine Z0 10 [0] Z (Af Z (λh1=>U) (λh1=>?_))
  refine Zc 3 Z ?_;obtain ⟨uw,H⟩:=H.wd;have y:=H.sy 1 (·.slc);obtain ⟨aw,cw,rfl⟩:=y;obtain ⟨xi,xs,xq,xu,xV⟩:=x;have o:InB A xu xV:=a1 _ (Aeg b);have i:xV.length<=1048576:=m _ (Aeg b);have c:=(H.rv 1 (·.rd)).at (BL b 0 _ Z);have a6:=(Aee.1 b).1;refine Z2 7 [0,0,0] H Z (Ad Z (Aj Z (z:=4) (j:=j) (r:=j*4) J Z Z Z U c U) (Ad Z (Bt Z Z (vs:=[I xi,I xs,I xq,xu]) J O (AB (λk u hk=>(H.rv 1 (·.rd)).at (BL b k u hk)))) ?_));replace H:=((H.pick 3 [0,1,2] Z).toWd).l2;refine Au Z (call135 _) (Q4 n t W a3 g A xs xq xu xV o i) H ?_;rintro _ w _ (⟨l,rfl,rfl⟩|⟨⟨p,h⟩,rfl,rfl⟩|⟨⟨e,f⟩,u2,A2,a0,rfl,rfl⟩) d
  ·have H:=d.l2;refine Zc 7 Z (Zr Z ?_);exact ⟨_,.inr ⟨j,_,⟨b,a⟩,.inl ⟨l,Z,Z⟩⟩,H.pick 2 [0,1] Z⟩
  ·have H:=d.l2;refine Zc 7 Z (Zr Z ?_);exact ⟨_,.inr ⟨j,_,⟨b,a⟩,.inr (.inl ⟨⟨p,h⟩,Z,Z⟩)⟩,H.pick 2 [0,1] Z⟩
  have H:=d.l2;refine Zc 7 Z (Zr Z ?_);exact ⟨_,.inr ⟨j,_,⟨b,a⟩,.inr (.inr ⟨⟨e,f⟩,u2,A2,a0,Z,Z⟩)⟩,H.pick 2 [0,1] Z⟩
 have H:=d.l2;refine Z0 18 [3] Z (Zr Z ?_);exact ⟨_,.inl ⟨s,Z,Z⟩,H.pick 2 [0,1] Z⟩
set_option maxHeartbeats 4000000 in
theorem AcB (id:Int) (k:W.length<=64) (d:∀x∈W,x.u.oneCell'=true):Ak 81 [Y n,I id] [wdA n t W] (λv G=>((∀x∈W,x.id≠id)/\v=I 31/\G=[wdA n t W])\/(∃(j:Nat) (x:Wv),(W[j]?=some x/\x.id=id)/\v=I 0/\G=[wdA n t (W.take j++W.drop (j+1))])):=by
 intro z R w H;refine Ae func81 Z ntmps81 Z (Zc 9 Z (Au Z (call141 _) (Id id k) H ?_));rintro _ w _ (⟨j,x,⟨r,b⟩,rfl,rfl⟩|⟨f,rfl,rfl⟩) a
 ·have H:=a.l1;refine Z0 10 [0] Z (Af Z (λs=>U) (λs=>?_))
  refine Zc 3 Z ?_;obtain ⟨uw,H⟩:=H.wd;have i:=H.sy 1 (·.slc);obtain ⟨o,e,rfl⟩:=i;have a1:=H.sy 1 (·.rd.slcapZ);have a0:=(Aee.1 r).1;refine Z2 12 [0,0,0] H Z (Ad Z (FW (z:=4) (p:=0) (q:=j) (l':=j) (c':=e) Z J Z (.inl ⟨Z,Z⟩) (.inr ⟨_,_,_,Z,Z,Z⟩) U U Z Z) ?_);replace H:=(H.nilg 62 4).l3;refine AU Z (AX 0 H Z Z J A0 Z Z (H.rv 2 (·.rd.cutW U U)) (Q3 (λy m=>d y (Afw (Afi m)))) U) ?_;rintro v1 w a;have h:([]++Bq ((W.drop 0).take j):List Value)=Bq (W.take j):=by simp
  rw[h] at a;rw[show (0+j:Nat)=j from by omega] at a;have H:=a.l3;refine Z3 12 [0,1,0] [((j+1:Nat):Int)] H Z U (Ad Z (FW (z:=4) (p:=(j+1)) (q:=W.length) (l':=W.length-(j+1)) (c':=e-(j+1)) Z J Z (.inr ⟨_,_,_,Z,Z,U⟩) (.inl ⟨Z,Z⟩) U U Z Z) (AU Z (AX 0 H Z Z J A0 Z Z (H.rv 2 (·.rd.cutW U U)) (Q3 (λy m=>d y (Afw (Afi m)))) U) ?_));rintro v2 w a;have a:Sep z (grow 62 4 v2 (j+(W.length-(j+1))) (Bq (W.take j)++Bq ((W.drop (j+1)).take (W.length-(j+1))))::blk n [.slice o W.length e,I t] 57::grow 62 4 (.slice o W.length e) W.length (Bq W)::R) w:=a;have g:(Bq (W.take j)++Bq ((W.drop (j+1)).take (W.length-(j+1))):List Value)=Bq (W.take j++W.drop (j+1)):=(by rw[Fo,Aem (l:=W.drop (j+1)) (by rw[AeP];omega)]);rw[g] at a;rw[show (j+(W.length-(j+1)):Nat)=(W.take j++W.drop (j+1)).length from by simp only[Aeh,AeA,AeP];omega] at a;have H:=a.l3;have c:=H.sy 0 (·.slc);refine Z0 9 [0] Z (AC Z Z (Ip 1 H Z Z Z Z c.cells c.one J) ?_);rintro w H;refine Zc 8 Z (Zr Z ?_);exact ⟨_,.inr ⟨j,x,⟨r,b⟩,Z,Z⟩,(H.pick 3 [1,0] Z).toWd⟩
 have H:=a.l1;refine Z0 17 [3] Z (Zr Z ?_);exact ⟨_,.inl ⟨f,Z,Z⟩,H.pick 1 [0] Z⟩
def Ie(V:List Bk)(size:Int):Prop:=∃b,V[V.length-1]?=some b/\size<=b.1
theorem If{x x2:Wv}(h:W[i]?=some x)(k:Nat)(f:k+V.length<=4)(c:x.cells.take k++V++x.cells.drop (k+V.length)=x2.cells):(Bq W).take (i*4+k)++V++(Bq W).drop (i*4+k+V.length)=Bq (W.set i x2):=by
 obtain ⟨a,rfl⟩:=Aee.1 h;have e1:W=W.take i++W[i]::W.drop (i+1):=by rw[<-Ae2 a,AeO]
 have b:W.set i x2=W.take i++x2::W.drop (i+1):=by rw[Afd,if_pos a]
 have g:(Bq (W.take i)).length=i*4:=by rw[Aan,AeA,AeH U]
 have d:Bq W=Bq (W.take i)++(W[i].cells++Bq (W.drop (i+1))):=by
  have:=congrArg Bq e1;rw[Fo] at this;exact this.trans (congrArg (Bq (W.take i)++ ·) Z)
 have e:W[i].cells.length=4:=rfl;rw[d,b,Fo];rw[show i*4+k=(Bq (W.take i)).length+k by omega,Ahl,show (Bq (W.take i)).length+k+V.length=(Bq (W.take i)).length+(k+V.length) by omega,Ahm,Aew U,AeW U];have:Bq (x2::W.drop (i+1))=x2.cells++Bq (W.drop (i+1)):=by simp[Bq]
 rw[this,<-c];simp only[Aek]
set_option maxHeartbeats 4000000 in
theorem Uh (id a:Int) (a2:W.length<=64) (a3:∀x∈W,InB A x.u x.V) (y:∀x∈W,x.V.length<=1048576):Ak 82 [Y n,I id,I a] [wdA n t W,A] (λv G=>((∀x∈W,x.id≠id)/\v=I 31/\G=[wdA n t W,A])\/(∃(j:Nat) (x:Wv),(W[j]?=some x/\x.id=id)/\((¬(1<=a/\a<=1048576)/\v=I 1/\G=[wdA n t W,A])\/(((1<=a/\a<=1048576)/\Ie x.V a)/\v=I 33/\G=[wdA n t W,A])\/(((1<=a/\a<=1048576)/\¬Ie x.V a)/\v=I 0/\G=[wdA n t (W.set j {x with sz:=a}),A])))):=by
 intro z R w H;refine Ae func82 Z ntmps82 Z (Zc 9 Z (Au Z (call141 _) (Id id a2) H ?_));rintro _ w _ (⟨j,x,⟨f,e⟩,rfl,rfl⟩|⟨a0,rfl,rfl⟩) H'
 ·have H:=H'.l2;refine Z0 10 [0] Z (Af Z (λh1=>U) (λh1=>?_))
  refine Z0 8 [0] Z (An 16 Z (λh2=>?_) (λh2=>?_))
  ·refine Zc 12 Z (Zr Z ?_);exact ⟨_,.inr ⟨j,_,⟨f,e⟩,.inl ⟨by omega,Z,Z⟩⟩,H.pick 2 [0,1] Z⟩
  refine Z0 5 [0] Z (Af Z (λh3=>?_) (λh3=>?_))
  ·refine Zc 6 Z (Zr Z ?_);exact ⟨_,.inr ⟨j,_,⟨f,e⟩,.inl ⟨by omega,Z,Z⟩⟩,H.pick 2 [0,1] Z⟩
  refine Zc 3 Z ?_;obtain ⟨uw,H⟩:=H.wd;have a1:=H.sy 1 (·.slc);obtain ⟨aw,cw,rfl⟩:=a1;obtain ⟨xi,xs,xq,xu,d⟩:=x;have i:InB A xu d:=a3 _ (Aeg f);have a4:=H.sy 2 (λq=>(i _ q).slc);have a6:d.length<=1048576:=y _ (Aeg f);have c:=(H.rv 1 (·.rd)).at (BL f 0 _ Z);have a5:=(H.rv 1 (·.rd)).at (BL f 1 _ Z);have h:=(H.rv 1 (·.rd)).at (BL f 3 _ Z);have a8:=(Aee.1 f).1;refine Z2 6 [0,0,0] H Z (Ad Z (Aj Z (z:=4) (j:=j) (r:=j*4) J Z Z Z U c U) (Ad Z (Bi Z (k:=3) (r:=j*4+3) J Z c Z) (Ad Z (Ax Z Z J (AB h)) (Zc 5 Z ?_))));obtain ⟨m,l,rfl⟩:=a4;refine Z0 5 [0] Z (An 31 Z (λh4=>?_) (λh4=>?_))
  ·obtain ⟨b,s⟩:∃b,d[d.length-1]?=some b:=⟨_,Aef U⟩;have g:=(H.rv 2 (i _)).at (CP s).1
   refine Z1 4 [] [((d.length-1:Nat):Int)] Z U (Ad Z (Aj Z (z:=2) (j:=(d.length-1)) (r:=(d.length-1)*2) J Z Z U U g U) (Ad Z (Bi Z (k:=0) (r:=(d.length-1)*2) J Z g Z) (Ad Z (Ax Z Z J (AB g)) (Z0 5 [0] Z (Af Z (λh5=>?_) (λh5=>?_))))))
   ·have p:Ie d a:=⟨b,s,by omega⟩
    refine Zc 6 Z (Zr Z ?_);exact ⟨_,.inr ⟨j,_,⟨f,e⟩,.inr (.inl ⟨⟨by omega,p⟩,Z,Z⟩)⟩,(H.pick 3 [0,1,2] Z).toWd⟩
   have p:¬Ie d a:=λ⟨b9,o,q⟩=>by rw[s] at o;cases o;omega
   refine Z2 10 [0,0,0] H Z (Ad Z (Aj Z (z:=4) (j:=j) (r:=j*4) J Z Z Z U c U) (Ad Z (Bi Z (k:=1) (r:=j*4+1) J Z c Z) (AC Z Z (CW 1 H Z Z Z Z (vs:=[I a]) Z (Ab Z Aw) J U (by simp only[Aej,AeE];omega) (out:=Bq (W.set j ⟨xi,a,xq,.slice m d.length l,d⟩)) (If (x2:=⟨xi,a,xq,.slice m d.length l,d⟩) f 1 O (by simp[Wv.cells]))) ?_)));rintro w H;refine Zc 8 Z (Zr Z ?_);exact ⟨_,.inr ⟨j,_,⟨f,e⟩,.inr (.inr ⟨⟨by omega,p⟩,Z,Z⟩)⟩,Sep.toWd (W:=W.set j ⟨xi,a,xq,.slice m d.length l,d⟩) (by rw[AeX];exact H.pick 3 [0,1,2] Z)⟩
  have p:¬Ie d a:=λ⟨b,s,_⟩=>by have:=(Aee.1 s).1;omega
  refine Z2 23 [0,0,0] H Z (Ad Z (Aj Z (z:=4) (j:=j) (r:=j*4) J Z Z Z U c U) (Ad Z (Bi Z (k:=1) (r:=j*4+1) J Z c Z) (AC Z Z (CW 1 H Z Z Z Z (vs:=[I a]) Z (Ab Z Aw) J U (by simp only[Aej,AeE];omega) (out:=Bq (W.set j ⟨xi,a,xq,.slice m d.length l,d⟩)) (If (x2:=⟨xi,a,xq,.slice m d.length l,d⟩) f 1 O (by simp[Wv.cells]))) ?_)));rintro w H;refine Zc 8 Z (Zr Z ?_);exact ⟨_,.inr ⟨j,_,⟨f,e⟩,.inr (.inr ⟨⟨by omega,p⟩,Z,Z⟩)⟩,Sep.toWd (W:=W.set j ⟨xi,a,xq,.slice m d.length l,d⟩) (by rw[AeX];exact H.pick 3 [0,1,2] Z)⟩
 have H:=H'.l2;refine Z0 17 [3] Z (Zr Z ?_);exact ⟨_,.inl ⟨a0,Z,Z⟩,H.pick 2 [0,1] Z⟩
theorem AcC{C:World->Prop}{o:Oper}{ds:List Deferred}{y:Operand}{yt:TypeId}{l m:List UInt8}(e:o.op=.binOp .add T x y yt)(c:ev L x=some (Cl l))(f:ev L y=some (Cl m))(g:l.length+m.length<=9223372036854775807):Av P C n ds L o (Cl (l++m)):=λa b w _=>by
 simp only[execOp,e,b.ev c,b.ev f,Cl];have d:∀w:World,(Op.stringOp .add ⟨l.toArray⟩ ⟨m.toArray⟩).run P w=.ok (.string ⟨(l++m).toArray⟩) w:=λw=>by
  rw[run_string_add_sum w _ _ (by simp[ByteArray.size];omega),ByteArray.mk_append_mk]
 simp[go_sem,d]
theorem WN(at_:Int)(k:Nat)(V:List Bk):(Db at_ k V).length<=V.length:=by
 induction k with
 | zero=>exact Ael _
 | succ k ih=>exact Agu (JJ _ _) ih
theorem Ui{V:List Bk}(at_:Int)(k:Nat)(h:∀j,(B9 j V).length=64):(rdB V at_ k).length=64*k:=by
 induction k with
 | zero=>rfl
 | succ k ih=>simp only[rdB,Aeh,ih,h];omega
set_option maxHeartbeats 6000000 in
theorem WO (id at_ d:Int) (a3:W.length<=64) (A:Ai) (a4:∀x∈W,InB A x.u x.V) (s:∀x∈W,x.V.length<=1048576) (j:Nat) (x:Wv) (m:W[j]?=some x) (e:x.id=id) (hu:∀(k:Nat) (y:Wv),W[k]?=some y->y.id=x.id->k=j) (b6:0<=at_/\at_<=1073741824) (hd:0<=d/\d<=64):Ak 140 [Y n,I id,I at_,I d] [wdA n t W,A] (λv G=>∃(k:Nat) (u2:Value) (A2:Ai),((k:Int)=d/\Ink A A2/\InB A2 u2 (Db at_ k x.V))/\v=.tuple #[]/\G=[wdA n t (W.set j ⟨x.id,x.sz,x.q,u2,Db at_ k x.V⟩),A2]):=by
 intro z R w H;refine Ae func140 Z ntmps140 Z (Zc 4 Z (Au Z (call141 _) (Id id a3) H ?_));rintro _ w _ (⟨j9,x9,⟨a7,l⟩,rfl,rfl⟩|⟨a0,rfl,rfl⟩) c
 ·have H:=c.l2;obtain rfl:j=j9:=(hu j9 x9 a7 (l.trans e.symm)).symm;refine Zc 4 Z ?_;obtain ⟨uw,H⟩:=H.wd;have a2:=H.sy 1 (·.slc)
  obtain ⟨p,o,rfl⟩:=a2;obtain ⟨xi,xs,xq,xu,a⟩:=x;have b0:InB A xu a:=a4 _ (Aeg m);have b1:a.length<=1048576:=s _ (Aeg m);have a8:=(Aee.1 m).1;have a9:W.set j ⟨xi,xs,xq,xu,Db at_ 0 a⟩=W:=by obtain ⟨hl,e9⟩:=Aee.1 m;show W.set j ⟨xi,xs,xq,xu,a⟩=W;rw[<-e9];exact Af8 hl
  refine Zc 5 Z ?_;refine AF (σ:=Nat×Value×Ai) (λ⟨k,u2,AA⟩=>[(9,I (k:Int)),(0,Y n),(2,I at_),(3,I d),(8,I (j:Int))])
    (λ⟨k,u2,AA⟩ w=>Sep z (blk n [.slice p W.length o,I t] 57::grow 62 4 (.slice p W.length o) W.length (Bq (W.set j ⟨xi,xs,xq,u2,Db at_ k a⟩))::AA::R) w/\((k:Int)<=d/\Ink A AA/\InB AA u2 (Db at_ k a))) (λ⟨k,u2,AA⟩=>d.toNat-k) ⟨0,xu,A⟩
    fr_z ⟨(by rw[a9];exact H),⟨by show ((0:Nat):Int)<=d;omega,Ink.refl A,b0⟩⟩ ?_
  clear H;rintro ⟨k,u2,AA⟩ w ⟨c,hI⟩;dsimp only at hI c ⊢;have H:=c.l3;obtain ⟨b2,hK,g⟩:=hI;refine Z0 6 [0] Z (An 15 Z (λh1=>?_) (λh1=>?_))
  ·refine Z0 6 [0] Z (Af Z (λh2=>?_) (λh2=>?_))
   ·refine Zc 4 Z ?_;have i:(W.set j ⟨xi,xs,xq,u2,Db at_ k a⟩)[j]?=some ⟨xi,xs,xq,u2,Db at_ k a⟩:=Afy a8
    have b:=(H.rv 1 (·.rd)).at (BL i 0 _ Z);have b5:=WN at_ k a;refine Bf (Sep z (blk n [.slice p W.length o,I t] 57::grow 62 4 (.slice p W.length o) W.length (Bq (W.set j ⟨xi,xs,xq,u2,Db at_ k a⟩))::R)) 18 Z J (A4 H λw c=>?_);have H:=c.l3;refine Bo [0,1,2,3,4,5,6,7,8,9] [0,0,0,0] J (λ_ m=>(AN (m.blk 0 Z) AH)) (by exact H.pick 3 [0,1] Z) Z J Z Z (By 10 J Z Z J J J Z Z Z (Aj Z (z:=4) (j:=j) (r:=j*4) J Z Z Z U b U) (H.pick 3 [0,1] Z) (By 11 J Z Z J J J Z Z Z (Bt Z Z (vs:=[I xi,I xs,I xq,u2]) J O (λ_ a5=>(λk' u hk=>(a5.rv 1 (·.rd)).at (BL i k' u hk)))) (H.pick 3 [0,1] Z) (Bo [12,13] [] J (λ_ _=>AH) (by exact H.pick 3 [0,1] Z) Z J Z Z (By 14 J Z Z J J J Z Z Z (C4 Z Z Z (r:=at_+(k:Int)) U U) (H.pick 3 [0,1] Z) (Ay [15] J O (Al (Br Z Z Z Z Z Z (λw=>call184 _ w) (QS (at_+(k:Int)) AA g U) H.f2 Z ?_)))))));rintro _ w _ ⟨f,rfl,rfl⟩ H;have a1:=H.sy 0 (·.rd.slc);refine Ar (λ_=>(H.pick 4 [2,3] Z)) (By 16 J Z Z J J J Z Z Z (Aj Z (z:=4) (j:=j) (r:=j*4) J Z Z Z U b U) (H.pick 4 [2,3] Z) (Ay [17] J O (Al (Bl Z Z Z (CW 3 H Z Z Z Z (vs:=[I xi,I xs,I xq,f]) Z (Ab Z (Ab Z (Ab Z (Ab a1.one Aw)))) J U (by simp only[Aej,AeE];omega) (out:=Bq ((W.set j ⟨xi,xs,xq,u2,Db at_ k a⟩).set j ⟨xi,xs,xq,f,Db at_ (k+1) a⟩)) (If (x2:=⟨xi,xs,xq,f,Db at_ (k+1) a⟩) i 0 O (by simp[Wv.cells]))) ?_))));rintro w H;refine Ar (λh=>absurd Z h) (AV J (gn (Zc 2 Z ?_)));rw[AgX] at H;have c:=(H.pick 4 [0,1,2,3] Z).made 2 (A:=both (grow 146 2 f ((Db at_ (k+1) a).length) (B0 (Db at_ (k+1) a))) AA) (λh q=>q);clear H;have H:Sep z (both (grow 146 2 f ((Db at_ (k+1) a).length) (B0 (Db at_ (k+1) a))) AA::blk n [.slice p W.length o,I t] 57::grow 62 4 (.slice p W.length o) W.length (Bq (W.set j ⟨xi,xs,xq,f,Db at_ (k+1) a⟩))::R) w:=c;clear c;refine Z1 5 [] [(k:Int)+1] Z U ?_;replace H:=H.f2.f2;refine gf ?_;intro _ hF;refine ⟨⟨k+1,f,both (grow 146 2 f ((Db at_ (k+1) a).length) (B0 (Db at_ (k+1) a))) AA⟩,hF.cz,⟨H,?_⟩,?_⟩
    ·exact ⟨by show ((k+1:Nat):Int)<=d;omega,hK.trans (Ink.both _ AA),InB.grow⟩
    (dsimp only;omega)
   refine Zc 2 Z (gx (Zc 1 Z (Zf Z ?_)));have a6:(k:Int)=d:=by omega
   exact ⟨_,⟨k,u2,AA,⟨a6,hK,g⟩,Z,Z⟩,Sep.toWd (W:=(W.set j ⟨xi,xs,xq,u2,Db at_ k a⟩)) (by rw[AeX];exact H.pick 3 [0,1,2] Z)⟩
  (exfalso;omega)
 exact absurd e (a0 _ (Aeg m))
set_option maxHeartbeats 6000000 in
theorem Aaq (id at_ a:Int) (a3:W.length<=64) (A:Ai) (a4:∀x∈W,InB A x.u x.V) (o:∀x∈W,x.V.length<=1048576) (p:∀x∈W,1<=x.sz/\x.sz<=1048576) (g:∀x∈W,∀j,(B9 j x.V).length=64) (e: -9223372036854775808<=at_/\at_<=9223372036854775807) (a7: -9223372036854775808<=a/\a<=9223372036854775807):Ak 78 [Y n,I id,I at_,I a] [wdA n t W,A] (λv G=>((∀x∈W,x.id≠id)/\v=.tuple #[Cl [],I 31]/\G=[wdA n t W,A])\/(∃(j:Nat) (x:Wv),(W[j]?=some x/\x.id=id)/\((Bp x.sz true at_ a≠0/\v=.tuple #[Cl [],I (Bp x.sz true at_ a)]/\G=[wdA n t W,A])\/(Bp x.sz true at_ a=0/\v=.tuple #[Cl (rdB x.V at_ a.toNat),I 0]/\G=[wdA n t W,A])))):=by
 intro z R w H;refine Ae func78 Z ntmps78 Z (Zc 12 Z (Au Z (call137 _) (Mq a3 p e a7) H ?_));rintro _ w _ (⟨a0,rfl,rfl⟩|⟨j,x,⟨b,c⟩,rfl,rfl⟩) y
 ·have H:=y.l2;refine Z0 23 [3] Z (Zr Z ?_);exact ⟨_,.inl ⟨a0,Z,Z⟩,H.pick 2 [0,1] Z⟩
 have H:=y.l2;refine Z0 14 [0] Z (Af Z (λh1=>?_) (λh1=>?_))
 ·refine Zc 8 Z (Zr Z ?_);exact ⟨_,.inr ⟨j,x,⟨b,c⟩,.inl ⟨by assumption,Z,Z⟩⟩,H.pick 2 [0,1] Z⟩
 refine Zc 9 Z ?_;have hE:Bp x.sz true at_ a=0:=Afg λq=>by contradiction
 refine AD 10 (v:=I (j:Int)) Z (congrArg I (if_pos hE)) ?_;have a5:=F0 hE;have b1:=p x (Aeg b);obtain ⟨uw,H⟩:=H.wd;have a2:=H.sy 1 (·.slc);obtain ⟨aw,cw,rfl⟩:=a2;obtain ⟨xi,xs,xq,xu,h⟩:=x;have s:InB A xu h:=a4 _ (Aeg b);have d:=(H.rv 1 (·.rd)).at (BL b 0 _ Z);have b3:=(Aee.1 b).1;have i:=g _ (Aeg b);refine Zc 5 Z ?_;refine AF (σ:=Nat) (λk=>[(13,I (k:Int)),(12,Cl (rdB h at_ k)),(0,Y n),(2,I at_),(3,I a),(8,Cl []),(9,I 0),(10,I (j:Int))])
   (λk w=>Sep z (blk n [.slice aw W.length cw,I t] 57::grow 62 4 (.slice aw W.length cw) W.length (Bq W)::A::R) w/\((k:Int)<=a)) (λk=>a.toNat-k) 0
   (λ_ f=>(f.co Z (by go_num) f.cz)) ⟨H,U⟩ ?_
 clear H;rintro k w ⟨y,hI⟩;have H:=y.l3;have b4:=hI;clear hI;refine Z0 8 [0] Z (Af Z (λh2=>?_) (λh2=>?_))
 ·refine Zc 4 Z ?_;have a8:=Ui at_ k i
  have a1:=i (at_+(k:Int));refine Z2 7 [0,0,0] H Z (Ad Z (Aj Z (z:=4) (j:=j) (r:=j*4) J Z Z Z U d U) (Ad Z (Bt Z Z (vs:=[I xi,I xs,I xq,xu]) J O (AB (λk u hk=>(H.rv 1 (·.rd)).at (BL b k u hk)))) (Z1 3 [] [at_+(k:Int)] Z U (z_E_ Z (call87 _) (TY s) H.f2 ?_))));intro w H;refine Ad Z (AcC (l:=rdB h at_ k) (m:=B9 (at_+(k:Int)) h) Z Z Z (by dsimp only at a1 a8;omega)) (Z1 9 [] [(k:Int)+1] Z U ?_);replace H:=H.f2.f2;refine gf ?_;intro _ f;refine ⟨(k+1),(f.co Z (by go_num) f.cz),⟨H,?_⟩,?_⟩
  ·show ((k+1:Nat):Int)<=a;omega
  omega
 refine Zc 2 Z (gx (Zc 10 Z (Zr Z ?_)));obtain rfl:k=a.toNat:=by omega
 exact ⟨_,.inr ⟨j,_,⟨b,c⟩,.inr ⟨hE,Z,Z⟩⟩,(H.pick 3 [0,1,2] Z).toWd⟩
theorem WP:Ak 23 [] [] (λv G=>∃b:Nat,v=Y b/\G=[wdA b 1 []]):=by
 intro z R w H;refine Ae func23 Z ntmps23 Z (Za 8 [] H Z ?_);intro a w H;refine Zc 4 Z (Zr Z ?_);have c:=H.nilg 62 4;exact ⟨_,⟨a,Z,Z⟩,Sep.toWd (W:=[]) (c.pick 2 [1,0] Z)⟩
theorem WQ(g a:Value)(c:∀h,A h->rdH 6 g 8 (AY (List.replicate 8 v0)) h):Ak 115 [.agg #[I 1,g,a]] [A,B4 a ([])] (λv G=>v=.bool true/\G=[A,B4 a []]):=by
 intro z R w H;obtain ⟨f,l,rfl⟩:=H.sy 0 (λq=>(c _ q).slc);refine Ae func115 Z ntmps115 Z (Za 2 [] H Z ?_);intro n w H;refine Z2 18 [1,0,0] H Z ?_;refine AF (σ:=Nat) (λi=>[(10,I (i:Int)),(1,Y n),(8,.slice f 8 l),(9,I 8)])
   (λi w=>Sep z (blk n [I 1,.slice f 8 l,a] 41::A::B4 a ([])::R) w/\(i<=8)) (λi=>8-i) 0
   fr_z ⟨H,AeR _⟩ ?_
 clear H;rintro i w ⟨y,o⟩;have H:=y.l3;have hi:=o;clear o;refine Z0 6 [0] Z (Af Z (λs=>?_) (λs=>?_))
 ·refine Zc 5 Z ?_;have p:(List.replicate 8 v0)[i]?=some v0:=by rw[List.getElem?_replicate,if_pos U]
  have b:=(H.rv 1 (c _)).at (AI p 0 _ Z);refine Zc 1 Z (Ad Z (Aj Z (z:=6) (j:=i) (r:=i*6) J Z Z Z U b U) (Ad Z (Bt Z Z (vs:=v0.cells) J (by simp[Vl.cells]) (AB (λk u x=>(H.rv 1 (c _)).at (AI p k u x)))) (Za 0 [] H Z ?_)));intro b2 w H;refine Z4 7 [0,0,6] H Z ?_;intro w H;refine Ad Z (Be Z Z (out:=[I 0,I 0,I 0,I 0,I 0,I 0]) J) (Ad Z (Ua (cs:=[(0:Int),0,0,0,0,0]) (es:=[(0:Int),0,0,0,0,0]) (m:=6) Z J Z Z J J Z Z) (Zc 2 Z (Af Z (λe=>?_) (λe=>?_))))
  ·refine Z1 8 [] [(i:Int)+1] Z U ?_;replace H:=H.d;refine gf ?_;intro _ hF;refine ⟨(i+1),hF.cz,⟨H,?_⟩,?_⟩
   ·omega
   omega
  exact absurd Z e
 refine Zc 2 Z (gx (Zc 8 Z (Zr Z ?_)));exact ⟨_,⟨Z,Z⟩,H.pick 3 [1,2] Z⟩
set_option maxHeartbeats 2000000 in
theorem Aar (n:Nat) {G:StG} (mb:Nat) (hF:Fine D G mb) (y:((0:Nat):Int)<G.x.pages) (d:G.M 0=⟨1,Dr 1 [] (List.replicate 8 v0)⟩):Ak 56 [Y m] [plB m i j g n b,stoA i r D G none] (λv X=>∃t:Nat,v=.tuple #[Y t,I 0]/\X=[voA t m 1 [] (List.replicate 8 v0),plB m i j g n b,stoA i r D G none]):=by
 intro z R w H;replace H:=H.l2;refine Ae func56 Z ntmps56 Z (Z2 23 [0,0,0,0] H Z (Au Z (call68 _) (Li i r D G none 0 y hF.clean.f1 ⟨1,Dr 1 [] (List.replicate 8 v0)⟩ d.symm) H.f1 ?_));rintro _ w _ (⟨o,rfl,rfl⟩|⟨u,rv,rfl,rfl⟩) f
 ·exact absurd (congrArg Pg.kind o) (by show (1:Int)≠0;decide)
 have H:=f.l3;obtain ⟨k,c,rest,rfl,c1,c2,c3,H⟩:=H.ungrow 0 Z U;replace H:=H.l3;refine Za 3 [] H Z ?_;intro b1 w H;refine Z4 18 [0,4,1,0,0] H Z ?_;intro w H;refine Au Z (call114 _) (T6 k 0 c (Dr 1 [] (List.replicate 8 v0)) (blk k ((Dr 1 [] (List.replicate 8 v0)).map u8++rest) 5) (λh q=>q.rd U U (by rw[Aeh,Aei,Ks O O];omega) (by rw[Aey,AeS,AeI (by rw[Aei,Ks O O])])) 1 [] (List.replicate 8 v0) O O U O (λe he=>by rw[(Af5.1 he).2];exact v0_fit) Z) H.f1 ?_;rintro _ w _ ⟨a,cs,p,rfl,rfl⟩ H;replace H:=H.l6;have f:=H.mono 1 (B:=B4 cs []) Z (λh q=>⟨q,λ_=>p Z⟩);clear H;have H:Sep z (grow 59 6 a 8 (AY (List.replicate 8 v0))::B4 cs ([])::blk k ((Dr 1 [] (List.replicate 8 v0)).map u8++rest) 5::blk b1 [I 1,.slice (some ⟨k,0,none⟩) 240 c] 109::stoA i r D G none::plB m i j g n b::R) w:=f;clear f;have l:=H.sy 0 (·.slc);have s:=H.sy 1 (·.1.slc);refine Za 3 [] H Z ?_;intro b2 w H;refine AC Z Z (Am 0 H Z Z Z Z (vs:=[I 1,a,cs]) Z (Ab Z (Ab l.one (Ab s.one Aw))) J O (out:=[I 1,a,cs]) Z) ?_;rintro w H;replace H:=H.l7;refine Z2 15 [0,4,0,4,0,3] H Z (z_E_ Z (call115 _) (WQ a cs (λh q=>q.rd)) H.f2.f2 ?_);intro w H;refine Z2 11 [2,3] H Z (Ad Z (Be Z Z (out:=[Y m,I 1,a,cs]) J) (Za 0 [] H Z ?_));intro b3 w H;refine Zc 5 Z (Zr Z ?_);exact ⟨_,⟨_,Z,Z⟩,(H.pick 8 [0,1,2,7,6] Z).toVo (vs:=(List.replicate 8 v0))⟩
section
variable{Tb:Ai}
theorem JN(N:Nat)(e: -9223372036854775808<=t/\t<=9223372036854775807)(hN:0<N/\N<=1099511627776):Ak 5 [I t,I (N:Int)] [] (λv G=>v=I (pkI t N:Int)/\G=[]):=by
 intro z R w H;refine Ae func5 Z ntmps5 Z (Z0 12 [0] Z (Af Z (λd=>?_) (λd=>?_)))
 ·refine Z1 3 [] [t+1] Z U (Ad Z (PN Z Z (r:= -(t+1)) U U) (Zc 7 Z (Ad Z (Ra Z Z Z U) ?_)))
  have a:=AhH (N:Int) (show 0<= -(t+1) by omega);refine Zc 4 Z (Zr Z ?_);have c:(-(t+1)).tmod (N:Int)=(pkI t N:Int):=by unfold pkI;rw[if_pos U];omega
  exact ⟨_,⟨congrArg I c,Z⟩,H⟩
 refine Zc 6 Z (Ad Z (Ra Z Z Z U) ?_);have a:=AhH (N:Int) (show 0<=t by omega);refine Zc 4 Z (Zr Z ?_);have c:t.tmod (N:Int)=(pkI t N:Int):=by unfold pkI;rw[if_neg U];omega
 exact ⟨_,⟨congrArg I c,Z⟩,H⟩
set_option maxHeartbeats 2000000 in
theorem Aas (n:Nat) (y:16<=n/\n<=1024) (Tb:Ai) (hT:Ht Tb) {a:StG} (bs:List UInt8) (q:bs.length=256) (l:bs=AL (Cf 1 [] (List.replicate 8 v0) (List.replicate 8 v0).length)) (hO:OInv D a.x a.B (λb=>b=a.rs)) (u:Clean D) (s:a.x.gen<=((5:Nat):Int)/\a.x.epoch<=((5:Nat):Int)) (d:a.x.pages=n) (hM:a.M=Ek (λ_=>noPg) (some (gF n (bs.take 240) (manyN n),1+manyN n))):Ak 22 [Y i] [diskA i D,Tb] (λv G=>∃j pp:Nat,v=Y j/\G=[voA j pp 1 [] (List.replicate 8 v0),trA Tb pp 6 n (FF n) none]):=by
 intro z R w H;refine Ae func22 Z ntmps22 Z (Zc 8 Z (Au Z (call45 _) (TF hO u s U) H ?_));rintro _ w _ ⟨ps,D3,b,g,c,a0,rfl,rfl⟩ H;have r:pgMap (ov b) a.B=a.M:=by rw[g];rfl
 obtain ⟨h,f⟩:=TU (n:=n) q (r.trans hM);refine Z0 24 [4] Z (Au Z (call55 _) (Zo 6 n (C1 (manyN n+1)) c y d (bs.take 240) h f (λk=>RR k) (λp hp=>by unfold C1;rw[if_pos U])) H ?_);rintro _ w _ ⟨pp,pc,bn,m,pa,rfl,rfl⟩ H;refine Z0 24 [4] Z (Au Z (call56 _) (Aar n 6 c (by show (0:Int)<a.x.pages;omega) (h.trans (by rw[l];rfl))) H.f1 ?_);rintro _ w _ ⟨j,rfl,rfl⟩ H;refine Z0 24 [4] Z (Zr Z ?_);have H8:=(H.pick 8 [1,2,3,4,5,6,7,0] Z).toPo (X:=⟨ps,i,pc,bn,m,pa,D3,(Qx a.x (pgMap (ov b) a.B)),Dq,[],0,BZ,Tb⟩) (mb:=6) (n:=n) (M0:=pgMap (ov b) a.B) (C0:=C1 (manyN n+1)) (t:=none) ⟨y,c,d,⟨hT,Z⟩,λp _=>rfl,f,λk=>RR k,λp hp=>(by unfold C1;rw[if_pos U]),λ_=>⟨Z,Z⟩,λ_ e=>(by cases e)⟩ Z;have H9:=Sep.toTr0 (o:=FF n) H8 (ZR n);exact ⟨_,⟨_,_,Z,Z⟩,H9.pick 2 [1,0] Z⟩
set_option maxHeartbeats 2000000 in
theorem Pi (n:Nat) (i:16<=n/\n<=1024) (Tb:Ai) (m:Ht Tb):Ak 4 [I (n:Int)] [Tb] (λv G=>∃j pd d pp e:Nat,v=.tuple #[Y j,.bool true]/\G=[blk j [Y pd,Y d,Y e] 35,voA d pp 1 [] (List.replicate 8 v0),trA Tb pp 6 n (FF n) none,wdA e 1 []]):=by
 intro z R w H;refine Ae func4 Z ntmps4 Z (Zc 8 Z (Au Z (call20 _) (Abs 1200) H ?_));rintro _ w _ (⟨h,rfl,rfl⟩|⟨_,pd,rfl,rfl⟩) o
 ·exact absurd U h
 have H:=o.l2;refine Z0 19 [4] Z (Au Z (call21 _) (RY 1200 n i (Acd U)) H ?_);rintro _ w _ ⟨D2,G2,bs,g,f,k,c,a,l,b,p,rfl,rfl⟩ H;refine Z0 10 [4] Z (Au Z (call22 _) (Aas n i Tb m bs g f k c a b p) H ?_);rintro _ w _ ⟨d,pp,rfl,rfl⟩ H;refine Zc 7 Z (Au Z (call23 _) (WP) H ?_);rintro _ w _ ⟨e,rfl,rfl⟩ H;refine Za 1 [] H Z ?_;intro q w H;refine Zc 7 Z (Zr Z ?_);exact ⟨_,⟨_,_,_,_,_,Z,Z⟩,H.pick 4 [0,2,3,1] Z⟩
end
def mV(cc:Int)(od:Bool):Nat:=if od=true then pkI cc 11*64+7 else pkI cc 11*64
theorem Sa(cc:Int)(od:Bool):mV cc od<711:=by
 have:=OY cc (show 0<11 by omega);unfold mV;split<;>omega
def Q5(W:List Wv)(ci:Int):Int:=if 0<W.length/\0<=ci/\ci<100 then ((W[(ci%(W.length:Int)).toNat]?).map Wv.id).getD ci else ci
def KpW(W W2:List Wv)(id:Int):Prop:=∀y∈W,y.id≠id->y.core∈W2.map Wv.core
def KpE(W W2:List Wv)(id kd:Int):Prop:=KpW W W2 id/\(pkI kd 10=2->W2.map Wv.core=W.map Wv.core)
theorem KpW.eq{W2:List Wv}{id:Int}(h:W2.map Wv.core=W.map Wv.core):KpW W W2 id:=λy a _=>h▸Aen.2 ⟨y,a,Z⟩
theorem KpE.eq{W W2:List Wv}{id kd:Int}(h:W2.map Wv.core=W.map Wv.core):KpE W W2 id kd:=⟨.eq h,λ_=>h⟩
theorem KpW.app{W2 X:List Wv}{id:Int}(h:W2.map Wv.core=W.map Wv.core):KpW W (W2++X) id:=λy a _=>by
 rw[AeK,h];exact Agp _ (Aen.2 ⟨y,a,Z⟩)
theorem KpW.set{W:List Wv}{id:Int}{j:Nat}{x x2:Wv}(g:W[j]?=some x)(b:x.id=id):KpW W (W.set j x2) id:=λy f c=>by
 obtain ⟨a,d⟩:=Ae1.1 f;have e:j≠a:=λq=>by subst q;rw[g] at d;cases d;exact c b
 exact Aen.2 ⟨y,Aeg (by rw[Agc e];exact d),Z⟩
theorem KpW.del{id:Int}{x:Wv}(d:W[j]?=some x)(b:x.id=id):KpW W (W.take j++W.drop (j+1)) id:=λy c a=>by
 refine Aen.2 ⟨y,?_,Z⟩;have f:=(Aee.1 d).1;have e:W=W.take j++x::W.drop (j+1):=by
  have:=AeO j W;rw[Ae2 f,show W[j]=x from (Aee.1 d).2] at this;exact this.symm
 rw[e] at c;rcases Aes.1 c with q|q
 ·exact Agp _ q
 rcases Aeq.1 q with rfl|q
 ·exact absurd b a
 exact AgF _ q
theorem KpW.tr{Wc W2:List Wv}{id:Int}(h:Wc.map Wv.core=W.map Wv.core)(k:KpW Wc W2 id):KpW W W2 id:=λy c b=>by
 have:y.core∈Wc.map Wv.core:=h▸Aen.2 ⟨y,c,Z⟩;obtain ⟨z,a,e⟩:=Aen.1 this;have:=k z a (by have:=congrArg Prod.fst e;simp only[Wv.core] at this;omega);rwa[e] at this
theorem Pj{d cs cq:Int}{od:Bool}(x: -9223372036854775808<=d/\d<=9223372036854775807)(l: -9223372036854775808<=q/\q<=9223372036854775807):Ak 12 [.agg #[I t,I s,I p,I q,I d,I cs,I cq,.bool c,.bool od]] [] (λv G=>∃(b:Nat) (bs:List UInt8),bs.length=mV q od/\v=.slice (some ⟨b,0,none⟩) bs.length bs.length/\G=[blk b (bs.map u8) 5]):=by
 intro z R w H;have y:=OY q (show 0<11 by omega);refine Ae func12 Z ntmps12 Z (Za 2 [] H Z ?_);intro g w H;refine Z2 7 [3,0,0] H Z (z_E_ Z (call5 _) (JN 11 l U) H ?_);intro w H;refine Z1 4 [] [((pkI q 11*64:Nat):Int)] Z U (Ro (λa w=>∃(m:Nat),Fr 35 [] [(3,I (m:Int)),(0,.agg #[I t,I s,I p,I q,I d,I cs,I cq,.bool c,.bool od]),(1,Y g),(2,.slice none 0 0),(6,.pointer (some ⟨g,3,none⟩)),(7,I q),(8,I (pkI q 11:Int)),(9,I ((pkI q 11*64:Nat):Int))] a/\Sep z (blk g [I t,I s,I p,I q,I d,I cs,I cq,.bool c,.bool od] 28::R) w/\(m=mV q od)) ?_ ?_)
 ·refine Z2 6 [8,0,0] H Z (Eq Z (λo=>?_) (λo=>?_))
  ·refine Z1 5 [] [((pkI q 11*64+7:Nat):Int)] Z U ?_;exact gf λ_ e=>⟨(pkI q 11*64+7),e.cz,H,(by unfold mV;first|rw[if_pos (by assumption)]|rw[if_pos (by simp_all)])⟩
  refine Zc 1 Z ?_;exact gf λ_ e=>⟨(pkI q 11*64),e.cz,H,(by unfold mV;first|rw[if_neg (by assumption)]|rw[if_neg (by simp_all)])⟩
 rintro a w ⟨m,e,H,h⟩;revert a;have hm:=h;clear h;have r:=Sa q od;refine Zc 3 Z (AU Z (En (k:=m) H Z J CM Z Z Z U) ?_);rintro _ w ⟨j,rfl,H⟩;refine Zc 10 Z ?_;refine AF (σ:=Nat×List UInt8) (λ⟨i,bs⟩=>[(5,I (i:Int)),(1,Y g),(2,.slice none 0 0),(3,I (m:Int)),(4,.slice (some ⟨j,0,none⟩) m m)])
   (λ⟨i,bs⟩ w=>Sep z (blk j (bs.map u8) 5::blk g [I t,I s,I p,I q,I d,I cs,I cq,.bool c,.bool od] 28::R) w/\(i<=m/\bs.length=m)) (λ⟨i,bs⟩=>m-i) ⟨0,List.replicate m 0⟩
   fr_z ⟨(by simpa [u8] using H),⟨AeR _,by simp⟩⟩ ?_
 clear H;rintro ⟨i,bs⟩ w ⟨n,h⟩;dsimp only at h n ⊢;have H:=n.l2;obtain ⟨hi,f⟩:=h;refine Z0 8 [0] Z (Af Z (λu=>?_) (λu=>?_))
 ·refine Z3 12 [4,1,0] [(i:Int)/64,(i:Int)/64*3] H Z U (Ad Z (SB Z Z Z) (Z1 2 [] [(i:Int)%2] Z U (Ad Z (SB Z Z Z) (Ad Z (Rh Z J Z) (Z1 1 [1,i,i] [] Z U (AC Z Z (Am 0 H Z Z Z Z (vs:=[u8 (GI (IntKind.i64.wrap (IntKind.i64.wrap (d+(i:Int)/64*3)+(i:Int)%2)))]) Z (Ab Z Aw) J (by simp only[Aei,Aej,AeE];omega) (out:=(bs.set i (GI (IntKind.i64.wrap (IntKind.i64.wrap (d+(i:Int)/64*3)+(i:Int)%2)))).map u8) (Acf U)) ?_))))));rintro w H;refine Z1 8 [] [(i:Int)+1] Z U (gf ?_);intro _ e;refine ⟨⟨i+1,bs.set i (GI (IntKind.i64.wrap (IntKind.i64.wrap (d+(i:Int)/64*3)+(i:Int)%2)))⟩,e.cz,⟨H,?_⟩,?_⟩
  ·exact ⟨by show i+1<=m;omega,by show (bs.set i _).length=m;rw[AeX];exact f⟩
  (dsimp only;omega)
 refine Zc 2 Z (gx (Zc 9 Z (Zr Z ?_)));exact ⟨_,⟨j,bs,by omega,by rw[f],Z⟩,H.pick 2 [0] Z⟩
theorem Pk(vs:List Vl)(b:∀h,A h->rdH 6 u vs.length (AY vs) h)(hv:vs.length=8):Ak 183 [.agg #[I t,u,y]] [A,B4 y ([])] (λv G=>∃c:Bool,((∀e∈vs,e.st≠0)->c=true)/\v=.bool c/\G=[A,B4 y []]):=by
 intro z R w H;obtain ⟨o,p,rfl⟩:=H.sy 0 (λq=>(b _ q).slc);refine Ae func183 Z ntmps183 Z (Za 2 [] H Z ?_);intro d w H;refine Zc 10 Z ?_;refine AF (σ:=Nat) (λi=>[(3,I (i:Int)),(1,Y d)])
   (λi w=>Sep z (blk d [I t,.slice o vs.length p,y] 41::A::B4 y ([])::R) w/\(i<=vs.length)) (λi=>vs.length-i) 0
   fr_z ⟨H,AeR _⟩ ?_
 clear H;rintro i w ⟨s,f⟩;have H:=s.l3;have hi:=f;clear f;refine Z2 10 [1,0,0,0] H Z (Af Z (λl=>?_) (λl=>?_))
 ·refine Zc 5 Z ?_;obtain ⟨e,g⟩:∃e,vs[i]?=some e:=⟨_,Aef U⟩;have a:=(H.rv 1 (b _)).at (AI g 1 _ Z)
  refine Z2 4 [1,0,0] H Z (Ad Z (Aj Z (z:=6) (j:=i) (r:=i*6) J Z Z Z U a U) (Ad Z (Bi Z (k:=1) (r:=i*6+1) J Z a Z) (Ad Z (Ax Z Z J (AB a)) (Z0 3 [0] Z (Af Z (λn=>?_) (λn=>?_))))))
  ·refine Zc 6 Z (Zr Z ?_);exact ⟨_,⟨false,λq=>absurd (by assumption) (q e (Aeg g)),Z,Z⟩,H.pick 3 [1,2] Z⟩
  refine Z1 8 [] [(i:Int)+1] Z U (gf ?_);intro _ x;refine ⟨(i+1),x.cz,⟨H,?_⟩,?_⟩
  ·omega
  omega
 refine Zc 2 Z (gx (Zc 8 Z (Zr Z ?_)));exact ⟨_,⟨true,λ_=>rfl,Z,Z⟩,H.pick 3 [1,2] Z⟩
theorem Aat{vs:List Vl}(d:vs.length=8):Ak 136 [Y n,I s,I p] [blk n [Y m,Y i,Y j] 35,voA i g t ([]) vs] (λv G=>∃k:Bool,((s=20/\p<25)\/(s=32/\∀x∈vs,x.st≠0)->k=true)/\v=.bool k/\G=[blk n [Y m,Y i,Y j] 35,voA i g t [] vs]):=by
 intro z R w H;refine Ae func136 Z ntmps136 Z (Z0 10 [0] Z (An 9 Z (λl=>?_) (λl=>?_)))
 ·refine Z0 4 [0] Z (An 13 Z (λo=>?_) (λo=>?_))
  ·refine Zc 15 Z (Zr Z ?_);exact ⟨_,⟨_,(by rintro (⟨c,a⟩|⟨c,a⟩)<;>first|rfl|(exfalso;omega)|exact b a|simp_all),Z,Z⟩,H.pick 2 [0,1] Z⟩
  refine Z0 3 [0] Z (An 16 Z (λy=>?_) (λy=>?_))
  ·refine Z2 4 [1,0,0] H Z (Au Z (call9 _) (Ic d O) H.f1 ?_);rintro _ w _ ⟨cv,cs,rfl,rfl⟩ H
   refine Au Z (call183 _) (Pk vs (λh q=>q.rd) d) H ?_;rintro _ w _ ⟨u,b,rfl,rfl⟩ H;refine Zc 6 Z (Zr Z ?_);exact ⟨_,⟨_,(by rintro (⟨c,a⟩|⟨c,a⟩)<;>first|rfl|(exfalso;omega)|exact b a|simp_all),Z,Z⟩,H.pick 4 [3,2] Z⟩
  refine Zc 12 Z (Zr Z ?_);exact ⟨_,⟨_,(by rintro (⟨c,a⟩|⟨c,a⟩)<;>first|rfl|(exfalso;omega)|exact b a|simp_all),Z,Z⟩,H.pick 2 [0,1] Z⟩
 refine Z0 7 [0] Z (An 16 Z (λr=>?_) (λr=>?_))
 ·refine Z2 4 [1,0,0] H Z (Au Z (call9 _) (Ic d O) H.f1 ?_);rintro _ w _ ⟨cv,cs,rfl,rfl⟩ H
  refine Au Z (call183 _) (Pk vs (λh q=>q.rd) d) H ?_;rintro _ w _ ⟨u,b,rfl,rfl⟩ H;refine Zc 6 Z (Zr Z ?_);exact ⟨_,⟨_,(by rintro (⟨c,a⟩|⟨c,a⟩)<;>first|rfl|(exfalso;omega)|exact b a|simp_all),Z,Z⟩,H.pick 4 [3,2] Z⟩
 refine Zc 12 Z (Zr Z ?_);exact ⟨_,⟨_,(by rintro (⟨c,a⟩|⟨c,a⟩)<;>first|rfl|(exfalso;omega)|exact b a|simp_all),Z,Z⟩,H.pick 2 [0,1] Z⟩
theorem XG{cc cf cs cq:Int}{o:Int}(a1:W.length<=64):Ak 6 [Y n,.agg #[I t,I s,I p,I cc,I cf,I cs,I cq,.bool b,.bool c]] [blk n [Y m,Y e,Y g] 35,wdA g o W] (λv G=>∃i:Int,((0<W.length/\0<=s/\s<100->∃x∈W,x.id=i)/\i=Q5 W s)/\v=I i/\G=[blk n [Y m,Y e,Y g] 35,wdA g o W]):=by
 intro z R w H;replace H:=H.l2;replace H:=H.f1;obtain ⟨uw,H⟩:=H.wd;replace H:=H.l3;have l:=H.sy 1 (·.slc);obtain ⟨aw,cw,rfl⟩:=l;refine Ae func6 Z ntmps6 Z (Za 2 [] H Z ?_);intro b1 w H;refine Z2 16 [2,3,0,0,1,0,0] H Z (An 14 Z (λu=>?_) (λu=>?_))
 ·refine Z2 5 [1,0,0,0] H Z (An 19 Z (λh2=>?_) (λh2=>?_))
  ·refine Z2 6 [1,0,0,0] H Z (Af Z (λh3=>?_) (λh3=>?_))
   ·refine Zc 1 Z ?_;have h:=Agn s (show (W.length:Int)≠0 by omega)
    have y:=Af6 s (show (0:Int)<W.length by omega);obtain ⟨j,hj⟩:∃j:Nat,(j:Int)=s%(W.length:Int):=⟨_,Int.toNat_of_nonneg h⟩;obtain ⟨x,f⟩:∃x,W[j]?=some x:=⟨_,Aef U⟩;have a:=(H.rv 2 (·.rd)).at (BL f 0 _ Z);refine Bu (Sep z _) J J H.drew (Ha 18 [2,3,0,0,1,0,1,0,0,2,3,0,0,1,0] [s%(W.length:Int)] Z J U (AM Z Z Z (Aj Z (z:=4) (j:=j) (r:=j*4) J Z Z U U a U) (AM Z Z Z (Bi Z (k:=0) (r:=j*4) J Z a Z) (AM Z Z Z (Ax Z Z J (λ_ hs=>(hs.rv 2 (·.rd)).at (BL f 0 _ Z))) (BS 1 [] Z J (BB (λw d=>?_)))))));have H:=d.l4;refine gn (Zc 2 Z (Zr Z ?_));have d:=(H.pick 4 [1,2,3] Z).toWd;exact ⟨_,⟨_,⟨(λ_=>⟨x,Aeg f,Z⟩),(by unfold Q5;rw[if_pos ⟨by omega,by omega,by omega⟩,<-hj,Ae7,f];rfl)⟩,Z,Z⟩,d.pick 2 [1,0] Z⟩
   refine Z2 10 [1,0,0] H Z (Zr Z ?_);have d:=(H.pick 4 [1,2,3] Z).toWd;exact ⟨_,⟨_,⟨(λq=>by first|(exfalso;omega)|simp_all),(by unfold Q5;rw[if_neg U])⟩,Z,Z⟩,d.pick 2 [1,0] Z⟩
  refine Z2 17 [1,0,0] H Z (Zr Z ?_);have d:=(H.pick 4 [1,2,3] Z).toWd;exact ⟨_,⟨_,⟨(λq=>by first|(exfalso;omega)|simp_all),(by unfold Q5;rw[if_neg U])⟩,Z,Z⟩,d.pick 2 [1,0] Z⟩
 refine Z2 22 [1,0,0] H Z (Zr Z ?_);have d:=(H.pick 4 [1,2,3] Z).toWd;exact ⟨_,⟨_,⟨(λq=>by first|(exfalso;omega)|simp_all),(by unfold Q5;rw[if_neg U])⟩,Z,Z⟩,d.pick 2 [1,0] Z⟩
theorem Fp{vs:List Vl}(l:vs.length=8){f h:Int}:Ak 76 [Y n,I s,I p,Y g,I q,I f,I h] [blk n [Y m,Y i,Y j] 35,voA i r t ([]) vs] (λv G=>(p=0/\v=.bool (decide (f=0/\s=q))/\G=[blk n [Y m,Y i,Y g] 35,voA i r t [] vs])\/(p≠0/\∃e:Bool,(s=0/\(p=f\/(f=0/\((p=20/\h<25)\/(p=32/\∀x∈vs,x.st≠0))))->e=true)/\v=.bool e/\G=[blk n [Y m,Y i,Y j] 35,voA i r t [] vs])):=by
 intro z R w H;refine Ae func76 Z ntmps76 Z (Z0 12 [0] Z (Af Z (λk=>?_) (λk=>?_)))
 ·refine Z4 14 [2,0,0] H Z ?_;intro w H;refine An 24 Z (λo=>?_) (λo=>?_)
  ·refine Z0 8 [0] Z (Zr Z ?_);exact ⟨_,.inl ⟨by assumption,congrArg Value.bool (by rw[Aez];simp_all),Z⟩,H.pick 2 [0,1] Z⟩
  refine Zc 8 Z (Zr Z ?_);exact ⟨_,.inl ⟨by assumption,congrArg Value.bool (by rw[Aez];simp_all),Z⟩,H.pick 2 [0,1] Z⟩
 refine Zc 7 Z (Au Z (call136 _) (Aat l) H ?_);rintro _ w _ ⟨rb,a,rfl,rfl⟩ H;refine Z0 8 [0] Z (An 35 Z (λh3=>?_) (λh3=>?_))
 ·refine Z0 4 [0] Z (An 39 Z (λu=>?_) (λu=>?_))
  ·refine Zc 11 Z (Zr Z ?_);exact ⟨_,.inr ⟨by assumption,_,(by rintro ⟨d,c|⟨c,b⟩⟩<;>first|rfl|(exfalso;omega)|exact a b|simp_all),Z,Z⟩,H.pick 2 [0,1] Z⟩
  refine Z0 3 [0] Z (An 42 Z (λy=>?_) (λy=>?_))
  ·refine Zc 8 Z (Zr Z ?_);exact ⟨_,.inr ⟨by assumption,_,(by rintro ⟨d,c|⟨c,b⟩⟩<;>first|rfl|(exfalso;omega)|exact a b|simp_all),Z,Z⟩,H.pick 2 [0,1] Z⟩
  refine Zc 8 Z (Zr Z ?_);exact ⟨_,.inr ⟨by assumption,_,(by rintro ⟨d,c|⟨c,b⟩⟩<;>first|rfl|(exfalso;omega)|exact a b|simp_all),Z,Z⟩,H.pick 2 [0,1] Z⟩
 refine Zc 15 Z (Zr Z ?_);exact ⟨_,.inr ⟨by assumption,_,(by rintro ⟨d,c|⟨c,b⟩⟩<;>first|rfl|(exfalso;omega)|exact a b|simp_all),Z,Z⟩,H.pick 2 [0,1] Z⟩
section
variable{Tb:Ai}
theorem trA.d64{mb n:Nat}{o:TB}(a:trA Tb i mb n o none h):∀p b,o.N p=some (.dt b)->b.length=240:=by
 obtain ⟨M0,c,_⟩:=a;exact λp b e=>(c.m _ _ e).2.2
def usedP(P:List Pl):Nat:=P.countP λp=>decide (p.1.st≠0)
structure LvI(n:Nat)(o:TB)(nx:Int)(P:List Pl)(W:List Wv)(A:Ai):Prop where
 inv:VInv n o nx P
 rel:VRel o.N P W
 nxe:nx=1+(usedP P:Int)
 bag:∀x∈W,InB A x.u x.V
 d:∀p b,o.N p=some (.dt b)->b.length=240
 k:TrK n o none
variable{n:Nat}{o o2:TB}{nx:Int}{P:List Pl}{W:List Wv}{A A2:Ai}
theorem LvI.hv(h:LvI n o nx P W A):(P.map Prod.fst).length=8:=by rw[Aei];exact h.inv.len
theorem LvI.nx9(h:LvI n o nx P W A):1<=nx/\nx<=9:=by
 have a:=h.nxe;have b:usedP P<=P.length:=List.countP_le_length;have:=h.inv.len;have:=h.inv.nb;omega
theorem LvI.w8(h:LvI n o nx P W A):W.length<=8:=by have:=h.rel.len;have:=h.inv.len;omega
theorem LvI.ok(h:LvI n o nx P W A){p:Pl}(hi:P[i]?=some p)(hs:p.1.st=1):PlOk o.N nx p:=by
 rcases h.inv.all p (Aeg hi) with rfl|q
 ·cases hs
 exact q
theorem LvI.pl(h:LvI n o nx P W A){p:Pl}(q:PlOk o.N nx p):p.2.length<=639:=by
 have:=JI h.k.i U (show ∀e∈p.2,∃b,Dm o none e.2=some (.dt b) from q.root.data) q.nd;have:=h.inv.n;omega
theorem LvI.w(h:LvI n o nx P W A){x:Wv}(g:x∈W):(1<=x.sz/\x.sz<=1048576)/\(0<=x.q/\x.q<=1048576)/\x.V.length<=639/\(∀j,(B9 j x.V).length=64)/\1<=x.id/\x.id<nx:=by
 obtain ⟨j,r⟩:=Ae1.1 g;obtain ⟨i,p,hi,hs,e⟩:=h.rel.back r;have q:=h.ok hi hs;have k:=h.pl q;simp only[Wv.core,CI,AfG] at e;obtain ⟨e1,e2,l,f⟩:=e;refine ⟨by rw[e2];exact q.sz,by rw[l];exact q.q,by rw[f,Kq];exact k,λj=>?_,by rw[e1];exact q.id⟩;rw[f];have a:=q.root.data;generalize p.2=L at a;unfold A7
 induction L with
 | nil=>rfl
 | cons e t ih=>
  rw[AeM,B9];split
  ·obtain ⟨b,c⟩:=a e O
   have:=h.d _ _ c;rw[c];show (List.take 64 b).length=64;rw[AeA];omega
  exact ih λe m=>a e (by simp[m])
theorem LvI.both(h:LvI n o nx P W A){e:Vl}{L:List E}{x:Wv}(hi:P[i]?=some (e,L))(hs:e.st=1)(b:W[j]?=some x)(g:x.id=e.id):x.sz=e.sz/\x.q=e.q/\x.V=A7 o.N L:=by
 obtain ⟨k,x2,a,e2⟩:=h.rel.at hi hs;simp only[Wv.core,CI,AfG] at e2;obtain ⟨e1,c,d,f⟩:=e2;have:=h.rel.uniq b a U;subst this;rw[b] at a;cases a;exact ⟨c,d,f⟩
theorem LvI.at(h:LvI n o nx P W A){id:Int}{i:Nat}{e:Vl}{L:List E}(hi:P[i]?=some (e,L))(hs:e.st=1)(c:e.id=id):∃(j:Nat) (x:Wv),W[j]?=some x/\x.id=id:=by
 obtain ⟨b,x2,a,e2⟩:=h.rel.at hi hs;simp only[Wv.core,CI,AfG] at e2;exact ⟨b,x2,a,by omega⟩
theorem LvI.back(h:LvI n o nx P W A){id:Int}{j:Nat}{x:Wv}(b:W[j]?=some x)(a:x.id=id):∃e∈P.map Prod.fst,e.st=1/\e.id=id:=by
 obtain ⟨i,p,hi,hs,e⟩:=h.rel.back b;simp only[Wv.core,CI,AfG] at e;exact ⟨p.1,Aen.2 ⟨p,Aeg hi,Z⟩,hs,by omega⟩
theorem Cx(P:List Pl)(i:Nat)(e:Vl)(L:List E):(P.set i (e,L)).map Prod.fst=(P.map Prod.fst).set i e:=by rw[AhB]
theorem Pm{P:List Pl}{p p2:Pl}(hi:P[i]?=some p)(b:p2.1.st≠0):(usedP P:Int)+(if p.1.st=0 then 1 else 0)=usedP (P.set i p2):=by
 obtain ⟨a,rfl⟩:=Aee.1 hi;unfold usedP;rw[List.countP_set a];have d:decide (p2.1.st≠0)=true:=decide_eq_true b;have c:decide (P[i].1.st≠0)=true->0<P.countP λp=>decide (p.1.st≠0):=λq=>List.countP_pos_iff.2 ⟨P[i],AfR a,q⟩;simp only[d,if_true];by_cases e:P[i].1.st=0
 ·rw[if_pos e,if_neg (by simp[e])];omega
 rw[if_neg e,if_pos (by simp[e])];have:=c (by simp[e]);omega
theorem Jf{P:List Pl}{p p2:Pl}(hi:P[i]?=some p)(b:p.1.st=1)(a:p2.1.st≠0):(usedP (P.set i p2):Int)=usedP P:=by
 have:=Pm hi a;rw[if_neg U] at this;omega
theorem Q6{W:List Wv}{x2:Wv}(h:∀x∈W,InB A x.u x.V)(a:Ink A A2)(b:InB A2 x2.u x2.V):∀x∈W.set j x2,InB A2 x.u x.V:=λx c=>by
 rcases Ahw c with q|rfl
 ·exact a _ _ (h x q)
 exact b
theorem LvI.ea(h:LvI n o nx P W A){k:Nat}{e e2:Vl}{L L2:List E}{x:Wv}(hi:P[i]?=some (e,L))(hs:e.st=1)(w:W[j]?=some x)(f:x.id=e.id)(c:EaJ n ⟨o.N,o.C,Ba e.r.toNat++C3 (P.eraseIdx i)⟩ nx e (C3 (P.eraseIdx i)) k o2 e2 L2)
  {u2:Value}(hk:Ink A A2)(y:InB A2 u2 (A7 o2.N L2))(hd:∀p b,o2.N p=some (.dt b)->b.length=240)(K:TrK n o2 none):LvI n o2 nx (P.set i (e2,L2)) (W.set j ⟨x.id,x.sz,x.q,u2,A7 o2.N L2⟩) A2:=by
 have q:=h.ok hi hs;have hq:=h.both hi hs w f;have v:=c.fld;have d:=q.id;dsimp only at d;have l:∀p∈P,p.1.st=1->p.1.id≠e.id->A7 o2.N p.2=A7 o.N p.2:=λp hp t m=>by
  obtain ⟨a,g⟩:=Ae1.1 hp;have s:a≠i:=λq=>by subst q;rw[hi] at g;cases g;exact m Z
  have u:=h.ok g t;by_cases e0:p.1.r.toNat=0
  ·rcases u.root with ⟨_,z⟩|⟨r1,_⟩
   ·rw[z];rfl
   exact absurd e0 r1
  exact (c.kv _ (Mn (Hj g s) e0) _ u.root).2
 refine ⟨h.inv.upd hi ⟨Afo _,h.inv.nb.2⟩ c.kv.kp c.ok (.inl v.1) (by rw[c.lw.r]),h.rel.upd h.inv hi w (show e.id≠0 by omega) hs (show e2.st=1 by omega) f ?_ v.1 l,?_,Q6 h.bag hk y,hd,K⟩
 ·simp only[Wv.core,CI,AfG]
  exact ⟨by omega,by omega,by omega,trivial⟩
 have:=Jf (p2:=(e2,L2)) hi hs (show e2.st≠0 by omega);have h0:=h.nxe;omega
theorem LvI.left(h:LvI n o nx P W A)(d:nx<=8):¬∀e∈P.map Prod.fst,e≠v0:=λa=>by
 have b:=h.nxe;have c:usedP P=P.length:=List.countP_eq_length.2 λp hp=>by
  rcases h.inv.all p hp with rfl|q
  ·exact absurd Z (a _ (Aen.2 ⟨_,hp,Z⟩))
  have:=q.st;simp only[decide_eq_true_eq];omega
 have:=h.inv.len;omega
def WrE(W W2:List Wv)(id at_:Int)(m fr:Nat):Prop:=∀x∈W,x.id=id->Bp x.sz (decide (((m%64:Nat):Int)=0)) at_ ((m/64:Nat):Int)=0->
 ∃(j k:Nat) (u2:Value) (V2:List Bk) (bs:List UInt8),W[j]?=some x/\WTr at_ x.q bs x.V k V2/\W2=W.set j ⟨x.id,x.sz,x.q,u2,V2⟩/\(k=m/64\/(k<m/64/\(EA at_ x.q k V2\/fr<=11+12*k)))
theorem WrE.no{W W2:List Wv}{id:Int}(h:∀x∈W,x.id≠id):WrE W W2 id t m i:=λx a e=>absurd e (h x a)
theorem LvI.eq(h:LvI n o nx P W A){x y:Wv}(c:W[j]?=some x)(d:y∈W)(e:y.id=x.id):y=x:=by
 obtain ⟨a,b⟩:=Ae1.1 d;have:=h.rel.uniq c b e;subst this;rw[c] at b;exact (Age b).symm
theorem WrE.bad(h:LvI n o nx P W A){W2:List Wv}{id:Int}{x:Wv}(d:W[j]?=some x)(a:x.id=id)(b:Bp x.sz (decide (((m%64:Nat):Int)=0)) t ((m/64:Nat):Int)≠0):WrE W W2 id t m i:=λy c e q=>by
 have:=h.eq d c (e.trans a.symm);subst this;exact absurd q b
theorem WrE.did(h:LvI n o nx P W A){id:Int}{k c2:Nat}{x:Wv}{bs:List UInt8}{vf:Nat->List Bk}{a:List Bk}(d:W[j]?=some x)(c:x.id=id)(hq:x.q=q)(f:vf 0=x.V)(g:vf k=a)(p:∀j,j<k->¬EA t q j (vf j)/\∀V3,PutAt (t+(j:Int)) (DN bs j) (vf j) V3->V3=vf (j+1))
  (l:m<=c2+12*k)(b:(s=0/\(k:Int)=((bs.length/64:Nat):Int))\/((k:Int)<((bs.length/64:Nat):Int)/\((s=30/\EA t q k a)\/(s=20/\¬EA t q k a/\c2<=11))))(u2:Value):WrE W (W.set j ⟨x.id,x.sz,x.q,u2,a⟩) id t bs.length m:=λy i e _=>by
 have:=h.eq d i (e.trans c.symm);subst this;subst hq;refine ⟨j,k,u2,a,bs,d,⟨vf,f,g,p⟩,Z,?_⟩;rcases b with r|⟨u,r|r⟩
 ·exact .inl U
 ·exact .inr ⟨by omega,.inl r.2⟩
 exact .inr ⟨by omega,.inr (by have:=r.2.2;omega)⟩
theorem LvI.ink(h:LvI n o nx P W A)(a:Ink A A2):LvI n o nx P W A2:=⟨h.inv,h.rel,h.nxe,λx b=>a _ _ (h.bag x b),h.d,h.k⟩
end
section
variable{Tb:Ai}
theorem Uj(h:n<B.length/64):(DN B n).length=64:=by unfold DN;rw[AeA,AeP];omega
theorem Pn(h:j<B.length/64)(a:B.length<=711){hp:Hp}(q:blk n (B.map u8) T hp):rdH 1 (.slice (some ⟨n,j*64,none⟩) ((j+1)*64-j*64) (B.length-j*64)) (DN B j).length ((DN B j).map u8) hp:=by
 have e1:=Uj h;have e2:(j+1)*64-j*64=64:=by omega
 rw[e1,e2];exact q.rd U U (by rw[Aei];omega) (by unfold DN;rw[Afr,AfX])
theorem PutAt.le{k:Int}{d:List UInt8}{V a:List Bk}(h:PutAt k d V a):a.length<=V.length+1:=by
 obtain ⟨i,_,_,rfl⟩:=h;have:=JJ k V;simp only[Aeh,AeA,Aej,AeP];omega
section
variable{at_ q er m:Int}{vf:Nat->List Bk}{V:List Bk}{k i c:Nat}
theorem AcD(b:i<=k)(c:¬(i:Int)<m){X:Prop}(a:(er=0/\(k:Int)=m)\/((k:Int)<m/\X)):(k:Int)=(i:Int)/\er=0:=by
 rcases a with h|h
 ·omega
 omega
theorem lw_quo(e:∀j,j<k->¬EA at_ q j (vf j))(hq:EA at_ q i (vf i))(f:i<=k)(a:vf k=V)(b:(er=0/\(k:Int)=m)\/((k:Int)<m/\((er=30/\EA at_ q k V)\/(er=20/\¬EA at_ q k V/\c<=11))))(g:(i:Int)<m):(k:Int)=(i:Int)/\er=30:=by
 have d:k=i:=by
  rcases Aeu i k with h|h
  ·exact absurd hq (e i h)
  omega
 subst d;rw[a] at hq;rcases b with h|⟨_,h|h⟩
 ·omega
 ·exact ⟨Z,h.1⟩
 exact absurd hq h.2.1
theorem Po(hq:¬EA at_ q i (vf i))(d:(i:Int)=(k:Int))(a:vf k=V)(b:(er=0/\(k:Int)=m)\/((k:Int)<m/\((er=30/\EA at_ q k V)\/(er=20/\¬EA at_ q k V/\c<=11))))(e:(i:Int)<m):er=20/\c<=11:=by
 obtain rfl:i=k:=by omega
 rw[a] at hq;rcases b with h|⟨_,h|h⟩
 ·omega
 ·exact absurd h.2 hq
 exact ⟨h.1,h.2.2⟩
end
set_option maxHeartbeats 8000000 in
theorem Uk {pd pv pw pp mb:Nat} (P:List Pl) (o:TB) (W:List Wv) (A:Ai) (m:LvI n o t P W A) (e8:mb+20<=1000000000) (id:Int) {kd ci ca cc cf cs cq:Int} {sy od:Bool} (b7: -9223372036854775808<=ca/\ca<=9223372036854775807) (e4: -9223372036854775808<=cc/\cc<=9223372036854775807) (d6: -9223372036854775808<=cf/\cf<=9223372036854775807) {fr:Int} (g0:fr=(cnt (AR n o.C) 0 1024:Int)):Ak 77 [Y g,I id,.agg #[I kd,I ci,I ca,I cc,I cf,I cs,I cq,.bool sy,.bool od],I fr] [blk g [Y pd,Y pv,Y pw] 35,voA pv pp t ([]) (P.map Prod.fst),trA Tb pp mb n o none,wdA pw t W,A] (λv G=>∃(p2:Nat) (nx2:Int) (P2:List Pl) (c4:List Vl) (o2:TB) (W2:List Wv) (A2:Ai) (m2:Nat),(LvI n o2 nx2 P2 W2 A2/\c4=P2.map Prod.fst/\m2<=mb+16/\nx2=t/\WrE W W2 id ca (mV cc od) (cnt (AR n o.C) 0 1024)/\KpW W W2 id/\Ink A A2)/\v=.bool true/\G=[blk g [Y pd,Y pv,Y p2] 35,voA pv pp nx2 [] c4,trA Tb pp m2 n o2 none,wdA p2 nx2 W2,A2]):=by
 intro z R w H;replace H:=H.l5;have c9:W.length<=64:=by have:=m.w8;omega
 have d5:=λx c=>(m.w (x:=x) c).1
 have d2:=m.bag;refine Ae func77 Z ntmps77 Z (Za 2 [] H Z ?_);intro b1 w H;refine Z2 6 [0,9] H Z (Au Z (call12 _) (Pj d6 e4) H ?_);rintro _ w _ ⟨db,bs,a9,rfl,rfl⟩ H;replace H:=H.l7;have g3:=Sa cc od;have e6:bs.length/64<=11:=by omega
 refine Zc 4 Z ?_;replace H:=H.f1.f2;refine Bf (Sep z (blk g [Y pd,Y pv,Y pw] 35::blk b1 [I kd,I ci,I ca,I cc,I cf,I cs,I cq,.bool sy,.bool od] 28::R)) 20 Z J (A4 H λw f=>?_);have H:=f.l7;refine Bo [0,1,2,3,4,5,6,7] [2,0,2,1] J (λ_ c=>(AN (c.blk 0 Z) (AN (c.blk 1 Z) AH))) (by exact H.pick 7 [0,1] Z) Z J Z Z (By 8 J Z Z J J J Z Z Z (F3 Z (z:=1) J Z) (H.pick 7 [0,1] Z) (By 9 J Z Z J J J Z Z Z (Lt Z Z Z (r:=((bs.length/64:Nat):Int)) U U U U) (H.pick 7 [0,1] Z) (Bo [10] [] J (λ_ _=>AH) (by exact H.pick 7 [0,1] Z) Z J Z Z (By 11 J Z Z J J J Z Z Z (F3 Z (z:=1) J Z) (H.pick 7 [0,1] Z) (By 12 J Z Z J J J Z Z Z (Lu Z Z Z (r:=((bs.length%64:Nat):Int)) U U U) (H.pick 7 [0,1] Z) (Bo [13] [] J (λ_ _=>AH) (by exact H.pick 7 [0,1] Z) Z J Z Z (Ay [14] J O (Al (Br Z Z Z Z Z Z (λw=>call137 _ w) (Mq c9 d5 b7 U) H.f5 Z ?_)))))))));rintro _ w _ (⟨b9,rfl,rfl⟩|⟨j,x,⟨c,a⟩,rfl,rfl⟩) f
 ·have H:=f.l7;refine Ar (λ_=>(H.pick 7 [1,2] Z)) (Bo [15,16,17,18] [] J (λ_ _=>AH) (by exact H.pick 7 [1,2] Z) Z J Z Z (Ay [19] J O (Al (BV Z Z Z Z (AQ Z Z) (Ar (λh=>absurd Z h) (AV J (gn (Zc 2 Z ?_))))))));replace H:=H.f2.f2;refine Bf (Sep z (blk g [Y pd,Y pv,Y pw] 35::blk b1 [I kd,I ci,I ca,I cc,I cf,I cs,I cq,.bool sy,.bool od] 28::R)) 16 Z J (A4 H λw f=>?_)
  have H:=f.l7;refine Bo [0,1,2,3,4,5,6,7,8,9] [1,0,2,1,7,1] J (λ_ c=>(AN (c.blk 0 Z) (AN (c.blk 1 Z) AH))) (by exact H.pick 7 [0,1] Z) Z J Z Z (Ay [10] J O (Al (Br Z Z Z Z Z Z (λw=>call11 _ w) (Ku P Z m.inv U id ca b7 db bs U sy) H.f3.f5.f5 Z ?_)));rintro _ w _ (⟨c3,rfl,rfl⟩|⟨i,e,L,⟨hi,hs,a3⟩,(⟨_,rfl,rfl⟩|⟨_,k,o2,e2,L2,m2,er,_,rfl,rfl⟩)⟩) f
  ·have H:=f.l7;refine Ar (λ_=>(H.pick 7 [3,4] Z)) (Bo [11,12,13,14] [] J (λ_ _=>AH) (by exact H.pick 7 [3,4] Z) Z J Z Z (Ay [15] J O (Al (BV Z Z Z Z (AQ Z Z) (Ar (λh=>absurd Z h) (AV J (gn (Z0 22 [3,3,3] Z (Zr Z ?_)))))))));exact ⟨_,⟨_,_,P,_,o,W,A,mb,⟨m,Z,by omega,Z,WrE.no b9,.eq Z,Ink.refl _⟩,Z,Z⟩,H.pick 7 [3,0,1,5,6] Z⟩
  ·exact (by obtain ⟨j9,x9,q1,q2⟩:=m.at hi hs a3;exact absurd q2 (b9 x9 (Aeg q1)))
  exact (by obtain ⟨j9,x9,q1,q2⟩:=m.at hi hs a3;exact absurd q2 (b9 x9 (Aeg q1)))
 have H:=f.l7;refine Ar (λ_=>(H.pick 7 [1,2] Z)) (Bo [15,16,17,18] [] J (λ_ _=>AH) (by exact H.pick 7 [1,2] Z) Z J Z Z (Ay [19] J O (Al (BV Z Z Z Z (AQ Z Z) (Ar (λh=>absurd Z h) (AV J (gn (Zc 2 Z ?_))))))));replace H:=H.f2.f2;refine Bf (Sep z (blk g [Y pd,Y pv,Y pw] 35::blk b1 [I kd,I ci,I ca,I cc,I cf,I cs,I cq,.bool sy,.bool od] 28::R)) 16 Z J (A4 H λw f=>?_);have H:=f.l7;refine Bo [0,1,2,3,4,5,6,7,8,9] [1,0,2,1,7,1] J (λ_ c=>(AN (c.blk 0 Z) (AN (c.blk 1 Z) AH))) (by exact H.pick 7 [0,1] Z) Z J Z Z (Ay [10] J O (Al (Br Z Z Z Z Z Z (λw=>call11 _ w) (Ku P Z m.inv U id ca b7 db bs U sy) H.f3.f5.f5 Z ?_)));rintro _ w _ (⟨c3,rfl,rfl⟩|⟨i,e,L,⟨hi,hs,a3⟩,(⟨hE,rfl,rfl⟩|⟨hE,k,o2,e2,L2,m2,er,⟨⟨b3,vf,d4,a0,a4⟩,a2,g2⟩,rfl,rfl⟩)⟩) f
 ·exact (by obtain ⟨e9,b0,q1,q2⟩:=m.back c a;exact absurd ⟨q1,q2⟩ (c3 e9 b0))
 ·have H:=f.l7;have a7:=m.both hi hs c (a.trans a3.symm)
  refine Ar (λ_=>(H.pick 7 [3,4] Z)) (Bo [11,12,13,14] [] J (λ_ _=>AH) (by exact H.pick 7 [3,4] Z) Z J Z Z (Ay [15] J O (Al (BV Z Z Z Z (AQ Z Z) (Ar (λh=>absurd Z h) (AV J (gn (Zc 3 Z (AD 11 (v:=I (Bp e.sz (decide (((bs.length%64:Nat):Int)=0)) ca ((bs.length/64:Nat):Int))) Z (congrArg I (by rw[a7.1])) (Z0 5 [0] Z (Af Z (λh1=>?_) (λh1=>?_))))))))))))
  ·refine Z0 6 [0] Z (An 56 Z (λh2=>?_) (λh2=>?_))
   ·refine Z0 7 [3] Z (Zr Z ?_);exact ⟨_,⟨_,_,P,_,o,W,A,mb,⟨m,Z,by omega,Z,a9▸WrE.bad m c a (by rw[a7.1];exact hE),.eq Z,Ink.refl _⟩,Z,Z⟩,H.pick 7 [3,0,1,5,6] Z⟩
   exact absurd Z h2
  exact absurd hE h1
 have H:=f.l7;have a7:=m.both hi hs c (a.trans a3.symm);refine Ar (λ_=>(H.pick 7 [3,4] Z)) (Bo [11,12,13,14] [] J (λ_ _=>AH) (by exact H.pick 7 [3,4] Z) Z J Z Z (Ay [15] J O (Al (BV Z Z Z Z (AQ Z Z) (Ar (λh=>absurd Z h) (AV J (gn (Zc 3 Z (AD 11 (v:=I 0) Z (congrArg I (by rw[a7.1];exact hE)) (Z0 10 [4] Z (AD 10 (v:=I (j:Int)) Z (congrArg I (if_pos (by rw[a7.1];exact hE))) ?_)))))))))));replace H:=H.f5;obtain ⟨uw,H⟩:=H.wd;replace H:=H.l8;have e1:=H.sy 1 (·.slc);obtain ⟨aw,cw,rfl⟩:=e1;obtain ⟨xi,xs,xq,xu,xV⟩:=x;have b5:∀p b,o2.N p=some (.dt b)->b.length=240:=H.says 3 Z (λh q=>trA.d64 q);have K2:=H.says 3 Z (λh q=>trA.k q);have d8:=(m.w (Aeg c)).2.2.1;have e5:InB A xu xV:=d2 _ (Aeg c);have d9:=(Aee.1 c).1;obtain ⟨d1,b4,c8⟩:=a7;dsimp only at d1 b4 c8 d8;have a6:cnt (AR n o.C) 0 1024<=cnt (AR n o2.C) 0 1024+12*k:=b3.fr;have a1:vf 0=xV:=by rw[d4,c8]
 have d0:W.set j ⟨xi,xs,xq,xu,vf 0⟩=W:=by obtain ⟨hl,e9⟩:=Aee.1 c;rw[a1];show W.set j ⟨xi,xs,xq,xu,xV⟩=W;rw[<-e9];exact Af8 hl
 have f9:(k:Int)<=((bs.length/64:Nat):Int):=by rcases a2 with q|q<;>omega
 have e3:=F0 hE;have c2:=(m.ok hi hs).sz;dsimp only at c2;refine Zc 5 Z ?_;refine AF (σ:=Nat×Value×Ai) (λ⟨s,u2,AA⟩=>[(14,I (s:Int)),(0,Y g),(3,I fr),(6,Y b1),(9,.slice (some ⟨db,0,none⟩) bs.length bs.length),(10,I (j:Int)),(12,I (k:Int)),(13,I er)])
   (λ⟨s,u2,AA⟩ w=>Sep z (blk pw [.slice aw W.length cw,I t] 57::grow 62 4 (.slice aw W.length cw) W.length (Bq (W.set j ⟨xi,xs,xq,u2,vf s⟩))::voA pv pp t ([]) ((P.map Prod.fst).set i e2)::trA Tb pp m2 n o2 none::blk db (bs.map u8) 5::blk g [Y pd,Y pv,Y pw] 35::blk b1 [I kd,I ci,I ca,I cc,I cf,I cs,I cq,.bool sy,.bool od] 28::AA::R) w/\(s<=k/\(vf s).length<=639+s/\Ink A AA/\InB AA u2 (vf s))) (λ⟨s,u2,AA⟩=>k-s) ⟨0,xu,A⟩
   fr_z ⟨(by rw[d0];exact H),⟨AeR _,by rw[a1];omega,Ink.refl A,by rw[a1];exact e5⟩⟩ ?_
 clear H;rintro ⟨s,u2,AA⟩ w ⟨f,hI⟩;dsimp only at hI f ⊢;have H:=f.l8;obtain ⟨c6,g1,hK,y⟩:=hI;refine Z1 10 [0] [((bs.length/64:Nat):Int)] Z U (Af Z (λh3=>?_) (λh3=>?_))
 ·refine Zc 5 Z ?_;have d3:=H.sy 7 (λq=>(y _ q).slc)
  obtain ⟨au,cu,rfl⟩:=d3;have b6:(W.set j ⟨xi,xs,xq,.slice au (vf s).length cu,vf s⟩)[j]?=some ⟨xi,xs,xq,.slice au (vf s).length cu,vf s⟩:=Afy d9;have a5:=(H.rv 1 (·.rd)).at (BL b6 0 _ Z);refine Z2 9 [2,5,0,0,0,0] H Z (Ad Z (Aj Z (z:=4) (j:=j) (r:=j*4) J Z Z Z U a5 U) (Ad Z (Bt Z Z (vs:=[I xi,I xs,I xq,.slice au (vf s).length cu]) J O (AB (λk' u hk=>(H.rv 1 (·.rd)).at (BL b6 k' u hk)))) (Za 0 [] H Z ?_)));intro b2 w H;refine Z5 10 [0,0,4,2,7,0] [ca+(s:Int)] H Z U ?_;intro w H;refine z_E_ Z (call138 _) (Acg AA y) H.f8 ?_;intro w H;refine Zc 7 Z (Ad Z (AG Z Z) (Zc 1 Z (An 85 Z (λh4=>?_) (λh4=>?_))))
  ·refine Z2 9 [3,1,0,2,1,0,0] H Z (Af Z (λh5=>?_) (λh5=>?_))
   ·obtain ⟨e0,b0⟩:=lw_quo (λq hq=>(a4 q hq).1) (i:=s) ⟨by assumption,by omega⟩ c6 a0 a2 U;refine Z0 5 [0] Z (An 95 Z (λh6=>?_) (λh6=>?_))
    ·refine Z0 8 [0] Z (Zr Z ?_);obtain rfl:s=k:=by omega
     rw[a0] at H y;have hF:=m.ea hi hs c (a.trans a3.symm) b3 hK y b5 K2;have f:=Sep.toWd (W:=W.set j ⟨xi,xs,xq,.slice au (A7 o2.N L2).length cu,A7 o2.N L2⟩) (by rw[AeX];exact H.pick 9 [2,3,7,4,5,0] Z);exact ⟨_,⟨_,_,_,_,o2,_,AA,m2,⟨hF,(Cx P i e2 L2).symm,by omega,Z,a9▸WrE.did m c a b4 a1 a0 a4 a6 a2 _,.set c a,hK⟩,congrArg Value.bool (decide_eq_true U),Z⟩,f.pick 5 [1,2,3,0,4] Z⟩
    exact absurd b0 h6
   refine Z0 10 [0] Z (Af Z (λh7=>?_) (λh7=>?_))
   ·have c0:=Po (i:=s) (λq9=>by have q1:=q9.1;have q2:=q9.2;first|exact q1 (by assumption)|exact absurd q1 (by assumption)|simp_all|omega) U a0 a2 U
    refine Z0 5 [0] Z (An 105 Z (λh8=>?_) (λh8=>?_))
    ·refine Z1 10 [0] [12*(s:Int),25+12*(s:Int)] Z U (Zr Z ?_);obtain rfl:s=k:=by omega
     rw[a0] at H y;have hF:=m.ea hi hs c (a.trans a3.symm) b3 hK y b5 K2;have f:=Sep.toWd (W:=W.set j ⟨xi,xs,xq,.slice au (A7 o2.N L2).length cu,A7 o2.N L2⟩) (by rw[AeX];exact H.pick 9 [2,3,7,4,5,0] Z);exact ⟨_,⟨_,_,_,_,o2,_,AA,m2,⟨hF,(Cx P i e2 L2).symm,by omega,Z,a9▸WrE.did m c a b4 a1 a0 a4 a6 a2 _,.set c a,hK⟩,congrArg Value.bool (decide_eq_true U),Z⟩,f.pick 5 [1,2,3,0,4] Z⟩
    exact absurd c0.1 h8
   refine Zc 2 Z ?_;replace H:=H.f6.f2.f8.f5.f5.f8;refine Bf (Sep z (blk g [Y pd,Y pv,Y pw] 35::blk pw [.slice aw W.length cw,I t] 57::grow 62 4 (.slice aw W.length cw) W.length (Bq (W.set j ⟨xi,xs,xq,.slice au (vf s).length cu,vf s⟩))::blk b1 [I kd,I ci,I ca,I cc,I cf,I cs,I cq,.bool sy,.bool od] 28::blk b2 [I xi,I xs,I xq,.slice au ((vf s).length) cu] 62::blk db (bs.map u8) 5::R)) 24 Z J (A4 H λw f=>?_);have H:=f.l9;refine Bo [0,1,2,3,4,5,6,7] [2,0,0,1] J (λ_ c=>(AN (c.blk 0 Z) (AN (c.blk 1 Z) AH))) (by exact H.pick 9 [0,1,2,3,4,5] Z) Z J Z Z (By 8 J Z Z J J J Z Z Z (BW Z Z (vs:=[I xi,I xs,I xq,.slice au ((vf s).length) cu]) J (λ_ c=>(c.blk 4 Z).part 0 4 _ Z)) (H.pick 9 [0,1,2,3,4,5] Z) (Bo [9,10,11] [2,0] J (λ_ c=>(AN (c.blk 3 Z) AH)) (by exact H.pick 9 [0,1,2,3,4,5] Z) Z J Z Z (By 12 J Z Z J J J Z Z Z (C4 Z Z Z (r:=ca+(s:Int)) U U) (H.pick 9 [0,1,2,3,4,5] Z) (Bo [13,14] [] J (λ_ _=>AH) (by exact H.pick 9 [0,1,2,3,4,5] Z) Z J Z Z (By 15 J Z Z J J J Z Z Z (Hz Z Z Z (r:=((s*64:Nat):Int)) U U) (H.pick 9 [0,1,2,3,4,5] Z) (Bo [16] [] J (λ_ _=>AH) (by exact H.pick 9 [0,1,2,3,4,5] Z) Z J Z Z (By 17 J Z Z J J J Z Z Z (C4 Z Z Z (r:=(s:Int)+1) U U) (H.pick 9 [0,1,2,3,4,5] Z) (By 18 J Z Z J J J Z Z Z (Hz Z Z Z (r:=(((s+1)*64:Nat):Int)) U U) (H.pick 9 [0,1,2,3,4,5] Z) (By 19 J Z Z J J J Z Z Z (BM Z (z:=1) (p:=(s*64)) (q:=((s+1)*64)) (o':=(s*64)) (l':=((s+1)*64)-(s*64)) (c':=bs.length-(s*64)) J Z (.inr ⟨_,_,_,Z,Z,Z⟩) (.inr ⟨_,_,_,Z,Z,Z⟩) U U U U U U) (H.pick 9 [0,1,2,3,4,5] Z) (By 20 J Z Z J J J Z Z Z (Cq (l:=DN bs s) Z J J Z (λ_ b8=>b8.rv 5 (λq=>Pn U U q))) (H.pick 9 [0,1,2,3,4,5] Z) (Ay [21] J O (Al (Br Z Z Z Z Z Z (λw=>call139 _ w) (TZ (ca+(s:Int)) (vf s) AA y (DN bs s) U) H.f6 Z ?_)))))))))))));rintro _ w _ ⟨u3,V2,a8,rfl,rfl⟩ H;replace H:=H.l10;have d7:=PutAt.le a8;obtain rfl:V2=vf (s+1):=(a4 s U).2 V2 a8;have c1:=H.sy 0 (·.rd.slc);refine Ar (λ_=>(H.pick 10 [2,3,4,5,6,7] Z)) (By 22 J Z Z J J J Z Z Z (Aj Z (z:=4) (j:=j) (r:=j*4) J Z Z Z U a5 U) (H.pick 10 [2,3,4,5,6,7] Z) (Ay [23] J O (Al (Bl Z Z Z (CW 4 H Z Z Z Z (vs:=[I xi,I xs,I xq,u3]) Z (Ab Z (Ab Z (Ab Z (Ab c1.one Aw)))) J U (by simp only[Aej,AeE];omega) (out:=Bq ((W.set j ⟨xi,xs,xq,.slice au (vf s).length cu,vf s⟩).set j ⟨xi,xs,xq,u3,vf (s+1)⟩)) (If (x2:=⟨xi,xs,xq,u3,vf (s+1)⟩) b6 0 O (by simp[Wv.cells]))) ?_))));rintro w H;replace H:=H.l10;refine Ar (λh=>absurd Z h) (AV J (gn (Zc 2 Z ?_)));rw[AgX] at H;have f:=(H.pick 10 [0,1,2,3,4,5,6,7,8,9] Z).made 2 (A:=both (grow 146 2 u3 ((vf (s+1)).length) (B0 (vf (s+1)))) AA) (λh q=>q);clear H;have H:Sep z (both (grow 146 2 u3 ((vf (s+1)).length) (B0 (vf (s+1)))) AA::blk g [Y pd,Y pv,Y pw] 35::blk pw [.slice aw W.length cw,I t] 57::grow 62 4 (.slice aw W.length cw) W.length (Bq (W.set j ⟨xi,xs,xq,u3,vf (s+1)⟩))::blk b1 [I kd,I ci,I ca,I cc,I cf,I cs,I cq,.bool sy,.bool od] 28::blk b2 [I xi,I xs,I xq,.slice au ((vf s).length) cu] 62::blk db (bs.map u8) 5::voA pv pp t ([]) ((P.map Prod.fst).set i e2)::trA Tb pp m2 n o2 none::R) w:=f;clear f;refine Z1 5 [] [(s:Int)+1] Z U ?_;replace H:=H.f5.d.f4.f2.f5.f7.f7.f7.f7;refine gf ?_;intro _ hF;refine ⟨⟨s+1,u3,both (grow 146 2 u3 ((vf (s+1)).length) (B0 (vf (s+1)))) AA⟩,hF.cz,⟨H,?_⟩,?_⟩
   ·exact ⟨by show s+1<=k;omega,by show (vf (s+1)).length<=_;omega,hK.trans (Ink.both _ AA),InB.grow⟩
   (dsimp only;omega)
  refine Z0 20 [0] Z (Af Z (λh9=>?_) (λh9=>?_))
  ·have c0:=Po (i:=s) (λq9=>by have q1:=q9.1;first|exact q1 (by assumption)|exact absurd q1 (by assumption)|simp_all|omega) U a0 a2 U
   refine Z0 5 [0] Z (An 105 Z (λc5=>?_) (λc5=>?_))
   ·refine Z1 10 [0] [12*(s:Int),25+12*(s:Int)] Z U (Zr Z ?_);obtain rfl:s=k:=by omega
    rw[a0] at H y;have hF:=m.ea hi hs c (a.trans a3.symm) b3 hK y b5 K2;have f:=Sep.toWd (W:=W.set j ⟨xi,xs,xq,.slice au (A7 o2.N L2).length cu,A7 o2.N L2⟩) (by rw[AeX];exact H.pick 9 [2,3,7,4,5,0] Z);exact ⟨_,⟨_,_,_,_,o2,_,AA,m2,⟨hF,(Cx P i e2 L2).symm,by omega,Z,a9▸WrE.did m c a b4 a1 a0 a4 a6 a2 _,.set c a,hK⟩,congrArg Value.bool (decide_eq_true U),Z⟩,f.pick 5 [1,2,3,0,4] Z⟩
   exact absurd c0.1 c5
  refine Zc 2 Z ?_;replace H:=H.f6.f2.f8.f5.f5.f8;refine Bf (Sep z (blk g [Y pd,Y pv,Y pw] 35::blk pw [.slice aw W.length cw,I t] 57::grow 62 4 (.slice aw W.length cw) W.length (Bq (W.set j ⟨xi,xs,xq,.slice au (vf s).length cu,vf s⟩))::blk b1 [I kd,I ci,I ca,I cc,I cf,I cs,I cq,.bool sy,.bool od] 28::blk b2 [I xi,I xs,I xq,.slice au ((vf s).length) cu] 62::blk db (bs.map u8) 5::R)) 24 Z J (A4 H λw f=>?_);have H:=f.l9;refine Bo [0,1,2,3,4,5,6,7] [2,0,0,1] J (λ_ c=>(AN (c.blk 0 Z) (AN (c.blk 1 Z) AH))) (by exact H.pick 9 [0,1,2,3,4,5] Z) Z J Z Z (By 8 J Z Z J J J Z Z Z (BW Z Z (vs:=[I xi,I xs,I xq,.slice au ((vf s).length) cu]) J (λ_ c=>(c.blk 4 Z).part 0 4 _ Z)) (H.pick 9 [0,1,2,3,4,5] Z) (Bo [9,10,11] [2,0] J (λ_ c=>(AN (c.blk 3 Z) AH)) (by exact H.pick 9 [0,1,2,3,4,5] Z) Z J Z Z (By 12 J Z Z J J J Z Z Z (C4 Z Z Z (r:=ca+(s:Int)) U U) (H.pick 9 [0,1,2,3,4,5] Z) (Bo [13,14] [] J (λ_ _=>AH) (by exact H.pick 9 [0,1,2,3,4,5] Z) Z J Z Z (By 15 J Z Z J J J Z Z Z (Hz Z Z Z (r:=((s*64:Nat):Int)) U U) (H.pick 9 [0,1,2,3,4,5] Z) (Bo [16] [] J (λ_ _=>AH) (by exact H.pick 9 [0,1,2,3,4,5] Z) Z J Z Z (By 17 J Z Z J J J Z Z Z (C4 Z Z Z (r:=(s:Int)+1) U U) (H.pick 9 [0,1,2,3,4,5] Z) (By 18 J Z Z J J J Z Z Z (Hz Z Z Z (r:=(((s+1)*64:Nat):Int)) U U) (H.pick 9 [0,1,2,3,4,5] Z) (By 19 J Z Z J J J Z Z Z (BM Z (z:=1) (p:=(s*64)) (q:=((s+1)*64)) (o':=(s*64)) (l':=((s+1)*64)-(s*64)) (c':=bs.length-(s*64)) J Z (.inr ⟨_,_,_,Z,Z,Z⟩) (.inr ⟨_,_,_,Z,Z,Z⟩) U U U U U U) (H.pick 9 [0,1,2,3,4,5] Z) (By 20 J Z Z J J J Z Z Z (Cq (l:=DN bs s) Z J J Z (λ_ b8=>b8.rv 5 (λq=>Pn U U q))) (H.pick 9 [0,1,2,3,4,5] Z) (Ay [21] J O (Al (Br Z Z Z Z Z Z (λw=>call139 _ w) (TZ (ca+(s:Int)) (vf s) AA y (DN bs s) U) H.f6 Z ?_)))))))))))));rintro _ w _ ⟨u3,V2,a8,rfl,rfl⟩ H;replace H:=H.l10;have d7:=PutAt.le a8;obtain rfl:V2=vf (s+1):=(a4 s U).2 V2 a8;have c1:=H.sy 0 (·.rd.slc);refine Ar (λ_=>(H.pick 10 [2,3,4,5,6,7] Z)) (By 22 J Z Z J J J Z Z Z (Aj Z (z:=4) (j:=j) (r:=j*4) J Z Z Z U a5 U) (H.pick 10 [2,3,4,5,6,7] Z) (Ay [23] J O (Al (Bl Z Z Z (CW 4 H Z Z Z Z (vs:=[I xi,I xs,I xq,u3]) Z (Ab Z (Ab Z (Ab Z (Ab c1.one Aw)))) J U (by simp only[Aej,AeE];omega) (out:=Bq ((W.set j ⟨xi,xs,xq,.slice au (vf s).length cu,vf s⟩).set j ⟨xi,xs,xq,u3,vf (s+1)⟩)) (If (x2:=⟨xi,xs,xq,u3,vf (s+1)⟩) b6 0 O (by simp[Wv.cells]))) ?_))));rintro w H;replace H:=H.l10;refine Ar (λh=>absurd Z h) (AV J (gn (Zc 2 Z ?_)));rw[AgX] at H;have f:=(H.pick 10 [0,1,2,3,4,5,6,7,8,9] Z).made 2 (A:=both (grow 146 2 u3 ((vf (s+1)).length) (B0 (vf (s+1)))) AA) (λh q=>q);clear H;have H:Sep z (both (grow 146 2 u3 ((vf (s+1)).length) (B0 (vf (s+1)))) AA::blk g [Y pd,Y pv,Y pw] 35::blk pw [.slice aw W.length cw,I t] 57::grow 62 4 (.slice aw W.length cw) W.length (Bq (W.set j ⟨xi,xs,xq,u3,vf (s+1)⟩))::blk b1 [I kd,I ci,I ca,I cc,I cf,I cs,I cq,.bool sy,.bool od] 28::blk b2 [I xi,I xs,I xq,.slice au ((vf s).length) cu] 62::blk db (bs.map u8) 5::voA pv pp t ([]) ((P.map Prod.fst).set i e2)::trA Tb pp m2 n o2 none::R) w:=f;clear f;refine Z1 5 [] [(s:Int)+1] Z U ?_;replace H:=H.f5.d.f4.f2.f5.f7.f7.f7.f7;refine gf ?_;intro _ hF;refine ⟨⟨s+1,u3,both (grow 146 2 u3 ((vf (s+1)).length) (B0 (vf (s+1)))) AA⟩,hF.cz,⟨H,?_⟩,?_⟩
  ·exact ⟨by show s+1<=k;omega,by show (vf (s+1)).length<=_;omega,hK.trans (Ink.both _ AA),InB.grow⟩
  (dsimp only;omega)
 obtain ⟨e0,b0⟩:=AcD c6 U a2;refine Zc 2 Z (gx (Z0 7 [0] Z (An 137 Z (λc7=>?_) (λc7=>?_))))
 ·refine Z1 10 [0] [((bs.length/64:Nat):Int)] Z U (Zr Z ?_);obtain rfl:s=k:=by omega
  rw[a0] at H y;have hF:=m.ea hi hs c (a.trans a3.symm) b3 hK y b5 K2;have f:=Sep.toWd (W:=W.set j ⟨xi,xs,xq,u2,A7 o2.N L2⟩) (by rw[AeX];exact H.pick 8 [0,1,5,2,3,7] Z);exact ⟨_,⟨_,_,_,_,o2,_,AA,m2,⟨hF,(Cx P i e2 L2).symm,by omega,Z,a9▸WrE.did m c a b4 a1 a0 a4 a6 a2 _,.set c a,hK⟩,congrArg Value.bool (decide_eq_true U),Z⟩,f.pick 5 [1,2,3,0,4] Z⟩
 exact absurd b0 c7
end
section
variable{Tb:Ai}
set_option maxHeartbeats 8000000 in
theorem Ul {pw pp mb:Nat} (P:List Pl) (o:TB) (W:List Wv) (A:Ai) (f:LvI n o t P W A) (c2:mb+20<=1000000000) (id:Int) {ci ca cc cf cs cq:Int} {od:Bool} (a3: -9223372036854775808<=ca/\ca<=9223372036854775807) (a5: -9223372036854775808<=cc/\cc<=9223372036854775807) {fr:Int} (c6:fr=(cnt (AR n o.C) 0 1024:Int)):Ak 79 [Y m,I id,.agg #[I s,I ci,I ca,I cc,I cf,I cs,I cq,.bool c,.bool od],I fr] [blk m [Y g,Y r,Y pw] 35,voA r pp t ([]) (P.map Prod.fst),trA Tb pp mb n o none,wdA pw t W,A] (λv G=>∃(p2:Nat) (nx2:Int) (P2:List Pl) (b2:List Vl) (o2:TB) (W2:List Wv) (A2:Ai) (m2:Nat),(LvI n o2 nx2 P2 W2 A2/\b2=P2.map Prod.fst/\m2<=mb+16/\KpW W W2 id/\Ink A A2)/\v=.bool true/\G=[blk m [Y g,Y r,Y p2] 35,voA r pp nx2 [] b2,trA Tb pp m2 n o2 none,wdA p2 nx2 W2,A2]):=by
 intro z R w H;replace H:=H.l5;have a8:W.length<=64:=by have:=f.w8;omega
 have c0:=λx d=>(f.w (x:=x) d).1;have b4:∀x∈W,x.V.length<=1048576:=λx d=>by have:=(f.w d).2.2.1;omega
 have b8:=f.bag;refine Ae func79 Z ntmps79 Z (Za 2 [] H Z ?_);intro b1 w H;refine Zc 4 Z ?_;replace H:=H.f1;refine Bf (Sep z (blk m [Y g,Y r,Y pw] 35::blk b1 [I s,I ci,I ca,I cc,I cf,I cs,I cq,.bool c,.bool od] 28::R)) 15 Z J (A4 H λw u=>?_);have H:=u.l6;refine Bo [0,1,2,3,4,5,6,7,8] [2,0,2,1,3,1] J (λ_ d=>(AN (d.blk 0 Z) (AN (d.blk 1 Z) AH))) (by exact H.pick 6 [0,1] Z) Z J Z Z (Ay [9] J O (Al (Br Z Z Z Z Z Z (λw=>call137 _ w) (Mq a8 c0 a3 a5) H.f4 Z ?_)));rintro _ w _ (⟨a6,rfl,rfl⟩|⟨j,x,⟨d,a⟩,rfl,rfl⟩) u
 ·have H:=u.l6;refine Ar (λ_=>(H.pick 6 [1,2] Z)) (Bo [10,11,12,13] [] J (λ_ _=>AH) (by exact H.pick 6 [1,2] Z) Z J Z Z (Ay [14] J O (Al (BV Z Z Z Z (AQ Z Z) (Ar (λh=>absurd Z h) (AV J (gn (Zc 2 Z ?_))))))));replace H:=H.f2.f2;refine Bf (Sep z (blk m [Y g,Y r,Y pw] 35::blk b1 [I s,I ci,I ca,I cc,I cf,I cs,I cq,.bool c,.bool od] 28::R)) 15 Z J (A4 H λw u=>?_)
  have H:=u.l6;refine Bo [0,1,2,3,4,5,6,7,8] [1,0,2,1,3,1] J (λ_ d=>(AN (d.blk 0 Z) (AN (d.blk 1 Z) AH))) (by exact H.pick 6 [0,1] Z) Z J Z Z (Ay [9] J O (Al (Br Z Z Z Z Z Z (λw=>call14 _ w) (Kv P Z f.inv U id ca cc a3 a5) H.f4.f4 Z ?_)));rintro _ w _ (⟨b0,rfl,rfl⟩|⟨i,e,L,⟨hi,hs,l⟩,(⟨_,rfl,rfl⟩|⟨_,k,o2,e2,L2,m2,er,_,rfl,rfl⟩)⟩) u
  ·have H:=u.l6;refine Ar (λ_=>(H.pick 6 [2,3] Z)) (Bo [10,11,12,13] [] J (λ_ _=>AH) (by exact H.pick 6 [2,3] Z) Z J Z Z (Ay [14] J O (Al (BV Z Z Z Z (AQ Z Z) (Ar (λh=>absurd Z h) (AV J (gn (Z0 22 [3,3,3] Z (Zr Z ?_)))))))));exact ⟨_,⟨_,_,P,_,o,W,A,mb,⟨f,Z,by omega,.eq Z,Ink.refl _⟩,Z,Z⟩,H.pick 6 [2,0,1,4,5] Z⟩
  ·exact (by obtain ⟨j9,x9,q1,q2⟩:=f.at hi hs l;exact absurd q2 (a6 x9 (Aeg q1)))
  exact (by obtain ⟨j9,x9,q1,q2⟩:=f.at hi hs l;exact absurd q2 (a6 x9 (Aeg q1)))
 have H:=u.l6;refine Ar (λ_=>(H.pick 6 [1,2] Z)) (Bo [10,11,12,13] [] J (λ_ _=>AH) (by exact H.pick 6 [1,2] Z) Z J Z Z (Ay [14] J O (Al (BV Z Z Z Z (AQ Z Z) (Ar (λh=>absurd Z h) (AV J (gn (Zc 2 Z ?_))))))));replace H:=H.f2.f2;refine Bf (Sep z (blk m [Y g,Y r,Y pw] 35::blk b1 [I s,I ci,I ca,I cc,I cf,I cs,I cq,.bool c,.bool od] 28::R)) 15 Z J (A4 H λw u=>?_);have H:=u.l6;refine Bo [0,1,2,3,4,5,6,7,8] [1,0,2,1,3,1] J (λ_ d=>(AN (d.blk 0 Z) (AN (d.blk 1 Z) AH))) (by exact H.pick 6 [0,1] Z) Z J Z Z (Ay [9] J O (Al (Br Z Z Z Z Z Z (λw=>call14 _ w) (Kv P Z f.inv U id ca cc a3 a5) H.f4.f4 Z ?_)));rintro _ w _ (⟨b0,rfl,rfl⟩|⟨i,e,L,⟨hi,hs,l⟩,(⟨hE,rfl,rfl⟩|⟨hE,k,o2,e2,L2,m2,er,⟨⟨a2,b3⟩,b5,c4⟩,rfl,rfl⟩)⟩) u
 ·exact (by obtain ⟨e9,b6,q1,q2⟩:=f.back d a;exact absurd ⟨q1,q2⟩ (b0 e9 b6))
 ·have H:=u.l6;have a0:=f.both hi hs d (a.trans l.symm)
  refine Ar (λ_=>(H.pick 6 [2,3] Z)) (Bo [10,11,12,13] [] J (λ_ _=>AH) (by exact H.pick 6 [2,3] Z) Z J Z Z (Ay [14] J O (Al (BV Z Z Z Z (AQ Z Z) (Ar (λh=>absurd Z h) (AV J (gn (Zc 3 Z (AD 10 (v:=I (Bp e.sz true ca cc)) Z (congrArg I (by rw[a0.1])) (Z0 5 [0] Z (Af Z (λh1=>?_) (λh1=>?_))))))))))))
  ·refine Z0 6 [0] Z (An 44 Z (λh2=>?_) (λh2=>?_))
   ·refine Z0 7 [3] Z (Zr Z ?_);exact ⟨_,⟨_,_,P,_,o,W,A,mb,⟨f,Z,by omega,.eq Z,Ink.refl _⟩,Z,Z⟩,H.pick 6 [2,0,1,4,5] Z⟩
   first|exact absurd hE h2|exact absurd rfl h2
  first|exact absurd hE h1|exact absurd rfl h1
 have H:=u.l6;have a0:=f.both hi hs d (a.trans l.symm);refine Ar (λ_=>(H.pick 6 [2,3] Z)) (Bo [10,11,12,13] [] J (λ_ _=>AH) (by exact H.pick 6 [2,3] Z) Z J Z Z (Ay [14] J O (Al (BV Z Z Z Z (AQ Z Z) (Ar (λh=>absurd Z h) (AV J (gn (Zc 3 Z (AD 10 (v:=I 0) Z (congrArg I (by rw[a0.1];exact hE)) (Z0 9 [4] Z ?_))))))))));have a9:∀p b,o2.N p=some (.dt b)->b.length=240:=H.says 1 Z (λh q=>trA.d64 q);have K2:=H.says 1 Z (λh q=>trA.k q);have c1:cnt (AR n o.C) 0 1024<=cnt (AR n o2.C) 0 1024+12*k:=a2.fr;have c5:(k:Int)<=cc:=by rcases b5 with q|q<;>omega
 have b9:=F0 hE;have a7:=(f.ok hi hs).sz;dsimp only at a7;replace H:=H.f3.f3;refine Bf (Sep z (blk m [Y g,Y r,Y pw] 35::blk b1 [I s,I ci,I ca,I cc,I cf,I cs,I cq,.bool c,.bool od] 28::R)) 9 Z J (A4 H λw u=>?_);have H:=u.l6;refine Bo [0,1,2,3,4,5,6,7] [2,0,2,1] J (λ_ d=>(AN (d.blk 0 Z) (AN (d.blk 1 Z) AH))) (by exact H.pick 6 [0,1] Z) Z J Z Z (Ay [8] J O (Al (Br Z Z Z Z Z Z (λw=>call140 _ w) (WO id ca (k:Int) a8 A b8 b4 j x d a (λk9 y9 b7 e9=>f.rel.uniq d b7 e9) U U) H.f5.f5 Z ?_)));rintro _ w _ ⟨k2,u2,A2,⟨c3,a1,y⟩,rfl,rfl⟩ H;replace H:=H.l6;refine Ar (λh=>absurd Z h) (AV J (gn (Z0 8 [0] Z (Af Z (λh3=>?_) (λh3=>?_)))))
 ·refine Z2 10 [3,3,0,0] H Z (Zr Z ?_);obtain rfl:k2=k:=by omega
  have a4:Db ca k2 x.V=A7 o2.N L2:=by rw[b3,a0.2.2]
  rw[a4] at H y;have hF:=f.ea hi hs d (a.trans l.symm) a2 a1 y a9 K2;exact ⟨_,⟨_,_,_,_,o2,_,A2,m2,⟨hF,(Cx P i e2 L2).symm,by omega,.set d a,a1⟩,congrArg Value.bool (decide_eq_true U),Z⟩,H.pick 6 [2,4,5,0,1] Z⟩
 refine Z0 7 [0] Z (An 65 Z (λh4=>?_) (λh4=>?_))
 ·refine Z2 6 [3,3,0,0] H Z (An 71 Z (λh5=>?_) (λh5=>?_))
  ·refine Z1 10 [0] [12*(k:Int),25+12*(k:Int)] Z U (Zr Z ?_);obtain rfl:k2=k:=by omega
   have a4:Db ca k2 x.V=A7 o2.N L2:=by rw[b3,a0.2.2]
   rw[a4] at H y;have hF:=f.ea hi hs d (a.trans l.symm) a2 a1 y a9 K2;exact ⟨_,⟨_,_,_,_,o2,_,A2,m2,⟨hF,(Cx P i e2 L2).symm,by omega,.set d a,a1⟩,congrArg Value.bool (decide_eq_true U),Z⟩,H.pick 6 [2,4,5,0,1] Z⟩
  (exfalso;omega)
 (exfalso;omega)
end
section
variable{n:Nat}{o:TB}{nx:Int}{P:List Pl}{W:List Wv}{A:Ai}
def Jg(e:Vl):Int×Int×Int×Int:=(e.id,e.sz,e.q,e.mp)
def M9(x:Wv):Int×Int×Int×Int:=(x.id,x.sz,x.q,(x.V.length:Int))
theorem LvI.list(h:LvI n o nx P W A){Y_:List Vl}(hp:Y_.Perm (De (P.map Prod.fst)))(hs:Y_.Pairwise λa b=>a.id<=b.id):Y_.map Jg=W.map M9/\∀y∈Y_,y.st=1:=by
 have e1:(De (P.map Prod.fst)).map Jg=(DA o.N P).map λc=>(c.1,c.2.1,c.2.2.1,(c.2.2.2.length:Int)):=by
  unfold De DA;rw[Agm,Afp,Afp];refine AfE λp hp=>?_;obtain ⟨f,e⟩:=Afe.1 hp;have e:p.1.st=1:=by simpa using e
  obtain ⟨i,hi⟩:=Ae1.1 f;have q:=h.ok hi e;simp only[Function.comp,Jg,CI,Kq,q.mp]
 have e2:(W.map Wv.core).map (λc=>(c.1,c.2.1,c.2.2.1,(c.2.2.2.length:Int)))=W.map M9:=by
  rw[Afp];rfl
 have d:(Y_.map Jg).Perm (W.map M9):=by
  rw[<-e2];exact ((hp.map Jg).trans (e1▸Ahg _)).trans (h.rel.p.map _)
 have m:(W.map M9).Pairwise λa b=>a.1<=b.1:=by
  rw[AfM];exact h.rel.s.imp λq=>by simp only[M9];omega
 have u:(Y_.map Jg).Pairwise λa b=>a.1<=b.1:=by
  rw[AfM];exact hs
 refine ⟨List.Perm.eq_of_pairwise (λa b k r f e=>?_) u m d,λy v=>?_⟩
 ·have k:=d.mem_iff.1 k
  obtain ⟨x,t,rfl⟩:=Aen.1 k;obtain ⟨x2,g,rfl⟩:=Aen.1 r;obtain ⟨i,hi⟩:=Ae1.1 t;obtain ⟨j,l⟩:=Ae1.1 g;simp only[M9] at f e;have:=h.rel.uniq hi l U;subst this;rw[hi] at l;cases l;rfl
 have:=hp.mem_iff.1 v;simpa using (Afe.1 this).2
theorem LvI.liv_len(h:LvI n o nx P W A){Y_:List Vl}(hp:Y_.Perm (De (P.map Prod.fst)))(hs:Y_.Pairwise λa b=>a.id<=b.id):(De (P.map Prod.fst)).length=W.length:=by
 have:=congrArg List.length (h.list hp hs).1;rw[Aei,Aei] at this;rw[<-hp.length_eq,this]
theorem LvI.list_at(h:LvI n o nx P W A){Y_:List Vl}(hp:Y_.Perm (De (P.map Prod.fst)))(hs:Y_.Pairwise λa b=>a.id<=b.id){x:Wv}(g:W[i]?=some x):∃e,Y_[i]?=some e/\e.id=x.id/\e.st=1/\e.sz=x.sz/\e.q=x.q/\e.mp=(x.V.length:Int):=by
 obtain ⟨d,f⟩:=h.list hp hs;have c:(Y_.map Jg)[i]?=some (M9 x):=by rw[d,Aer,g];rfl
 rw[Aer] at c
 cases hy:Y_[i]? with
 | none=>rw[hy] at c;cases c
 | some e=>
  rw[hy] at c;simp only[AeV,Aeo,Jg,M9,AfG] at c;exact ⟨e,Z,c.1,f e (Aeg hy),c.2.1,c.2.2.1,c.2.2.2⟩
set_option maxHeartbeats 6000000 in
theorem WR {l p pp n:Nat} {nx:Int} (P:List Pl) (o:TB) (W:List Wv) (A:Ai) (f:LvI n o nx P W A):Ak 83 [Y m] [blk m [Y g,Y l,Y p] 35,voA l pp nx ([]) (P.map Prod.fst),wdA p nx W,A] (λv G=>v=.bool true/\G=[blk m [Y g,Y l,Y p] 35,voA l pp nx [] (P.map Prod.fst),wdA p nx W,A]):=by
 intro z R w H
 have a3:=f.bag;refine Ae func83 Z ntmps83 Z (Z2 11 [1,0,0] H Z (Au Z (call86 _) (Q1 f.hv) H.f1 ?_));rintro lv w _ ⟨Y_,⟨s,t⟩,rfl⟩ H;have b3:=f.liv_len s t;have a1:=H.sy 0 (·.slc);obtain ⟨al,cl,rfl⟩:=a1;refine Zc 5 Z ?_;replace H:=H.f3;obtain ⟨uw,H⟩:=H.wd;have a2:=H.sy 1 (·.slc);obtain ⟨aw,cw,rfl⟩:=a2;have b4:=H.sy 1 (·.rd.slcapZ);refine Z2 14 [2,4,0,0,0,0,0] H Z (Af Z (λh1=>U) (λh1=>?_));refine Zc 9 Z ?_;refine AF (σ:=Nat) (λi=>[(4,I (i:Int)),(0,Y m),(3,.slice al ((De (P.map Prod.fst)).length) cl)])
   (λi w=>Sep z (blk p [.slice aw W.length cw,I nx] 57::grow 62 4 (.slice aw W.length cw) W.length (Bq W)::grow 59 6 (.slice al ((De (P.map Prod.fst)).length) cl) ((De (P.map Prod.fst)).length) (AY Y_)::voA l pp nx ([]) (P.map Prod.fst)::blk m [Y g,Y l,Y p] 35::A::R) w/\(i<=W.length)) (λi=>W.length-i) 0
   fr_z ⟨H,AeR _⟩ ?_
 clear H;rintro i w ⟨y,hI⟩;have H:=y.l6;clear hI;refine Z0 9 [0] Z (Af Z (λh2=>?_) (λh2=>?_))
 ·refine Zc 5 Z ?_;obtain ⟨x,b⟩:∃x,W[i]?=some x:=⟨_,Aef U⟩;have h:=(H.rv 1 (·.rd)).at (BL b 0 _ Z)
  obtain ⟨e,c,q1,q2,q3,q4,q5⟩:=f.list_at s t b;obtain ⟨xi,xs,xq,xu,xV⟩:=x;dsimp only at q1 q3 q4 q5;have a4:InB A xu xV:=a3 _ (Aeg b);have a0:=H.sy 5 (λq=>(a4 _ q).slc);obtain ⟨ax,cx,rfl⟩:=a0;have a:=(H.rv 2 (·.rd)).at (AI c 0 _ Z);refine Z2 9 [2,4,0,0,0,0] H Z (Ad Z (Aj Z (z:=4) (j:=i) (r:=i*4) J Z Z Z U h U) (Ad Z (Bt Z Z (vs:=[I xi,I xs,I xq,.slice ax xV.length cx]) J O (AB (λk' u hk=>(H.rv 1 (·.rd)).at (BL b k' u hk)))) (Za 0 [] H Z ?_)));intro b1 w H;refine Z4 4 [0] H Z ?_;intro w H;refine Bu (Sep z _) J J H.drew (BS 2 [] Z J (AM Z Z Z (Aj Z (z:=6) (j:=i) (r:=i*6) J Z Z Z U a U) (AM Z Z Z (Bi Z (k:=0) (r:=i*6) J Z a Z) (AM Z Z Z (Ax Z Z J (λ_ hs=>(hs.rv 3 (·.rd)).at (AI c 0 _ Z))) (DS 4 [0,0] (λ_ b=>(AN (b.blk 0 Z) AH)) Z J Z (B8 46 Z (λh3=>U) (λh3=>?_)))))));refine BS 2 [] Z J (AM Z Z Z (Aj Z (z:=6) (j:=i) (r:=i*6) J Z Z Z U a U) (AM Z Z Z (Bi Z (k:=1) (r:=i*6+1) J Z a Z) (AM Z Z Z (Ax Z Z J (λ_ hs=>(hs.rv 3 (·.rd)).at (AI c 1 _ Z))) (BS 3 [] Z J (B8 54 Z (λh4=>U) (λh4=>?_))))));refine BS 2 [] Z J (AM Z Z Z (Aj Z (z:=6) (j:=i) (r:=i*6) J Z Z Z U a U) (AM Z Z Z (Bi Z (k:=2) (r:=i*6+2) J Z a Z) (AM Z Z Z (Ax Z Z J (λ_ hs=>(hs.rv 3 (·.rd)).at (AI c 2 _ Z))) (DS 5 [1,0] (λ_ b=>(AN (b.blk 0 Z) AH)) Z J Z (B8 64 Z (λh5=>U) (λh5=>?_))))));refine BS 2 [] Z J (AM Z Z Z (Aj Z (z:=6) (j:=i) (r:=i*6) J Z Z Z U a U) (AM Z Z Z (Bi Z (k:=3) (r:=i*6+3) J Z a Z) (AM Z Z Z (Ax Z Z J (λ_ hs=>(hs.rv 3 (·.rd)).at (AI c 3 _ Z))) (DS 5 [2,0] (λ_ b=>(AN (b.blk 0 Z) AH)) Z J Z (B8 74 Z (λh6=>U) (λh6=>?_))))));refine BS 2 [] Z J (AM Z Z Z (Aj Z (z:=6) (j:=i) (r:=i*6) J Z Z Z U a U) (AM Z Z Z (Bi Z (k:=5) (r:=i*6+5) J Z a Z) (AM Z Z Z (Ax Z Z J (λ_ hs=>(hs.rv 3 (·.rd)).at (AI c 5 _ Z))) (GL 5 [3,0,0,0] [] Z J (BB (λw y=>?_))))));have H:=y.l7;refine gn (Zc 1 Z (Af Z (λh7=>U) (λh7=>?_)));refine Z1 8 [] [(i:Int)+1] Z U ?_;replace H:=H.d;refine gf ?_;intro _ hF;refine ⟨(i+1),hF.cz,⟨H,?_⟩,?_⟩
  ·omega
  omega
 refine Zc 2 Z (gx (Zc 8 Z (Zr Z ?_)));have y:=Sep.toWd (W:=W) (H.pick 6 [0,1,4,3,5] Z);exact ⟨_,⟨Z,Z⟩,y.pick 4 [1,2,0,3] Z⟩
end
section
variable{Tb:Ai}
variable{n:Nat}{o:TB}{nx:Int}{P:List Pl}{W:List Wv}{A:Ai}
theorem Pp:∀{V:List Bk} {b:Bk},(V.Pairwise λa b=>a.1<b.1)->b∈V->B9 b.1 V=b.2
 | x::t,b,hs,hb=>by
  rw[List.pairwise_cons] at hs;rw[B9];rcases Aeq.1 hb with rfl|q
  ·rw[if_pos Z]
  rw[if_neg (by have:=hs.1 b q;omega)];exact Pp hs.2 q
theorem LvI.w_at(h:LvI n o nx P W A){x:Wv}(d:x∈W){k:Nat}{b:Bk}(a:x.V[k]?=some b):B9 b.1 x.V=b.2/\0<=b.1/\b.1<x.sz:=by
 obtain ⟨j,g⟩:=Ae1.1 d;obtain ⟨i,p,hi,hs,e⟩:=h.rel.back g;have q:=h.ok hi hs;have a:=Aeg a;simp only[Wv.core,CI,AfG] at e;obtain ⟨_,e2,_,f⟩:=e;rw[f] at a ⊢;have hs:=q.root.srt;refine ⟨Pp ?_ a,?_⟩
 ·unfold A7;rw[AfM];exact hs.1
 obtain ⟨y,c,rfl⟩:=Aen.1 a;have l:=hs.2 y c;have m:=q.key y c;dsimp only;exact ⟨by omega,by omega⟩
theorem Mr(V:List Bk)(at_:Int):rdB V at_ (1:Int).toNat=B9 at_ V:=by
 show rdB V at_ 0++B9 (at_+((0:Nat):Int)) V=_;simp[rdB]
set_option maxHeartbeats 8000000 in
theorem Adr {pw pp mb n:Nat} {nx:Int} (P:List Pl) (o:TB) (W:List Wv) (A:Ai) (hL:LvI n o nx P W A) (b2:mb<=1000000000):Ak 43 [Y g,Y pw] [voA g pp nx ([]) (P.map Prod.fst),trA Tb pp mb n o none,wdA pw nx W,A] (λv G=>v=.bool true/\G=[voA g pp nx [] (P.map Prod.fst),trA Tb pp mb n o none,wdA pw nx W,A]):=by
 intro z R w H
 have c5:=hL.bag;have hv:=hL.hv;refine Ae func43 Z ntmps43 Z (Zc 8 Z (Au Z (call86 _) (Q1 hL.hv) H ?_));rintro lv w _ ⟨Y_,⟨b7,b8⟩,rfl⟩ H;have d8:=hL.liv_len b7 b8;have c3:=H.sy 0 (·.slc);obtain ⟨al,cl,rfl⟩:=c3;refine Zc 5 Z ?_;replace H:=H.f3;obtain ⟨uw,H⟩:=H.wd;have c4:=H.sy 1 (·.slc);obtain ⟨aw,cw,rfl⟩:=c4;have e0:=H.sy 1 (·.rd.slcapZ);refine AS (Sep z (blk pw [.slice aw W.length cw,I nx] 57::R)) 18 Z J (A4 H λw p=>?_);have H:=p.l6;refine AZ [0,1,2,3,4,5,6,7] [0,0,0,0] [] (by exact H.pick 6 [0] Z) Z J Z (AD 23 (v:=.bool false) Z (congrArg Value.bool (decide_eq_false U)) (AZ [8,9,12,13,14,15] [1,0,0] [] (by exact H.pick 6 [0] Z) Z J Z (AE [10] J O (Al (Br Z Z Z Z Z Z (λw=>call9 _ w) (Ic hv O) H.f3 Z ?_)))));rintro _ w _ ⟨cv,cs,rfl,rfl⟩ H;refine Az (H.pick 8 [3] Z) (BQ 11 Z J J J Z Z Z (OL (v:=I nx) Z Z J) (H.pick 8 [3] Z) (AZ [16,17] [0] [] (by exact H.pick 8 [3] Z) Z J Z (a_done J (gn (Zc 1 Z (Af Z (λh1=>?_) (λh1=>?_)))))))
 ·exact absurd Z h1
 refine Zc 9 Z ?_;refine AF (σ:=Nat) (λi=>[(6,I (i:Int)),(0,Y g),(1,Y pw),(5,.slice al ((De (P.map Prod.fst)).length) cl)])
   (λi w=>Sep z (grow 59 6 cv ((P.map Prod.fst).length) (AY (P.map Prod.fst))::B4 cs ([])::voA g pp nx ([]) (P.map Prod.fst)::blk pw [.slice aw W.length cw,I nx] 57::grow 62 4 (.slice aw W.length cw) W.length (Bq W)::grow 59 6 (.slice al ((De (P.map Prod.fst)).length) cl) ((De (P.map Prod.fst)).length) (AY Y_)::trA Tb pp mb n o none::A::R) w/\(i<=W.length)) (λi=>W.length-i) 0
   fr_z ⟨H,AeR _⟩ ?_
 clear H;rintro i w ⟨p,hI⟩;have H:=p.l8;clear hI;refine Z0 9 [0] Z (Af Z (λh2=>?_) (λh2=>?_))
 ·refine Zc 5 Z ?_;obtain ⟨x,c⟩:∃x,W[i]?=some x:=⟨_,Aef U⟩;have b3:=(H.rv 4 (·.rd)).at (BL c 0 _ Z)
  obtain ⟨e,he,q1,q2,q3,q4,q5⟩:=hL.list_at b7 b8 c;obtain ⟨xi,xs,xq,xu,xV⟩:=x;dsimp only at q1 q3 q4 q5;have a1:InB A xu xV:=c5 _ (Aeg c);have c0:=H.sy 7 (λq=>(a1 _ q).slc);obtain ⟨ax,cx,rfl⟩:=c0;have a0:=(H.rv 5 (·.rd)).at (AI he 0 _ Z);have b9:=hL.w (Aeg c);dsimp only at b9;have a9:=λk b hb=>hL.w_at (Aeg c) (k:=k) (b:=b) hb;dsimp only at a9;refine Z2 6 [0,3,0] H Z (Ad Z (Aj Z (z:=4) (j:=i) (r:=i*4) J Z Z Z U b3 U) (Ad Z (Bt Z Z (vs:=[I xi,I xs,I xq,.slice ax xV.length cx]) J O (AB (λk' u hk=>(H.rv 4 (·.rd)).at (BL c k' u hk)))) (Za 0 [] H Z ?_)));intro b1 w H;refine Z4 5 [0] H Z ?_;intro w H;refine Bu (Sep z _) J J H.drew (BS 2 [] Z J (AM Z Z Z (Aj Z (z:=6) (j:=i) (r:=i*6) J Z Z Z U a0 U) (AM Z Z Z (Bi Z (k:=0) (r:=i*6) J Z a0 Z) (AM Z Z Z (Ax Z Z J (λ_ hs=>(hs.rv 6 (·.rd)).at (AI he 0 _ Z))) (DS 4 [0,0] (λ_ c=>(AN (c.blk 0 Z) AH)) Z J Z (B8 55 Z (λh3=>U) (λh3=>?_)))))));refine BS 2 [] Z J (AM Z Z Z (Aj Z (z:=6) (j:=i) (r:=i*6) J Z Z Z U a0 U) (AM Z Z Z (Bi Z (k:=2) (r:=i*6+2) J Z a0 Z) (AM Z Z Z (Ax Z Z J (λ_ hs=>(hs.rv 6 (·.rd)).at (AI he 2 _ Z))) (DS 5 [1,0] (λ_ c=>(AN (c.blk 0 Z) AH)) Z J Z (B8 65 Z (λh4=>U) (λh4=>?_))))));refine BS 2 [] Z J (AM Z Z Z (Aj Z (z:=6) (j:=i) (r:=i*6) J Z Z Z U a0 U) (AM Z Z Z (Bi Z (k:=3) (r:=i*6+3) J Z a0 Z) (AM Z Z Z (Ax Z Z J (λ_ hs=>(hs.rv 6 (·.rd)).at (AI he 3 _ Z))) (DS 5 [2,0] (λ_ c=>(AN (c.blk 0 Z) AH)) Z J Z (B8 75 Z (λh5=>U) (λh5=>?_))))));refine BS 2 [] Z J (AM Z Z Z (Aj Z (z:=6) (j:=i) (r:=i*6) J Z Z Z U a0 U) (AM Z Z Z (Bi Z (k:=5) (r:=i*6+5) J Z a0 Z) (AM Z Z Z (Ax Z Z J (λ_ hs=>(hs.rv 6 (·.rd)).at (AI he 5 _ Z))) (GL 5 [3,0,0,0] [] Z J (BB (λw p=>?_))))));have H:=p.l9;refine gn (Zc 1 Z (Af Z (λh6=>U) (λh6=>?_)));refine Zc 9 Z ?_;refine AF (σ:=Nat) (λt=>[(8,I (t:Int)),(0,Y g),(1,Y pw),(5,.slice al ((De (P.map Prod.fst)).length) cl),(6,I (i:Int)),(7,Y b1)])
    (λt w=>Sep z (blk b1 [I xi,I xs,I xq,.slice ax xV.length cx] 62::grow 59 6 cv ((P.map Prod.fst).length) (AY (P.map Prod.fst))::B4 cs ([])::voA g pp nx ([]) (P.map Prod.fst)::blk pw [.slice aw W.length cw,I nx] 57::grow 62 4 (.slice aw W.length cw) W.length (Bq W)::grow 59 6 (.slice al ((De (P.map Prod.fst)).length) cl) ((De (P.map Prod.fst)).length) (AY Y_)::trA Tb pp mb n o none::A::R) w/\((t:Int)<=xs)) (λt=>xs.toNat-t) 0
    fr_z ⟨H,U⟩ ?_
  clear H;rintro t w ⟨p,hI⟩;have H:=p.l9;have ht:=hI;clear hI;refine Z2 8 [1,0,0,0] H Z (An 90 Z (λh7=>?_) (λh7=>?_))
  ·refine Z0 5 [0] Z (Af Z (λh8=>?_) (λh8=>?_))
   ·refine Z2 10 [0,0,0] H Z (Au Z (call13 _) (F1 P Z hL.inv b2 xi (t:Int) 1 U U) H.f7.f4 ?_);rintro _ w _ (⟨a6,rfl,rfl⟩|⟨i9,e9,L9,⟨a4,a2,y⟩,(⟨a3,rfl,rfl⟩|⟨a3,c2,rfl,rfl⟩)⟩) p
    ·exact (by obtain ⟨e9,a7,q1,q2⟩:=hL.back c Z;exact absurd ⟨q1,q2⟩ (a6 e9 a7))
    ·exact (by have f:=hL.both a4 a2 c y.symm;have a8:=f.1;dsimp only at a8;exact absurd (by unfold Bp;rw[if_pos ⟨Z,by omega,by omega⟩,if_pos U]) a3)
    have H:=p.l10;have f:=(hL.both a4 a2 c y.symm).2.2;dsimp only at f;rw[<-f,Mr] at H;refine Zc 8 Z ?_;replace H:=H.f3;refine AS (Sep z (blk b1 [I xi,I xs,I xq,.slice ax xV.length cx] 62::grow 5 1 c2 ((B9 (t:Int) xV).length) ((B9 (t:Int) xV).map u8)::R)) 10 Z J (A4 H λw p=>?_);have H:=p.l10;refine AZ [0,1,2,3] [4] [] (by exact H.pick 10 [0,1] Z) Z J Z (BQ 4 Z J J J Z Z Z (Cq (l:=B9 (t:Int) xV) Z J J Z (λ_ hs=>hs.rv 1 (·.rd))) (H.pick 10 [0,1] Z) (AZ [5,6] [0,4] [] (by exact H.pick 10 [0,1] Z) Z J Z (AE [7] J O (Al (Br Z Z Z Z Z Z (λw=>call87 _ w) (TY a1) H.f9 Z ?_)))));rintro _ w _ ⟨rfl,rfl⟩ H;refine Az (H.pick 10 [1,2] Z) (BQ 8 Z J J J Z Z Z (KC (l:=B9 (t:Int) xV) (m:=B9 (t:Int) xV) Z J Z Z) (H.pick 10 [1,2] Z) (AZ [9] [] [] (by exact H.pick 10 [1,2] Z) Z J Z (a_done J (gn (Zc 1 Z (Af Z (λh9=>?_) (λh9=>?_)))))))
    ·first|exact absurd rfl h9|exact absurd a5.1 h9
    refine Z1 8 [] [(t:Int)+1] Z U ?_;replace H:=H.f2.d.f3.f8.f8.f8.f6.f8.f8.f8;refine gf ?_;intro _ hF;refine ⟨(t+1),hF.cz,⟨H,?_⟩,?_⟩
    ·omega
    omega
   refine Zc 2 Z (gx (Zc 8 Z ?_));refine AF (σ:=Nat) (λs=>[(11,I (s:Int)),(0,Y g),(1,Y pw),(5,.slice al ((De (P.map Prod.fst)).length) cl),(6,I (i:Int)),(7,Y b1),(8,I (t:Int))])
     (λs w=>Sep z (blk b1 [I xi,I xs,I xq,.slice ax xV.length cx] 62::grow 59 6 cv ((P.map Prod.fst).length) (AY (P.map Prod.fst))::B4 cs ([])::voA g pp nx ([]) (P.map Prod.fst)::blk pw [.slice aw W.length cw,I nx] 57::grow 62 4 (.slice aw W.length cw) W.length (Bq W)::grow 59 6 (.slice al ((De (P.map Prod.fst)).length) cl) ((De (P.map Prod.fst)).length) (AY Y_)::trA Tb pp mb n o none::A::R) w/\(s<=xV.length)) (λs=>xV.length-s) 0
     fr_z ⟨H,AeR _⟩ ?_
   clear H;rintro s w ⟨p,hI⟩;have H:=p.l9;clear hI;refine Z2 10 [3,0,0,0] H Z (Af Z (λc1=>?_) (λc1=>?_))
   ·refine Zc 5 Z ?_;obtain ⟨b,hb⟩:∃b,xV[s]?=some b:=⟨_,Aef U⟩;have a5:=a9 s b hb
    have a:=(H.rv 8 (a1 _)).at (CP hb).1;replace H:=H.f8.f1;refine Bf (Sep z (blk b1 [I xi,I xs,I xq,.slice ax xV.length cx] 62::A::R)) 15 Z J (A4 H λw p=>?_);have H:=p.l9;refine Bo [0,1,2,3,4,5] [0,0,3,0] J (λ_ c=>(AN (c.blk 0 Z) AH)) (by exact H.pick 9 [0,1] Z) Z J Z Z (By 6 J Z Z J J J Z Z Z (Aj Z (z:=2) (j:=s) (r:=s*2) J Z Z Z U a U) (H.pick 9 [0,1] Z) (By 7 J Z Z J J J Z Z Z (Bi Z (k:=0) (r:=s*2) J Z a Z) (H.pick 9 [0,1] Z) (By 8 J Z Z J J J Z Z Z (Ax Z Z J (λ_ hs=>(hs.rv 1 (a1 _)).at (CP hb).1)) (H.pick 9 [0,1] Z) (Ay [9] J O (Al (Br Z Z Z Z Z Z (λw=>call13 _ w) (F1 P Z hL.inv b2 xi b.1 1 U U) H.f8.f5 Z ?_))))));rintro _ w _ (⟨a6,rfl,rfl⟩|⟨i9,e9,L9,⟨a4,a2,y⟩,(⟨a3,rfl,rfl⟩|⟨a3,d9,rfl,rfl⟩)⟩) p
    ·exact (by obtain ⟨e9,a7,q1,q2⟩:=hL.back c Z;exact absurd ⟨q1,q2⟩ (a6 e9 a7))
    ·exact (by have f:=hL.both a4 a2 c y.symm;have a8:=f.1;dsimp only at a8;exact absurd (by unfold Bp;rw[if_pos ⟨Z,by omega,by omega⟩,if_pos U]) a3)
    have H:=p.l10;have f:=(hL.both a4 a2 c y.symm).2.2;dsimp only at f;rw[<-f,Mr] at H;refine Ar (λ_=>(H.pick 10 [3,4] Z)) (Bo [10,11,12,13] [] J (λ_ _=>AH) (by exact H.pick 10 [3,4] Z) Z J Z Z (Ay [14] J O (Al (BV Z Z Z Z (AQ Z Z) (Ar (λh=>absurd Z h) (AV J (gn (Zc 2 Z (Bu (Sep z _) J J H.drew (GL 4 [4] [] Z J (AM Z Z Z (Cq (l:=B9 b.1 xV) Z J J Z (λ_ hs=>hs.rv 0 (·.rd))) (DS 3 [3,0] (λ_ c=>(AN (c.blk 3 Z) AH)) Z J Z (AM Z Z Z (Aj Z (z:=2) (j:=s) (r:=s*2) J Z Z Z U a U) ?_)))))))))))));refine AM Z Z Z (Bi Z (k:=1) (r:=s*2+1) J Z a Z) (AM Z Z Z (Ax Z Z J (λ_ hs=>(hs.rv 4 (a1 _)).at (CP hb).2)) (AM Z Z Z (KC (l:=B9 b.1 xV) (m:=b.2) Z J Z Z) (BS 1 [] Z J (BB (λw p=>?_)))));have H:=p.l10;refine gn (Zc 1 Z (Af Z (λb6=>?_) (λb6=>?_)))
    ·first|exact absurd rfl b6|exact absurd a5.1 b6
    refine Z1 8 [] [(s:Int)+1] Z U ?_;replace H:=H.d.f3.f2.f8.f8.f8.f5.f8.f8.f8;refine gf ?_;intro _ hF;refine ⟨(s+1),hF.cz,⟨H,?_⟩,?_⟩
    ·omega
    omega
   refine Zc 2 Z (gx (Z1 8 [] [(i:Int)+1] Z U ?_));replace H:=H.d;refine gf ?_;intro _ hF;refine ⟨(i+1),hF.cz,⟨H,?_⟩,?_⟩
   ·omega
   omega
  refine Zc 8 Z (gx (Zc 8 Z ?_));refine AF (σ:=Nat) (λs=>[(11,I (s:Int)),(0,Y g),(1,Y pw),(5,.slice al ((De (P.map Prod.fst)).length) cl),(6,I (i:Int)),(7,Y b1),(8,I (t:Int))])
    (λs w=>Sep z (blk b1 [I xi,I xs,I xq,.slice ax xV.length cx] 62::grow 59 6 cv ((P.map Prod.fst).length) (AY (P.map Prod.fst))::B4 cs ([])::voA g pp nx ([]) (P.map Prod.fst)::blk pw [.slice aw W.length cw,I nx] 57::grow 62 4 (.slice aw W.length cw) W.length (Bq W)::grow 59 6 (.slice al ((De (P.map Prod.fst)).length) cl) ((De (P.map Prod.fst)).length) (AY Y_)::trA Tb pp mb n o none::A::R) w/\(s<=xV.length)) (λs=>xV.length-s) 0
    fr_z ⟨H,AeR _⟩ ?_
  clear H;rintro s w ⟨p,hI⟩;have H:=p.l9;clear hI;refine Z2 10 [3,0,0,0] H Z (Af Z (λc6=>?_) (λc6=>?_))
  ·refine Zc 5 Z ?_;obtain ⟨b,hb⟩:∃b,xV[s]?=some b:=⟨_,Aef U⟩;have a5:=a9 s b hb
   have a:=(H.rv 8 (a1 _)).at (CP hb).1;replace H:=H.f8.f1;refine Bf (Sep z (blk b1 [I xi,I xs,I xq,.slice ax xV.length cx] 62::A::R)) 15 Z J (A4 H λw p=>?_);have H:=p.l9;refine Bo [0,1,2,3,4,5] [0,0,3,0] J (λ_ c=>(AN (c.blk 0 Z) AH)) (by exact H.pick 9 [0,1] Z) Z J Z Z (By 6 J Z Z J J J Z Z Z (Aj Z (z:=2) (j:=s) (r:=s*2) J Z Z Z U a U) (H.pick 9 [0,1] Z) (By 7 J Z Z J J J Z Z Z (Bi Z (k:=0) (r:=s*2) J Z a Z) (H.pick 9 [0,1] Z) (By 8 J Z Z J J J Z Z Z (Ax Z Z J (λ_ hs=>(hs.rv 1 (a1 _)).at (CP hb).1)) (H.pick 9 [0,1] Z) (Ay [9] J O (Al (Br Z Z Z Z Z Z (λw=>call13 _ w) (F1 P Z hL.inv b2 xi b.1 1 U U) H.f8.f5 Z ?_))))));rintro _ w _ (⟨a6,rfl,rfl⟩|⟨i9,e9,L9,⟨a4,a2,y⟩,(⟨a3,rfl,rfl⟩|⟨a3,d7,rfl,rfl⟩)⟩) p
   ·exact (by obtain ⟨e9,a7,q1,q2⟩:=hL.back c Z;exact absurd ⟨q1,q2⟩ (a6 e9 a7))
   ·exact (by have f:=hL.both a4 a2 c y.symm;have a8:=f.1;dsimp only at a8;exact absurd (by unfold Bp;rw[if_pos ⟨Z,by omega,by omega⟩,if_pos U]) a3)
   have H:=p.l10;have f:=(hL.both a4 a2 c y.symm).2.2;dsimp only at f;rw[<-f,Mr] at H;refine Ar (λ_=>(H.pick 10 [3,4] Z)) (Bo [10,11,12,13] [] J (λ_ _=>AH) (by exact H.pick 10 [3,4] Z) Z J Z Z (Ay [14] J O (Al (BV Z Z Z Z (AQ Z Z) (Ar (λh=>absurd Z h) (AV J (gn (Zc 2 Z (Bu (Sep z _) J J H.drew (GL 4 [4] [] Z J (AM Z Z Z (Cq (l:=B9 b.1 xV) Z J J Z (λ_ hs=>hs.rv 0 (·.rd))) (DS 3 [3,0] (λ_ c=>(AN (c.blk 3 Z) AH)) Z J Z (AM Z Z Z (Aj Z (z:=2) (j:=s) (r:=s*2) J Z Z Z U a U) ?_)))))))))))));refine AM Z Z Z (Bi Z (k:=1) (r:=s*2+1) J Z a Z) (AM Z Z Z (Ax Z Z J (λ_ hs=>(hs.rv 4 (a1 _)).at (CP hb).2)) (AM Z Z Z (KC (l:=B9 b.1 xV) (m:=b.2) Z J Z Z) (BS 1 [] Z J (BB (λw p=>?_)))));have H:=p.l10;refine gn (Zc 1 Z (Af Z (λb5=>?_) (λb5=>?_)))
   ·first|exact absurd rfl b5|exact absurd a5.1 b5
   refine Z1 8 [] [(s:Int)+1] Z U ?_;replace H:=H.d.f3.f2.f8.f8.f8.f5.f8.f8.f8;refine gf ?_;intro _ hF;refine ⟨(s+1),hF.cz,⟨H,?_⟩,?_⟩
   ·omega
   omega
  refine Zc 2 Z (gx (Z1 8 [] [(i:Int)+1] Z U ?_));replace H:=H.d;refine gf ?_;intro _ hF;refine ⟨(i+1),hF.cz,⟨H,?_⟩,?_⟩
  ·omega
  omega
 refine Zc 2 Z (gx (Zc 8 Z (Zr Z ?_)));have p:=Sep.toWd (W:=W) (H.pick 8 [3,4,2,6,7] Z);exact ⟨_,⟨Z,Z⟩,p.pick 4 [1,2,0,3] Z⟩
end
end Go.Proofs.YtkblhjdljaoghaaGreatDoor
