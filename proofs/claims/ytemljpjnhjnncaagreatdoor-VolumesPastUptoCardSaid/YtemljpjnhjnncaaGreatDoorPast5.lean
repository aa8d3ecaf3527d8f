/-
  Steps to: Law VolumesPast: snapshots keep the past. No condition.
-/
import Derived.Test.YtemljpjnhjnncaaGreatDoorPast4
set_option maxRecDepth 100000
set_option linter.unusedSimpArgs false
set_option linter.unusedVariables false
open Go.Proofs.Tryz
namespace Go.Proofs.YtemljpjnhjnncaaGreatDoor
open Go.RowKit
variable{n m i j e g r:Nat}{t s p q:Int}{V:List Value}{B S:List UInt8}{T:TypeId}{L:List (Nat×Value)}{v u y:Value}{z:World}{l:List Int}{R:List Nat}{N:Act->World->Prop}{b c:Bool}{x:Operand}{o:List Oper}{K:Value->World->Prop}{C:Nat->Nat}{P:Program}{F:Nat->Bool}{a:Act}
variable{Γ:List Ai}{h:Hp}{A:Ai}
variable{D:Dsk}
variable{X:List E}
theorem Z6{vs:List Vl}{e:Vl}(h:vs[i]?=some e):Be (vs.take i)++e.cells=Be (vs.take (i+1)):=by
 rw[AeM,h,JM];simp[Be]
theorem T5{e:Vl}(a:e.Fit):Aj 101 [.agg #[I e.id,I e.st,I e.sz,I e.q,I e.r,I e.mp]] [] (λv G=>v=.bool true/\G=[]):=by
 intro z R w H;have m:=a.id;have h:=a.st;have j:=a.sz;have l:=a.q;have k:=a.r;have i:=a.mp;refine Ae func101 Z ntmps101 Z (Za 2 [] H Z ?_);intro n w H;refine Z2 7 [0,0,0] H Z (z_E_ Z (call99 _) (CY) H ?_);intro w H;refine Zc 1 Z (An 6 Z (λb=>?_) (λb=>?_))
 ·refine Z2 2 [1,0,0] H Z (z_E_ Z (call99 _) (CY) H ?_);intro w H;refine Zc 2 Z (An 11 Z (λf=>?_) (λf=>?_))
  ·refine Z2 2 [2,0,0] H Z (z_E_ Z (call99 _) (CY) H ?_);intro w H;refine Zc 2 Z (An 16 Z (λc=>?_) (λc=>?_))
   ·refine Z2 2 [3,0,0] H Z (z_E_ Z (call99 _) (CY) H ?_);intro w H;refine Zc 2 Z (An 21 Z (λd=>?_) (λd=>?_))
    ·refine Z2 2 [4,0,0] H Z (z_E_ Z (call99 _) (CY) H ?_);intro w H;refine Zc 2 Z (An 26 Z (λg=>?_) (λg=>?_))
     ·refine Z2 2 [5,0,0] H Z (z_E_ Z (call99 _) (CY) H ?_);intro w H;refine Zc 5 Z (Zr Z ?_);exact ⟨_,⟨congrArg Value.bool (by first|rfl|exact decide_eq_true U),Z⟩,H.perm 1 [] Z Z⟩
     (exfalso;omega)
    (exfalso;omega)
   (exfalso;omega)
  (exfalso;omega)
 (exfalso;omega)
set_option maxHeartbeats 2000000 in
theorem Jd (nx:Int) (sk:List Int) (vs:List Vl) {B:Ai} {sv:Value} (hA:∀h,A h->rdH 6 y vs.length (Be vs) h) (hB:∀h,B h->rdH 1 sv sk.length (sk.map I) h) (hs:sk.length<=8) (hv:vs.length=8) (a5:0<=nx/\nx<=1073741824) (a1:∀x∈sk,0<=x/\x<=1023) (hf:∀e∈vs,e.Fit):Aj 54 [.agg #[I nx,y,sv]] [A,B] (λv G=>∃pw:Nat,v=.tuple #[.slice (some ⟨pw,0,none⟩) 240 240,I 0]/\G=[blk pw (A7 (AK (Cd nx sk vs vs.length)) ((21+19*8:Nat):Int)) 167,A,B]):=by
 intro z R w H;replace H:=H.l2;obtain ⟨l,g,rfl⟩:=H.sy 0 (λq=>(hA _ q).slc);obtain ⟨c,f,rfl⟩:=H.sy 1 (λq=>(hB _ q).slc);refine Ae func54 Z ntmps54 Z (Za 2 [] H Z ?_);intro m w H;refine Z2 9 [0,0,0] H Z (z_E_ Z (call99 _) (CY) H ?_);intro w H;replace H:=H.l3;refine Ab Z (AH Z Z) (Zc 1 Z (An 13 Z (λh1=>U) (λh1=>?_)));refine Z2 6 [2,0,0,0] H Z (An 19 Z (λh2=>U) (λh2=>?_));refine Z2 7 [1,0,0,0] H Z (Af Z (λh3=>U) (λh3=>?_));refine Zc 4 Z (AP Z (BZ (P:=prog) H Z (zs:=(A7 (AK []) 0)) J) ?_);rintro _ w ⟨b,rfl,H⟩;replace H:=H.l4;refine Z2 6 [0,1,0] H Z (z_E_ Z (call100 _) (CH 0 4 nx (AU (by first|omega|(simp[Ah]<;>omega))) U) H ?_);intro w H;replace H:=H.l4;rw[show Bx (AK []) (Ag 4 nx) 0=AK (Ag 4 nx) from BH Z (by first|omega|(simp[Ah]<;>omega))] at H;have H:Sep z (blk b (A7 (AK (Ag 4 nx)) 4) 167::blk m [I nx,.slice l vs.length g,.slice c sk.length f] 83::A::B::R) w:=H;refine Z2 7 [2,1,0] H Z (z_E_ Z (call100 _) (CH 4 1 (sk.length:Int) (AU (by first|omega|(simp[Ah]<;>omega))) U) H ?_);intro w H;replace H:=H.l4;rw[show Bx (AK (Ag 4 nx)) (Ag 1 (sk.length:Int)) 4=AK (Ag 4 nx++Ag 1 (sk.length:Int)) from BH (by first|omega|(simp[Ah]<;>omega)) (by first|omega|(simp[Ah]<;>omega))] at H;have H:Sep z (blk b (A7 (AK (Ag 4 nx++Ag 1 (sk.length:Int))) 5) 167::blk m [I nx,.slice l vs.length g,.slice c sk.length f] 83::A::B::R) w:=H;refine Z2 12 [2,1,0] H Z ?_;refine AD (σ:=Nat) (λi=>[(35,I (i:Int)),(1,Y m),(4,Y b),(33,.slice c sk.length f),(34,I (sk.length:Int))])
   (λi w=>Sep z (blk b (A7 (AK (Ez nx sk i)) ((5+2*i:Nat):Int)) 167::blk m [I nx,.slice l vs.length g,.slice c sk.length f] 83::A::B::R) w/\(i<=sk.length)) (λi=>sk.length-i) 0
   fr_z ⟨(by simpa [Ez] using H),AeN _⟩ ?_
 clear H;rintro i w ⟨H',s⟩;have H:=H'.l4;have o:=s;clear s;have n:=II nx sk o;refine Z0 6 [0] Z (Af Z (λh4=>?_) (λh4=>?_))
 ·refine Zc 5 Z ?_;obtain ⟨x,hx⟩:∃x,sk[i]?=some x:=⟨_,Aef U⟩;have a4:=a1 x (Aee hx)
  have t:=(H.rd 3 Z hB).at (j:=i) (u:=I x) (by simp[hx]);refine Zc 1 Z (Ab Z (Ak Z (z:=1) (j:=i) (r:=i) J Z Z Z U t U) (Ab Z (Ay Z Z J (Az t)) (Zc 7 Z (z_E_ Z (call99 _) (CY) H ?_))));intro w H;replace H:=H.l4;refine Ab Z (AH Z Z) (Zc 2 Z (Af Z (λh5=>U) (λh5=>?_)));refine Zc 4 Z (z_E_ Z (call100 _) (CH (5+2*i) 2 x (AU (by first|omega|(simp[Ah,n]<;>omega))) U) H ?_);intro w H;replace H:=H.l4;rw[show ((5+2*i+2:Nat):Int)=(((5+2*(i+1):Nat):Int):Int) from by omega] at H;rw[show Bx (AK (Ez nx sk i)) (Ag 2 x) (5+2*i)=AK (Ez nx sk i++Ag 2 x) from BH (by first|omega|(simp[Ah,n]<;>omega)) (by first|omega|(simp[Ah,n]<;>omega))] at H;have H:Sep z (blk b (A7 (AK (Ez nx sk i++Ag 2 x)) ((5+2*(i+1):Nat):Int)) 167::blk m [I nx,.slice l vs.length g,.slice c sk.length f] 83::A::B::R) w:=H;refine Z1 7 [] [(i:Int)+1] Z U (gf ?_);intro _ hF;refine ⟨(i+1),hF.cz,⟨(by rw[T0 nx hx];exact H),?_⟩,?_⟩
  ·omega
  omega
 obtain rfl:i=sk.length:=by omega
 refine Zc 2 Z (gx (Z0 5 [256] Z (AC Z Z (Al 0 H Z Z Z Z (vs:=[I 21]) Z (Ad Z Aw) J (by rw[Fj (AU (by first|omega|(simp[Ah,n]<;>omega)))];simp) (out:=(A7 (AK (Ez nx sk sk.length)) 21)) (Ju (AU (by first|omega|(simp[Ah,n]<;>omega))))) ?_)));rintro w H;replace H:=H.l4;rw[T4 nx hs vs] at H;refine Z2 12 [1,1,0] H Z ?_;refine AD (σ:=Nat) (λi=>[(49,I (i:Int)),(4,Y b),(47,.slice l vs.length g),(48,I (vs.length:Int))])
   (λi w=>Sep z (blk b (A7 (AK (Cd nx sk vs i)) ((21+19*i:Nat):Int)) 167::blk m [I nx,.slice l vs.length g,.slice c sk.length f] 83::A::B::R) w/\(i<=vs.length)) (λi=>vs.length-i) 0
   fr_z ⟨H,AeN _⟩ ?_
 clear H;rintro i w ⟨H',s⟩;have H:=H'.l4;have o:=s;clear s;have a:=EA nx hs o;refine Z0 6 [0] Z (Af Z (λh6=>?_) (λh6=>?_))
 ·refine Zc 5 Z ?_;obtain ⟨e,he⟩:∃e,vs[i]?=some e:=⟨_,Aef U⟩;have a2:=hf e (Aee he)
  have a0:=(H.rd 2 Z hA).at (AV he 0 _ Z);refine Zc 1 Z (Ab Z (Ak Z (z:=6) (j:=i) (r:=i*6) J Z Z Z U a0 U) (Ab Z (Bq Z Z (vs:=e.cells) J (by simp[Vl.cells]) (Az (λk u hk=>(H.rd 2 Z hA).at (AV he k u hk)))) (Za 0 [] H Z ?_)));intro p w H;refine Z4 7 [0,0,6] H Z ?_;intro w H;refine z_E_ Z (call101 _) (T5 a2) H ?_;intro w H;refine Z2 10 [0,0,0] H Z (z_E_ Z (call100 _) (CH (21+19*i) 4 e.id (AU (by first|omega|(simp[Ah,a]<;>omega))) U) H.f1 ?_);intro w H;replace H:=H.l5;rw[show Bx (AK (Cd nx sk vs i)) (Ag 4 e.id) (21+19*i)=AK (Cd nx sk vs i++Ag 4 e.id) from BH (by first|omega|(simp[Ah,a]<;>omega)) (by first|omega|(simp[Ah,a]<;>omega))] at H;have H:Sep z (blk b (A7 (AK (Cd nx sk vs i++Ag 4 e.id)) ((21+19*i+4:Nat):Int)) 167::blk p [I e.id,I e.st,I e.sz,I e.q,I e.r,I e.mp] 77::blk m [I nx,.slice l vs.length g,.slice c sk.length f] 83::A::B::R) w:=H;refine Z2 6 [1,1,0] H Z (z_E_ Z (call100 _) (CH (21+19*i+4) 1 e.st (AU (by first|omega|(simp[Ah,a]<;>omega))) U) H ?_);intro w H;replace H:=H.l5;rw[show Bx (AK (Cd nx sk vs i++Ag 4 e.id)) (Ag 1 e.st) (21+19*i+4)=AK (Cd nx sk vs i++Ag 4 e.id++Ag 1 e.st) from BH (by first|omega|(simp[Ah,a]<;>omega)) (by first|omega|(simp[Ah,a]<;>omega))] at H;have H:Sep z (blk b (A7 (AK (Cd nx sk vs i++Ag 4 e.id++Ag 1 e.st)) ((21+19*i+5:Nat):Int)) 167::blk p [I e.id,I e.st,I e.sz,I e.q,I e.r,I e.mp] 77::blk m [I nx,.slice l vs.length g,.slice c sk.length f] 83::A::B::R) w:=H;refine Z2 6 [2,1,0] H Z (z_E_ Z (call100 _) (CH (21+19*i+5) 4 e.sz (AU (by first|omega|(simp[Ah,a]<;>omega))) U) H ?_);intro w H;replace H:=H.l5;rw[show Bx (AK (Cd nx sk vs i++Ag 4 e.id++Ag 1 e.st)) (Ag 4 e.sz) (21+19*i+5)=AK (Cd nx sk vs i++Ag 4 e.id++Ag 1 e.st++Ag 4 e.sz) from BH (by first|omega|(simp[Ah,a]<;>omega)) (by first|omega|(simp[Ah,a]<;>omega))] at H;have H:Sep z (blk b (A7 (AK (Cd nx sk vs i++Ag 4 e.id++Ag 1 e.st++Ag 4 e.sz)) ((21+19*i+9:Nat):Int)) 167::blk p [I e.id,I e.st,I e.sz,I e.q,I e.r,I e.mp] 77::blk m [I nx,.slice l vs.length g,.slice c sk.length f] 83::A::B::R) w:=H;refine Z2 6 [3,1,0] H Z (z_E_ Z (call100 _) (CH (21+19*i+9) 4 e.q (AU (by first|omega|(simp[Ah,a]<;>omega))) U) H ?_);intro w H;replace H:=H.l5;rw[show Bx (AK (Cd nx sk vs i++Ag 4 e.id++Ag 1 e.st++Ag 4 e.sz)) (Ag 4 e.q) (21+19*i+9)=AK (Cd nx sk vs i++Ag 4 e.id++Ag 1 e.st++Ag 4 e.sz++Ag 4 e.q) from BH (by first|omega|(simp[Ah,a]<;>omega)) (by first|omega|(simp[Ah,a]<;>omega))] at H;have H:Sep z (blk b (A7 (AK (Cd nx sk vs i++Ag 4 e.id++Ag 1 e.st++Ag 4 e.sz++Ag 4 e.q)) ((21+19*i+13:Nat):Int)) 167::blk p [I e.id,I e.st,I e.sz,I e.q,I e.r,I e.mp] 77::blk m [I nx,.slice l vs.length g,.slice c sk.length f] 83::A::B::R) w:=H;refine Z2 6 [4,1,0] H Z (z_E_ Z (call100 _) (CH (21+19*i+13) 2 e.r (AU (by first|omega|(simp[Ah,a]<;>omega))) U) H ?_);intro w H;replace H:=H.l5;rw[show Bx (AK (Cd nx sk vs i++Ag 4 e.id++Ag 1 e.st++Ag 4 e.sz++Ag 4 e.q)) (Ag 2 e.r) (21+19*i+13)=AK (Cd nx sk vs i++Ag 4 e.id++Ag 1 e.st++Ag 4 e.sz++Ag 4 e.q++Ag 2 e.r) from BH (by first|omega|(simp[Ah,a]<;>omega)) (by first|omega|(simp[Ah,a]<;>omega))] at H;have H:Sep z (blk b (A7 (AK (Cd nx sk vs i++Ag 4 e.id++Ag 1 e.st++Ag 4 e.sz++Ag 4 e.q++Ag 2 e.r)) ((21+19*i+15:Nat):Int)) 167::blk p [I e.id,I e.st,I e.sz,I e.q,I e.r,I e.mp] 77::blk m [I nx,.slice l vs.length g,.slice c sk.length f] 83::A::B::R) w:=H;refine Z2 5 [5,1,0] H Z (z_E_ Z (call100 _) (CH (21+19*i+15) 4 e.mp (AU (by first|omega|(simp[Ah,a]<;>omega))) U) H ?_);intro w H;replace H:=H.l5;rw[show ((21+19*i+19:Nat):Int)=(((21+19*(i+1):Nat):Int):Int) from by omega] at H;rw[show Bx (AK (Cd nx sk vs i++Ag 4 e.id++Ag 1 e.st++Ag 4 e.sz++Ag 4 e.q++Ag 2 e.r)) (Ag 4 e.mp) (21+19*i+15)=AK (Cd nx sk vs i++Ag 4 e.id++Ag 1 e.st++Ag 4 e.sz++Ag 4 e.q++Ag 2 e.r++Ag 4 e.mp) from BH (by first|omega|(simp[Ah,a]<;>omega)) (by first|omega|(simp[Ah,a]<;>omega))] at H;have H:Sep z (blk b (A7 (AK (Cd nx sk vs i++Ag 4 e.id++Ag 1 e.st++Ag 4 e.sz++Ag 4 e.q++Ag 2 e.r++Ag 4 e.mp)) ((21+19*(i+1):Nat):Int)) 167::blk p [I e.id,I e.st,I e.sz,I e.q,I e.r,I e.mp] 77::blk m [I nx,.slice l vs.length g,.slice c sk.length f] 83::A::B::R) w:=H;refine Z1 7 [] [(i:Int)+1] Z U ?_;replace H:=H.f1.d;refine gf ?_;intro _ hF;refine ⟨(i+1),hF.cz,⟨(by rw[T3 nx sk he];exact H),?_⟩,?_⟩
  ·omega
  omega
 obtain rfl:i=vs.length:=by omega
 refine Zc 2 Z (gx (Zc 4 Z (z_E_ Z (call102 _) (LW (AU (by first|omega|(simp[Ah,a]<;>omega)))) H ?_)));intro w H;refine Zc 5 Z (Zr Z ?_);rw[show 21+19*vs.length=21+19*8 by rw[hv]] at H;exact ⟨_,⟨b,Z,Z⟩,H.perm 4 [0,2,3] Z Z⟩
set_option maxHeartbeats 4000000 in
theorem T6 (b o c:Nat) (bd:List UInt8) (A:Ai) (g:∀h,A h->rdH 1 (.slice (some ⟨b,o,none⟩) 240 c) 240 (bd.map u8) h) (nx:Int) (sk:List Int) (vs:List Vl) (hs:sk.length<=8) (j:vs.length=8) (a7:0<=nx/\nx<=1073741824) (a5:∀x∈sk,0<=x/\x<=1023) (hf:∀e∈vs,e.Fit) (a:bd=Dr nx sk vs):Aj 115 [.slice (some ⟨b,o,none⟩) 240 c] [A] (λv G=>∃v1 v2:Value,(sk=[]->v2=.slice none 0 0)/\v=.tuple #[.agg #[I nx,v1,v2],.bool true]/\G=[grow 77 6 v1 vs.length (Be vs),grow 3 1 v2 sk.length (sk.map I),A]):=by
 intro z R w H;replace H:=H.l1;have c3:=H.sy 0 (λq=>(g _ q).cap);have g0:AY ((bd.drop 0).take 4)=nx:=by rw[a];exact Wx hs j a7
 have g1:AY ((bd.drop 4).take 1)=(sk.length:Int):=by rw[a];exact Wy hs j
 refine Ae func115 Z ntmps115 Z (Za 2 [] H Z ?_);intro s w H;refine Za 6 [] H Z ?_;intro p w H;refine Za 18 [0,4] H Z ?_;intro n w H;refine Z4 5 [0] H Z ?_;intro w H;refine z_E_ Z (call165 _) (CB 4 b o 240 (c) ((bd.drop 0).take 240) (λh q=>by have:=(g h q).cut (lo:=0) (m:=240) (c':=c) U U U;exact this) U U ((bd.drop 0).take 4) (by rw[AeF,AeG U]) (o+4) 236 (c-4) U U U) H.f3.f1 ?_;intro w H;replace H:=H.l4;refine AB 17 (v:=I nx) Z (congrArg I g0) (Za 1 [] H Z ?_);intro l w H;refine Z4 5 [0] H Z ?_;intro w H;refine z_E_ Z (call165 _) (CB 1 b (o+4) 236 ((c-4)) ((bd.drop 4).take 236) (λh q=>by have:=(g h q).cut (lo:=4) (m:=236) (c':=(c-4)) U U U;exact this) U U ((bd.drop 4).take 1) (by rw[AeF,AeG U]) (o+5) 235 (c-5) U U U) H.f2.f2 ?_;intro w H;replace H:=H.l5;refine AB 19 (v:=I (sk.length:Int)) Z (congrArg I g1) (Z0 10 [0] Z (Af Z (λh1=>U) (λh1=>?_)));refine Zc 4 Z ?_;replace H:=(H.nilg 3 1).l6;refine Zc 6 Z ?_;refine AD (σ:=Nat×Value) (λ⟨i,v⟩=>[(24,I (i:Int)),(2,Y s),(3,.bool false),(4,Y p),(5,Y n),(6,Y l),(7,I (sk.length:Int)),(23,I (sk.length:Int))])
   (λ⟨i,v⟩ w=>Sep z (grow 3 1 v i ((sk.take i).map I)::blk n [.slice (some ⟨b,(o+(5+2*i)),none⟩) (240-(5+2*i)) (c-(5+2*i))] 258::A::blk l [I nx,.slice none 0 0,v] 83::blk p [I 0,.slice none 0 0,.slice none 0 0] 83::blk s [I 0,.slice none 0 0,.slice none 0 0] 83::R) w/\(i<=sk.length/\(i=0->v=.slice none 0 0))) (λ⟨i,v⟩=>sk.length-i) ⟨0,.slice none 0 0⟩
   fr_z ⟨H,⟨AeN _,λ_=>rfl⟩⟩ ?_
 clear H;rintro ⟨i,v⟩ w ⟨f,y⟩;dsimp only at y f ⊢;have H:=f.l6;have sv:=H.sy 0 (·.slc);obtain ⟨a6,b0⟩:=y;refine Z0 6 [0] Z (Af Z (λh2=>?_) (λh2=>?_))
 ·refine Zc 4 Z ?_;obtain ⟨x,hx⟩:∃x,sk[i]?=some x:=⟨_,Aef U⟩;have b9:=a5 x (Aee hx)
  have gx:AY ((bd.drop (5+2*i)).take 2)=x:=by rw[a];exact Ach hs j hx b9
  replace H:=H.f3;refine Bp (Sep z (blk l [I nx,.slice none 0 0,v] 83::R)) 7 Z J (A4 H λw f=>?_);have H:=f.l6;refine Bv [0,1] [2,0] J (λ_ hx=>(AR (hx.blk 0 Z) AN)) (by exact H.pick 6 [0] Z) Z J Z Z (AF [2] J O (Am (Bt Z Z Z Z Z Z (λw=>call165 _ w) (CB 2 b (o+(5+2*i)) (240-(5+2*i)) ((c-(5+2*i))) ((bd.drop (5+2*i)).take (240-(5+2*i))) (λh q=>by have:=(g h q).cut (lo:=(5+2*i)) (m:=(240-(5+2*i))) (c':=(c-(5+2*i))) U U U;exact this) U U ((bd.drop (5+2*i)).take 2) (by rw[AeF,AeG U]) (o+(5+2*(i+1))) (240-(5+2*(i+1))) (c-(5+2*(i+1))) U U U) H.f3.f3 Z ?_)));rintro _ w _ ⟨rfl,rfl⟩ H;replace H:=H.l6;refine AB 28 (v:=I x) Z (congrArg I gx) (Au (λ_=>(H.pick 6 [2] Z)) (AF [3] J O (Am (B6 Z Z Z Z (AO H Z J BC Z (by decide) (by decide) (out:=[I x]) J) ?_))));rintro _ w ⟨b5,rfl,H⟩;replace H:=H.l7;refine Au (λ_=>(H.pick 7 [3] Z)) (AF [4] J O (Am (B6 Z Z Z Z (AW 4 H Z Z J BC Z Z (H.rv 0 (·.rd U U O Z)) (by simp[Value.oneCell']) U) ?_)));rintro v6 w f;have f:Sep z (blk b5 [I x] 3::blk n [.slice (some ⟨b,(o+(5+2*(i+1))),none⟩) (240-(5+2*(i+1))) (c-(5+2*(i+1)))] 258::A::blk l [I nx,.slice none 0 0,v] 83::grow 3 1 v6 (i+1) ((sk.take i).map I++[I x])::blk p [I 0,.slice none 0 0,.slice none 0 0] 83::blk s [I 0,.slice none 0 0,.slice none 0 0] 83::R) w:=f;have b8:((sk.take i).map I++[I x]:List Value)=(sk.take (i+1)).map I:=(D7 hx);rw[b8] at f;have H:=f.l7;have a8:=H.sy 4 (·.slc);refine Au (λ_=>(H.pick 7 [3] Z)) (Bv [5] [2] J (λ_ _=>AN) (by exact H.pick 7 [3] Z) Z J Z Z (AF [6] J O (Am (Bj Z Z Z (J1 3 H Z Z Z Z a8.cells a8.one J) ?_))));rintro w H;replace H:=H.l7;refine Au (λh=>absurd Z h) (Bo J (gn (Z1 6 [] [(i:Int)+1] Z U ?_)));replace H:=H.d.f5.f5.f4.f4.f4.f5;refine gf ?_;intro _ hF;refine ⟨⟨i+1,v6⟩,hF.cz,⟨H,?_⟩,?_⟩
  ·exact ⟨by dsimp only;omega,λq=>absurd q (by dsimp only;omega)⟩
  (dsimp only;omega)
 obtain rfl:i=sk.length:=by omega
 refine Zc 2 Z (gx (Z1 11 [] [8-(sk.length:Int)] Z U ?_));refine AD (σ:=Nat) (λi=>[(35,I (i:Int)),(2,Y s),(4,Y p),(5,Y n),(6,Y l),(34,I (8-(sk.length:Int)))])
   (λi w=>Sep z (grow 3 1 v sk.length ((sk.take sk.length).map I)::blk n [.slice (some ⟨b,(o+(5+2*sk.length+2*i)),none⟩) (240-(5+2*sk.length+2*i)) (c-(5+2*sk.length+2*i))] 258::A::blk l [I nx,.slice none 0 0,v] 83::blk p [I 0,.slice none 0 0,.slice none 0 0] 83::blk s [I 0,.slice none 0 0,.slice none 0 0] 83::R) w/\(i<=8-sk.length)) (λi=>8-sk.length-i) 0
   fr_z ⟨H,AeN _⟩ ?_
 clear H;rintro i w ⟨f,y⟩;have H:=f.l6;have a6:=y;clear y;refine Z0 6 [0] Z (Af Z (λh3=>?_) (λh3=>?_))
 ·refine Zc 6 Z (z_E_ Z (call165 _) (CB 2 b (o+(5+2*sk.length+2*i)) (240-(5+2*sk.length+2*i)) ((c-(5+2*sk.length+2*i))) ((bd.drop (5+2*sk.length+2*i)).take (240-(5+2*sk.length+2*i))) (λh q=>by have:=(g h q).cut (lo:=(5+2*sk.length+2*i)) (m:=(240-(5+2*sk.length+2*i))) (c':=(c-(5+2*sk.length+2*i))) U U U;exact this) U U ((bd.drop (5+2*sk.length+2*i)).take 2) (by rw[AeF,AeG U]) (o+(5+2*sk.length+2*(i+1))) (240-(5+2*sk.length+2*(i+1))) (c-(5+2*sk.length+2*(i+1))) U U U) H.f2.f2 ?_);intro w H;replace H:=H.l6;refine AB 37 (v:=I 0) Z (congrArg I (by rw[a];exact ZZ hs j U)) (Z1 11 [4] [(i:Int)+1] Z U ?_);replace H:=H.f5.f5.f5.f4.f4.f5;refine gf ?_;intro _ hF;refine ⟨(i+1),hF.cz,⟨H,?_⟩,?_⟩
  ·omega
  omega
 obtain rfl:i=8-sk.length:=by omega
 have b6:5+2*sk.length+2*(8-sk.length)=21:=by omega
 rw[b6] at H;refine Zc 2 Z (gx (Zc 4 Z ?_));have H:Sep z (grow 3 1 v sk.length ((sk.take sk.length).map I)::blk n [.slice (some ⟨b,(o+21),none⟩) 219 (c-21)] 258::A::blk l [I nx,.slice none 0 0,v] 83::blk p [I 0,.slice none 0 0,.slice none 0 0] 83::blk s [I 0,.slice none 0 0,.slice none 0 0] 83::R) w:=H;replace H:=(H.nilg 77 6).l7;refine Zc 5 Z ?_;refine AD (σ:=Nat×Value) (λ⟨i,u⟩=>[(41,I (i:Int)),(2,Y s),(4,Y p),(5,Y n),(6,Y l)])
   (λ⟨i,u⟩ w=>Sep z (grow 77 6 u i (Be (vs.take i))::grow 3 1 v sk.length ((sk.take sk.length).map I)::blk n [.slice (some ⟨b,(o+(21+19*i)),none⟩) (240-(21+19*i)) (c-(21+19*i))] 258::A::blk l [I nx,u,v] 83::blk p [I 0,.slice none 0 0,.slice none 0 0] 83::blk s [I 0,.slice none 0 0,.slice none 0 0] 83::R) w/\(i<=vs.length)) (λ⟨i,u⟩=>vs.length-i) ⟨0,.slice none 0 0⟩
   fr_z ⟨H,AeN _⟩ ?_
 clear H;rintro ⟨i,u⟩ w ⟨f,y⟩;dsimp only at y f ⊢;have H:=f.l7;have su:=H.sy 0 (·.slc);have sv:=H.sy 1 (·.slc);have a6:=y;refine Z0 6 [0] Z (Af Z (λh4=>?_) (λh4=>?_))
 ·refine Zc 4 Z ?_;obtain ⟨e,t⟩:∃e,vs[i]?=some e:=⟨_,Aef U⟩;have k:=hf e (Aee t)
  have a1:AY ((bd.drop (21+19*i)).take 4)=e.id:=by rw[a];exact Aci hs j t k
  have a0:AY ((bd.drop (21+19*i+4)).take 1)=e.st:=by rw[a];exact Acj hs j t k
  have a4:AY ((bd.drop (21+19*i+5)).take 4)=e.sz:=by rw[a];exact Ack hs j t k
  have a9:AY ((bd.drop (21+19*i+9)).take 4)=e.q:=by rw[a];exact Adk hs j t k
  have c1:AY ((bd.drop (21+19*i+13)).take 2)=e.r:=by rw[a];exact Adl hs j t k
  have a2:AY ((bd.drop (21+19*i+15)).take 4)=e.mp:=by rw[a];exact Acl hs j t k
  replace H:=H.f4;refine Bp (Sep z (blk l [I nx,u,v] 83::R)) 13 Z J (A4 H λw f=>?_);have H:=f.l7;refine Bv [0,1] [1,0] J (λ_ hx=>(AR (hx.blk 0 Z) AN)) (by exact H.pick 7 [0] Z) Z J Z Z (AF [2] J O (Am (Bt Z Z Z Z Z Z (λw=>call165 _ w) (CB 4 b (o+(21+19*i)) (240-(21+19*i)) ((c-(21+19*i))) ((bd.drop (21+19*i)).take (240-(21+19*i))) (λh q=>by have:=(g h q).cut (lo:=(21+19*i)) (m:=(240-(21+19*i))) (c':=(c-(21+19*i))) U U U;exact this) U U ((bd.drop (21+19*i)).take 4) (by rw[AeF,AeG U]) (o+(21+19*i+4)) (240-(21+19*i+4)) (c-(21+19*i+4)) U U U) H.f4.f4 Z ?_)));rintro _ w _ ⟨rfl,rfl⟩ H;replace H:=H.l7;refine AB 45 (v:=I e.id) Z (congrArg I a1) (Au (λ_=>(H.pick 7 [2] Z)) (AF [3] J O (Am (Bt Z Z Z Z Z Z (λw=>call165 _ w) (CB 1 b (o+(21+19*i+4)) (240-(21+19*i+4)) ((c-(21+19*i+4))) ((bd.drop (21+19*i+4)).take (240-(21+19*i+4))) (λh q=>by have:=(g h q).cut (lo:=(21+19*i+4)) (m:=(240-(21+19*i+4))) (c':=(c-(21+19*i+4))) U U U;exact this) U U ((bd.drop (21+19*i+4)).take 1) (by rw[AeF,AeG U]) (o+(21+19*i+5)) (240-(21+19*i+5)) (c-(21+19*i+5)) U U U) H Z ?_))));rintro _ w _ ⟨rfl,rfl⟩ H;replace H:=H.l7;refine AB 46 (v:=I e.st) Z (congrArg I a0) (Au (λ_=>(H.pick 7 [2] Z)) (AF [4] J O (Am (Bt Z Z Z Z Z Z (λw=>call165 _ w) (CB 4 b (o+(21+19*i+5)) (240-(21+19*i+5)) ((c-(21+19*i+5))) ((bd.drop (21+19*i+5)).take (240-(21+19*i+5))) (λh q=>by have:=(g h q).cut (lo:=(21+19*i+5)) (m:=(240-(21+19*i+5))) (c':=(c-(21+19*i+5))) U U U;exact this) U U ((bd.drop (21+19*i+5)).take 4) (by rw[AeF,AeG U]) (o+(21+19*i+9)) (240-(21+19*i+9)) (c-(21+19*i+9)) U U U) H Z ?_))));rintro _ w _ ⟨rfl,rfl⟩ H;replace H:=H.l7;refine AB 47 (v:=I e.sz) Z (congrArg I a4) (Au (λ_=>(H.pick 7 [2] Z)) (AF [5] J O (Am (Bt Z Z Z Z Z Z (λw=>call165 _ w) (CB 4 b (o+(21+19*i+9)) (240-(21+19*i+9)) ((c-(21+19*i+9))) ((bd.drop (21+19*i+9)).take (240-(21+19*i+9))) (λh q=>by have:=(g h q).cut (lo:=(21+19*i+9)) (m:=(240-(21+19*i+9))) (c':=(c-(21+19*i+9))) U U U;exact this) U U ((bd.drop (21+19*i+9)).take 4) (by rw[AeF,AeG U]) (o+(21+19*i+13)) (240-(21+19*i+13)) (c-(21+19*i+13)) U U U) H Z ?_))));rintro _ w _ ⟨rfl,rfl⟩ H;replace H:=H.l7;refine AB 48 (v:=I e.q) Z (congrArg I a9) (Au (λ_=>(H.pick 7 [2] Z)) (AF [6] J O (Am (Bt Z Z Z Z Z Z (λw=>call165 _ w) (CB 2 b (o+(21+19*i+13)) (240-(21+19*i+13)) ((c-(21+19*i+13))) ((bd.drop (21+19*i+13)).take (240-(21+19*i+13))) (λh q=>by have:=(g h q).cut (lo:=(21+19*i+13)) (m:=(240-(21+19*i+13))) (c':=(c-(21+19*i+13))) U U U;exact this) U U ((bd.drop (21+19*i+13)).take 2) (by rw[AeF,AeG U]) (o+(21+19*i+15)) (240-(21+19*i+15)) (c-(21+19*i+15)) U U U) H Z ?_))));rintro _ w _ ⟨rfl,rfl⟩ H;replace H:=H.l7;refine AB 49 (v:=I e.r) Z (congrArg I c1) (Au (λ_=>(H.pick 7 [2] Z)) (AF [7] J O (Am (Bt Z Z Z Z Z Z (λw=>call165 _ w) (CB 4 b (o+(21+19*i+15)) (240-(21+19*i+15)) ((c-(21+19*i+15))) ((bd.drop (21+19*i+15)).take (240-(21+19*i+15))) (λh q=>by have:=(g h q).cut (lo:=(21+19*i+15)) (m:=(240-(21+19*i+15))) (c':=(c-(21+19*i+15))) U U U;exact this) U U ((bd.drop (21+19*i+15)).take 4) (by rw[AeF,AeG U]) (o+(21+19*(i+1))) (240-(21+19*(i+1))) (c-(21+19*(i+1))) U U U) H Z ?_))));rintro _ w _ ⟨rfl,rfl⟩ H;replace H:=H.l7;refine AB 50 (v:=I e.mp) Z (congrArg I a2) (Au (λ_=>(H.pick 7 [2] Z)) (BG 8 J Z Z J J J Z Z Z (Bg Z Z (out:=[I e.id,I e.st,I e.sz,I e.q,I e.r,I e.mp]) J) (H.pick 7 [2] Z) (AF [9] J O (Am (B6 Z Z Z Z (AO H Z J Ci Z (by decide) (by decide) (out:=[I e.id,I e.st,I e.sz,I e.q,I e.r,I e.mp]) J) ?_)))));rintro _ w ⟨b7,rfl,H⟩;replace H:=H.l8;refine Au (λ_=>(H.pick 8 [3] Z)) (AF [10] J O (Am (B6 Z Z Z Z (AW 4 H Z Z J Ci Z Z (H.rv 0 (·.rd U U O Z)) (λc hc=>QT [e] c (by simpa [Be,Vl.cells] using hc)) U) ?_)));rintro v8 w f;have f:Sep z (blk b7 [I e.id,I e.st,I e.sz,I e.q,I e.r,I e.mp] 77::blk n [.slice (some ⟨b,(o+(21+19*(i+1))),none⟩) (240-(21+19*(i+1))) (c-(21+19*(i+1)))] 258::A::blk l [I nx,u,v] 83::grow 77 6 v8 (i+1) (Be (vs.take i)++[I e.id,I e.st,I e.sz,I e.q,I e.r,I e.mp])::grow 3 1 v sk.length ((sk.take sk.length).map I)::blk p [I 0,.slice none 0 0,.slice none 0 0] 83::blk s [I 0,.slice none 0 0,.slice none 0 0] 83::R) w:=f;have c0:(Be (vs.take i)++[I e.id,I e.st,I e.sz,I e.q,I e.r,I e.mp]:List Value)=Be (vs.take (i+1)):=(Z6 t);rw[c0] at f;have H:=f.l8;have a3:=H.sy 4 (·.slc);refine Au (λ_=>(H.pick 8 [3] Z)) (Bv [11] [1] J (λ_ _=>AN) (by exact H.pick 8 [3] Z) Z J Z Z (AF [12] J O (Am (Bj Z Z Z (Lu 3 H Z Z Z Z a3.cells a3.one J) ?_))));rintro w H;replace H:=H.l8;refine Au (λh=>absurd Z h) (Bo J (gn (Z1 6 [] [(i:Int)+1] Z U ?_)));replace H:=H.d.f6.f6.f4.f4.f4.f6.f6;refine gf ?_;intro _ hF;refine ⟨⟨i+1,v8⟩,hF.cz,⟨H,?_⟩,?_⟩
  ·dsimp only;omega
  (dsimp only;omega)
 obtain rfl:i=vs.length:=by omega
 refine Zc 2 Z (gx (Zc 4 Z ?_));rw[show vs.take vs.length=vs from Ae9,show sk.take sk.length=sk from Ae9] at H;refine Z2 2 [4,3] H Z (Ar Z (call54 _) (Jd nx sk vs (λh q=>q.rd) (λh q=>q.rd) hs j a7 a5 hf) H ?_);rintro _ w _ ⟨pw,rfl,rfl⟩ H;refine Z0 12 [4] Z (z_E_ Z (call166 _) (KY b (o+(21+19*vs.length)) (240-(21+19*vs.length)) ((c-(21+19*vs.length))) ((bd.drop (21+19*vs.length)).take (240-(21+19*vs.length))) (λh q=>by have:=(g h q).cut (lo:=(21+19*vs.length)) (m:=(240-(21+19*vs.length))) (c':=(c-(21+19*vs.length))) U U U;exact this) (.inr ⟨by omega,by rw[a,show 21+19*vs.length=173 by omega,show 240-173=67 from Z];exact O7 hs j,by omega⟩)) H.f4.f4 ?_);intro w H;replace H:=H.l8;refine Ab Z (AH Z Z) (Zc 3 Z (Af Z (λh5=>?_) (λh5=>?_)))
 ·exact absurd (by rw[a,show 21+19*vs.length=173 by omega,show 240-173=67 from Z];exact O7 hs j) h5
 refine Z2 5 [5,3] H Z (AC Z Z (Al 7 H Z Z Z Z (vs:=[I nx,u,v]) Z (Ad Z (Ad su.one (Ad sv.one Aw))) J O (out:=[I nx,u,v]) Z) ?_);rintro w H;replace H:=H.l8;refine Zc 4 Z (Zl [7,3] H Z ?_);exact ⟨_,⟨u,v,λq=>b0 (by rw[q];rfl),Z,Z⟩,H.perm 8 [3,4,1] Z Z⟩
set_option maxHeartbeats 2000000 in
theorem RZ (dn n:Nat) (hn:16<=n/\n<=1024) (y:(CC n s t 2).Ok (dn:Int)):Aj 19 [Y j,I (n:Int),I s,I t] [diskA j (Cv dn)] (λv G=>∃(p:Dsk) (c:StG) (bs:List UInt8),bs.length=256/\bs=AK (Cd 1 [] (List.replicate 8 v0) (List.replicate 8 v0).length)/\OInv p c.x c.B (λgot=>got=c.rs)/\Clean p/\(c.x.gen<=((5:Nat):Int)/\c.x.epoch<=((5:Nat):Int))/\p.n=dn/\c.x.pages=n/\c.M=El (λ_=>noPg) (some (gF n (bs.take 240) (manyN n),1+manyN n))/\v=I 0/\G=[diskA j p]):=by
 intro z R w H;have b3:=OJ hn.1;have b2:=IG hn.2;refine Ae func19 Z ntmps19 Z (Zc 12 Z (z_E_ Z (call51 _) (VR dn y) H ?_));intro w H;refine Z0 15 [4] Z (Ar Z (call52 _) (TG (Y4 y) (VP) (show (2:Int)<=(2:Nat)/\(1:Int)<=(2:Nat) by omega) U) H ?_);rintro _ w _ ⟨ps,D0,b0,u,a6,a2,rfl,rfl⟩ H;subst u;have a:Sep z (stoA ps j D0 (Qx (CC n s t 2) (λ_=>noPg)) none::R) w:=H;clear H;have H:=a.l1;refine Z0 21 [4] Z (z_E_ Z (call53 _) (Qy) H ?_);intro w H;refine Z0 14 [4] Z (AP Z (Zh (k:=8) (out:=Xw) H Z J Ci Z Z U J) ?_);rintro _ w ⟨b1,rfl,H⟩;refine Zc 1 Z ?_;replace H:=(H.nilg 3 1).l3;refine Ar Z (call54 _) (Jd 1 [] (List.replicate 8 v0) (λh q=>q.rd U U (by simp[Xw]) (by rfl)) (λh q=>q.rd) O O U O (λe he=>by rw[(Af4.1 he).2];exact v0_fit)) H.f1 ?_;rintro _ w _ ⟨pw,rfl,rfl⟩ H;obtain ⟨bs,l⟩:∃bs,bs=AK (Cd 1 [] (List.replicate 8 v0) (List.replicate 8 v0).length):=⟨_,Z⟩;have g:bs.length=256:=by rw[l];exact AU (by rw[EA 1 O (Aek _),Afk];omega)
 rw[<-l] at H;refine Z0 23 [4] Z (Ar Z (call55 _) (GA 0 (by show (0:Int)<(n:Int);omega) ⟨1,bs.take 240⟩ ⟨by show (1:Int)<=1/\(1:Int)<=5;omega,by show (bs.take 240).length=240;rw[Aez];omega⟩ (λh q=>q.rd U U (VZ g) (Zi g))) H.f3 ?_);rintro _ w _ (⟨b,rfl,rfl⟩|⟨_,rfl,rfl⟩) a
 ·(exfalso;have:=b.2;omega)
 have H:=a.l4;rw[Zk n] at H;refine Z0 15 [4] Z (Ar Z (call56 _) (Tw U) H ?_);rintro _ w _ ⟨pc,bn,m,rfl,rfl⟩ H;refine Z0 20 [4] Z (z_E_ Z (call57 _) (Gg U) H ?_);intro w H;refine Z1 12 [] [(manyN n:Int)+1] Z U ?_;refine AD (σ:=Nat×List IE×Nat) (λ⟨i,o,clk⟩=>[(70,I (i:Int)),(8,I 0),(10,Y ps),(15,Y pc),(16,I (manyN n:Int)),(69,I ((manyN n:Int)+1))])
   (λ⟨i,o,clk⟩ w=>Sep z (coB pc bn n m::Cg bn (C1 i) n::AI m o clk::stoA ps j D0 (Qx (CC n s t 2) (λ_=>noPg)) (some (gF n (bs.take 240) 0,1+0))::blk pw (A7 bs ((21+19*8:Nat):Int)) 167::blk b1 Xw 77::grow 3 1 (.slice none 0 0) 0 []::R) w/\(i<=manyN n+1/\WasOk (C1 i) (λ_=>0) n o clk)) (λ⟨i,o,clk⟩=>manyN n+1-i) ⟨0,[],0⟩
   fr_z ⟨(by rw[QC];exact H),⟨by omega,by rw[QC];exact WasOk.nil _ _ _⟩⟩ ?_
 clear H;rintro ⟨i,o,clk⟩ w ⟨a,r⟩;dsimp only at r a ⊢;have H:=a.l7;obtain ⟨a7,W⟩:=r;have a1:C1 i i=0:=by simp[C1]
 refine Z0 6 [0] Z (Af Z (λh1=>?_) (λh1=>?_))
 ·refine Zc 13 Z (Ar Z (call58 _) (I5 (λ_=>0) i 1 U U (by rw[a1];rfl) U (by rw[a1];omega) W) H ?_);rintro _ w _ ⟨l2,a0,W2,rfl,rfl⟩ H;refine Z1 7 [] [(i:Int)+1] Z U (gf ?_);intro _ hF;refine ⟨⟨i+1,l2,a0⟩,hF.cz,⟨(by rw[<-QB];exact H),?_⟩,?_⟩
  ·dsimp only;exact ⟨by omega,by rw[<-QB];exact W2⟩
  (dsimp only;omega)
 obtain rfl:i=manyN n+1:=by omega
 refine Zc 2 Z (gx (Zc 10 Z ?_));refine AD (σ:=Nat) (λi=>[(78,I (i:Int)),(10,Y ps),(15,Y pc),(77,I (manyN n:Int))])
   (λi w=>Sep z (coB pc bn n m::Cg bn (C1 (manyN n+1)) n::AI m o clk::stoA ps j D0 (Qx (CC n s t 2) (λ_=>noPg)) (some (gF n (bs.take 240) i,1+i))::blk pw (A7 bs ((21+19*8:Nat):Int)) 167::blk b1 Xw 77::grow 3 1 (.slice none 0 0) 0 []::R) w/\(i<=manyN n)) (λi=>manyN n-i) 0
   fr_z ⟨H,by omega⟩ ?_
 clear H;rintro i w ⟨a,r⟩;have H:=a.l7;have a7:=r;clear r;refine Z0 6 [0] Z (Af Z (λh2=>?_) (λh2=>?_))
 ·refine Z1 17 [] [((1+i:Nat):Int)] Z U (Ar Z (call59 _) (Qr i U U (RS)) H ?_);rintro _ w _ ⟨pq,rfl,rfl⟩ H;refine Zc 1 Z (Ar Z (call55 _) (GA (1+i) (by show ((1+i:Nat):Int)<(n:Int);omega) (DC (C1 (manyN n+1)) n i) (Fd) (λh q=>q.rd U U (OI (Fd).2) (QA (Fd).2))) H.f4 ?_);rintro _ w _ (⟨b,rfl,rfl⟩|⟨_,rfl,rfl⟩) a
  ·(exfalso;have:=b.2;omega)
  have H:=a.l8;rw[Zj] at H;refine Z1 17 [4] [(i:Int)+1] Z U ?_;replace H:=H.f1.d.f6.f6.f6.f3.f6.f6.f6;refine gf ?_;intro _ hF;refine ⟨(i+1),hF.cz,⟨H,?_⟩,?_⟩
  ·omega
  omega
 obtain rfl:i=manyN n:=by omega
 refine Zc 2 Z (gx (Zc 6 Z (Ar Z (call60 _) (OF 3 a6 U) H.f3 ?_)));rintro _ w _ ⟨p,c,f,a8,⟨a4,a9⟩,a3,rfl,rfl⟩ H;refine Z0 15 [4] Z (Ar Z (call61 _) (sync_s 5 f) H ?_);rintro _ w _ ⟨rfl,a5,rfl⟩ H;refine Zc 4 Z (Zr Z ?_);have H2:=H.pick 7 [0] Z;obtain ⟨hO,a⟩:=H2.flDisk (by have:=f.q;omega);exact ⟨_,⟨p.fl,c,bs,g,l,hO,a5.clean,⟨f.gen,f.epoch⟩,a8.trans (a2.trans (VQ _ _ _ _)),(a3.elim (λe=>by rw[e];rfl) (λe=>by rw[e];rfl)),a4,Z,Z⟩,a⟩
section
section
variable{P:Program}{ops:List Oper}{N R:Act->World->Prop}{X:Nat->Act->World->Prop}{n d i:Nat}{ds:List Deferred}{L:List (Nat×Value)}{w z:World}{k:Kd}{rest:List Oper}{o:Oper}{Γ pre R':List Ai}{post:Value->List Ai->Prop}{f:FuncId}{vs us:List Value}{x:Operand}{args:List Operand}{tys:Array TypeId}
theorem Ku{a:Act}(c:Fr n ds L a)(g:o.op=.call {callee:=.value x,args:=args.toArray,argTypes:=tys})(d:ev L x=some (.func (.func f) #[] us.toArray))(b:evs L args=some vs)(e:∀w,(callFunc f (vs++us).toArray).run P w=.ok (.enter f (vs++us).toArray) w):(execOp a.eval o).run P w=.ok (.enter f (vs++us).toArray) w:=by
 have e1:=c.evs b;have e2:=c.ev d;unfold execOp;simp only[g,resolve,e2,Deferred.ofValue,invoke];simp only[go_sem,AeZ,e1,AeY];simpa using e w
theorem AdU(h:IT ops L n o=some d)(r:o.op=.call {callee:=.value x,args:=args.toArray,argTypes:=tys})(m:ev L x=some (.func (.func f) #[] us.toArray))(b:evs L args=some vs)(y:∀w,(callFunc f (vs++us).toArray).run P w=.ok (.enter f (vs++us).toArray) w)(l:Cn P f (vs++us) pre post)(H:Sep z (pre++R') w)
  (K:∀v g Γ',post v Γ'->Sep z (Γ'++R') g->∀a',Fr n ds ((d,v)::L) a'->BT P N X R (.o ops rest k) a' g):∀a,Fr n ds L a->BT P N X R (.o ops (o::rest) k) a w:=by
 intro a j;obtain ⟨u,p,i⟩:=Eh h;show wpList P ops.toArray _ (o::rest) a w;unfold wpList;rw[if_pos (wantL_ok j u)];left;unfold Oper.wp;rw[Ku j r m b y,AgO];exact Agx (l.use H) λe g q=>by
  cases e with
  | returned v=>obtain ⟨Γ',s,t⟩:=q;simp only[p];exact K v g Γ' s t _ (j.put d v i)
  | panicked c=>exact q.elim
  | outgrown=>exact q.elim
theorem Acm{K:Act->World->Prop}(hi:ops[i]?=some o)(u:BP ops L o.guard=true)(p:o.dst=some d)(h:Nat.blt d n=true)(r:o.op=.call {callee:=.value x,args:=args.toArray,argTypes:=tys})(m:ev L x=some (.func (.func f) #[] us.toArray))(b:evs L args=some vs)(y:∀w,(callFunc f (vs++us).toArray).run P w=.ok (.enter f (vs++us).toArray) w)(l:Cn P f (vs++us) pre post)(H:Sep z Γ w)(e:Γ=pre++R')
  (k:∀v g Γ',post v Γ'->Sep z (Γ'++R') g->∀a',Fr n ds ((d,v)::L) a'->K a' g):∀a,Fr n ds L a->wpOp P ops.toArray (Qp N X R) i K a w:=by
 intro a j;unfold wpOp;rw[Afg,hi];simp only;rw[if_pos (wantL_ok j u)];left;unfold Oper.wp;rw[Ku j r m b y,AgO];exact Agx (l.use (e▸H)) λe g q=>by
  cases e with
  | returned v=>obtain ⟨Γ',s,t⟩:=q;simp only[p];exact k v g Γ' s t _ (j.put d v h)
  | panicked c=>exact q.elim
  | outgrown=>exact q.elim
end
def Cz(sv:Value)(sk:List Int):Ai:=λh=>grow 3 1 sv sk.length (sk.map (Value.int .i64)) h/\(sk=[]->sv=.slice none 0 0)
def voA(pv pp:Nat)(nx:Int)(sk:List Int)(vs:List Vl):Ai:=λh=>∃u:Value×Value,True/\seps [blk pv [.pointer (some ⟨pp,0,none⟩),.int .i64 nx,u.1,u.2] 85,grow 77 6 u.1 vs.length (Be vs),Cz u.2 sk] h
theorem Sep.vo{z w:World}{Γ:List Ai}{vs:List Vl}(H:Sep z (voA m j t l vs::Γ) w):∃a b:Value,Sep z (YtemljpjnhjnncaaGreatDoor.blk m [Y j,I t,a,b] 85::YtemljpjnhjnncaaGreatDoor.grow 77 6 a vs.length (Be vs)::Cz b l::Γ) w:=by
 obtain ⟨u,_,H⟩:=H.into (p:=λ_:Value×Value=>True) (As:=λu=>[YtemljpjnhjnncaaGreatDoor.blk m [Y j,I t,u.1,u.2] 85,YtemljpjnhjnncaaGreatDoor.grow 77 6 u.1 vs.length (Be vs),Cz u.2 l]) (λ_ q=>q);exact ⟨u.1,u.2,H⟩
theorem Sep.toVo{z w:World}{Γ:List Ai}{vs:List Vl}(H:Sep z (YtemljpjnhjnncaaGreatDoor.blk m [Y j,I t,v,u] 85::YtemljpjnhjnncaaGreatDoor.grow 77 6 v vs.length (Be vs)::Cz u l::Γ) w):Sep z (voA m j t l vs::Γ) w:=H.made 3 (λh q=>⟨(v,u),trivial,q⟩)
theorem Wz(b a e:Nat)(vs:List Vl)(A:Ai)(g:∀h,A h->rdH 6 (.slice (some ⟨b,a,none⟩) vs.length e) vs.length (Be vs) h)(k:0<vs.length/\vs.length<=1073741824):Aj 174 [.slice (some ⟨b,a,none⟩) vs.length e] [A] (λv G=>∃f:Value,v=f/\G=[grow 77 6 f vs.length (Be vs),A]):=by
 intro z R w H;refine Ae func174 Z ntmps174 Z (Zc 9 Z (Ab Z (Ip Z J Z Z) (Zc 7 Z (AP Z (EZ H Z J Ci) ?_))));rintro _ w ⟨j,rfl,H⟩;refine Zc 1 Z ?_;replace H:=(H.mono 0 (B:=grow 77 6 (.slice (some ⟨j,0,none⟩) 0 0) 0 []) Z (λh q=>q.grow U U O Z)).l2;refine AP Z (AW 0 H Z Z J Ci Z Z (H.rd 1 Z g) (QT _) U) ?_;rintro l w c;have d:([]++Be vs:List Value)=Be vs:=by simp
 rw[d] at c;rw[show (0+vs.length:Nat)=vs.length from by omega] at c;have H:=c.l2;refine Zc 4 Z (Zr Z ?_);exact ⟨_,⟨_,Z,Z⟩,H⟩
theorem T7(b a e:Nat)(sk:List Int)(g:∀h,A h->rdH 1 (.slice (some ⟨b,a,none⟩) sk.length e) sk.length (sk.map I) h)(k:0<sk.length/\sk.length<=1073741824):Aj 175 [.slice (some ⟨b,a,none⟩) sk.length e] [A] (λv G=>∃f:Value,v=f/\G=[grow 3 1 f sk.length (sk.map I),A]):=by
 intro z R w H;refine Ae func175 Z ntmps175 Z (Zc 9 Z (Ab Z (Ip Z J Z Z) (Zc 7 Z (AP Z (EZ H Z J BC) ?_))));rintro _ w ⟨j,rfl,H⟩;refine Zc 1 Z ?_;replace H:=(H.mono 0 (B:=grow 3 1 (.slice (some ⟨j,0,none⟩) 0 0) 0 []) Z (λh q=>q.grow U U O Z)).l2;refine AP Z (AW 0 H Z Z J BC Z Z (H.rd 1 Z g) (GY) U) ?_;rintro l w c;have d:([]++sk.map I:List Value)=sk.map I:=by simp
 rw[d] at c;rw[show (0+sk.length:Nat)=sk.length from by omega] at c;have H:=c.l2;refine Zc 4 Z (Zr Z ?_);exact ⟨_,⟨_,Z,Z⟩,H⟩
theorem R5:Aj 175 [.slice none 0 0] [] (λv G=>v=.slice none 0 0/\G=[]):=by
 intro z R w H;refine Ae func175 Z ntmps175 Z (Zc 9 Z (Ab Z (Uw Z J Z Z) (Zc 9 Z (Zr Z ?_))));exact ⟨_,⟨Z,Z⟩,H⟩
theorem rdH.addr{sz n c:Nat}{a:Option Addr}{xs:List Value}(r:rdH sz (.slice a n c) n xs h)(i:0<n*sz):∃b p,a=some ⟨b,p,none⟩:=by
 obtain ⟨d,c',e,j,l,k,f⟩:=r;cases e;obtain ⟨u,g⟩:∃u,xs[0]?=some u:=⟨_,Aef U⟩;obtain ⟨b,p,e,_⟩:=f 0 u g;exact ⟨b,p,e⟩
theorem R6(e:Value)(vs:List Vl)(A:Ai)(a:∀h,A h->rdH 6 e vs.length (Be vs) h)(g:0<vs.length/\vs.length<=1073741824):Aj 174 [e] [A] (λv G=>∃f:Value,v=f/\G=[grow 77 6 f vs.length (Be vs),A]):=by
 intro z R w H;obtain ⟨i,c,rfl⟩:=H.sy 0 (λq=>(a _ q).slc);obtain ⟨b,d,rfl⟩:=H.sy 0 (λq=>(a _ q).addr U);exact Wz b d c vs A a g z R w H
theorem Z7(d:Value)(sk:List Int)(hs:sk.length<=1073741824):Aj 175 [d] [Cz d sk] (λv G=>∃g:Value,v=g/\G=[Cz g sk,Cz d sk]):=by
 intro z R w H;by_cases h0:sk=[]
 ·subst h0
  have e:=H.sy 0 (·.2 Z);subst e;refine Ret.mono (R5 z (Cz (.slice none 0 0) []::R) w H) ?_;rintro v j ⟨Γ',⟨rfl,rfl⟩,f⟩;exact ⟨_,⟨_,Z,Z⟩,(f.nilg 3 1).mono 0 (B:=Cz (.slice none 0 0) []) Z (λh q=>⟨q,λ_=>rfl⟩)⟩
 have i:0<sk.length:=Ahe.2 h0;obtain ⟨k,c,rfl⟩:=H.sy 0 (·.1.slc);obtain ⟨b,a,rfl⟩:=H.sy 0 (·.1.rd.addr U);refine Ret.mono (T7 b a c sk (λh q=>q.rd) ⟨i,hs⟩ z R w (H.mono 0 (B:=grow 3 1 (.slice (some ⟨b,a,none⟩) sk.length c) sk.length (sk.map I)) Z (λh q=>q.1))) ?_;rintro v j ⟨Γ',⟨l,rfl,rfl⟩,f⟩;exact ⟨_,⟨_,Z,Z⟩,(f.mono 0 (B:=Cz v sk) Z (λh q=>⟨q,λe=>absurd e h0⟩)).mono 1 (B:=Cz (.slice (some ⟨b,a,none⟩) sk.length c) sk) Z (λh q=>⟨q,λe=>absurd e h0⟩)⟩
end
theorem M3(sk:List Int)(vs:List Vl)(e:∀h,A h->rdH 6 u vs.length (Be vs) h)(k:vs.length=8)(hs:sk.length<=8):Aj 130 [.agg #[I t,u,y]] [A,Cz y sk] (λv G=>∃b c:Value,v=.agg #[I t,b,c]/\G=[grow 77 6 b vs.length (Be vs),Cz c sk,A,Cz y sk]):=by
 intro z R w H;replace H:=H.l2;refine Ae func130 Z ntmps130 Z (Za 2 [] H Z ?_);intro i w H;refine Za 0 [] H Z ?_;intro j w H;refine Zc 3 Z ?_;replace H:=H.f1;refine Bp (Sep z (blk i [I t,u,y] 83::R)) 10 Z J (A4 H λw g=>?_);have H:=g.l4;refine Bv [0,1,2,3,5,6] [0,0,1,0,2,0] J (λ_ f=>(AR (f.blk 0 Z) AN)) (by exact H.pick 4 [0] Z) Z J Z Z (AF [4] J O (Am (Bt Z Z Z Z Z Z (λw=>call174 _ w) (R6 u vs A e U) H.f2 Z ?_)));rintro b w _ ⟨_,rfl,rfl⟩ H;replace H:=H.l5;have d:=H.sy 0 (·.slc);refine Au (λ_=>(H.pick 5 [2] Z)) (AF [7] J O (Am (Bt Z Z Z Z Z Z (λw=>call175 _ w) (Z7 y sk U) H.f4 Z ?_)));rintro c w _ ⟨_,rfl,rfl⟩ H;replace H:=H.l6;have a:=H.sy 0 (·.1.slc);refine Au (λ_=>(H.pick 6 [4] Z)) ?_;obtain ⟨a1,c1,rfl⟩:=d;obtain ⟨a2,c2,rfl⟩:=a;refine BG 8 J Z Z J J J Z Z Z (Bg Z Z (out:=[I t,.slice a1 vs.length c1,.slice a2 sk.length c2]) J) (H.pick 6 [4] Z) (AF [9] J O (Am (Bj Z Z Z (Al 5 H Z Z Z Z (vs:=[I t,.slice a1 vs.length c1,.slice a2 sk.length c2]) Z (by simp[u8,u32,Value.oneCell']) J O (out:=[I t,.slice a1 vs.length c1,.slice a2 sk.length c2]) Z) ?_)));rintro w H;replace H:=H.l6;refine Au (λh=>absurd Z h) (Bo J (gn (Zc 2 Z (Zl [5,3] H Z ?_))));exact ⟨_,⟨_,_,Z,Z⟩,H.pick 6 [2,0,3,1] Z⟩
section
abbrev Pl:=Vl×List E
def pl0:Pl:=(v0,[])
structure PlOk(N:Hm)(nx:Int)(p:Pl):Prop where
 id:1<=p.1.id/\p.1.id<nx
 st:p.1.st=1\/p.1.st=2
 sz:1<=p.1.sz/\p.1.sz<=1048576
 q:0<=p.1.q/\p.1.q<=1048576
 r:0<=p.1.r/\p.1.r<=1023
 root:Root N p.1.r.toNat p.2
 nd:(vals p.2).Nodup
 mp:p.1.mp=(p.2.length:Int)
 key:∀e∈p.2,e.1<p.1.sz
def C8(P:List Pl):List Nat:=P.flatMap λp=>AZ p.1.r.toNat
structure VInv(n:Nat)(o:TB)(nx:Int)(P:List Pl):Prop where
 n:n<=639
 len:P.length=8
 nb:1<=nx/\nx<=1073741824
 all:∀p∈P,p=pl0\/PlOk o.N nx p
 ids:P.Pairwise λa b=>a.1.id=b.1.id->a.1.id=0
 r:o.R.Perm (C8 P)
theorem JN(P:List Pl):(C8 P).length<=P.length:=by
 induction P with
 | nil=>simp[C8]
 | cons p t ih=>
  have:(AZ p.1.r.toNat).length<=1:=by unfold AZ;split<;>simp
  simp only[C8,AeJ,Aeg,Aei] at ih ⊢;omega
theorem QV{P:List Pl}(h:i<P.length)(p:Pl):(C8 (P.set i p)).Perm (AZ p.1.r.toNat++C8 (P.eraseIdx i)):=by
 have e:P.set i p=P.take i++p::P.drop (i+1):=by rw[Afc,if_pos h]
 rw[e,List.eraseIdx_eq_take_drop_succ];simp only[C8,Af2,AeJ];rw[<-Aej,<-Aej];exact Afz _ Af6
theorem Je{P:List Pl}{p:Pl}(h:P[i]?=some p):(C8 P).Perm (AZ p.1.r.toNat++C8 (P.eraseIdx i)):=by
 obtain ⟨a,rfl⟩:=Aed.1 h;have:=QV a P[i];rwa[Ago] at this
theorem Mj{P:List Pl}{p:Pl}(h:p∈P)(a:p.1.r.toNat≠0):p.1.r.toNat∈C8 P:=
 Agi.2 ⟨p,h,by unfold AZ;rw[if_neg a];simp⟩
variable{n:Nat}{o:TB}{nx:Int}{P:List Pl}
theorem VInv.lw(h:VInv n o nx P){p:Pl}(hi:P[i]?=some p)(hp:PlOk o.N nx p):LwI n ⟨o.N,o.C,AZ p.1.r.toNat++C8 (P.eraseIdx i)⟩ p.1.r.toNat p.2 (C8 (P.eraseIdx i)):=
 ⟨h.n,by have:=JN (P.eraseIdx i);have:=List.length_eraseIdx_le P i;have:=h.len;omega,hp.root,hp.nd,Z⟩
theorem T8{N N2:Hm}(h:Root N 0 X):Root N2 0 X:=by
 rcases h with ⟨_,e⟩|⟨e,_⟩
 ·exact .inl ⟨Z,e⟩
 exact absurd Z e
theorem PlOk.kp{N N2:Hm}{p:Pl}(h:PlOk N nx p)(a:p.1.r.toNat≠0->Root N p.1.r.toNat p.2->Root N2 p.1.r.toNat p.2)(b:nx<=t):PlOk N2 t p:=
 ⟨⟨h.id.1,by have:=h.id.2;omega⟩,h.st,h.sz,h.q,h.r,by
  by_cases e:p.1.r.toNat=0
  ·have:=h.root;rw[e] at this ⊢;exact T8 this
  exact a e h.root,h.nd,h.mp,h.key⟩
theorem Hk{α:Type}{l:List α}{x:α}(h:l[j]?=some x)(a:j≠i):x∈l.eraseIdx i:=by
 rw[Ahb];exact ⟨j,a,h⟩
theorem VInv.upd(h:VInv n o nx P){p p2:Pl}(hi:P[i]?=some p){o2:TB}(l:nx<=t/\t<=1073741824)(z:Kp o.N o2.N (C8 (P.eraseIdx i)))(hp:PlOk o2.N t p2)
  (m:p2.1.id=p.1.id\/∀q∈P,q.1.id≠p2.1.id)(hR:o2.R.Perm (AZ p2.1.r.toNat++C8 (P.eraseIdx i))):VInv n o2 t (P.set i p2):=by
 have v:=(Aed.1 hi).1;have g:∀j q,P[j]?=some q->j≠i->q=pl0\/PlOk o2.N t q:=λj q d u=>by
  rcases h.all q (Aee d) with e|e
  ·exact .inl e
  exact .inr (e.kp (λx hr=>z _ (Mj (Hk d u) x) _ hr) l.1)
 refine ⟨h.n,by rw[AeW];exact h.len,⟨by have:=h.nb;omega,l.2⟩,λq hq=>?_,?_,hR.trans (QV v p2).symm⟩
 ·obtain ⟨j,d⟩:=AeX.1 hq
  rw[Afq] at d;split at d
  ·rename_i e
   first
    | (cases d;exact .inr hp)
    | (split at d<;>cases d;exact .inr hp)
  exact g j q d U
 have c:=h.ids;rw[Afx] at c ⊢;intro a b k s f;rw[AeW] at k s;rw[Ag1,Ag1];have y:∀j (d:j<P.length),P[j]?=some P[j]:=λj d=>Aef d;have w:P[i]=p:=by have:=y i v;rw[hi] at this;exact (Agd this).symm
 by_cases e1:i=a
 ·subst e1
  rw[if_pos Z,if_neg U];rcases m with e|e
  ·rw[e];have:=c i b k s f;rw[w] at this;exact this
  intro q;exact absurd q.symm (e _ (AfQ s))
 rw[if_neg e1];by_cases e2:i=b
 ·subst e2
  rw[if_pos Z];rcases m with e|e
  ·rw[e];have:=c a i k s f;rw[w] at this;exact this
  intro q;exact absurd q (e _ (AfQ k))
 rw[if_neg e2];exact c a b k s f
theorem VInv.fit(h:VInv n o nx P)(K:TrK n o none):∀e∈P.map Prod.fst,Vl.Fit e:=λe c=>by
 obtain ⟨p,hp,rfl⟩:=Aem.1 c;rcases h.all p hp with rfl|a
 ·exact v0_fit
 have d:=h.n;have:=JK K.i U (show ∀e∈p.2,∃b,Dl o none e.2=some (.dt b) from a.root.data) a.nd;have k:=h.nb;obtain ⟨q,l,m,g,f,_,_,j,_⟩:=a;exact ⟨by omega,by omega,by omega,by omega,by omega,by omega⟩

structure Wv where
 id:Int
 sz:Int
 q:Int
 u:Value
 V:List Bk
abbrev O8:=Int×Int×Int×List Bk
def Wv.core(x:Wv):O8:=(x.id,x.sz,x.q,x.V)
def CI(N:Hm)(p:Pl):O8:=(p.1.id,p.1.sz,p.1.q,A5 N p.2)
def Dz(p:Pl):Bool:=decide (p.1.st=1)
def DA(N:Hm)(P:List Pl):List O8:=(P.filter Dz).map (CI N)
structure VRel(N:Hm)(P:List Pl)(W:List Wv):Prop where
 p:(DA N P).Perm (W.map Wv.core)
 s:W.Pairwise λa b=>a.id<b.id
theorem Mk{α:Type}{f:α->Int}{l:List α}{a a2:α}(h:l[i]?=some a)(c:∀j b,l[j]?=some b->f b=f a->j=i):l.set i a2=l.map λb=>if f b=f a then a2 else b:=by
 apply Afs;intro j;rw[Afq,Aeq];by_cases e:i=j
 ·subst e
  rw[if_pos Z,if_pos (Aed.1 h).1,h];simp
 rw[if_neg e]
 cases hj:l[j]? with
 | none=>rfl
 | some b=>
  rw[AeU,if_neg (λq=>e (c j b hj q).symm)]
theorem O9{α:Type}{f:α->Int}{l:List α}{a:α}(h:l[i]?=some a)(g:∀j b,l[j]?=some b->f b=f a->j=i):l.take i++l.drop (i+1)=l.filter λb=>decide (f b≠f a):=by
 have k:=(Aed.1 h).1;have e:l=l.take i++a::l.drop (i+1):=by
  have:=AeP i l;rw[Ae1 k,show l[i]=a from by have:=Aef k;rw[h] at this;exact (Agd this).symm] at this;exact this.symm
 conv=>rhs;rw[e]
 rw[AfP,AhE,if_neg O];congr 1
 ·refine (Agw.2 λb d=>?_).symm
  obtain ⟨j,c⟩:=AeX.1 d;have m:=c;rw[Ae0] at c;split at c
  ·simp only[decide_eq_true_eq];intro q;have:=g j b c q;omega
  cases c
 refine (Agw.2 λb d=>?_).symm;obtain ⟨j,c⟩:=AeX.1 d;rw[Afm] at c;simp only[decide_eq_true_eq];intro q;have:=g _ b c q;omega
variable{W:List Wv}{N N2:Hm}
theorem VInv.uniq(h:VInv n o nx P){p q:Pl}(hi:P[i]?=some p)(c:P[j]?=some q)(e:q.1.id=p.1.id)(d:p.1.id≠0):j=i:=by
 have a:=h.ids;rw[Afx] at a;obtain ⟨a1,rfl⟩:=Aed.1 hi;obtain ⟨b,rfl⟩:=Aed.1 c;rcases AfK i j with q|q|q
 ·exact absurd (a i j a1 b q e.symm) d
 ·exact q.symm
 exact absurd (a j i b a1 q e) U
theorem VRel.uniq(h:VRel N P W){x y:Wv}(hi:W[i]?=some x)(c:W[j]?=some y)(e:y.id=x.id):j=i:=by
 have a:=h.s;rw[Afx] at a;obtain ⟨a1,rfl⟩:=Aed.1 hi;obtain ⟨b,rfl⟩:=Aed.1 c;rcases AfK i j with q|q|q
 ·have:=a i j a1 b q;omega
 ·exact q.symm
 have:=a j i b a1 q;omega
theorem VRel.at(h:VRel N P W){p:Pl}(hi:P[i]?=some p)(hs:p.1.st=1):∃(j:Nat) (x:Wv),W[j]?=some x/\x.core=CI N p:=by
 have:CI N p∈DA N P:=Aem.2 ⟨p,Afd.2 ⟨Aee hi,by simp[Dz,hs]⟩,Z⟩;obtain ⟨x,b,e⟩:=Aem.1 (h.p.mem_iff.1 this);obtain ⟨j,a⟩:=AeX.1 b;exact ⟨j,x,a,e⟩
theorem VRel.back(h:VRel N P W){x:Wv}(b:W[j]?=some x):∃(i:Nat) (p:Pl),P[i]?=some p/\p.1.st=1/\x.core=CI N p:=by
 have:x.core∈W.map Wv.core:=Aem.2 ⟨x,Aee b,Z⟩;obtain ⟨p,hp,e⟩:=Aem.1 (h.p.mem_iff.2 this);obtain ⟨a,c⟩:=Afd.1 hp;obtain ⟨i,hi⟩:=AeX.1 a;exact ⟨i,p,hi,by simpa [Dz] using c,e.symm⟩
theorem M4(h:∀p∈P,p.1.st=1->A5 N2 p.2=A5 N p.2):DA N2 P=DA N P:=by
 unfold DA;refine AfE λp hp=>?_;obtain ⟨a,b⟩:=Afd.1 hp;unfold CI;rw[h p a (by simpa [Dz] using b)]
theorem VRel.upd(h:VRel N P W)(y:VInv n o nx P){p p2:Pl}{x x2:Wv}(hi:P[i]?=some p)(l:W[j]?=some x)(w:p.1.id≠0)(hs:p.1.st=1)(m:p2.1.st=1)(e:x.id=p.1.id)(e2:x2.core=CI N2 p2)(z:p2.1.id=p.1.id)
  (hN:∀q∈P,q.1.st=1->q.1.id≠p.1.id->A5 N2 q.2=A5 N q.2):VRel N2 (P.set i p2) (W.set j x2):=by
 have a0:x2.id=x.id:=by have:=congrArg Prod.fst e2;simp only[Wv.core,CI] at this;omega
 have eP:=Mk (f:=λb:Pl=>b.1.id) (a2:=p2) hi (λk b d q=>y.uniq hi d q w);have eW:=Mk (f:=Wv.id) (a2:=x2) l (λk b d q=>h.uniq l d q);refine ⟨?_,?_⟩
 ·have e1:DA N2 (P.set i p2)=(DA N P).map λc=>if c.1=p.1.id then CI N2 p2 else c:=by
   rw[eP];unfold DA;rw[Agl,Afp,Afp];have ef:P.filter (Dz∘λb=>if b.1.id=p.1.id then p2 else b)=P.filter Dz:=by
    refine Ahs λb g=>?_;simp only[Function.comp];split
    ·rename_i q
     obtain ⟨k,d⟩:=AeX.1 g;have:=y.uniq hi d q w;subst this;rw[hi] at d;cases d;simp[Dz,hs,m]
    rfl
   rw[ef];refine AfE λb g=>?_;obtain ⟨b1,b2⟩:=Afd.1 g;simp only[Function.comp];split
   ·rename_i q;rw[if_pos (by simpa [CI] using q)]
   rename_i q;rw[if_neg (by simpa [CI] using q)];unfold CI;rw[hN b b1 (by simpa [Dz] using b2) q]
  have e3:(W.set j x2).map Wv.core=(W.map Wv.core).map λc=>if c.1=p.1.id then CI N2 p2 else c:=by
   rw[eW,Afp,Afp];refine AfE λb g=>?_;simp only[Function.comp];split
   ·rename_i q;rw[if_pos (by simp only[Wv.core];omega),e2]
   rename_i q;rw[if_neg (by simp only[Wv.core];omega)]
  rw[e1,e3];exact h.p.map _
 have t:=h.s;rw[Afx] at t ⊢;intro a b v g r;rw[AeW] at v g;have:=t a b v g r;have a1:=(Aed.1 l).1;have u:W[j]=x:=(Aed.1 l).2;rw[Ag1,Ag1];split<;>split
 ·omega
 ·rename_i q _;subst q;rw[u] at this;omega
 ·rename_i _ q;subst q;rw[u] at this;omega
 exact this
theorem VRel.del(h:VRel N P W)(y:VInv n o nx P){p p2:Pl}{x:Wv}(hi:P[i]?=some p)(g:W[j]?=some x)(u:p.1.id≠0)(a:p2.1.st≠1)(e:x.id=p.1.id)
  (hN:∀q∈P,q.1.st=1->A5 N2 q.2=A5 N q.2):VRel N2 (P.set i p2) (W.take j++W.drop (j+1)):=by
 have t:=Mk (f:=λb:Pl=>b.1.id) (a2:=p2) hi (λk b d q=>y.uniq hi d q u);have l:=O9 (f:=Wv.id) g (λk b d q=>h.uniq g d q);refine ⟨?_,?_⟩
 ·have e1:DA N2 (P.set i p2)=(DA N P).filter λc=>decide (c.1≠p.1.id):=by
   rw[t,<-M4 hN];unfold DA;rw[Agl,Agl,Afp,List.filter_filter];have v:P.filter (Dz∘λb=>if b.1.id=p.1.id then p2 else b)=P.filter λb=>((λc:O8=>decide (c.1≠p.1.id))∘CI N2) b&&Dz b:=by
    refine Ahs λb m=>?_;simp only[Function.comp,CI];split
    ·rename_i q;simp[Dz,q,a]
    rename_i q;simp[q]
   rw[v];refine AfE λb m=>?_;obtain ⟨_,r⟩:=Afd.1 m;simp only[Function.comp,CI,AeE,decide_eq_true_eq] at r ⊢;rw[if_neg (of_decide_eq_true r.1)]
  have w:(W.take j++W.drop (j+1)).map Wv.core=(W.map Wv.core).filter λc=>decide (c.1≠p.1.id):=by
   rw[l,Agl];congr 1;refine Ahs λb _=>?_;simp only[Function.comp,Wv.core,e];exact decide_eq_decide.2 Ahw
  rw[e1,w];exact h.p.filter _
 rw[l];exact h.s.filter _
theorem VRel.new(h:VRel N P W){p p2:Pl}{x2:Wv}(hi:P[i]?=some p)(hs:p.1.st≠1)(c:p2.1.st=1)(e2:x2.core=CI N2 p2)(d:∀x∈W,x.id<x2.id)
  (hN:∀q∈P,q.1.st=1->A5 N2 q.2=A5 N q.2):VRel N2 (P.set i p2) (W++[x2]):=by
 have f:=(Aed.1 hi).1;have e:P.set i p2=P.take i++p2::P.drop (i+1):=by rw[Afc,if_pos f]
 have j:P=P.take i++p::P.drop (i+1):=by
  have:=AeP i P;rw[Ae1 f,show P[i]=p from (Aed.1 hi).2] at this;exact this.symm
 refine ⟨?_,?_⟩
 ·have hp:=h.p
  rw[<-M4 hN] at hp;have e1:DA N2 P=DA N2 (P.take i)++DA N2 (P.drop (i+1)):=by
   conv=>lhs;rw[j]
   unfold DA;rw[AfP,AhE,if_neg (by simp[Dz,hs]),AeH]
  have l:DA N2 (P.set i p2)=DA N2 (P.take i)++CI N2 p2::DA N2 (P.drop (i+1)):=by
   rw[e];unfold DA;rw[AfP,AhE,if_pos (by simp[Dz,c]),AeH,AeL]
  rw[l,AeH,AeL,e2];rw[e1] at hp;refine Afi.trans ((Afl _ hp).trans ?_);exact (List.perm_append_singleton _ _).symm
 rw[List.pairwise_append];exact ⟨h.s,by simp,λa k b g=>by simp at g;subst g;exact d a k⟩
theorem VRel.len(h:VRel N P W):W.length<=P.length:=by
 have:=h.p.length_eq;simp only[DA,Aeh] at this;rw[<-this];exact AfV _ _
end
variable{W:List Wv}
section
section
variable{P:Program}{C:World->Prop}{o:Oper}{n:Nat}{ds:List Deferred}{L:List (Nat×Value)}{x y:Operand}{xt yt:TypeId}
def M5(P:Program)(t:TypeId)(m:Nat):Bool:=match P.underlying t with
 | some (.struct fs)=>decide (fs.toList.map (λf=>f.offset)=List.range m)&&fs.toList.all λf=>f.name != "_" && Gi P f.type&&(match P.underlying f.type with|some (.int _)=>true|_=>false)
 | _=>false
theorem Nf{α β:Type}(l:List α)(b b':β)(f:α->β->Sem (ForInStep β))(p:α->Bool)(w:World)(h:∀a∈l,(f a b).run P w=.ok (if p a=true then .yield b else .done b') w):(forIn l b f).run P w=.ok (if l.all p=true then b else b') w:=by
 induction l with
 | nil=>simp[go_sem]
 | cons a l ih=>
  rw[List.forIn_cons,Aex,h a O]
  cases hp:p a with
  | true=>simp only[if_true,List.all_cons,hp,Bool.true_and];exact ih λa c=>h a (by simp[c])
  | false=>simp[go_sem,hp]
theorem T9{cs es:List Int}(ho:o.op=.binOp .eql xt x y yt)(g:M5 P xt m=true)(h1:cs.length=m)(h2:es.length=m)(hs:P.stoodInHeld xt=false)(hg:P.eqGuardType P.depth xt=false)(hx:ev L x=some (.agg (cs.map I).toArray))(hy:ev L y=some (.agg (es.map I).toArray)):Av P C n ds L o (.bool (decide (cs=es))):=λa hF w _=>by
 unfold M5 at g;split at g
 ·rename_i z h
  rw[AeE] at g;obtain ⟨b,r⟩:=g;have b:=of_decide_eq_true b;have i:∀d,(Op.equalIn (d+1+1) xt (.agg (cs.map I).toArray) (.agg (es.map I).toArray)).run P w=.ok (decide (cs=es)) w:=λd=>by
   rw[Op.equalIn];simp only[Aex,run_underlying h,Aet];have hh:(program).run P w=.ok P w:=by simp[program,Sem.run]
   simp only[hh,Aet,hs,Afu,if_false];rw[Aex,<-Array.forIn_toList,Nf (b':=⟨some false,⟨⟩⟩) (p:=λf=>decide (cs[f.offset]?=es[f.offset]?))]
   ·have e:z.toList.all (λf=>decide (cs[f.offset]?=es[f.offset]?))=decide (cs=es):=by
     rw[Aey,Af3,decide_eq_true_iff];constructor
     ·intro q
      apply Afs;intro k;rcases Aes k m with hk|hk
      ·have hm:k∈z.toList.map (λf=>f.offset):=by rw[b];exact AfS.2 hk
       obtain ⟨f,t,rfl⟩:=Aem.1 hm;simpa using q f t
      rw[AeK U,AeK U]
     intro q f _;rw[q];simp
    rw[e];by_cases q:cs=es
    ·simp[q,go_sem]
    simp[q,go_sem]
   intro f t;have s:=(Af3.1 r) f t;simp only[AeE] at s;obtain ⟨⟨h3,h4⟩,h5⟩:=s;have a0:f.offset<m:=by
    have:f.offset∈z.toList.map (λf=>f.offset):=Aem.2 ⟨f,t,Z⟩;rw[b] at this;exact AfS.1 this
   have hn:f.name≠"_":=by simpa using h3
   rw[if_pos hn];split at h5
   ·rename_i k2 hu
    have hp:∀l:List Int,l.length=m->(part f.type (l.map I).toArray f.offset).run P w=.ok (I (l.getD f.offset 0)) w:=λl hl=>by
     have hc:((l.map I).toArray)[f.offset]?=some (I (l.getD f.offset 0)):=by
      simp[Aef (show f.offset<l.length by omega),List.getD]
     simp only[part,Aex,FO h4,Aet,if_false,Afu,hc,AeC]
    have he:∀u v:Int,(Op.equalIn (d+1) f.type (I u) (I v)).run P w=.ok (u==v) w:=λu v=>by
     rw[Op.equalIn];simp[Aex,run_underlying hu,go_sem]
    simp only[Aex,hp cs h1,hp es h2,he,Aet];have e3:(cs.getD f.offset 0==es.getD f.offset 0)=decide (cs[f.offset]?=es[f.offset]?):=by
     rw[Aef (show f.offset<cs.length by omega),Aef (show f.offset<es.length by omega)];simp[List.getD,Aef (show f.offset<cs.length by omega),Aef (show f.offset<es.length by omega)];rw[Aey];simp
    rw[e3];by_cases q:cs[f.offset]?=es[f.offset]?
    ·simp[q,go_sem]
    simp[q,go_sem]
   cases h5
  have j:(Op.equal xt (.agg (cs.map I).toArray) (.agg (es.map I).toArray)).run P w=.ok (decide (cs=es)) w:=i 9998;have c:(eqGuard .eql xt x y (.agg (cs.map I).toArray) (.agg (es.map I).toArray)).run P w=.ok () w:=by
   simp[eqGuard,Aex,program,Sem.run,hg]
  simp only[execOp,ho,hF.ev hx,hF.ev hy];simp only[binOp,Aex,c,j,Aet,AeC]
 cases g
end
theorem Adm{e:Vl}(h:[(0:Int),0,0,0,0,0]=[e.id,e.st,e.sz,e.q,e.r,e.mp]):e=v0:=by
 cases e
 simp at h;obtain ⟨d,g,c,f,a,b⟩:=h;subst d g c f a b;rfl
def Br(sz:Int)(snd:Bool)(at_ count:Int):Int:=if snd=true/\1<=count/\count<=8 then (if 0<=at_/\at_<=sz-count then 0 else 34) else 1
theorem Hl:Aj 65 [I t,I s,I p] [] (λv G=>v=.bool (decide (s<=t/\t<=p))/\G=[]):=by
 intro z R w H;refine Ae func65 Z ntmps65 Z (Z0 11 [0] Z (An 10 Z (λa=>?_) (λa=>?_)))
 ·refine Z0 8 [0] Z (Zr Z ?_);exact ⟨_,⟨congrArg Value.bool (by first|(rw[Aey];simp<;>omega)|(simp<;>omega)),Z⟩,H⟩
 refine Zc 8 Z (Zr Z ?_);exact ⟨_,⟨congrArg Value.bool (by first|(rw[Aey];simp<;>omega)|(simp<;>omega)),Z⟩,H⟩
theorem QW{vs:List Vl}:Aj 22 [Y m] [voA m i t l vs] (λv G=>v=Y i/\G=[voA m i t l vs]):=by
 intro z R w H;obtain ⟨c,d,H⟩:=H.vo;refine Ae func22 Z ntmps22 Z (Z2 15 [0,0,0] H Z (Zr Z ?_));exact ⟨_,⟨Z,Z⟩,(H.pick 3 [0,1,2] Z).toVo⟩
theorem JO{vs:List Vl}(id:Int)(hv:vs.length=8):Aj 46 [Y m,I id] [voA m g t l vs] (λv G=>(∃(i:Nat) (e:Vl),(vs[i]?=some e/\e.st=1/\e.id=id)/\v=I (i:Int)/\G=[voA m g t l vs])\/((∀e∈vs,¬(e.st=1/\e.id=id))/\v=I (-1)/\G=[voA m g t l vs])):=by
 intro z R w H;obtain ⟨vv,y,H⟩:=H.vo;have p:=H.sy 1 (·.slc);obtain ⟨u,x,rfl⟩:=p;refine Ae func46 Z ntmps46 Z (Z2 18 [1,2,0,0] H Z ?_);refine AD (σ:=Nat) (λi=>[(12,I (i:Int)),(0,Y m),(1,I id),(11,I (vs.length:Int))])
   (λi w=>Sep z (blk m [Y g,I t,.slice u vs.length x,y] 85::grow 77 6 (.slice u vs.length x) vs.length (Be vs)::Cz y l::R) w/\(i<=vs.length/\∀(j:Nat) (e:Vl),j<i->vs[j]?=some e->¬(e.st=1/\e.id=id))) (λi=>vs.length-i) 0
   fr_z ⟨H,⟨AeN _,λj e h=>by omega⟩⟩ ?_
 clear H;rintro i w ⟨H',hI⟩;have H:=H'.l3;obtain ⟨hi,c⟩:=hI;refine Z0 6 [0] Z (Af Z (λh1=>?_) (λh1=>?_))
 ·refine Zc 11 Z ?_;obtain ⟨e,d⟩:∃e,vs[i]?=some e:=⟨_,Aef U⟩;have b:=(H.rv 1 (·.rd)).at (AV d 0 _ Z)
  have f:=(H.rv 1 (·.rd)).at (AV d 1 _ Z);refine Z2 7 [1,2,0,0] H Z (Ab Z (Ak Z (z:=6) (j:=i) (r:=i*6) J Z Z Z U b U) (Ab Z (Bh Z (k:=1) (r:=i*6+1) J Z b Z) (Ab Z (Ay Z Z J (Az f)) (Z0 2 [0] Z (An 25 Z (λh2=>?_) (λh2=>?_))))))
  ·refine Z2 6 [1,2,0,0] H Z (Ab Z (Ak Z (z:=6) (j:=i) (r:=i*6) J Z Z Z U b U) (Ab Z (Bh Z (k:=0) (r:=i*6) J Z b Z) (Ab Z (Ay Z Z J (Az b)) (Z0 5 [0] Z (Af Z (λh3=>?_) (λh3=>?_))))))
   ·refine Zc 7 Z (Zr Z ?_);exact ⟨_,.inl ⟨i,e,⟨d,by assumption,by assumption⟩,Z,Z⟩,(H.pick 3 [0,1,2] Z).toVo⟩
   refine Z1 7 [] [(i:Int)+1] Z U (gf ?_);intro _ s;refine ⟨(i+1),s.cz,⟨H,?_⟩,?_⟩
   ·refine ⟨by omega,λj n o a=>?_⟩;rcases Aes j i with q|q
    ·exact c j n q a
    obtain rfl:j=i:=by omega
    rw[d] at a;cases a;omega
   omega
  refine Z1 22 [] [(i:Int)+1] Z U (gf ?_);intro _ s;refine ⟨(i+1),s.cz,⟨H,?_⟩,?_⟩
  ·refine ⟨by omega,λj n o a=>?_⟩;rcases Aes j i with q|q
   ·exact c j n q a
   obtain rfl:j=i:=by omega
   rw[d] at a;cases a;omega
  omega
 refine Zc 2 Z (gx (Zc 8 Z (Zr Z ?_)));exact ⟨_,.inr ⟨λn a=>(by obtain ⟨j,o⟩:=AeX.1 a;exact c j n (by have:=(Aed.1 o).1;omega) o),Z,Z⟩,(H.pick 3 [0,1,2] Z).toVo⟩
theorem WA{o:Value}(vs:List Vl)(g:∀h,A h->rdH 6 o vs.length (Be vs) h)(hv:vs.length=8):Aj 86 [o,.agg #[I 0,I 0,I 0,I 0,I 0,I 0]] [A] (λv G=>(∃i:Nat,vs[i]?=some v0/\v=I (i:Int)/\G=[A])\/((∀e∈vs,e≠v0)/\v=I (-1)/\G=[A])):=by
 intro z R w H;obtain ⟨am,t,rfl⟩:=H.sy 0 (λq=>(g _ q).slc);refine Ae func86 Z ntmps86 Z (Za 2 [] H Z ?_);intro p w H;refine Zc 12 Z ?_;refine AD (σ:=Nat) (λi=>[(8,I (i:Int)),(0,.slice am vs.length t),(3,Y p),(7,I (vs.length:Int))])
   (λi w=>Sep z (blk p [I 0,I 0,I 0,I 0,I 0,I 0] 77::A::R) w/\(i<=vs.length/\∀(j:Nat) (e:Vl),j<i->vs[j]?=some e->e≠v0)) (λi=>vs.length-i) 0
   fr_z ⟨H,⟨AeN _,λj e h=>by omega⟩⟩ ?_
 clear H;rintro i w ⟨n,hI⟩;have H:=n.l2;obtain ⟨hi,b⟩:=hI;refine Z0 6 [0] Z (Af Z (λs=>?_) (λs=>?_))
 ·refine Zc 11 Z ?_;obtain ⟨e,d⟩:∃e,vs[i]?=some e:=⟨_,Aef U⟩;have c:=(H.rv 1 (g _)).at (AV d 0 _ Z)
  refine By (Sep z _) J J H.drew (GL 3 [0,6] [] Z J (AM Z Z Z (Ak Z (z:=6) (j:=i) (r:=i*6) J Z Z Z U c U) (AM Z Z Z (Bq Z Z (vs:=e.cells) J (by simp[Vl.cells]) (λ_ x=>(λk u hk=>(x.rv 1 (g _)).at (AV d k u hk)))) (AM Z Z Z (T9 (cs:=[(0:Int),0,0,0,0,0]) (es:=[e.id,e.st,e.sz,e.q,e.r,e.mp]) (m:=6) Z J Z Z J J Z Z) (BL (λw n=>?_))))));have H:=n.l2;refine gn (Zc 1 Z (Af Z (λh2=>?_) (λh2=>?_)))
  ·refine Zc 7 Z (Zr Z ?_);exact ⟨_,.inl ⟨i,d.trans (congrArg some (Adm (e:=e) (by assumption))),Z,Z⟩,H.pick 2 [1] Z⟩
  refine Z1 7 [] [(i:Int)+1] Z U (gf ?_);intro _ y;refine ⟨(i+1),y.cz,⟨H,?_⟩,?_⟩
  ·refine ⟨by omega,λj f l a=>?_⟩;rcases Aes j i with q|q
   ·exact b j f q a
   obtain rfl:j=i:=by omega
   have q9:f=e:=by rw[d] at a;exact (Agd a).symm
   rw[q9];exact λq=>absurd (show [(0:Int),0,0,0,0,0]=[e.id,e.st,e.sz,e.q,e.r,e.mp] by rw[q];rfl) (by assumption)
  omega
 refine Zc 2 Z (gx (Zc 8 Z (Zr Z ?_)));exact ⟨_,.inr ⟨λf a=>(by obtain ⟨j,l⟩:=AeX.1 a;exact b j f (by have:=(Aed.1 l).1;omega) l),Z,Z⟩,H.pick 2 [1] Z⟩
theorem QX{vs:List Vl}(n:vs.length=8):Aj 47 [Y m] [voA m j t l vs] (λv G=>(∃i:Nat,(vs[i]?=some v0/\t<1073741824)/\v=.tuple #[I (i:Int),I 0]/\G=[voA m j t l vs])\/((∀e∈vs,e≠v0)/\v=.tuple #[I 0,I 32]/\G=[voA m j t l vs])\/((v0∈vs/\1073741824<=t)/\v=.tuple #[I 0,I 15]/\G=[voA m j t l vs])):=by
 intro z R w H;obtain ⟨o,p,H⟩:=H.vo;refine Ae func47 Z ntmps47 Z (Z2 13 [1,2,0,0] H Z (Ab Z (Bg Z Z (out:=[I 0,I 0,I 0,I 0,I 0,I 0]) J) (Ar Z (call86 _) (WA vs (λh q=>q.rd) n) H.f1 ?_)));rintro _ w _ (⟨i,b,rfl,rfl⟩|⟨a,rfl,rfl⟩) c
 ·have H:=c.l3;refine Z0 12 [0] Z (Af Z (λg=>U) (λg=>?_))
  refine Z2 11 [1,1,1,0,0] H Z (Af Z (λk=>?_) (λk=>?_))
  ·refine Zc 7 Z (Zr Z ?_);exact ⟨_,.inr (.inr ⟨⟨Aee b,by omega⟩,Z,Z⟩),(H.pick 3 [1,0,2] Z).toVo⟩
  refine Zc 11 Z (Zr Z ?_);exact ⟨_,.inl ⟨i,⟨b,by omega⟩,Z,Z⟩,(H.pick 3 [1,0,2] Z).toVo⟩
 have H:=c.l3;refine Z0 20 [3] Z (Zr Z ?_);exact ⟨_,.inr (.inl ⟨a,Z,Z⟩),(H.pick 3 [1,0,2] Z).toVo⟩
theorem Pa{vs:List Vl}{a:Int}(hv:vs.length=8)(y:∀e∈vs,-1073741824<=e.sz/\e.sz<=1073741824)(a5: -9223372036854775808<=p/\p<=9223372036854775807)(a1: -9223372036854775808<=a/\a<=9223372036854775807):Aj 39 [Y m,I s,I p,I a,.bool b] [voA m g t l vs] (λv G=>((∀e∈vs,¬(e.st=1/\e.id=s))/\v=.tuple #[I 0,I 31]/\G=[voA m g t l vs])\/(∃(i:Nat) (e:Vl),(vs[i]?=some e/\e.st=1/\e.id=s)/\v=.tuple #[I (if Br e.sz b p a=0 then (i:Int) else 0),I (Br e.sz b p a)]/\G=[voA m g t l vs])):=by
 intro z R w H;refine Ae func39 Z ntmps39 Z (Zc 10 Z (Ar Z (call46 _) (JO s U) H ?_));rintro _ w _ (⟨i,e,⟨f,c,d⟩,rfl,rfl⟩|⟨u,rfl,rfl⟩) H'
 ·have H:=H'.l1;refine Z0 12 [0] Z (Af Z (λh1=>U) (λh1=>?_))
  refine Zc 5 Z (DR 22 Z (λh2=>?_) (λh2=>?_))
  ·refine Zc 15 Z (Zr Z ?_);have h:Br e.sz b p a=1:=by unfold Br;rw[if_neg (λq=>by first|omega|(obtain ⟨q1,_⟩:=q;simp_all))]
   exact ⟨_,.inr ⟨i,e,⟨f,c,d⟩,by rw[h];rfl,Z⟩,H.pick 1 [0] Z⟩
  refine Zc 1 Z (z_E_ Z (call65 _) (Hl) H ?_);intro w H;refine Ab Z (AH Z Z) (Zc 4 Z (Af Z (λh3=>?_) (λh3=>?_)))
  ·refine Zc 7 Z (Zr Z ?_);have h:Br e.sz b p a=1:=by unfold Br;rw[if_neg (λq=>by first|omega|(obtain ⟨q1,_⟩:=q;simp_all))]
   exact ⟨_,.inr ⟨i,e,⟨f,c,d⟩,by rw[h];rfl,Z⟩,H.pick 1 [0] Z⟩
  refine Zc 1 Z ?_;obtain ⟨vv,sv,H⟩:=H.vo;have x:=H.sy 1 (·.slc);obtain ⟨am,mc,rfl⟩:=x;have a4:=(Aed.1 f).1;have a0:=y e (Aee f);have n:=(H.rv 1 (·.rd)).at (AV f 0 _ Z);have o:=(H.rv 1 (·.rd)).at (AV f 2 _ Z);refine Z0 4 [0] Z (An 30 Z (λh4=>?_) (λh4=>?_))
  ·refine Zc 25 Z (Zr Z ?_);have h:Br e.sz b p a=34:=by unfold Br;rw[if_pos ⟨by first|assumption|simp_all,by omega,by omega⟩,if_neg U]
   exact ⟨_,.inr ⟨i,e,⟨f,c,d⟩,by rw[h];rfl,Z⟩,(H.pick 3 [0,1,2] Z).toVo⟩
  refine Z2 7 [1,2,0,0] H Z (Ab Z (Ak Z (z:=6) (j:=i) (r:=i*6) J Z Z Z U n U) (Ab Z (Bh Z (k:=2) (r:=i*6+2) J Z n Z) (Ab Z (Ay Z Z J (Az o)) (Z1 7 [0] [e.sz-a] Z U (Af Z (λh5=>?_) (λh5=>?_))))))
  ·refine Zc 7 Z (Zr Z ?_);have h:Br e.sz b p a=34:=by unfold Br;rw[if_pos ⟨by first|assumption|simp_all,by omega,by omega⟩,if_neg U]
   exact ⟨_,.inr ⟨i,e,⟨f,c,d⟩,by rw[h];rfl,Z⟩,(H.pick 3 [0,1,2] Z).toVo⟩
  refine Zc 11 Z (Zr Z ?_);have h:Br e.sz b p a=0:=by unfold Br;rw[if_pos ⟨by first|assumption|simp_all,by omega,by omega⟩,if_pos U]
  exact ⟨_,.inr ⟨i,e,⟨f,c,d⟩,by rw[h];rfl,Z⟩,(H.pick 3 [0,1,2] Z).toVo⟩
 have H:=H'.l1;refine Z0 20 [3] Z (Zr Z ?_);exact ⟨_,.inl ⟨u,Z,Z⟩,H.pick 1 [0] Z⟩
theorem Z8(a pp ps c e pd n:Nat)(nx:Int)(sk:List Int)(vs:List Vl)(D:Dsk)(G:StG)(d:Bool)(mb:Nat)(h:Fine D G mb):Aj 35 [Y a] [voA a pp nx sk vs,plB pp ps c e n d,stoA ps pd D G none] (λv X=>v=I 0/\Fine D.fl {G with sure:=G.rs.length} mb/\X=[voA a pp nx sk vs,plB pp ps c e n d,stoA ps pd D.fl {G with sure:=G.rs.length} none]):=by
 intro z R w H;replace H:=H.l3;obtain ⟨i,j,H⟩:=H.vo;replace H:=H.l5;refine Ae func35 Z ntmps35 Z (Z2 15 [0,0,0,0,0,3,0] H Z (Ar Z (call61 _) (sync_s mb h) H.f4 ?_));rintro _ w _ ⟨rfl,b,rfl⟩ H;refine Zc 4 Z (Zr Z ?_);exact ⟨_,⟨Z,b,Z⟩,(H.pick 5 [1,2,3,4,0] Z).toVo⟩
end
section
variable{Tb:Ai}{z w:World}{Γ:List Ai}{pp mb n:Nat}{o:TB}{t:TS}{R:List Nat}
theorem trA.perm0{Q:List Nat}(hp:o.R.Perm Q)(a:trA Tb pp mb n o none h):trA Tb pp mb n ⟨o.N,o.C,Q⟩ none h:=by
 obtain ⟨M0,b,a⟩:=a;exact ⟨M0,⟨b.m,b.i.perm hp⟩,a⟩
theorem WB{pp mb n:Nat}{o:TB}(t:TS)(R:List Nat)(x:Pg)(g:x.Ok)(B:Ai)(j:∀h,B h->rdH 1 u 240 (x.body.map u8) h)(l:t.k<40):
  Aj 169 [Y pp,I 0,.agg #[I x.kind,u]] [trA Tb pp mb n o (some (t,R)),B] (λv G=>∃k,k<=t.k+1/\v=I 0/\G=[trA Tb pp mb n o (some (⟨t.N,t.C,t.F,k⟩,R)),B]):=by
 intro z R' w H;have K:=H.says 0 Z (λh a=>trA.k a);obtain ⟨⟨M0,M⟩,c,H⟩:=H.tr1;refine Ret.mono (Cn.at (write_p pp mb n M0 o.C ⟨M,t.C,t.F,t.k⟩ 0 x g u B j l ⟨.inl Z,by have:=K.hn;omega⟩ (by have:=K.one 0 (AeN _);simp only[curC] at this;show t.C 0≠0;omega)) H 2 [0,1] Z Z) ?_;rintro v q ⟨Γ',⟨e,f,rfl,rfl⟩,p⟩;refine ⟨_,⟨e,f,Z,Z⟩,Sep.toTr1 (C:=t.C) (F:=t.F) (k:=e) (N:=t.N) p c.1 ⟨λd c' b=>?_,c.2.i⟩⟩;have:=(c.2.i.nin d c' b).1;rw[fup_ne _ _ U];exact c.2.m d c' b
theorem Ic{pp mb n:Nat}{vs:List Vl}{o:TB}:Aj 35 [Y m] [voA m pp s l vs,trA Tb pp mb n o none] (λv G=>v=I 0/\G=[voA m pp s l vs,trA Tb pp mb n o none]):=by
 intro z R' w H;obtain ⟨M0,b,H⟩:=(H.pick 2 [1,0] Z).tr0;obtain ⟨X,a,H⟩:=H.po;refine Ret.mono (Cn.at (Z8 m pp X.ps X.pc X.pa X.pd n s l vs X.D X.G false mb a.fine) H 8 [7,0,1,2,3,4,5,6] Z Z) ?_;rintro v f ⟨Γ',⟨rfl,d,rfl⟩,c⟩;refine ⟨_,⟨Z,Z⟩,(Sep.toTr0 (o:=o) ((c.pick 8 [1,2,3,4,5,6,7,0] Z).toPo (X:= {X with D:=X.D.fl,G:= {X.G with sure:=X.G.rs.length}}) (M0:=M0) (t:=none) ⟨a.hn,d,a.pg,a.tab,a.m0,a.cp,a.c0,a.one,a.idle,λT e=>(by cases e)⟩ Z) b).pick 2 [1,0] Z⟩
end
section
variable{Tb:Ai}
set_option maxHeartbeats 2000000 in
theorem Ua {vs:List Vl} {o:TB} (t:TS) (R0:List Nat) (b:List Int) (a:List Vl) (hA:∀h,A h->rdH 6 u a.length (Be a) h) (d:a.length=8) (c:b.length<=8) (f:0<=p/\p<=1073741824) (r:∀x∈b,0<=x/\x<=1023) (a4:∀e∈a,e.Fit) (hk:t.k+1+manyN n<=40) (a3:j<=1000000000):Aj 122 [Y m,.agg #[I p,u,y]] [voA m i s l vs,A,Cz y b,trA Tb i j n o (some (t,R0))] (λv G=>v=I 0/\G=[voA m i p b a,A,Cz y b,trA Tb i (j+2) n ⟨t.N,t.C,R0⟩ none]):=by
 intro z R w H;replace H:=H.l4;obtain ⟨vv,sv,H⟩:=H.vo;replace H:=H.l6;refine Ae func122 Z ntmps122 Z (Za 2 [] H Z ?_);intro b1 w H;refine Z2 10 [0,1,0] H Z (z_E_ Z (call80 _) (HY i j n o) H.f6 ?_);intro w H;replace H:=H.l7;refine AB 12 (v:=.bool true) Z Z (Z2 9 [1,3] H Z (Ar Z (call54 _) (Jd p b a hA (λh q=>q.1.rd) c d f r a4) H.f6.f6 ?_));rintro _ w _ ⟨pw,rfl,rfl⟩ H;replace H:=H.l8;refine Z2 22 [3,0,5,0] H Z (Ar Z (call169 _) (WB t R0 ⟨1,Dr p b a⟩ ⟨by show (1:Int)<=1/\(1:Int)<=5;omega,Kt c d⟩ (blk pw (A7 (AK (Cd p b a a.length)) ((21+19*8:Nat):Int)) 167) (λh q=>HN q (AU (by rw[EA p c (Aek _),d];omega)) U U U (by rfl)) U) H.f3 ?_);rintro _ w _ ⟨k2,a7,rfl,rfl⟩ H;replace H:=H.l8;refine Z2 20 [4,0,5,0] H Z (z_E_ Z (call170 _) (Wf (⟨t.N,t.C,t.F,k2⟩:TS) R0 (by show k2+manyN n<=40;omega) a3) H ?_);intro w H;replace H:=H.l8;refine Z2 16 [4,4,3] H Z (Ar Z (call130 _) (M3 b a (λh q=>hA h q) d c) H.f3.f3 ?_);rintro _ w _ ⟨a0,g,rfl,rfl⟩ H;replace H:=H.l10;have a1:=H.sy 0 (·.slc);have a2:=H.sy 1 (·.1.slc);refine Z0 2 [1] Z (AC Z Z (Al 7 H Z Z Z Z (vs:=[I p,a0,g]) Z (Ad Z (Ad a1.one (Ad a2.one Aw))) J O (out:=[Y i,I p,a0,g]) Z) ?_);rintro w H;replace H:=H.l10;refine Zc 8 Z (Zr Z ?_);exact ⟨_,⟨Z,Z⟩,(H.pick 10 [7,0,1,2,3,4] Z).toVo⟩
end
section
variable{Tb:Ai}
theorem Lp{vs:List Vl}(j:vs.length=8)(hs:l.length<=8):Aj 77 [Y n] [voA n m t l vs] (λv G=>∃e f:Value,v=.agg #[I t,e,f]/\G=[grow 77 6 e vs.length (Be vs),Cz f l,voA n m t l vs]):=by
 intro z R w H;replace H:=H.l1;obtain ⟨k,o,H⟩:=H.vo;replace H:=H.l3;refine Ae func77 Z ntmps77 Z (Za 2 [] H Z ?_);intro p w H;refine Z2 8 [1,1,3] H Z (Ar Z (call130 _) (M3 l vs (λh q=>q.rd) j hs) H.f3.f3 ?_);rintro _ w _ ⟨b,a,rfl,rfl⟩ H;replace H:=H.l6;have c:=H.sy 0 (·.slc);have d:=H.sy 1 (·.1.slc);refine AC Z Z (Al 4 H Z Z Z Z (vs:=[I t,b,a]) Z (Ad Z (Ad c.one (Ad d.one Aw))) J O (out:=[I t,b,a]) Z) ?_;rintro w H;replace H:=H.l6;refine Zc 3 Z (Zl [4,3] H Z ?_);exact ⟨_,⟨b,a,Z,Z⟩,((H.pick 6 [5,2,3,0,1] Z).toVo).pick 3 [1,2,0] Z⟩
set_option maxHeartbeats 2000000 in
theorem change_c (p pp mb n:Nat) (nx:Int) (vs:List Vl) (o:TB) (hv:vs.length=8) (E0:Ai) (f:FuncId) (us:List Value) (m:∀a w,(callFunc f a).run prog w=.ok (.enter f a) w) (a0:Int->Ai->Prop) (i:Int->List Vl->TS->List Nat->Ai->Prop) (a7:∀(c:Nat) (v1 v2:Value),Aj f (Y c::us) [blk c [I nx,v1,v2] 83,grow 77 6 v1 vs.length (Be vs),Cz v2 [],voA p pp nx [] vs,trA Tb pp mb n o (some ((⟨o.N,o.C,AX n o.C,0⟩:TS),o.R)),E0] (λv G=>(∃(e:Int) (d:Ai) (s:TS×List Nat),(e≠0/\a0 e d)/\v=I e/\G=[voA p pp nx [] vs,trA Tb pp mb n o (some s),d])\/(∃(nx2:Int) (b:List Vl) (t:TS) (j:List Nat) (d:Ai),i nx2 b t j d/\v=I 0/\G=[blk c [I nx2,v1,v2] 83,grow 77 6 v1 b.length (Be b),Cz v2 [],voA p pp nx [] vs,trA Tb pp mb n o (some (t,j)),d]))) (hG:∀nx2 b t j d,i nx2 b t j d->b.length=8/\(0<=nx2/\nx2<=1073741824)/\(∀e∈b,e.Fit)/\t.k+1+manyN n<=40) (a3:mb<=1000000000):Aj 71 [Y p,(.func (.func f) #[] us.toArray)] [voA p pp nx ([]) vs,trA Tb pp mb n o none,E0] (λv G=>(∃(e:Int) (d:Ai),(e≠0/\a0 e d)/\v=I e/\G=[voA p pp nx [] vs,trA Tb pp mb n o none,d])\/(∃(nx2:Int) (b:List Vl) (t:TS) (j:List Nat) (d:Ai),i nx2 b t j d/\v=I 0/\G=[voA p pp nx2 [] b,trA Tb pp (mb+2) n ⟨t.N,t.C,j⟩ none,d])):=by
 intro z R w H;refine Ae func71 Z ntmps71 Z (Zc 7 Z ?_);obtain ⟨vv,sv,H⟩:=H.vo;refine Z2 5 [0,0,0] H Z (z_E_ Z (call120 _) (ZA) H.f3 ?_);intro w H;replace H:=((H.pick 5 [1,2,3,0,4] Z).toVo).l3;refine Z0 15 [4] Z (Ar Z (call77 _) (Lp hv O) H ?_);rintro _ w _ ⟨r,l,rfl,rfl⟩ H;have y:=H.sy 0 (·.slc);have u:=H.sy 1 (·.1.slc);refine Za 0 [] H Z ?_;intro b2 w H;refine AC Z Z (Al 0 H Z Z Z Z (vs:=[I nx,r,l]) Z (Ad Z (Ad y.one (Ad u.one Aw))) J O (out:=[I nx,r,l]) Z) ?_;rintro w H;refine Zc 6 Z (AdU Z Z Z Z (m _) (a7 b2 r l) H ?_);rintro _ w _ (⟨e,d,s,⟨a6,x⟩,rfl,rfl⟩|⟨nx2,b,t,j,d,g,rfl,rfl⟩) H'
 ·have H:=H'.l3;refine Z0 9 [0] Z (Af Z (λh1=>?_) (λh1=>?_))
  ·refine Zc 1 Z ?_;obtain ⟨b1,b0,H⟩:=H.vo
   refine Z2 5 [0,0,0] H Z (z_E_ Z (call121 _) (ZB) H.f3 ?_);intro w H;replace H:=((H.pick 5 [1,2,3,0,4] Z).toVo).l3;refine Zc 9 Z (Zr Z ?_);exact ⟨_,.inl ⟨e,d,⟨a6,x⟩,Z,Z⟩,H.pick 3 [0,1,2] Z⟩
  (exfalso;omega)
 have H:=H'.l6;obtain ⟨a4,a1,a5,a2⟩:=hG _ _ _ _ _ g;refine Z2 16 [4,0,3] H Z (z_E_ Z (call122 _) (Ua t j [] b (λh q=>q.rd) a4 O a1 O a5 a2 a3) H.f4.f3.f3.f4 ?_);intro w H;refine Zc 4 Z (Zr Z ?_);exact ⟨_,.inr ⟨nx2,b,t,j,d,g,Z,Z⟩,H.pick 6 [0,3,5] Z⟩
end
section
variable{Tb:Ai}
section
variable{P:Program}{o:Oper}{w z:World}{Γ:List Ai}{n:Nat}{ds:List Deferred}{L:List (Nat×Value)}{v:Value}{x y:Operand}
theorem CW(i:Nat)(H:Sep z Γ w){e:TypeId}{q:Nat}{k:Option Addr}{vs:List Value}(hi:Γ[i]?=some (grow e j (.slice k m r) m V))(ho:o.op=.store T x y)(hx:ev L x=some (GG k q))(hy:ev L y=some v)(hv:v.cells=vs.toArray)(h1:∀u∈vs,u.oneCell'=true)
  (hs:(P.info? T).map (·.size)=some vs.length)(hm:0<m)(hq:q+vs.length<=m*j){out:List Value}(c:V.take q++vs++V.drop (q+vs.length)=out):
  DI P n ds L o w (λs=>Sep z (Γ.set i (grow e j (.slice k m r) m out)) s):=λa hF=>by
 have l:V.length=m*j:=H.says i hi (λh g=>g.len);obtain ⟨g,a1,rest,hu,h3,h4,h5,H2⟩:=H.ungrow i hi hm;cases hu;have f:i<Γ.length:=(Aed.1 hi).1;have t:(Γ.set i (blk g (V++rest) e))[i]?=some (blk g (V++rest) e):=by rw[Afy f]
 have a0:m*j+(r-m)*j=r*j:=by rw[<-AhH];congr 1;omega
 obtain ⟨s,hr,H3⟩:=Al (P:=P) (n:=n) (ds:=ds) (L:=L) i H2 (p:=0+q) (vs:=vs) t ho hx hy hv h1 hs (by rw[Aeg,l,h5];omega) (out:=out++rest) (by
  rw[AfO,Aev U,AeV U,<-c];simp only[Aej]) a hF
 refine ⟨s,hr,?_⟩;rw[AgW] at H3;have d:out.length=m*j:=by rw[<-c];simp only[Aeg,Aez,AeQ];omega
 have:=H3.mono i (B:=grow e j (.slice (some ⟨g,0,none⟩) m r) m out) (by rw[Afy f]) (λh b=>blk.grow b h3 h4 (by rw[Aeg,d,h5];omega) (by rw[<-d,AeI];rfl));rw[AgW] at this;exact this
end
theorem EK{vs:List Vl}{e e2:Vl}(h:vs[i]?=some e)(k:Nat)(g:k+V.length<=6)(b:e.cells.take k++V++e.cells.drop (k+V.length)=e2.cells):(Be vs).take (i*6+k)++V++(Be vs).drop (i*6+k+V.length)=Be (vs.set i e2):=by
 obtain ⟨a,rfl⟩:=Aed.1 h;have e1:vs=vs.take i++vs[i]::vs.drop (i+1):=by rw[<-Ae1 a,AeP]
 have d:vs.set i e2=vs.take i++e2::vs.drop (i+1):=by rw[Afc,if_pos a]
 have f:(Be (vs.take i)).length=i*6:=by rw[ZW,Aez,AeG U]
 have c:Be vs=Be (vs.take i)++(vs[i].cells++Be (vs.drop (i+1))):=by
  have:=congrArg Be e1;rw[JM] at this;exact this.trans (congrArg (Be (vs.take i)++ ·) Z)
 have j:vs[i].cells.length=6:=rfl;rw[c,d,JM];rw[show i*6+k=(Be (vs.take i)).length+k by omega,Ahk,show (Be (vs.take i)).length+k+V.length=(Be (vs.take i)).length+(k+V.length) by omega,Ahl,Aev U,AeV U];have:Be (e2::vs.drop (i+1))=e2.cells++Be (vs.drop (i+1)):=by simp[Be]
 rw[this,<-b];simp only[Aej]
theorem Z9(c h:Nat)(nx:Int)(b d:Value)(vs:List Vl)(i:Nat)(e:Vl)(f:vs[i]?=some e)(q:vs.length=8):Aj 72 [Y c,Y h] [blk c [I nx,b,d] 83,grow 77 6 b vs.length (Be vs),Cz d ([]),blk h [I (i:Int)] 3] (λv G=>v=I 0/\G=[blk c [I nx,b,d] 83,grow 77 6 b vs.length (Be (vs.set i {e with st:=2})),Cz d ([]),blk h [I (i:Int)] 3]):=by
 intro z R w H;have g:=H.sy 1 (·.slc);obtain ⟨p,o,rfl⟩:=g;have l:=(Aed.1 f).1;have a:=(H.rv 1 (·.rd)).at (AV f 0 _ Z);refine Ae func72 Z ntmps72 Z (Zc 6 Z (BK 7 J J (A4 H λw m=>?_)));have H:=m.l4;refine PU 5 [1,0,1] (AR (H.blk 0 Z) (AR (H.blk 3 Z) AN)) Z J Z (Cc Z Z Z (Ak Z (z:=6) (j:=i) (r:=i*6) J Z Z Z U a U) (Cc Z Z Z (Bh Z (k:=1) (r:=i*6+1) J Z a Z) (CG (gw (AC Z Z (CW 1 H Z Z Z Z (vs:=[I 2]) Z (by simp[Value.oneCell']) J U (by simp only[Aei,AeD];omega) (out:=Be (vs.set i {e with st:=2})) (EK (e2:= {e with st:=2}) f 1 O (by simp[Vl.cells,v0]))) ?_)))));rintro w H;refine Zc 8 Z (Zr Z ?_);exact ⟨_,⟨Z,Z⟩,H.pick 4 [0,1,2,3] Z⟩
theorem Aaa(c bs l:Nat)(nx:Int)(d f:Value)(vs:List Vl)(i:Nat)(e:Vl)(g:vs[i]?=some e)(s:vs.length=8)(a:Int):Aj 74 [Y c,Y bs,Y l] [blk c [I nx,d,f] 83,grow 77 6 d vs.length (Be vs),Cz f ([]),blk bs [I a] 3,blk l [I (i:Int)] 3] (λv G=>v=I 0/\G=[blk c [I nx,d,f] 83,grow 77 6 d vs.length (Be (vs.set i {e with sz:=a})),Cz f ([]),blk bs [I a] 3,blk l [I (i:Int)] 3]):=by
 intro z R w H;have h:=H.sy 1 (·.slc);obtain ⟨q,p,rfl⟩:=h;have m:=(Aed.1 g).1;have b:=(H.rv 1 (·.rd)).at (AV g 0 _ Z);refine Ae func74 Z ntmps74 Z (Zc 6 Z (BK 8 J J (A4 H λw n=>?_)));have H:=n.l5;refine PU 6 [1,0,1,2] (AR (H.blk 0 Z) (AR (H.blk 4 Z) (AR (H.blk 3 Z) AN))) Z J Z (Cc Z Z Z (Ak Z (z:=6) (j:=i) (r:=i*6) J Z Z Z U b U) (Cc Z Z Z (Bh Z (k:=2) (r:=i*6+2) J Z b Z) (CG (gw (AC Z Z (CW 1 H Z Z Z Z (vs:=[I a]) Z (by simp[Value.oneCell']) J U (by simp only[Aei,AeD];omega) (out:=Be (vs.set i {e with sz:=a})) (EK (e2:= {e with sz:=a}) g 2 O (by simp[Vl.cells,v0]))) ?_)))));rintro w H;refine Zc 8 Z (Zr Z ?_);exact ⟨_,⟨Z,Z⟩,H.pick 5 [0,1,2,3,4] Z⟩
theorem QY{n:Nat}{o:TB}{s:TS×List Nat}:Aj 145 [Y m] [trA Tb m i n o (some s)] (λv G=>v=I 0/\G=[trA Tb m i n o (some s)]):=by
 intro z R w H;refine Ae func145 Z ntmps145 Z (Zc 19 Z (z_E_ Z (call80 _) (HY m i n o) H ?_));intro w H;refine AB 6 (v:=.bool true) Z Z (Zc 12 Z (Zr Z ?_));exact ⟨_,⟨Z,Z⟩,H⟩
theorem Acn(pp mb n:Nat)(o:TB)(t:TS)(a:List Nat)(p:Nat)(e:p≠0)(hp:manyN n<p/\p<n)(d:1<=t.C p)(c:a.length+n<1000):Aj 88 [Y pp,I (p:Int)] [trA Tb pp mb n o (some (t,a))] (λv G=>v=.tuple #[I (p:Int),I 0]/\G=[trA Tb pp mb n o (some ({t with C:=fup t.C p (t.C p+1)},p::a))]):=by
 intro z R w H;refine Ae func88 Z ntmps88 Z (Zc 10 Z (z_E_ Z (call145 _) (QY) H ?_));intro w H;refine Z0 19 [4,0] Z (Af Z (λb=>U) (λb=>?_));refine Zc 7 Z (z_E_ Z (call146 _) (XD pp mb n o t a p hp d c) H ?_);intro w H;refine Z0 20 [4] Z (Zr Z ?_);exact ⟨_,⟨Z,Z⟩,H⟩
theorem Aab(pp mb n:Nat)(o:TB)(s:TS×List Nat):Aj 88 [Y pp,I 0] [trA Tb pp mb n o (some s)] (λv G=>v=.tuple #[I 0,I 0]/\G=[trA Tb pp mb n o (some s)]):=by
 intro z R w H;refine Ae func88 Z ntmps88 Z (Zc 10 Z (z_E_ Z (call145 _) (QY) H ?_));intro w H;refine Z0 27 [4,3] Z (Zr Z ?_);exact ⟨_,⟨Z,Z⟩,H⟩
theorem WC{n:Nat}{o:TB}(t:TS)(b:List Nat)(r:Int)(g:0<=r)(a:r.toNat≠0->(manyN n<r.toNat/\r.toNat<n)/\1<=t.C r.toNat)(f:b.length+n<1000):Aj 88 [Y m,I r] [trA Tb m i n o (some (t,b))] (λv G=>∃C2,v=.tuple #[I r,I 0]/\G=[trA Tb m i n o (some (⟨t.N,C2,t.F,t.k⟩,AZ r.toNat++b))]):=by
 obtain ⟨p,rfl⟩:=AfZ g;intro z R w H;have e:((p:Int)).toNat=p:=rfl;rw[e] at a ⊢;by_cases h0:p=0
 ·subst h0
  refine Ret.mono (Aab m i n o (t,b) z R w H) ?_;rintro v d ⟨Γ',⟨rfl,rfl⟩,c⟩;exact ⟨_,⟨t.C,Z,Z⟩,c⟩
 refine Ret.mono (Acn m i n o t b p h0 (a h0).1 (a h0).2 f z R w H) ?_;rintro v d ⟨Γ',⟨rfl,rfl⟩,c⟩;exact ⟨_,⟨_,Z,Z⟩,by rw[DS h0];exact c⟩
set_option maxHeartbeats 2000000 in
theorem WD (a pp mb n:Nat) (o:TB) (c h d s:Nat) (nx:Int) (f g:Value) (vs:List Vl) (i:Nat) (e:Vl) (k:vs[i]?=some e) (hv:vs.length=8) (x:Vl) (a4:0<=nx/\nx<1073741824) (p:0<=x.r) (m:x.r.toNat≠0->(manyN n<x.r.toNat/\x.r.toNat<n)/\1<=o.C x.r.toNat) (y:o.R.length+n<1000):Aj 87 [Y c,Y h,Y d,Y s] [blk c [I nx,f,g] 83,grow 77 6 f vs.length (Be vs),Cz g ([]),voA a pp nx ([]) vs,trA Tb pp mb n o (some ((⟨o.N,o.C,AX n o.C,0⟩:TS),o.R)),blk h [Y a] 33,blk d [I x.id,I x.st,I x.sz,I x.q,I x.r,I x.mp] 77,blk s [I (i:Int)] 3] (λv G=>∃C2,v=I 0/\G=[blk c [I (nx+1),f,g] 83,grow 77 6 f vs.length (Be (vs.set i x)),Cz g ([]),voA a pp nx ([]) vs,trA Tb pp mb n o (some (⟨o.N,C2,AX n o.C,0⟩,AZ x.r.toNat++o.R)),blk h [Y a] 33,blk d [I x.id,I x.st,I x.sz,I x.q,I x.r,I x.mp] 77,blk s [I (i:Int)] 3]):=by
 intro z R w H;replace H:=H.l8;have t:=H.sy 1 (·.slc);obtain ⟨am,mc,rfl⟩:=t;have a3:=(Aed.1 k).1;have b:=(H.rv 1 (·.rd)).at (AV k 0 _ Z);replace H:=H.f3;obtain ⟨u,sv,H⟩:=H.vo;replace H:=H.l10;refine Ae func87 Z ntmps87 Z (Zc 11 Z ?_);replace H:=H.f8.f1.f8;refine AQ (Sep z (blk h [Y a] 33::blk a [Y pp,I nx,u,sv] 85::blk d [I x.id,I x.st,I x.sz,I x.q,I x.r,I x.mp] 77::R)) 13 Z J (A4 H λw l=>?_);have H:=l.l10;refine AT [0,1,2,3,4,5] [0,0,0,1,0,4,2,0] [] (by exact H.pick 10 [0,1,2] Z) Z J Z (AE [6] J O (Am (Bt Z Z Z Z Z Z (λw=>call88 _ w) (WC (⟨o.N,o.C,AX n o.C,0⟩:TS) o.R x.r p m y) H.f8 Z ?_)));rintro _ w _ ⟨C2,rfl,rfl⟩ H;replace H:=H.l10;refine Ax (H.pick 10 [1,2,3] Z) (AT [7,8,9,10] [4] [] (by exact H.pick 10 [1,2,3] Z) Z J Z (AE [11] J O (Am (Bj Z Z Z (AdG 3 H Z Z Z Z Z Z J) ?_))));rintro w H;replace H:=H.l10;refine Ax (H.pick 10 [1,2,3] Z) (AT [12] [] [] (by exact H.pick 10 [1,2,3] Z) Z J Z (a_done J (gn (Zc 2 Z (BK 7 J J (A4 H λw l=>?_))))));have H:=l.l10;refine Mz 6 [1,6,0,9,0,3,6] [] H Z J (Cc Z Z Z (Ak Z (z:=6) (j:=i) (r:=i*6) J Z Z Z U b U) (CG (gw (AC Z Z (CW 7 H Z Z Z Z (vs:=[I x.id,I x.st,I x.sz,I x.q,I x.r,I x.mp]) Z (by simp[Value.oneCell']) J U (by simp only[Aei,AeD];omega) (out:=Be (vs.set i x)) (EK (e2:=x) k 0 O (by simp[Vl.cells,v0]))) ?_))));rintro w H;replace H:=H.l10;refine Z5 21 [0,6,0,0,6] [nx+1] H Z U ?_;intro w H;refine Zr Z ?_;exact ⟨_,⟨C2,Z,Z⟩,((H.pick 10 [2,4,5,6,7,8,0,1,3,9] Z).toVo).pick 8 [1,2,3,0,4,5,6,7] Z⟩
end
section
variable{Tb:Ai}
theorem GD{vs:List Vl}{x:Vl}(h:∀e∈vs,e.Fit)(a:x.Fit):∀e∈vs.set i x,e.Fit:=λe b=>by
 rcases Ahv b with q|q
 ·exact h e q
 rw[q];exact a
theorem R7(i pp mb n:Nat)(nx:Int)(vs:List Vl)(o:TB)(hv:vs.length=8){f:FuncId}(us:List Value)(d:∀a w,(callFunc f a).run prog w=.ok (.enter f a) w)(nx2:Int)(b:List Vl)(R2:List Nat)
  (q:∀(c:Nat) (g h:Value),Aj f (Y c::us) [blk c [I nx,g,h] 83,grow 77 6 g vs.length (Be vs),Cz h [],voA i pp nx [] vs,trA Tb pp mb n o (some (⟨o.N,o.C,AX n o.C,0⟩,o.R)),A] (λv G=>∃C2,v=I 0/\G=[blk c [I nx2,g,h] 83,grow 77 6 g vs.length (Be b),Cz h [],voA i pp nx [] vs,trA Tb pp mb n o (some (⟨o.N,C2,AX n o.C,0⟩,R2)),A]))
  (r:b.length=vs.length)(l:0<=nx2/\nx2<=1073741824)(s:∀e∈b,e.Fit)(x:manyN n<=9)(m:mb<=1000000000):
  Aj 71 [Y i,.func (.func f) #[] us.toArray] [voA i pp nx [] vs,trA Tb pp mb n o none,A] (λv G=>∃C2,v=I 0/\G=[voA i pp nx2 [] b,trA Tb pp (mb+2) n ⟨o.N,C2,R2⟩ none,A]):=by
 intro z R w H;refine Ret.mono (change_c i pp mb n nx vs o hv A f us d (λ_ _=>False) (λj k t R0 E2=>∃C2,j=nx2/\k=b/\t=⟨o.N,C2,AX n o.C,0⟩/\R0=R2/\E2=A) (λc g h z R w H=>?_) ?_ m z R w H) ?_
 ·refine Ret.mono (q c g h z R w H) ?_
  rintro v y ⟨Γ',⟨C2,rfl,rfl⟩,p⟩;exact ⟨_,.inr ⟨nx2,b,_,R2,A,⟨C2,Z,Z,Z,Z,Z⟩,Z,Z⟩,by rw[r];exact p⟩
 ·rintro _ _ _ _ _ ⟨C2,rfl,rfl,rfl,rfl,rfl⟩;exact ⟨by omega,l,s,by show 0+1+manyN n<=40;omega⟩
 rintro v y ⟨Γ',(⟨e,E2,⟨_,u⟩,_⟩|⟨j,k,t,R0,E2,⟨C2,rfl,rfl,rfl,rfl,rfl⟩,rfl,rfl⟩),p⟩
 ·exact u.elim
 exact ⟨_,⟨C2,Z,Z⟩,p⟩
theorem Aac{vs:List Vl}{o:TB}(p:vs.length=8)(h:0<=t/\t<=1073741824)(s:∀e∈vs,e.Fit){d:Nat}(i:Nat)(e:Vl)(l:vs[i]?=some e)(f:manyN n<=9)(k:g<=1000000000):Aj 71 [Y m,.func (.func 72) #[] #[Y d]] [voA m j t [] vs,trA Tb j g n o none,blk d [I (i:Int)] 3] (λv G=>∃C2,v=I 0/\G=[voA m j t [] (vs.set i {e with st:=2}),trA Tb j (g+2) n ⟨o.N,C2,o.R⟩ none,blk d [I (i:Int)] 3]):=by
 have b:=s e (Aee l);refine R7 m j g n t vs o p [Y d] (λa w=>call72 a w) t _ o.R (λc u x z R w H=>?_) O h (GD s ⟨b.id,by show (0:Int)<=2/\(2:Int)<=2;omega,b.sz,b.q,b.r,b.mp⟩) f k;refine Ret.mono (Cn.at (Z9 c d t u x vs i e l p) H 6 [0,1,2,5,3,4] Z Z) ?_;rintro v w' ⟨Γ',⟨rfl,rfl⟩,y⟩;exact ⟨_,⟨o.C,Z,Z⟩,y.pick 6 [0,1,2,4,5,3] Z⟩
theorem Aad{vs:List Vl}{o:TB}(x:vs.length=8)(l:0<=t/\t<=1073741824)(y:∀e∈vs,e.Fit){bs d:Nat}(i:Nat)(e:Vl)(u:vs[i]?=some e)(b:Int)(a0:1<=b/\b<=1048576)(k:manyN n<=9)(p:g<=1000000000):Aj 71 [Y m,.func (.func 74) #[] #[Y bs,Y d]] [voA m j t [] vs,trA Tb j g n o none,blk bs [I b] 3,blk d [I (i:Int)] 3] (λv G=>∃C2,v=I 0/\G=[voA m j t [] (vs.set i {e with sz:=b}),trA Tb j (g+2) n ⟨o.N,C2,o.R⟩ none,blk bs [I b] 3,blk d [I (i:Int)] 3]):=by
 intro z R w H;have f:=y e (Aee u);have H2:=((H.pick 4 [2,3,0,1] Z).made 2 (A:=seps [blk bs [I b] 3,blk d [I (i:Int)] 3]) (λh q=>q)).pick 3 [1,2,0] Z;refine Ret.mono (R7 m j g n t vs o x [Y bs,Y d] (λa w=>call74 a w) t (vs.set i {e with sz:=b}) o.R (λc v1 v2 z R w H=>?_) O l (GD y ⟨f.id,f.st,by show 0<=b/\b<=1048576;omega,f.q,f.r,f.mp⟩) k p z R w H2) ?_
 ·have H3:=(H.pick 6 [5,0,1,2,3,4] Z).opened
  refine Ret.mono (Cn.at (Aaa c bs d t v1 v2 vs i e u x b) H3 7 [2,3,4,0,1,5,6] Z Z) ?_;rintro v w' ⟨Γ',⟨rfl,rfl⟩,s⟩;exact ⟨_,⟨o.C,Z,Z⟩,((s.pick 7 [3,4,0,1,2,5,6] Z).made 2 (λh q=>q)).pick 6 [1,2,3,4,5,0] Z⟩
 rintro v w' ⟨Γ',⟨C2,rfl,rfl⟩,s⟩;exact ⟨_,⟨C2,Z,Z⟩,((s.pick 3 [2,0,1] Z).opened).pick 4 [2,3,0,1] Z⟩
theorem Aae{vs:List Vl}{o:TB}(hv:vs.length=8)(l:0<=t/\t<1073741824)(hf:∀e∈vs,e.Fit){f b d:Nat}(i:Nat)(e:Vl)(he:vs[i]?=some e)(x:Vl)(y:x.Fit)(u:x.r.toNat≠0->(manyN n<x.r.toNat/\x.r.toNat<n)/\1<=o.C x.r.toNat)(hb:o.R.length+n<1000)(k:manyN n<=9)(p:g<=1000000000):Aj 71 [Y m,.func (.func 87) #[] #[Y f,Y b,Y d]] [voA m j t [] vs,trA Tb j g n o none,blk f [Y m] 33,blk b [I x.id,I x.st,I x.sz,I x.q,I x.r,I x.mp] 77,blk d [I (i:Int)] 3] (λv G=>∃C2,v=I 0/\G=[voA m j (t+1) [] (vs.set i x),trA Tb j (g+2) n ⟨o.N,C2,AZ x.r.toNat++o.R⟩ none,blk f [Y m] 33,blk b [I x.id,I x.st,I x.sz,I x.q,I x.r,I x.mp] 77,blk d [I (i:Int)] 3]):=by
 intro z R w H;have H2:=((H.pick 5 [2,3,4,0,1] Z).made 3 (A:=seps [blk f [Y m] 33,blk b [I x.id,I x.st,I x.sz,I x.q,I x.r,I x.mp] 77,blk d [I (i:Int)] 3]) (λh q=>q)).pick 3 [1,2,0] Z;refine Ret.mono (R7 m j g n t vs o hv [Y f,Y b,Y d] (λa w=>call87 a w) (t+1) (vs.set i x) (AZ x.r.toNat++o.R) (λc v1 v2 z R w H=>?_) O ⟨by omega,by omega⟩ (GD hf y) k p z R w H2) ?_
 ·have H3:=(H.pick 6 [5,0,1,2,3,4] Z).opened
  refine Ret.mono (Cn.at (WD m j g n o c f b d t v1 v2 vs i e he hv x l y.r.1 u hb) H3 8 [3,4,5,6,7,0,1,2] Z Z) ?_;rintro v w' ⟨Γ',⟨C2,rfl,rfl⟩,s⟩;exact ⟨_,⟨C2,Z,Z⟩,((s.pick 8 [5,6,7,0,1,2,3,4] Z).made 3 (λh q=>q)).pick 6 [1,2,3,4,5,0] Z⟩
 rintro v w' ⟨Γ',⟨C2,rfl,rfl⟩,s⟩;exact ⟨_,⟨C2,Z,Z⟩,((s.pick 3 [2,0,1] Z).opened).pick 5 [3,4,0,1,2] Z⟩
set_option maxHeartbeats 2000000 in
theorem M6 {vs:List Vl} {o:TB} (r:vs.length=8) (d:0<=t/\t<=1073741824) (q:∀e∈vs,e.Fit) (c:manyN n<=9) (f:g<=1000000000) (id:Int):Aj 31 [Y m,I id] [voA m j t ([]) vs,trA Tb j g n o none] (λv G=>((∀e∈vs,¬(e.st=1/\e.id=id))/\v=I 31/\G=[voA m j t [] vs,trA Tb j g n o none])\/(∃(i:Nat) (e:Vl) (C2:Nat->Nat),(vs[i]?=some e/\e.st=1/\e.id=id)/\v=I 0/\G=[voA m j t [] (vs.set i {e with st:=2}),trA Tb j (g+2) n ⟨o.N,C2,o.R⟩ none])):=by
 intro z R w H;refine Ae func31 Z ntmps31 Z (Zc 9 Z (Ar Z (call46 _) (JO id U) H ?_));rintro _ w _ (⟨i,e,⟨k,b,h⟩,rfl,rfl⟩|⟨a,rfl,rfl⟩) l
 ·have H:=l.l2;refine Za 0 [] H Z ?_;intro u w H;refine Z4 10 [0,0,0,0] H Z ?_;intro w H;refine Af Z (λp=>U) (λp=>?_)
  refine Zc 5 Z (Ab Z (C5 Z Z Z) (Ar Z (call71 _) (Aac r d q i e k c f) H.f2.f2 ?_));rintro _ w _ ⟨C2,rfl,rfl⟩ H;refine Z0 16 [4] Z (z_E_ Z (call35 _) (Ic) H ?_);intro w H;refine Zc 4 Z (Zr Z ?_);exact ⟨_,.inr ⟨i,e,C2,⟨k,b,h⟩,Z,Z⟩,H.pick 3 [0,1] Z⟩
 have H:=l.l2;refine Za 0 [] H Z ?_;intro s w H;refine Z4 17 [0,0,0,3] H Z ?_;intro w H;refine Zr Z ?_;exact ⟨_,.inl ⟨a,Z,Z⟩,H.pick 3 [1,2] Z⟩
set_option maxHeartbeats 2000000 in
theorem QZ {vs:List Vl} {o:TB} (hv:vs.length=8) (a:0<=t/\t<=1073741824) (u:∀e∈vs,e.Fit) (d:manyN n<=9) (f:g<=1000000000) (i:Nat) (e:Vl) (p:vs[i]?=some e) (x:Vl) (b:x.Fit) (c:t<1073741824) (h:x.r.toNat≠0->(manyN n<x.r.toNat/\x.r.toNat<n)/\1<=o.C x.r.toNat) (y:o.R.length+n<1000):Aj 48 [Y m,I (i:Int),.agg #[I x.id,I x.st,I x.sz,I x.q,I x.r,I x.mp]] [voA m j t ([]) vs,trA Tb j g n o none] (λv G=>∃C2:Nat->Nat,v=.tuple #[I t,I 0]/\G=[voA m j (t+1) [] (vs.set i ⟨t,1,x.sz,x.q,x.r,x.mp⟩),trA Tb j (g+2) n ⟨o.N,C2,AZ x.r.toNat++o.R⟩ none]):=by
 intro z R w H;replace H:=H.l2;obtain ⟨vv,sv,H⟩:=H.vo;replace H:=H.l4;refine Ae func48 Z ntmps48 Z (Za 2 [] H Z ?_);intro b1 w H;refine Za 0 [] H Z ?_;intro b2 w H;refine Za 0 [] H Z ?_;intro b3 w H;refine Z4 18 [2,0,1,1,3,0,0,0,1,0] H Z ?_;intro w H;have k:=(H.pick 7 [3,4,5,0,1,2,6] Z).toVo;clear H;have H:Sep z (voA m j t ([]) vs::blk b3 [I t,I 1,I x.sz,I x.q,I x.r,I x.mp] 77::blk b2 [I (i:Int)] 3::blk b1 [Y m] 33::trA Tb j g n o none::R) w:=k;clear k;refine Z2 2 [3,0] H Z (Ab Z (C5 Z Z Z) (Ar Z (call71 _) (Aae hv ⟨a.1,c⟩ u i e p ⟨t,1,x.sz,x.q,x.r,x.mp⟩ ⟨a,by show (0:Int)<=1/\(1:Int)<=2;omega,b.sz,b.q,b.r,b.mp⟩ h y d f) H.f2.f2.f3.f4.f4 ?_));rintro _ w _ ⟨C2,rfl,rfl⟩ H;replace H:=H.l5;refine Z2 13 [3,2,0] H Z (z_E_ Z (call35 _) (Ic) H ?_);intro w H;replace H:=H.l5;refine Z2 22 [4,0,3,0] H Z (Zr Z ?_);exact ⟨_,⟨C2,Z,Z⟩,H.pick 5 [0,1] Z⟩
set_option maxHeartbeats 2000000 in
theorem Jf {vs:List Vl} {o:TB} (s:vs.length=8) (l:0<=t/\t<=1073741824) (hf:∀e∈vs,e.Fit) (h:manyN n<=9) (p:g<=1000000000) (b a:Int) (x:o.R.length+n<1000):Aj 25 [Y m,I b,I a] [voA m j t ([]) vs,trA Tb j g n o none] (λv G=>(¬((1<=b/\b<=1048576)/\0<=a/\a<=1048576)/\v=.tuple #[I 0,I 1]/\G=[voA m j t [] vs,trA Tb j g n o none])\/(((1<=b/\b<=1048576)/\0<=a/\a<=1048576)/\(((∀e∈vs,e≠v0)/\v=.tuple #[I 0,I 32]/\G=[voA m j t [] vs,trA Tb j g n o none])\/(1073741824<=t/\v=.tuple #[I 0,I 15]/\G=[voA m j t [] vs,trA Tb j g n o none])\/(∃(i:Nat) (C2:Nat->Nat),(vs[i]?=some v0/\t<1073741824)/\v=.tuple #[I t,I 0]/\G=[voA m j (t+1) [] (vs.set i ⟨t,1,b,a,0,0⟩),trA Tb j (g+2) n ⟨o.N,C2,o.R⟩ none])))):=by
 intro z R w H;refine Ae func25 Z ntmps25 Z (Zc 10 Z (z_E_ Z (call65 _) (Hl) H ?_));intro w H;refine Ab Z (AH Z Z) (Zc 1 Z (An 13 Z (λu=>?_) (λu=>?_)))
 ·refine Zc 14 Z (Zr Z ?_);exact ⟨_,.inl ⟨by omega,Z,Z⟩,H.pick 2 [0,1] Z⟩
 refine Zc 1 Z (z_E_ Z (call65 _) (Hl) H ?_);intro w H;refine Ab Z (AH Z Z) (Zc 3 Z (Af Z (λy=>?_) (λy=>?_)))
 ·refine Zc 7 Z (Zr Z ?_);exact ⟨_,.inl ⟨by omega,Z,Z⟩,H.pick 2 [0,1] Z⟩
 refine Zc 5 Z (Ar Z (call47 _) (QX s) H ?_);rintro _ w _ (⟨k,⟨f,c⟩,rfl,rfl⟩|⟨d,rfl,rfl⟩|⟨⟨f,c⟩,rfl,rfl⟩) r
 ·have H:=r.l2;refine Z0 23 [4] Z (Ab Z (Bg Z Z (out:=[I 0,I 0,I b,I a,I 0,I 0]) J) (Ar Z (call48 _) (QZ s l hf h p k v0 f ⟨0,0,b,a,0,0⟩ ⟨by show (0:Int)<=0/\(0:Int)<=1073741824;omega,by show (0:Int)<=0/\(0:Int)<=2;omega,by show 0<=b/\b<=1048576;omega,by show 0<=a/\a<=1048576;omega,by show (0:Int)<=0/\(0:Int)<=1023;omega,by show (0:Int)<=0/\(0:Int)<=1048576;omega⟩ c (λq=>absurd Z q) x) H ?_));rintro _ w _ ⟨C2,rfl,rfl⟩ H;refine Zc 7 Z (Zr Z ?_);exact ⟨_,.inr ⟨by omega,.inr (.inr ⟨k,C2,⟨f,c⟩,Z,Z⟩)⟩,H.pick 2 [0,1] Z⟩
 ·have H:=r.l2;refine Z0 23 [3] Z (Zr Z ?_);exact ⟨_,.inr ⟨by omega,.inl ⟨d,Z,Z⟩⟩,H.pick 2 [0,1] Z⟩
 have H:=r.l2;refine Z0 23 [3] Z (Zr Z ?_);exact ⟨_,.inr ⟨by omega,.inr (.inl ⟨c,Z,Z⟩)⟩,H.pick 2 [0,1] Z⟩
set_option maxHeartbeats 2000000 in
theorem Id {mb:Nat} {vs:List Vl} {o:TB} (hv:vs.length=8) (a1:0<=t/\t<=1073741824) (hf:∀e∈vs,e.Fit) (a0:manyN n<=9) (q:mb<=1000000000) (id:Int) (s:∀e∈vs,e.r.toNat≠0->(manyN n<e.r.toNat/\e.r.toNat<n)/\1<=o.C e.r.toNat) (hb:o.R.length+n<1000):Aj 15 [Y m,I id] [voA m g t ([]) vs,trA Tb g mb n o none] (λv G=>((∀e∈vs,¬(e.st=1/\e.id=id))/\v=.tuple #[I 0,I 31]/\G=[voA m g t [] vs,trA Tb g mb n o none])\/(∃(j:Nat) (e:Vl),(vs[j]?=some e/\e.st=1/\e.id=id)/\(((∀e∈vs,e≠v0)/\v=.tuple #[I 0,I 32]/\G=[voA m g t [] vs,trA Tb g mb n o none])\/(1073741824<=t/\v=.tuple #[I 0,I 15]/\G=[voA m g t [] vs,trA Tb g mb n o none])\/(∃(i:Nat) (C2:Nat->Nat),(vs[i]?=some v0/\t<1073741824)/\v=.tuple #[I t,I 0]/\G=[voA m g (t+1) [] (vs.set i {e with id:=t,st:=1}),trA Tb g (mb+2) n ⟨o.N,C2,AZ e.r.toNat++o.R⟩ none])))):=by
 intro z R w H;refine Ae func15 Z ntmps15 Z (Zc 10 Z (Ar Z (call46 _) (JO id U) H ?_));rintro _ w _ (⟨i,e,⟨b,d,f⟩,rfl,rfl⟩|⟨x,rfl,rfl⟩) h
 ·have H:=h.l2;refine Z0 10 [0] Z (Af Z (λh1=>U) (λh1=>?_))
  refine Zc 5 Z (Ar Z (call47 _) (QX hv) H ?_);rintro _ w _ (⟨k,⟨p,a⟩,rfl,rfl⟩|⟨c,rfl,rfl⟩|⟨⟨p,a⟩,rfl,rfl⟩) h
  ·have H:=h.l2;refine Z0 18 [4] Z ?_;obtain ⟨vv,sv,H⟩:=H.vo;have y:=H.sy 1 (·.slc)
   obtain ⟨am,mc,rfl⟩:=y;have a4:=(Aed.1 b).1;have l:=(H.rv 1 (·.rd)).at (AV b 0 _ Z);refine Z2 9 [1,2,0,0] H Z (Ab Z (Ak Z (z:=6) (j:=i) (r:=i*6) J Z Z Z U l U) (Ab Z (Bq Z Z (vs:=e.cells) J (by simp[Vl.cells]) (Az (λk u hk=>(H.rv 1 (·.rd)).at (AV b k u hk)))) ?_));replace H:=((H.pick 4 [0,1,2,3] Z).toVo).l2;refine Ar Z (call48 _) (QZ hv a1 hf a0 q k v0 p e (hf e (Aee b)) a (s e (Aee b)) hb) H ?_;rintro _ w _ ⟨C2,rfl,rfl⟩ H;refine Zc 7 Z (Zr Z ?_);exact ⟨_,.inr ⟨i,e,⟨b,d,f⟩,.inr (.inr ⟨k,C2,⟨p,a⟩,Z,Z⟩)⟩,H.pick 2 [0,1] Z⟩
  ·have H:=h.l2;refine Z0 23 [3] Z (Zr Z ?_);exact ⟨_,.inr ⟨i,e,⟨b,d,f⟩,.inl ⟨c,Z,Z⟩⟩,H.pick 2 [0,1] Z⟩
  have H:=h.l2;refine Z0 23 [3] Z (Zr Z ?_);exact ⟨_,.inr ⟨i,e,⟨b,d,f⟩,.inr (.inl ⟨a,Z,Z⟩)⟩,H.pick 2 [0,1] Z⟩
 have H:=h.l2;refine Z0 18 [3] Z (Zr Z ?_);exact ⟨_,.inl ⟨x,Z,Z⟩,H.pick 2 [0,1] Z⟩
end
section
variable{Tb:Ai}
structure OtE where
 k:Int
 d:Bool
 f:Int
def OtE.cells(e:OtE):List Value:=[.int .i64 e.k,.bool e.d,.int .i64 e.f]
end
section
variable{Tb:Ai}
end
section
variable{Tb:Ai}
end
section
section
variable{P:Program}{o:Oper}{w z:World}{Γ:List Ai}{n:Nat}{ds:List Deferred}{L:List (Nat×Value)}{v:Value}{x y:Operand}
end

end
def Bz(a b:Int)(L:List E):List E:=L.filter λe=>decide (a<=e.1/\e.1<b)
theorem Aaf(a b:Int)(X Y_:List E):Bz a b (X++Y_)=Bz a b X++Bz a b Y_:=AfP ..
theorem scF_no(h:∀e∈X,e.1<t\/s<=e.1):Bz t s X=[]:=List.filter_eq_nil_iff.2 λe a q=>by
 have:=h e a;have:=of_decide_eq_true q;omega
theorem Aag{L:List E}(h:∀e∈L,t<=e.1/\e.1<s):Bz t s L=L:=Agw.2 λe a=>decide_eq_true (h e a)
def Bw(m:Nat)(l X:List E):List E:=l++X.take (m-l.length)
theorem Aah(m:Nat)(l X Y_:List E):Bw m l (X++Y_)=Bw m (Bw m l X) Y_:=by
 unfold Bw;rw[Ag0,Aej];congr 3;rw[Aeg,Aez];omega
theorem scT_full{l:List E}(h:m<=l.length):Bw m l X=l:=by unfold Bw;rw[Nat.sub_eq_zero_of_le h];simp
theorem Aai(m:Nat)(l:List E):Bw m l []=l:=by simp[Bw]
theorem Aaj{e:E}(h:X.length<m):Bw m X [e]=X++[e]:=by unfold Bw;rw[Ael (by simp;omega)]
theorem Pb(m:Nat)(l X:List E):(Bw m l X).length<=l.length+X.length:=by unfold Bw;rw[Aeg,Aez];omega
theorem Pd(a b:Int)(L:List E):(Bz a b L).length<=L.length:=AfV ..
theorem Hn(m:Nat)(l:List E)(a b:Int)(L0 L2:List E):Bw m l (Bz a b (L0++L2))=Bw m (Bw m l (Bz a b L0)) (Bz a b L2):=by rw[Aaf,Aah]
theorem Fo{l:List E}{a b:Int}{L0 L2:List E}(h:m<=(Bw m l (Bz a b L0)).length\/∀e∈L2,e.1<a\/b<=e.1):Bw m l (Bz a b (L0++L2))=Bw m l (Bz a b L0):=by
 rw[Hn];rcases h with h|h
 ·exact scT_full h
 rw[scF_no h,Aai]
theorem M7{L0:List E}{e:E}(a:(Bw m X (Bz t s L0)).length<m)(b:t<=e.1/\e.1<s):Bw m X (Bz t s (L0++[e]))=Bw m X (Bz t s L0)++[e]:=by
 rw[Hn,Aag (L:=[e]) (by simpa using b),Aaj a]
theorem Sq.ge{N:Hm}{h:Nat}{es:List E}{hi:Int}{L:List E}(s:Sq (λc a b L=>Tr N h c a b 4 L) es hi L)(hs:Srt es)(f:∀e∈es,e.1<hi):∀x∈L,nx es hi<=x.1:=λx d=>
 ((Sq.srt s hs f (λ_ _ _ _ q=>Tr.srt q)).2.1 x d).1
theorem Srt.drop{es:List E}(h:Srt es)(i:Nat):Srt (es.drop i):=List.Pairwise.drop h
theorem Srt.at_ge{es:List E}(h:Srt es){e:E}(b:es[i]?=some e):∀x∈es.drop i,e.1<=x.1:=λx a=>by
 obtain ⟨hi,rfl⟩:=Aed.1 b;have:=h.drop i;rw[Ae1 hi] at a this;rcases Aep.1 a with rfl|a
 ·exact Afo _
 exact AgV ((Srt.cons.1 this).1 x a)

def stp(N:Hm):Nat->Nat->Nat
 | 0,_=>1
 | h+1,r=>match N r with
  | some (.nd d)=>(d.es.map λe=>1+stp N h e.2).sum
  | _=>1
section
variable{Tb:Ai}
end
section
variable{Tb:Ai}
end
section
variable{Tb:Ai}
end
section
variable{Tb:Ai}
set_option maxHeartbeats 4000000 in
theorem Aco (pp mb n:Nat) (o:TB) (f c g:Int) (ra:Nat) (lo hi:Int) (m_:Nat) (L l:List E) (u:Value) (hT:Tr o.N 0 ra lo hi m_ L) (b7:l.length+L.length<=1048576):Aj 123 [Y pp,I (ra:Int),I f,I c,I g,u] [trA Tb pp mb n o none,grow 262 2 u l.length (EN l)] (λv G=>∃u2:Value,v=.tuple #[u2,I 0]/\G=[trA Tb pp mb n o none,grow 262 2 u2 (Bw g.toNat l (Bz f c L)).length (EN (Bw g.toNat l (Bz f c L)))]):=by
 intro z R w H;have K:=H.says 0 Z (λh a=>trA.k a);have hn:=K.hn;obtain ⟨es,hN,b9,a6,a2,a4,c1⟩:=hT;obtain rfl:es=L:=a4.symm;have b4:es.length<=8:=a2.len;refine Ae func123 Z ntmps123 Z (Zc 10 Z (Ar Z (call132 _) (HZ pp mb n o none ra true es hN) H ?_));rintro _ w _ ⟨nk,nv,rfl,rfl⟩ H;have a7:=H.sy 0 (·.slc);obtain ⟨ka,kc,rfl⟩:=a7;have b0:=H.sy 1 (·.slc);obtain ⟨va,vc,rfl⟩:=b0;refine Za 3 [] H Z ?_;intro b1 w H;refine Z4 24 [0,4,1,0,0] H Z ?_;intro w H;refine AD (σ:=Nat×Value) (λ⟨i,u⟩=>[(29,I (i:Int)),(5,u),(0,Y pp),(2,I f),(3,I c),(4,I g),(14,Y b1),(28,I (((kL es).length:Nat):Int))])
   (λ⟨i,u⟩ w=>Sep z (blk b1 [.bool true,.slice ka ((kL es).length) kc,.slice va ((vL es).length) vc] 201::grow 3 1 (.slice ka ((kL es).length) kc) ((kL es).length) ((kL es).map I)::grow 3 1 (.slice va ((vL es).length) vc) ((vL es).length) ((vL es).map I)::trA Tb pp mb n o none::grow 262 2 u ((Bw g.toNat l (Bz f c (es.take i))).length) (EN (Bw g.toNat l (Bz f c (es.take i))))::R) w/\(i<=es.length)) (λ⟨i,u⟩=>es.length-i) ⟨0,u⟩
   fr_z ⟨(by simpa [Bw,Bz] using H),AeN _⟩ ?_
 clear H;rintro ⟨i,u⟩ w ⟨s,hI⟩;dsimp only at hI s ⊢;have H:=s.l5;have su:=H.sy 4 (·.slc);have b3:=hI;clear hI;have c2:(kL es).length=es.length:=by simp
 have b8:(vL es).length=es.length:=by simp
 refine Z0 6 [0] Z (Af Z (λh1=>?_) (λh1=>?_))
 ·refine Zc 12 Z ?_;have a9:i<es.length:=by simp only[Aeh] at *;omega
  obtain ⟨e,t⟩:∃e,es[i]?=some e:=⟨_,Aef a9⟩;have a5:=Aee t;have c0:=a6 e a5;have q:=(H.rv 1 (·.rd)).at (j:=i) (u:=I e.1) (by simp[kL,t]);have a3:=(H.rv 2 (·.rd)).at (j:=i) (u:=I (e.2:Int)) (by simp[vL,t]);have a1:=a2.srt.at_ge t;have a0:es.take (i+1)=es.take i++[e]:=by rw[AeM,t];rfl
  refine Zc 2 Z (Ab Z (Ef Z (sz:=2) J Z su) (Z0 3 [0] Z (An 37 Z (λh2=>?_) (λh2=>?_))))
  ·refine Zc 20 Z (Zr Z ?_);have p:(Bw g.toNat l (Bz f c es))=(Bw g.toNat l (Bz f c (es.take i))):=by have:=Fo (m:=g.toNat) (l:=l) (a:=f) (b:=c) (L0:=es.take i) (L2:=es.drop i) (by first|exact .inl U|exact .inr (λx hx=>.inr (by have:=a1 x hx;omega)));rwa[AeP] at this
   exact ⟨_,⟨u,Z,Z⟩,by rw[p];exact H.pick 5 [3,4] Z⟩
  refine Z2 3 [1,0,0] H Z (Ab Z (Ak Z (z:=1) (j:=i) (r:=i) J Z Z Z U q U) (Ab Z (Ay Z Z J (Az q)) (Z0 6 [0] Z (Af Z (λh3=>?_) (λh3=>?_)))))
  ·refine Zc 8 Z (Zr Z ?_);have p:(Bw g.toNat l (Bz f c es))=(Bw g.toNat l (Bz f c (es.take i))):=by have:=Fo (m:=g.toNat) (l:=l) (a:=f) (b:=c) (L0:=es.take i) (L2:=es.drop i) (by first|exact .inl U|exact .inr (λx hx=>.inr (by have:=a1 x hx;omega)));rwa[AeP] at this
   exact ⟨_,⟨u,Z,Z⟩,by rw[p];exact H.pick 5 [3,4] Z⟩
  refine Z2 8 [0,0,0,1,0,0] H Z (Ab Z (Ak Z (z:=1) (j:=i) (r:=i) J Z Z Z U q U) (Ab Z (Ay Z Z J (Az q)) (Z0 6 [0] Z (Af Z (λh4=>?_) (λh4=>?_)))))
  ·refine AQ (Sep z (blk b1 [.bool true,.slice ka ((kL es).length) kc,.slice va ((vL es).length) vc] 201::grow 3 1 (.slice ka ((kL es).length) kc) ((kL es).length) ((kL es).map I)::grow 3 1 (.slice va ((vL es).length) vc) ((vL es).length) ((vL es).map I)::R)) 15 Z J (A4 H λw s=>?_)
   have H:=s.l5;refine AT [0,1,2,3] [1,0,0] [] (by exact H.pick 5 [0,1,2] Z) Z J Z (BM 4 Z J J J Z Z Z (Ak Z (z:=1) (j:=i) (r:=i) J Z Z Z U q U) (H.pick 5 [0,1,2] Z) (BM 5 Z J J J Z Z Z (Ay Z Z J (λ_ y=>(y.rv 1 (·.rd)).at (j:=i) (u:=I e.1) (by simp[kL,t]))) (H.pick 5 [0,1,2] Z) (AT [6,7,8] [2,0,0] [] (by exact H.pick 5 [0,1,2] Z) Z J Z (BM 9 Z J J J Z Z Z (Ak Z (z:=1) (j:=i) (r:=i) J Z Z Z U a3 U) (H.pick 5 [0,1,2] Z) (BM 10 Z J J J Z Z Z (Ay Z Z J (λ_ y=>(y.rv 2 (·.rd)).at (j:=i) (u:=I (e.2:Int)) (by simp[vL,t]))) (H.pick 5 [0,1,2] Z) (AT [11] [] [] (by exact H.pick 5 [0,1,2] Z) Z J Z (AE [12] J O (Am (B6 Z Z Z Z (AO H Z J FJ Z (by decide) (by decide) (out:=[I e.1,I (e.2:Int)]) J) ?_)))))))));rintro _ w ⟨b2,rfl,H⟩;refine Ax (H.pick 6 [1,2,3] Z) (AE [13] J O (Am (B6 Z Z Z Z (AW 5 H Z Z J FJ Z Z (H.rv 0 (·.rd U U O Z)) (by simp[Value.oneCell']) (by have:=Pb g.toNat l (Bz f c (es.take i));have:=Pd f c (es.take i);rw[Aez] at this;omega)) ?_)));rintro v3 w s;have s:Sep z (blk b2 [I e.1,I (e.2:Int)] 262::blk b1 [.bool true,.slice ka ((kL es).length) kc,.slice va ((vL es).length) vc] 201::grow 3 1 (.slice ka ((kL es).length) kc) ((kL es).length) ((kL es).map I)::grow 3 1 (.slice va ((vL es).length) vc) ((vL es).length) ((vL es).map I)::trA Tb pp mb n o none::grow 262 2 v3 ((Bw g.toNat l (Bz f c (es.take i))).length+1) (EN (Bw g.toNat l (Bz f c (es.take i)))++[I e.1,I (e.2:Int)])::R) w:=s;have a8:(EN (Bw g.toNat l (Bz f c (es.take i)))++[I e.1,I (e.2:Int)]:List Value)=EN (Bw g.toNat l (Bz f c (es.take (i+1)))):=(by rw[a0,M7 U ⟨by omega,by omega⟩,ZT];rfl);rw[a8] at s;rw[show ((Bw g.toNat l (Bz f c (es.take i))).length+1:Nat)=(Bw g.toNat l (Bz f c (es.take (i+1)))).length from (by rw[a0,M7 U ⟨by omega,by omega⟩,Aeg];rfl)] at s;have H:=s.l6;refine Ax (H.pick 6 [1,2,3] Z) (AT [14] [] [] (by exact H.pick 6 [1,2,3] Z) Z J Z (a_done J (gn (Z1 7 [] [(i:Int)+1] Z U ?_))));replace H:=H.d;refine gf ?_;intro _ hF;refine ⟨⟨i+1,v3⟩,hF.cz,⟨H,?_⟩,?_⟩
   ·show i+1<=es.length;omega
   (dsimp only;omega)
  refine Z3 35 [0,0,0] [(i:Int)+1] H Z U (gf ?_);intro _ hF;refine ⟨⟨i+1,u⟩,hF.cz,⟨(by rw[show (Bw g.toNat l (Bz f c (es.take (i+1))))=(Bw g.toNat l (Bz f c (es.take i))) from by rw[a0];exact Fo (.inr (λx hx=>by simp at hx;subst hx;omega))];exact H),?_⟩,?_⟩
  ·show i+1<=es.length;omega
  (dsimp only;omega)
 refine Zc 2 Z (gx (Zc 10 Z (Zr Z ?_)));have p:(Bw g.toNat l (Bz f c es))=(Bw g.toNat l (Bz f c (es.take i))):=by rw[show es.take i=es from Ael (by simp only[Aeh] at *;omega)]
 exact ⟨_,⟨u,Z,Z⟩,by rw[p];exact H.pick 5 [3,4] Z⟩
set_option maxHeartbeats 4000000 in
theorem Acp (pp mb n:Nat) (o:TB) (f d g:Int) (h:Nat) (ih:∀(ra:Nat) (lo hi:Int) (m_:Nat) (L l:List E) (u:Value),Tr o.N h ra lo hi m_ L->l.length+L.length<=1048576->Aj 123 [Y pp,I (ra:Int),I f,I d,I g,u] [trA Tb pp mb n o none,grow 262 2 u l.length (EN l)] (λv G=>∃q:Value,v=.tuple #[q,I 0]/\G=[trA Tb pp mb n o none,grow 262 2 q (Bw g.toNat l (Bz f d L)).length (EN (Bw g.toNat l (Bz f d L)))])) (ra:Nat) (lo hi:Int) (m_:Nat) (L l:List E) (u:Value) (hT:Tr o.N (h+1) ra lo hi m_ L) (a0:l.length+L.length<=1048576):Aj 123 [Y pp,I (ra:Int),I f,I d,I g,u] [trA Tb pp mb n o none,grow 262 2 u l.length (EN l)] (λv G=>∃q:Value,v=.tuple #[q,I 0]/\G=[trA Tb pp mb n o none,grow 262 2 q (Bw g.toNat l (Bz f d L)).length (EN (Bw g.toNat l (Bz f d L)))]):=by
 intro z R w H;have K:=H.says 0 Z (λh a=>trA.k a);have hn:=K.hn;obtain ⟨es,hN,c6,a5,a7,b7⟩:=hT;have c1:es.length<=8:=a7.len;refine Ae func123 Z ntmps123 Z (Zc 10 Z (Ar Z (call132 _) (HZ pp mb n o none ra false es hN) H ?_));rintro _ w _ ⟨nk,nv,rfl,rfl⟩ H;have b0:=H.sy 0 (·.slc);obtain ⟨ka,kc,rfl⟩:=b0;have b4:=H.sy 1 (·.slc);obtain ⟨va,vc,rfl⟩:=b4;refine Za 3 [] H Z ?_;intro b1 w H;refine Z4 24 [0,4,1,0,0] H Z ?_;intro w H;refine AD (σ:=Nat×Value×List E×List E) (λ⟨i,u,L0,L2⟩=>[(29,I (i:Int)),(5,u),(0,Y pp),(2,I f),(3,I d),(4,I g),(14,Y b1),(28,I (((kL es).length:Nat):Int))])
   (λ⟨i,u,L0,L2⟩ w=>Sep z (blk b1 [.bool false,.slice ka ((kL es).length) kc,.slice va ((vL es).length) vc] 201::grow 3 1 (.slice ka ((kL es).length) kc) ((kL es).length) ((kL es).map I)::grow 3 1 (.slice va ((vL es).length) vc) ((vL es).length) ((vL es).map I)::trA Tb pp mb n o none::grow 262 2 u ((Bw g.toNat l (Bz f d L0)).length) (EN (Bw g.toNat l (Bz f d L0)))::R) w/\(i<=es.length/\L=L0++L2/\Sq (λc a b L=>Tr o.N h c a b 4 L) (es.drop i) hi L2)) (λ⟨i,u,L0,L2⟩=>es.length-i) ⟨0,u,[],L⟩
   fr_z ⟨(by simpa [Bw,Bz] using H),⟨AeN _,Z,b7⟩⟩ ?_
 clear H;rintro ⟨i,u,L0,L2⟩ w ⟨H',hI⟩;dsimp only at hI H' ⊢;have H:=H'.l5;have su:=H.sy 4 (·.slc);obtain ⟨c0,p,a2⟩:=hI;have c3:(kL es).length=es.length:=by simp
 have c5:(vL es).length=es.length:=by simp
 refine Z0 6 [0] Z (Af Z (λh1=>?_) (λh1=>?_))
 ·refine Zc 12 Z ?_;have a8:i<es.length:=by simp only[Aeh] at *;omega
  obtain ⟨e,he⟩:∃e,es[i]?=some e:=⟨_,Aef a8⟩;have a9:=Aee he;have c7:=a5 e a9;have a4:=(H.rv 1 (·.rd)).at (j:=i) (u:=I e.1) (by simp[kL,he]);have t:=(H.rv 2 (·.rd)).at (j:=i) (u:=I (e.2:Int)) (by simp[vL,he]);obtain ⟨Lc,L3,s,a1,a3⟩:=Adi he a2;have b3:=Ae1 a8;have a6:∀x∈L2,e.1<=x.1:=λx hx=>by have:=Sq.ge a2 (a7.srt.drop i) (λy hy=>(a5 y (Afw hy)).2) x hx;rw[b3] at this;have b9:=(Aed.1 he).2;simp only[nx] at this;rw[b9] at this;exact this
  have b5:=a1.srt.2;refine Zc 2 Z (Ab Z (Ef Z (sz:=2) J Z su) (Z0 3 [0] Z (An 37 Z (λh2=>?_) (λh2=>?_))))
  ·refine Zc 20 Z (Zr Z ?_);have m:(Bw g.toNat l (Bz f d L))=(Bw g.toNat l (Bz f d L0)):=by rw[p];exact Fo (by first|exact .inl U|exact .inr (λx hx=>.inr (by have:=a6 x hx;omega)))
   exact ⟨_,⟨u,Z,Z⟩,by rw[m];exact H.pick 5 [3,4] Z⟩
  refine Z2 3 [1,0,0] H Z (Ab Z (Ak Z (z:=1) (j:=i) (r:=i) J Z Z Z U a4 U) (Ab Z (Ay Z Z J (Az a4)) (Z0 6 [0] Z (Af Z (λh3=>?_) (λh3=>?_)))))
  ·refine Zc 8 Z (Zr Z ?_);have m:(Bw g.toNat l (Bz f d L))=(Bw g.toNat l (Bz f d L0)):=by rw[p];exact Fo (by first|exact .inl U|exact .inr (λx hx=>.inr (by have:=a6 x hx;omega)))
   exact ⟨_,⟨u,Z,Z⟩,by rw[m];exact H.pick 5 [3,4] Z⟩
  refine Z3 30 [0,0,0,0,0,0,1,0,0,0] [(i:Int)+1] H Z U (An 84 Z (λh4=>?_) (λh4=>?_))
  ·refine Z2 20 [2,0,0] H Z (Ab Z (Ak Z (z:=1) (j:=i) (r:=i) J Z Z Z U t U) (Ab Z (Ay Z Z J (Az t)) (Zc 4 Z (Ar Z (call123 _) (ih e.2 e.1 (nx (es.drop (i+1)) hi) 4 Lc (Bw g.toNat l (Bz f d L0)) u a1 (by have:=Pb g.toNat l (Bz f d L0);have:=Pd f d L0;rw[p,s] at a0;simp only[Aeg] at a0;omega)) H.f4.f4 ?_))));rintro _ w _ ⟨q,rfl,rfl⟩ H;have H':Sep z (trA Tb pp mb n o none::grow 262 2 q ((Bw g.toNat l (Bz f d (L0++Lc))).length) (EN (Bw g.toNat l (Bz f d (L0++Lc))))::blk b1 [.bool false,.slice ka ((kL es).length) kc,.slice va ((vL es).length) vc] 201::grow 3 1 (.slice ka ((kL es).length) kc) ((kL es).length) ((kL es).map I)::grow 3 1 (.slice va ((vL es).length) vc) ((vL es).length) ((vL es).map I)::R) w:=by rw[Hn];exact H
   have H:=H'.l5;refine Z1 22 [4] [(i:Int)+1] Z U ?_;replace H:=H.f1.f1.f4.f4.f4;refine gf ?_;intro _ hF;refine ⟨⟨i+1,q,L0++Lc,L3⟩,hF.cz,⟨H,?_⟩,?_⟩
   ·exact ⟨by show i+1<=es.length;omega,by show L=L0++Lc++L3;rw[p,s,Aej],a3⟩
   (dsimp only;omega)
  refine Z3 4 [1,0,0] [(i:Int)+1] H Z U ?_;have b8:=(H.rv 1 (·.rd)).at (j:=i+1) (u:=I (nx (es.drop (i+1)) hi)) (Adj hi (by simp only[Aeh] at *;omega));refine Ab Z (Ak Z (z:=1) (j:=(i+1)) (r:=(i+1)) J Z Z U (by simp only[Aeh] at *;omega) a4 U) (Ab Z (Ay Z Z J (Az b8)) (Z0 7 [0] Z (Af Z (λh5=>?_) (λh5=>?_))))
  ·refine Z2 6 [2,0,0] H Z (Ab Z (Ak Z (z:=1) (j:=i) (r:=i) J Z Z Z U t U) (Ab Z (Ay Z Z J (Az t)) (Zc 4 Z (Ar Z (call123 _) (ih e.2 e.1 (nx (es.drop (i+1)) hi) 4 Lc (Bw g.toNat l (Bz f d L0)) u a1 (by have:=Pb g.toNat l (Bz f d L0);have:=Pd f d L0;rw[p,s] at a0;simp only[Aeg] at a0;omega)) H.f4.f4 ?_))));rintro _ w _ ⟨q,rfl,rfl⟩ H;have H':Sep z (trA Tb pp mb n o none::grow 262 2 q ((Bw g.toNat l (Bz f d (L0++Lc))).length) (EN (Bw g.toNat l (Bz f d (L0++Lc))))::blk b1 [.bool false,.slice ka ((kL es).length) kc,.slice va ((vL es).length) vc] 201::grow 3 1 (.slice ka ((kL es).length) kc) ((kL es).length) ((kL es).map I)::grow 3 1 (.slice va ((vL es).length) vc) ((vL es).length) ((vL es).map I)::R) w:=by rw[Hn];exact H
   have H:=H'.l5;refine Z1 22 [4] [(i:Int)+1] Z U ?_;replace H:=H.f1.f1.f4.f4.f4;refine gf ?_;intro _ hF;refine ⟨⟨i+1,q,L0++Lc,L3⟩,hF.cz,⟨H,?_⟩,?_⟩
   ·exact ⟨by show i+1<=es.length;omega,by show L=L0++Lc++L3;rw[p,s,Aej],a3⟩
   (dsimp only;omega)
  refine Z1 8 [] [(i:Int)+1] Z U (gf ?_);intro _ hF;refine ⟨⟨i+1,u,L0++Lc,L3⟩,hF.cz,⟨(by rw[show (Bw g.toNat l (Bz f d (L0++Lc)))=(Bw g.toNat l (Bz f d L0)) from Fo (.inr (λx hx=>by have:=b5 x hx;omega))];exact H),?_⟩,?_⟩
  ·exact ⟨by show i+1<=es.length;omega,by show L=L0++Lc++L3;rw[p,s,Aej],a3⟩
  (dsimp only;omega)
 refine Zc 2 Z (gx (Zc 10 Z (Zr Z ?_)));have m:(Bw g.toNat l (Bz f d L))=(Bw g.toNat l (Bz f d L0)):=by have:L2=[]:=(by have b2:i=es.length:=(by simp only[Aeh] at *;omega);have h:=a2;rw[b2,List.drop_length] at h;exact h);rw[p,this,AeY]
 exact ⟨_,⟨u,Z,Z⟩,by rw[m];exact H.pick 5 [3,4] Z⟩
end
section
variable{Tb:Ai}
theorem Adn{o:TB}(h:Nat):∀(a:Nat) (lo hi:Int) (b:Nat) (L l:List E) (u:Value),Tr o.N h a lo hi b L->l.length+L.length<=1048576->Aj 123 [Y m,I (a:Int),I t,I s,I p,u] [trA Tb m i n o none,grow 262 2 u l.length (EN l)] (λv G=>∃c:Value,v=.tuple #[c,I 0]/\G=[trA Tb m i n o none,grow 262 2 c (Bw p.toNat l (Bz t s L)).length (EN (Bw p.toNat l (Bz t s L)))]):=by
 induction h with
 | zero=>exact λa lo hi b L l u=>Aco m i n o t s p a lo hi b L l u
 | succ h ih=>exact λa lo hi b L l u=>Acp m i n o t s p h ih a lo hi b L l u
theorem Acq(pp mb n:Nat)(o:TB)(g:Nat)(L:List E)(d c a:Int)(k:Root o.N g L)(j:L.length<=1048576):Aj 73 [Y pp,I (g:Int),I d,I c,I a] [trA Tb pp mb n o none] (λv G=>∃i:Value,v=.tuple #[i,I 0]/\G=[trA Tb pp mb n o none,grow 262 2 i (Bw a.toNat [] (Bz d c L)).length (EN (Bw a.toNat [] (Bz d c L)))]):=by
 intro z R w H;have b:g=0->L=[]:=λq=>by rcases k with ⟨_,e⟩|⟨e,_⟩;exact e;exact absurd q e
 refine Ae func73 Z ntmps73 Z (Z0 22 [0] Z (An 16 Z (λl=>?_) (λl=>?_)))
 ·refine Zc 18 Z (Zr Z ?_);have f:(Bw a.toNat [] (Bz d c L))=[]:=by first|(rw[b U];simp[Bw,Bz])|(rw[show a.toNat=0 by omega];simp[Bw])|(rw[scF_no (λe _=>by omega)];simp[Bw])
  exact ⟨_,⟨.slice none 0 0,rfl,rfl⟩,by rw[f];exact (((H.pick 1 [0] rfl).nilg 262 2).f1)⟩
 refine Z0 4 [0] Z (An 20 Z (λr=>?_) (λr=>?_))
 ·refine Zc 14 Z (Zr Z ?_);have f:(Bw a.toNat [] (Bz d c L))=[]:=by first|(rw[b U];simp[Bw,Bz])|(rw[show a.toNat=0 by omega];simp[Bw])|(rw[scF_no (λe _=>by omega)];simp[Bw])
  exact ⟨_,⟨.slice none 0 0,rfl,rfl⟩,by rw[f];exact (((H.pick 1 [0] rfl).nilg 262 2).f1)⟩
 refine Z0 6 [0] Z (Af Z (λm=>?_) (λm=>?_))
 ·refine Zc 7 Z (Zr Z ?_);have f:(Bw a.toNat [] (Bz d c L))=[]:=by first|(rw[b U];simp[Bw,Bz])|(rw[show a.toNat=0 by omega];simp[Bw])|(rw[scF_no (λe _=>by omega)];simp[Bw])
  exact ⟨_,⟨.slice none 0 0,rfl,rfl⟩,by rw[f];exact (((H.pick 1 [0] rfl).nilg 262 2).f1)⟩
 refine Zc 3 Z ?_;replace H:=(H.nilg 262 2).l2;obtain ⟨_,h,p⟩:=k.resolve_left (λq=>by have:=q.1;omega);refine Zc 6 Z (Ar Z (call123 _) (Adn h g _ _ _ L [] _ p (by simpa using j)) H.f1 ?_);rintro _ w _ ⟨i,rfl,rfl⟩ H;refine Zc 7 Z (Zr Z ?_);exact ⟨_,⟨i,Z,Z⟩,H.pick 2 [0,1] Z⟩
end
section
variable{Tb:Ai}
theorem Ho{P:List Pl}{vs:List Vl}(b:vs=P.map Prod.fst){e:Vl}(h:vs[i]?=some e):∃L:List E,P[i]?=some (e,L):=by
 rw[b,Aeq] at h;obtain ⟨p,a,rfl⟩:=AgA.1 h;exact ⟨p.2,a⟩
theorem VInv.ok{o:TB}{P:List Pl}(h:VInv n o t P){p:Pl}(hi:P[i]?=some p)(hs:p.1.st=1):PlOk o.N t p:=by
 rcases h.all p (Aee hi) with rfl|q
 ·simp[pl0,v0] at hs
 exact q
theorem PlOk.vok{N:Hm}{p:Pl}(h:PlOk N t p)(d:t<=1073741824)(g:p.2.length<=1024):D8 p.1.id p.1.st p.1.sz p.1.q (p.1.r.toNat:Int) p.1.mp:=by
 obtain ⟨i,b,c,a,e,_,_,f,_⟩:=h;exact ⟨by omega,b,c,a,by omega,by omega,by omega⟩
theorem R8{o:TB}{T:TT}(K:TrK n o T){p:Pl}(h:PlOk (Dl o T) t p):p.2.length<=1024:=by
 have:=JK K.i U h.root.data h.nd;have:=K.hn;omega
theorem R9{p:Vl}(h:0<=p.r):(p.r.toNat:Int)=p.r:=by omega
theorem Acr{o:TB}(r:Int)(d:0<=r)(L:List E)(c:Root o.N r.toNat L)(a:L.length<=1048576):Aj 73 [Y m,I r,I t,I s,I q] [trA Tb m i n o none] (λv G=>∃b:Value,v=.tuple #[b,I 0]/\G=[trA Tb m i n o none,grow 262 2 b (Bw q.toNat [] (Bz t s L)).length (EN (Bw q.toNat [] (Bz t s L)))]):=by
 obtain ⟨p,rfl⟩:=AfZ d;exact Acq m i n o p L t s q c a
theorem Aak{o:TB}(T:TT)(e:Vl)(L:List E)(nx:Int)(hp:PlOk (Dl o T) nx (e,L))(c:nx<=1073741824)(d:L.length<=1024)(f:0<=t/\t<e.sz):Aj 45 [Y m,.agg #[I e.id,I e.st,I e.sz,I e.q,I e.r,I e.mp],I t] [trA Tb m i n o T] (λv G=>∃b:Nat,(BU t (A5 (Dl o T) L)).length=64/\v=.tuple #[.slice (some ⟨b,0,none⟩) 64 64,I 0]/\G=[blk b ((BU t (A5 (Dl o T) L)).map u8) 5,trA Tb m i n o T]):=by
 have j:=hp.r.1;have h:=hp.vok c d;have a:=ZV (Tb:=Tb) m i n o T e.id e.st e.sz e.q e.mp t e.r.toNat L hp.root h;rw[R9 j] at a;intro z R w H;refine Ret.mono (a z R w H) ?_;rintro v k ⟨Γ',(⟨_,q⟩|⟨q,_⟩),g⟩
 ·exact ⟨Γ',q,g⟩
 exact absurd f q
set_option maxHeartbeats 4000000 in
theorem Hq {mb:Nat} (P:List Pl) {vs:List Vl} (hP:vs=P.map Prod.fst) {o:TB} (x:VInv n o t P) (a0:mb<=1000000000) (id b:Int):Aj 33 [Y m,I id,I b] [voA m g t ([]) vs,trA Tb g mb n o none] (λv G=>((∀e∈vs,¬(e.st=1/\e.id=id))/\v=I 31/\G=[voA m g t [] vs,trA Tb g mb n o none])\/(∃(i:Nat) (e:Vl) (L:List E),(P[i]?=some (e,L)/\e.st=1/\e.id=id)/\((¬(1<=b/\b<=1048576)/\v=I 1/\G=[voA m g t [] vs,trA Tb g mb n o none])\/(((1<=b/\b<=1048576)/\Bz b 1048576 L≠[])/\v=I 33/\G=[voA m g t [] vs,trA Tb g mb n o none])\/(((1<=b/\b<=1048576)/\Bz b 1048576 L=[])/\∃C2:Nat->Nat,v=I 0/\G=[voA m g t [] (vs.set i {e with sz:=b}),trA Tb g (mb+2) n ⟨o.N,C2,o.R⟩ none])))):=by
 intro z R w H;have K:=H.says 1 Z (λh a=>trA.k a);have hn:=K.hn;have hv:vs.length=8:=by rw[hP,Aeh];exact x.len
 have hf:∀e∈vs,e.Fit:=by rw[hP];exact x.fit K
 have b4:=x.n;have a4:=x.nb;have b0:manyN n<=6:=by unfold manyN;omega
 refine Ae func33 Z ntmps33 Z (Za 2 [] H Z ?_);intro b1 w H;refine Zc 7 Z (Ar Z (call46 _) (JO id U) H.f1 ?_);rintro _ w _ (⟨i,e,⟨p,d,s⟩,rfl,rfl⟩|⟨a2,rfl,rfl⟩) u
 ·have H:=u.l3;refine Za 0 [] H Z ?_;intro b2 w H;refine Z4 12 [0,0,0,0] H Z ?_;intro w H;refine Af Z (λh1=>U) (λh1=>?_)
  refine Z2 3 [2,0] H Z (z_E_ Z (call65 _) (Hl) H ?_);intro w H;refine Ab Z (AH Z Z) (Zc 3 Z (Af Z (λh2=>?_) (λh2=>?_)))
  ·refine Zc 6 Z (Zr Z ?_);obtain ⟨L,c⟩:=Ho hP p;exact ⟨_,.inr ⟨i,e,L,⟨c,d,s⟩,.inl ⟨by omega,Z,Z⟩⟩,H.pick 4 [1,3] Z⟩
  refine Zc 4 Z ?_;obtain ⟨L,c⟩:=Ho hP p;have f:=x.ok c d;have a9:=(Aed.1 p).1;replace H:=H.f1;obtain ⟨vv,sv,H⟩:=H.vo;have a3:=H.sy 1 (·.slc);obtain ⟨am,mc,rfl⟩:=a3;have l:=(H.rv 1 (·.rd)).at (AV p 0 _ Z);replace H:=H.f3.f4.f3.f3;refine AQ (Sep z (blk m [Y g,I t,.slice am vs.length mc,sv] 85::grow 77 6 (.slice am vs.length mc) vs.length (Be vs)::blk b1 [I b] 3::blk b2 [I (i:Int)] 3::R)) 20 Z J (A4 H λw u=>?_);have H:=u.l6;refine AT [0,1,2,3,4,5,6,7,8,9] [0,0,0,1,2,0,0,3,0] [] (by exact H.pick 6 [0,1,2,3] Z) Z J Z (BM 10 Z J J J Z Z Z (Ak Z (z:=6) (j:=i) (r:=i*6) J Z Z Z U l U) (H.pick 6 [0,1,2,3] Z) (BM 11 Z J J J Z Z Z (Bh Z (k:=4) (r:=i*6+4) J Z l Z) (H.pick 6 [0,1,2,3] Z) (BM 12 Z J J J Z Z Z (Ay Z Z J (λ_ hx=>(hx.rv 1 (·.rd)).at (AV p 4 _ Z))) (H.pick 6 [0,1,2,3] Z) (AT [13] [2,0] [] (by exact H.pick 6 [0,1,2,3] Z) Z J Z (AE [14] J O (Am (Bt Z Z Z Z Z Z (λw=>call73 _ w) (Acr e.r f.r.1 L f.root (by have:L.length<=1024:=R8 K (T:=none) f;omega)) H.f5 Z ?_)))))));rintro _ w _ ⟨u3,rfl,rfl⟩ H;have a1:=H.sy 1 (·.rd.slc);refine Ax (H.pick 7 [2,3,4,5] Z) (AT [15,16,17,18,19] [] [] (by exact H.pick 7 [2,3,4,5] Z) Z J Z (a_done J (gn (Z0 15 [4] Z (Ab Z (Ef Z (sz:=2) J Z a1) (Z0 3 [0] Z (Af Z (λy=>?_) (λy=>?_))))))))
  ·have hX:Bz b 1048576 L≠[]:=λq=>by rw[q] at y;simp[Bw] at y
   refine Zc 6 Z (Zr Z ?_);exact ⟨_,.inr ⟨i,e,L,⟨c,d,s⟩,.inr (.inl ⟨⟨by omega,hX⟩,Z,Z⟩)⟩,(H.pick 7 [2,3,6,0] Z).toVo⟩
  have hX:Bz b 1048576 L=[]:=Aff λq=>y (by have:=Ahe.2 q;simp only[Bw,AeS,Aez,AeD];show (0:Int)<((min ((1:Int).toNat-0) (Bz b 1048576 L).length:Nat):Int);have h1:(1:Int).toNat=1:=rfl;omega);refine Zc 3 Z ?_;have u:=(H.pick 7 [2,3,6,0,1,4,5] Z).toVo;clear H;have H:Sep z (voA m g t ([]) vs::trA Tb g mb n o none::grow 262 2 u3 ((Bw (1:Int).toNat [] (Bz b 1048576 L)).length) (EN (Bw (1:Int).toNat [] (Bz b 1048576 L)))::blk b1 [I b] 3::blk b2 [I (i:Int)] 3::R) w:=u;clear u;refine Zc 2 Z (Ab Z (C5 Z Z Z) (Ar Z (call71 _) (Aad hv ⟨by omega,a4.2⟩ hf i e p b U U a0) H.f4.f4.f3.f3 ?_));rintro _ w _ ⟨C2,rfl,rfl⟩ H;refine Z0 16 [4] Z (z_E_ Z (call35 _) (Ic) H ?_);intro w H;refine Zc 4 Z (Zr Z ?_);exact ⟨_,.inr ⟨i,e,L,⟨c,d,s⟩,.inr (.inr ⟨⟨by omega,hX⟩,C2,Z,Z⟩)⟩,H.pick 5 [0,1] Z⟩
 have H:=u.l3;refine Za 0 [] H Z ?_;intro b3 w H;refine Z4 19 [0,0,0,3] H Z ?_;intro w H;refine Zr Z ?_;exact ⟨_,.inl ⟨a2,Z,Z⟩,H.pick 4 [1,3] Z⟩
end
section
variable{Tb:Ai}
def rdB(V:List Bk)(at_:Int):Nat->List UInt8
 | 0=>[]
 | k+1=>rdB V at_ k++BU (at_+(k:Int)) V
theorem Aal{V:List Bk}:(rdB V t n).map u8++(BU (t+(n:Int)) V).map u8=(rdB V t (n+1)).map u8:=by simp[rdB]
theorem FZ(h:Br t b s p=0):b=true/\(1<=p/\p<=8)/\0<=s/\s<=t-p:=by
 unfold Br at h;split at h
 ·rename_i q
  split at h
  ·rename_i r;exact ⟨q.1,q.2,r⟩
  cases h
 cases h
set_option maxHeartbeats 4000000 in
theorem F0 {mb:Nat} (P:List Pl) {vs:List Vl} (hP:vs=P.map Prod.fst) {o:TB} (p:VInv n o t P) (b4:mb<=1000000000) (id at_ b:Int) (a1: -9223372036854775808<=at_/\at_<=9223372036854775807) (a5: -9223372036854775808<=b/\b<=9223372036854775807):Aj 13 [Y m,I id,I at_,I b] [voA m g t ([]) vs,trA Tb g mb n o none] (λv G=>((∀e∈vs,¬(e.st=1/\e.id=id))/\v=.tuple #[.slice none 0 0,I 31]/\G=[voA m g t [] vs,trA Tb g mb n o none])\/(∃(i:Nat) (e:Vl) (L:List E),(P[i]?=some (e,L)/\e.st=1/\e.id=id)/\((Br e.sz true at_ b≠0/\v=.tuple #[.slice none 0 0,I (Br e.sz true at_ b)]/\G=[voA m g t [] vs,trA Tb g mb n o none])\/(Br e.sz true at_ b=0/\∃u:Value,v=.tuple #[u,I 0]/\G=[grow 5 1 u (rdB (A5 o.N L) at_ b.toNat).length ((rdB (A5 o.N L) at_ b.toNat).map u8),voA m g t [] vs,trA Tb g mb n o none])))):=by
 intro z R w H;have K:=H.says 1 Z (λh a=>trA.k a);have hn:=K.hn;have hv:vs.length=8:=by rw[hP,Aeh];exact p.len
 have hf:∀e∈vs,e.Fit:=by rw[hP];exact p.fit K
 have b9:=p.n;have b1:=p.nb
 refine Ae func13 Z ntmps13 Z (Zc 12 Z (Ar Z (call39 _) (Pa hv (λe s=>(by have:=(hf e s).sz;omega)) a1 a5) H ?_));rintro _ w _ (⟨a8,rfl,rfl⟩|⟨i,e,⟨s,x,a0⟩,rfl,rfl⟩) c
 ·have H:=c.l2;refine Z0 23 [3] Z (Zr Z ?_);exact ⟨_,.inl ⟨a8,Z,Z⟩,H.pick 2 [0,1] Z⟩
 have H:=c.l2;refine Z0 14 [0] Z (Af Z (λh1=>?_) (λh1=>?_))
 ·refine Zc 8 Z (Zr Z ?_);obtain ⟨L,l⟩:=Ho hP s;exact ⟨_,.inr ⟨i,e,L,⟨l,x,a0⟩,.inl ⟨by assumption,Z,Z⟩⟩,H.pick 2 [0,1] Z⟩
 refine Zc 3 Z ?_;have hE:Br e.sz true at_ b=0:=Aff λq=>by contradiction
 refine AB 10 (v:=I (i:Int)) Z (congrArg I (if_pos hE)) ?_;have a7:=FZ hE;obtain ⟨L,l⟩:=Ho hP s;have y:=p.ok l x;have b3:1<=e.sz/\e.sz<=1048576:=y.sz;have b7:=(Aed.1 s).1;obtain ⟨vv,sv,H⟩:=H.vo;have a9:=H.sy 1 (·.slc);obtain ⟨am,mc,rfl⟩:=a9;have a4:L.length<=1024:=R8 K (T:=none) y;replace H:=(H.nilg 5 1).l5;refine Zc 12 Z ?_;refine AD (σ:=Nat×Value) (λ⟨j,u⟩=>[(28,I (j:Int)),(12,u),(0,Y m),(2,I at_),(10,I (i:Int)),(27,I b)])
   (λ⟨j,u⟩ w=>Sep z (grow 5 1 u (64*j) ((rdB (A5 o.N L) at_ j).map u8)::blk m [Y g,I t,.slice am vs.length mc,sv] 85::grow 77 6 (.slice am vs.length mc) vs.length (Be vs)::Cz sv ([])::trA Tb g mb n o none::R) w/\((j:Int)<=b/\(rdB (A5 o.N L) at_ j).length=64*j)) (λ⟨j,u⟩=>b.toNat-j) ⟨0,.slice none 0 0⟩
   (λ_ hF=>(hF.co Z (by go_num) hF.cz)) ⟨(by simpa [rdB] using H),⟨by show ((0:Nat):Int)<=b;omega,Z⟩⟩ ?_
 clear H;rintro ⟨j,u⟩ w ⟨c,p⟩;dsimp only at p c ⊢;have H:=c.l5;have su:=H.sy 0 (·.slc);obtain ⟨hj,a3⟩:=p;refine Z0 6 [0] Z (Af Z (λh2=>?_) (λh2=>?_))
 ·refine Zc 11 Z ?_;have a2:=(H.rv 2 (·.rd)).at (AV s 0 _ Z)
  replace H:=H.f2.f2;refine AQ (Sep z (blk m [Y g,I t,.slice am vs.length mc,sv] 85::grow 77 6 (.slice am vs.length mc) vs.length (Be vs)::R)) 21 Z J (A4 H λw c=>?_);have H:=c.l5;refine AT [0,1,2,3,4,5,6,7,8,9] [0,0,0,1,2,0,0] [] (by exact H.pick 5 [0,1] Z) Z J Z (BM 10 Z J J J Z Z Z (Ak Z (z:=6) (j:=i) (r:=i*6) J Z Z Z U a2 U) (H.pick 5 [0,1] Z) (BM 11 Z J J J Z Z Z (Bq Z Z (vs:=e.cells) J (by simp[Vl.cells]) (λ_ hx=>(λk u hk=>(hx.rv 1 (·.rd)).at (AV s k u hk)))) (H.pick 5 [0,1] Z) (HJ [12,13,14] [] [at_+(j:Int)] (by exact H.pick 5 [0,1] Z) Z J U Z (AE [15] J O (Am (Bt Z Z Z Z Z Z (λw=>call45 _ w) (Aak none e L t y b1.2 a4 U) H.f4 Z ?_))))));rintro _ w _ ⟨rb,f,rfl,rfl⟩ H;have b2:(BU (at_+(j:Int)) (A5 o.N L)).length=64:=f;refine Ax (H.pick 6 [2,3] Z) (AT [16,17,18,19,20] [] [] (by exact H.pick 6 [2,3] Z) Z J Z (a_done J (gn (Z0 14 [4] Z (AP Z (AW 4 H Z Z J CL Z Z (H.rv 0 (·.rd U U (by rw[Aeh];have:=f;omega) (by rw[Aew,AeR,Ael (by rw[Aeh];have:=f;omega)]))) (by simp[u8,Value.oneCell']) U) ?_)))));rintro v1 w c;have c:Sep z (blk rb ((BU (at_+(j:Int)) (A5 o.N L)).map u8) 5::trA Tb g mb n o none::blk m [Y g,I t,.slice am vs.length mc,sv] 85::grow 77 6 (.slice am vs.length mc) vs.length (Be vs)::grow 5 1 v1 ((64*j)+64) ((rdB (A5 o.N L) at_ j).map u8++(BU (at_+(j:Int)) (A5 o.N L)).map u8)::Cz sv ([])::R) w:=c;have b0:((rdB (A5 o.N L) at_ j).map u8++(BU (at_+(j:Int)) (A5 o.N L)).map u8:List Value)=(rdB (A5 o.N L) at_ (j+1)).map u8:=(Aal);rw[b0] at c;rw[show ((64*j)+64:Nat)=64*(j+1) from by omega] at c;have H:=c.l6;refine Z1 8 [] [(j:Int)+1] Z U ?_;replace H:=H.d.f4.f3.f3.f4;refine gf ?_;intro _ hF;refine ⟨⟨j+1,v1⟩,hF.cz,⟨H,?_⟩,?_⟩
  ·exact ⟨by show ((j+1:Nat):Int)<=b;omega,by show (rdB (A5 o.N L) at_ (j+1)).length=64*(j+1);simp only[rdB,Aeg,a3,b2];omega⟩
  (dsimp only;omega)
 refine Zc 2 Z (gx (Zc 10 Z (Zr Z ?_)));have a6:j=b.toNat:=by omega
 subst a6;rw[<-a3] at H;exact ⟨_,.inr ⟨i,e,L,⟨l,x,a0⟩,.inr ⟨hE,_,Z,Z⟩⟩,(((H.pick 5 [1,2,3,4,0] Z).toVo).pick 3 [2,0,1] Z)⟩
end
section
variable{Tb:Ai}
set_option maxHeartbeats 4000000 in
theorem WE (pv pp mb n:Nat) (o:TB) (c b7 bi bk:Nat) (nx:Int) (v1 v2:Value) (vs:List Vl) (i k:Nat) (e:Vl) (y:vs[i]?=some e) (hv:vs.length=8) {t0:TS} {R1:List Nat} (F:Ai) (f:FuncId) (us:List Value) (l:∀a w,(callFunc f a).run prog w=.ok (.enter f a) w) (a1:Int->Prop) (x:Vl->TS->List Nat->Prop) (a2:Aj f (.agg #[I e.id,I e.st,I e.sz,I e.q,I e.r,I e.mp]::I (k:Int)::us) [voA pv pp nx [] vs,trA Tb pp mb n o (some (t0,R1)),F] (λv G=>(∃(er:Int) (s:TS×List Nat),(er≠0/\a1 er)/\v=.tuple #[.agg #[I 0,I 0,I 0,I 0,I 0,I 0],I er]/\G=[voA pv pp nx [] vs,trA Tb pp mb n o (some s),F])\/(∃(b:Vl) (t:TS) (p:List Nat),x b t p/\v=.tuple #[.agg #[I b.id,I b.st,I b.sz,I b.q,I b.r,I b.mp],I 0]/\G=[voA pv pp nx [] vs,trA Tb pp mb n o (some (t,p)),F]))):Aj 78 [Y c,Y b7,Y bi,Y bk] [blk c [I nx,v1,v2] 83,grow 77 6 v1 vs.length (Be vs),Cz v2 ([]),voA pv pp nx ([]) vs,trA Tb pp mb n o (some (t0,R1)),blk b7 [(.func (.func f) #[] us.toArray)] 86,blk bi [I (i:Int)] 3,blk bk [I (k:Int)] 3,F] (λv G=>(∃(er:Int) (s:TS×List Nat),(er≠0/\a1 er)/\v=I er/\G=[voA pv pp nx [] vs,trA Tb pp mb n o (some s),blk b7 [(.func (.func f) #[] us.toArray)] 86,blk bi [I (i:Int)] 3,blk bk [I (k:Int)] 3,F])\/(∃(b:Vl) (t:TS) (p:List Nat),x b t p/\v=I 0/\G=[blk c [I nx,v1,v2] 83,grow 77 6 v1 vs.length (Be (vs.set i b)),Cz v2 [],voA pv pp nx [] vs,trA Tb pp mb n o (some (t,p)),blk b7 [(.func (.func f) #[] us.toArray)] 86,blk bi [I (i:Int)] 3,blk bk [I (k:Int)] 3,F])):=by
 intro z R w H;have a3:=H.sy 1 (·.slc);obtain ⟨am,mc,rfl⟩:=a3;have a5:=(Aed.1 y).1;have d:=(H.rv 1 (·.rd)).at (AV y 0 _ Z);refine Ae func78 Z ntmps78 Z (Zc 6 Z ?_);replace H:=H.f7.f7.f3.f3.f7;refine AQ (Sep z (blk b7 [(.func (.func f) #[] us.toArray)] 86::blk c [I nx,.slice am vs.length mc,v2] 83::grow 77 6 (.slice am vs.length mc) vs.length (Be vs)::blk bi [I (i:Int)] 3::blk bk [I (k:Int)] 3::R)) 16 Z J (A4 H λw h=>?_);have H:=h.l9;refine AT [0,1,2,3,4,5] [0,0,1,1,0,3,0] [] (by exact H.pick 9 [0,1,2,3,4] Z) Z J Z (BM 6 Z J J J Z Z Z (Ak Z (z:=6) (j:=i) (r:=i*6) J Z Z Z U d U) (H.pick 9 [0,1,2,3,4] Z) (BM 7 Z J J J Z Z Z (Bq Z Z (vs:=e.cells) J (by simp[Vl.cells]) (λ_ hx=>(λk u hk=>(hx.rv 2 (·.rd)).at (AV y k u hk)))) (H.pick 9 [0,1,2,3,4] Z) (AT [8] [4,0] [] (by exact H.pick 9 [0,1,2,3,4] Z) Z J Z (AE [9,13] J O (IP ?_ ?_)))))
 ·refine Acm Z Z Z Z Z Z Z (λw=>l _ w) (a2) H.f8.f8.f8 Z ?_;rintro _ w _ (⟨er,s,⟨a0,m⟩,rfl,rfl⟩|⟨b,t,p,g,rfl,rfl⟩) h
  ·have H:=h.l9;refine Ax (H.pick 9 [3,4,5,6,7] Z) (AT [10,11,12] [] [] (by exact H.pick 9 [3,4,5,6,7] Z) Z J Z (AE [13] J O (Am (B6 Z Z Z Z (BZ (P:=prog) H Z (zs:=[I 0,I 0,I 0,I 0,I 0,I 0]) J) ?_))));rintro _ w ⟨b1,rfl,H⟩;refine Ax (H.pick 10 [4,5,6,7,8] Z) (AE [14] J O (Am (Bj Z Z Z (Al 0 H Z Z Z Z (vs:=[I 0,I 0,I 0,I 0,I 0,I 0]) Z (by simp[u8,u32,Value.oneCell']) J O (out:=[I 0,I 0,I 0,I 0,I 0,I 0]) Z) ?_)));rintro w H;refine Ax (H.pick 10 [4,5,6,7,8] Z) (AT [15] [] [] (by exact H.pick 10 [4,5,6,7,8] Z) Z J Z (a_done J (gn (Zc 2 Z (BK 7 J J (A4 H λw h=>?_))))))
   have H:=h.l10;refine Mz 6 [1,5,0,7,0,0,6] [] H Z J (Cc Z Z Z (Ak Z (z:=6) (j:=i) (r:=i*6) J Z Z Z U d U) (CG (gw (AC Z Z (CW 6 H Z Z Z Z (vs:=[I 0,I 0,I 0,I 0,I 0,I 0]) Z (by simp[Value.oneCell']) J U (by simp only[Aei,AeD];omega) (out:=Be (vs.set i v0)) (EK (e2:=v0) y 0 O (by simp[Vl.cells,v0]))) ?_))));rintro w H;refine Zc 9 Z (Zr Z ?_);exact ⟨_,.inl ⟨er,s,⟨a0,m⟩,Z,Z⟩,H.pick 10 [1,2,4,7,8,3] Z⟩
  have H:=h.l9;refine Ax (H.pick 9 [3,4,5,6,7] Z) (AT [10,11,12] [] [] (by exact H.pick 9 [3,4,5,6,7] Z) Z J Z (AE [13] J O (Am (B6 Z Z Z Z (BZ (P:=prog) H Z (zs:=[I 0,I 0,I 0,I 0,I 0,I 0]) J) ?_))));rintro _ w ⟨b2,rfl,H⟩;refine Ax (H.pick 10 [4,5,6,7,8] Z) (AE [14] J O (Am (Bj Z Z Z (Al 0 H Z Z Z Z (vs:=[I b.id,I b.st,I b.sz,I b.q,I b.r,I b.mp]) Z (by simp[u8,u32,Value.oneCell']) J O (out:=[I b.id,I b.st,I b.sz,I b.q,I b.r,I b.mp]) Z) ?_)));rintro w H;refine Ax (H.pick 10 [4,5,6,7,8] Z) (AT [15] [] [] (by exact H.pick 10 [4,5,6,7,8] Z) Z J Z (a_done J (gn (Zc 2 Z (BK 7 J J (A4 H λw h=>?_))))));have H:=h.l10;refine Mz 6 [1,5,0,7,0,0,6] [] H Z J (Cc Z Z Z (Ak Z (z:=6) (j:=i) (r:=i*6) J Z Z Z U d U) (CG (gw (AC Z Z (CW 6 H Z Z Z Z (vs:=[I b.id,I b.st,I b.sz,I b.q,I b.r,I b.mp]) Z (by simp[Value.oneCell']) J U (by simp only[Aei,AeD];omega) (out:=Be (vs.set i b)) (EK (e2:=b) y 0 O (by simp[Vl.cells,v0]))) ?_))));rintro w H;refine Zc 9 Z (Zr Z ?_);exact ⟨_,.inr ⟨b,t,p,g,Z,Z⟩,H.pick 10 [5,6,9,1,2,4,7,8,3] Z⟩
 refine B6 Z Z Z Z (BZ (P:=prog) H Z (zs:=[I 0,I 0,I 0,I 0,I 0,I 0]) J) ?_;rintro _ w ⟨b3,rfl,H⟩;refine Ax (H.pick 10 [1,2,3,4,5] Z) (AE [9] J O (Am (Acm Z Z Z Z Z Z Z (λw=>l _ w) (a2) H.f9.f9.f9 Z ?_)));rintro _ w _ (⟨er,s,⟨a0,m⟩,rfl,rfl⟩|⟨b,t,p,g,rfl,rfl⟩) h
 ·have H:=h.l10;refine Ax (H.pick 10 [4,5,6,7,8] Z) (AT [10,11,12] [] [] (by exact H.pick 10 [4,5,6,7,8] Z) Z J Z (AE [14] J O (Am (Bj Z Z Z (Al 3 H Z Z Z Z (vs:=[I 0,I 0,I 0,I 0,I 0,I 0]) Z (by simp[u8,u32,Value.oneCell']) J O (out:=[I 0,I 0,I 0,I 0,I 0,I 0]) Z) ?_))));rintro w H;refine Ax (H.pick 10 [4,5,6,7,8] Z) (AT [15] [] [] (by exact H.pick 10 [4,5,6,7,8] Z) Z J Z (a_done J (gn (Zc 2 Z (BK 7 J J (A4 H λw h=>?_))))))
  have H:=h.l10;refine Mz 6 [1,5,0,7,0,3,6] [] H Z J (Cc Z Z Z (Ak Z (z:=6) (j:=i) (r:=i*6) J Z Z Z U d U) (CG (gw (AC Z Z (CW 6 H Z Z Z Z (vs:=[I 0,I 0,I 0,I 0,I 0,I 0]) Z (by simp[Value.oneCell']) J U (by simp only[Aei,AeD];omega) (out:=Be (vs.set i v0)) (EK (e2:=v0) y 0 O (by simp[Vl.cells,v0]))) ?_))));rintro w H;refine Zc 9 Z (Zr Z ?_);exact ⟨_,.inl ⟨er,s,⟨a0,m⟩,Z,Z⟩,H.pick 10 [0,1,4,7,8,2] Z⟩
 have H:=h.l10;refine Ax (H.pick 10 [4,5,6,7,8] Z) (AT [10,11,12] [] [] (by exact H.pick 10 [4,5,6,7,8] Z) Z J Z (AE [14] J O (Am (Bj Z Z Z (Al 3 H Z Z Z Z (vs:=[I b.id,I b.st,I b.sz,I b.q,I b.r,I b.mp]) Z (by simp[u8,u32,Value.oneCell']) J O (out:=[I b.id,I b.st,I b.sz,I b.q,I b.r,I b.mp]) Z) ?_))));rintro w H;refine Ax (H.pick 10 [4,5,6,7,8] Z) (AT [15] [] [] (by exact H.pick 10 [4,5,6,7,8] Z) Z J Z (a_done J (gn (Zc 2 Z (BK 7 J J (A4 H λw h=>?_))))));have H:=h.l10;refine Mz 6 [1,5,0,7,0,3,6] [] H Z J (Cc Z Z Z (Ak Z (z:=6) (j:=i) (r:=i*6) J Z Z Z U d U) (CG (gw (AC Z Z (CW 6 H Z Z Z Z (vs:=[I b.id,I b.st,I b.sz,I b.q,I b.r,I b.mp]) Z (by simp[Value.oneCell']) J U (by simp only[Aei,AeD];omega) (out:=Be (vs.set i b)) (EK (e2:=b) y 0 O (by simp[Vl.cells,v0]))) ?_))));rintro w H;refine Zc 9 Z (Zr Z ?_);exact ⟨_,.inr ⟨b,t,p,g,Z,Z⟩,H.pick 10 [5,6,9,0,1,4,7,8,2] Z⟩
end
section
variable{Tb:Ai}
theorem WF(p pp mb n:Nat)(nx:Int)(vs:List Vl)(o:TB)(hv:vs.length=8)(a2:0<=nx/\nx<=1073741824)(hf:∀e∈vs,e.Fit)(i k:Nat)(e:Vl)(he:vs[i]?=some e)(F:Ai)(f:FuncId)(us:List Value)(x:∀a w,(callFunc f a).run prog w=.ok (.enter f a) w)(u:Int->Prop)(d:Vl->TS->List Nat->Prop)
  (a0:Aj f (.agg #[I e.id,I e.st,I e.sz,I e.q,I e.r,I e.mp]::I (k:Int)::us) [voA p pp nx [] vs,trA Tb pp mb n o (some (⟨o.N,o.C,AX n o.C,0⟩,o.R)),F] (λv G=>(∃(er:Int) (s:TS×List Nat),(er≠0/\u er)/\v=.tuple #[.agg #[I 0,I 0,I 0,I 0,I 0,I 0],I er]/\G=[voA p pp nx [] vs,trA Tb pp mb n o (some s),F])\/(∃(b:Vl) (t:TS) (l:List Nat),d b t l/\v=.tuple #[.agg #[I b.id,I b.st,I b.sz,I b.q,I b.r,I b.mp],I 0]/\G=[voA p pp nx [] vs,trA Tb pp mb n o (some (t,l)),F])))(hG:∀b t l,d b t l->b.Fit/\t.k+1+manyN n<=40)(a1:mb<=1000000000):
  Aj 71 [Y p,.func (.func 78) #[] #[Y m,Y j,Y g]] [voA p pp nx [] vs,trA Tb pp mb n o none,blk m [(.func (.func f) #[] us.toArray)] 86,blk j [I (i:Int)] 3,blk g [I (k:Int)] 3,F] (λv G=>(∃er:Int,(er≠0/\u er)/\v=I er/\G=[voA p pp nx [] vs,trA Tb pp mb n o none,blk m [(.func (.func f) #[] us.toArray)] 86,blk j [I (i:Int)] 3,blk g [I (k:Int)] 3,F])\/(∃(b:Vl) (t:TS) (l:List Nat),d b t l/\v=I 0/\G=[voA p pp nx [] (vs.set i b),trA Tb pp (mb+2) n ⟨t.N,t.C,l⟩ none,blk m [(.func (.func f) #[] us.toArray)] 86,blk j [I (i:Int)] 3,blk g [I (k:Int)] 3,F])):=by
 intro z R w H;have H2:=((H.pick 6 [2,3,4,5,0,1] Z).made 4 (A:=seps [blk m [(.func (.func f) #[] us.toArray)] 86,blk j [I (i:Int)] 3,blk g [I (k:Int)] 3,F]) (λh q=>q)).pick 3 [1,2,0] Z;refine Ret.mono (change_c p pp mb n nx vs o hv _ _ [Y m,Y j,Y g] (λa w=>call78 a w) (λer E2=>u er/\E2=seps [blk m [(.func (.func f) #[] us.toArray)] 86,blk j [I (i:Int)] 3,blk g [I (k:Int)] 3,F]) (λnx2 y t R0 E2=>∃b,nx2=nx/\y=vs.set i b/\d b t R0/\E2=seps [blk m [(.func (.func f) #[] us.toArray)] 86,blk j [I (i:Int)] 3,blk g [I (k:Int)] 3,F]) (λc v1 v2 z R w H=>?_) ?_ a1 z R w H2) ?_
 ·have H3:=(H.pick 6 [5,0,1,2,3,4] Z).opened
  refine Ret.mono (Cn.at (WE p pp mb n o c m j g nx v1 v2 vs i k e he hv F f us x u d a0) H3 9 [4,5,6,7,8,0,1,2,3] Z Z) ?_;rintro v w' ⟨Γ',(⟨er,s,⟨h1,h2⟩,rfl,rfl⟩|⟨b,t,l,hg,rfl,rfl⟩),H'⟩
  ·exact ⟨_,.inl ⟨er,_,s,⟨h1,h2,Z⟩,Z,Z⟩,((H'.pick 6 [2,3,4,5,0,1] Z).made 4 (λh q=>q)).pick 3 [1,2,0] Z⟩
  exact ⟨_,.inr ⟨nx,vs.set i b,t,l,_,⟨b,Z,Z,hg,Z⟩,Z,Z⟩,by rw[AeW];exact ((H'.pick 9 [5,6,7,8,0,1,2,3,4] Z).made 4 (λh q=>q)).pick 6 [1,2,3,4,5,0] Z⟩
 ·rintro _ _ t R0 _ ⟨b,rfl,rfl,hg,rfl⟩
  obtain ⟨g1,g2⟩:=hG _ _ _ hg;exact ⟨by simp[hv],a2,GD hf g1,g2⟩
 rintro v w' ⟨Γ',(⟨er,E2,⟨h1,h2,rfl⟩,rfl,rfl⟩|⟨nx2,y,t,R0,E2,⟨b,rfl,rfl,hg,rfl⟩,rfl,rfl⟩),H'⟩
 ·exact ⟨_,.inl ⟨er,⟨h1,h2⟩,Z,Z⟩,((H'.pick 3 [2,0,1] Z).opened).pick 6 [4,5,0,1,2,3] Z⟩
 exact ⟨_,.inr ⟨b,t,R0,hg,Z,Z⟩,((H'.pick 3 [2,0,1] Z).opened).pick 6 [4,5,0,1,2,3] Z⟩
set_option maxHeartbeats 4000000 in
theorem Q0 (g pp mb n:Nat) (nx:Int) (vs:List Vl) (o:TB) (e:Vl) (L:List E) (i:Nat) (hi:i<vs.length) (hv:vs.length=8) (a2:0<=nx/\nx<=1073741824) (b:Int) (a5:0<=b/\b<=8) (a6:mb+16<=1000000000) (F:Ai) (f:FuncId) (m:∀a w,(callFunc f a).run prog w=.ok (.enter f a) w) (J_:Nat->TB->Vl->List E->Prop) (y:Nat->TB->Vl->List E->Int->Prop) (hJ:J_ 0 o e L) (a0:∀k o2 e2 L2,J_ k o2 e2 L2->∀x∈vs.set i e2,x.Fit) (a3:∀(k:Nat) (o2:TB) (e2:Vl) (L2:List E) (m2:Nat),(k:Int)<b->J_ k o2 e2 L2->Aj f (.agg #[I e2.id,I e2.st,I e2.sz,I e2.q,I e2.r,I e2.mp]::I (k:Int)::V) [voA g pp nx [] (vs.set i e2),trA Tb pp m2 n o2 (some (⟨o2.N,o2.C,AX n o2.C,0⟩,o2.R)),F] (λv G=>(∃(er:Int) (s:TS×List Nat),(er≠0/\y k o2 e2 L2 er)/\v=.tuple #[.agg #[I 0,I 0,I 0,I 0,I 0,I 0],I er]/\G=[voA g pp nx [] (vs.set i e2),trA Tb pp m2 n o2 (some s),F])\/(∃(c:Vl) (t:TS) (j:List Nat),((∃L3,J_ (k+1) ⟨t.N,t.C,j⟩ c L3)/\c.Fit/\t.k+1+manyN n<=40)/\v=.tuple #[.agg #[I c.id,I c.st,I c.sz,I c.q,I c.r,I c.mp],I 0]/\G=[voA g pp nx [] (vs.set i e2),trA Tb pp m2 n o2 (some (t,j)),F]))):Aj 40 [Y g,I (i:Int),I b,(.func (.func f) #[] V.toArray)] [voA g pp nx ([]) (vs.set i e),trA Tb pp mb n o none,F] (λv G=>(∃(k:Nat) (o2:TB) (e2:Vl) (L2:List E) (er:Int),((k:Int)<b/\J_ k o2 e2 L2/\er≠0/\y k o2 e2 L2 er)/\v=.tuple #[I (k:Int),I er]/\G=[voA g pp nx [] (vs.set i e2),trA Tb pp (mb+2*k) n o2 none,F])\/(∃(k:Nat) (o2:TB) (e2:Vl) (L2:List E),((k:Int)=b/\J_ k o2 e2 L2)/\v=.tuple #[I b,I 0]/\G=[voA g pp nx [] (vs.set i e2),trA Tb pp (mb+2*k) n o2 none,F])):=by
 intro z R w H;refine Ae func40 Z ntmps40 Z (Za 2 [] H Z ?_);intro b1 w H;refine Za 0 [] H Z ?_;intro b2 w H;refine Zc 12 Z ?_;refine AD (σ:=Nat×TB×Vl×List E) (λ⟨k,o2,e2,L2⟩=>[(13,I (k:Int)),(0,Y g),(2,I b),(5,Y b1),(7,Y b2),(12,I b)])
   (λ⟨k,o2,e2,L2⟩ w=>Sep z (blk b2 [(.func (.func f) #[] V.toArray)] 86::blk b1 [I (i:Int)] 3::voA g pp nx ([]) (vs.set i e2)::trA Tb pp (mb+2*k) n o2 none::F::R) w/\((k:Int)<=b/\J_ k o2 e2 L2)) (λ⟨k,o2,e2,L2⟩=>b.toNat-k) ⟨0,o,e,L⟩
   fr_z ⟨H,⟨by show ((0:Nat):Int)<=b;omega,hJ⟩⟩ ?_
 clear H;rintro ⟨k,o2,e2,L2⟩ w ⟨l,hI⟩;dsimp only at hI l ⊢;have H:=l.l5;obtain ⟨a7,h⟩:=hI;refine Z0 6 [0] Z (Af Z (λh1=>?_) (λh1=>?_))
 ·refine Za 7 [] H Z ?_;intro b3 w H;refine Z4 6 [0] H Z ?_;intro w H;refine Ab Z (C5 Z Z Z) (Ar Z (call71 _) (WF g pp (mb+2*k) n nx (vs.set i e2) o2 (by simp[hv]) a2 (a0 _ _ _ _ h) i k e2 (Afy hi) F f V m (y k o2 e2 L2) (λc t j=>(∃L3,J_ (k+1) ⟨t.N,t.C,j⟩ c L3)/\c.Fit/\t.k+1+manyN n<=40) (a3 k o2 e2 L2 _ U h) (λ_ _ _ q=>q.2) U) H.f5.f1.f3.f3.f5.f5 ?_);rintro _ w _ (⟨er,⟨a1,p⟩,rfl,rfl⟩|⟨c,t,j,⟨⟨L3,u⟩,a4,a8⟩,rfl,rfl⟩) l
  ·have H:=l.l6;refine Z0 9 [0] Z (Af Z (λh2=>?_) (λh2=>?_))
   ·refine Z2 9 [4,0] H Z (Zr Z ?_);exact ⟨_,.inl ⟨k,o2,e2,L2,er,⟨by omega,h,a1,p⟩,Z,Z⟩,H.pick 6 [0,1,5] Z⟩
   (exfalso;omega)
  rw[AgW] at l;have H:Sep z (voA g pp nx ([]) (vs.set i c)::trA Tb pp (mb+2*(k+1)) n ⟨t.N,t.C,j⟩ none::blk b2 [(.func (.func f) #[] V.toArray)] 86::blk b1 [I (i:Int)] 3::blk b3 [I (k:Int)] 3::F::R) w:=l;clear l;refine Z1 17 [4] [(k:Int)+1] Z U ?_;replace H:=H.f4.d.f4.f2.f2.f4.f4;refine gf ?_;intro _ hF;refine ⟨⟨k+1,⟨t.N,t.C,j⟩,c,L3⟩,hF.cz,⟨H,?_⟩,?_⟩
  ·exact ⟨by show ((k+1:Nat):Int)<=b;omega,u⟩
  (dsimp only;omega)
 refine Zc 2 Z (gx (Zc 10 Z (Zr Z ?_)));exact ⟨_,.inr ⟨k,o2,e2,L2,⟨by omega,h⟩,Z,Z⟩,H.pick 5 [2,3,4] Z⟩
end
section
variable{Tb:Ai}
theorem WH{o:TB}(e:Vl)(L:List E)(Q:List Nat)(D:Ai)(bs:List UInt8)(nx:Int)(j:LwI n o e.r.toNat L Q)(a:PlOk o.N nx (e,L))(k:nx<=1073741824)(l:L.length<=1024)(s:0<=t/\t<e.sz)(x:bs.length=64)(p:∀h,D h->rdH 1 u bs.length (bs.map u8) h):
  Aj 42 [Y m,.agg #[I e.id,I e.st,I e.sz,I e.q,I e.r,I e.mp],I t,u] [trA Tb m i n o (some (⟨o.N,o.C,AX n o.C,0⟩,o.R)),D] (λv G=>((getE t L=0/\e.q<=e.mp)/\v=.tuple #[.agg #[I 0,I 0,I 0,I 0,I 0,I 0],I 30]/\G=[trA Tb m i n o (some (⟨o.N,o.C,AX n o.C,0⟩,o.R)),D])\/((¬(getE t L=0/\e.q<=e.mp)/\cnt (AX n o.C) 0 1024<=11)/\∃f,v=.tuple #[.agg #[I 0,I 0,I 0,I 0,I 0,I 0],I 20]/\G=[trA Tb m i n o (some f),D])\/(¬(getE t L=0/\e.q<=e.mp)/\∃(t3:TS) (r val:Nat),WrF n o t3 e.r.toNat r Q t val bs L/\v=.tuple #[.agg #[I e.id,I e.st,I e.sz,I e.q,I (r:Int),I (if getE t L=0 then e.mp+1 else e.mp)],I 0]/\G=[trA Tb m i n o (some (t3,AZ r++Q)),D])):=by
 have g:=Wu (Tb:=Tb) m i n o e.id e.st e.sz e.q e.mp t e.r.toNat L Q D u bs j (a.vok k l) p;rw[R9 a.r.1,<-j.r] at g;intro z R w H;refine Ret.mono (g z R w H) ?_;rintro v y ⟨Γ',(⟨q,_⟩|⟨_,q,_⟩|⟨_,q,rfl,rfl⟩|⟨⟨_,_,c⟩,b,f,rfl,rfl⟩|⟨⟨_,_,c⟩,t3,r,val,b,rfl,rfl⟩),d⟩
 ·exact absurd s q
 ·exact absurd x q
 ·exact ⟨_,.inl ⟨q,Z,Z⟩,d⟩
 ·exact ⟨_,.inr (.inl ⟨⟨c,b⟩,f,Z,Z⟩),d⟩
 exact ⟨_,.inr (.inr ⟨c,t3,r,val,b,Z,Z⟩),d⟩
theorem WI{o:TB}(e:Vl)(L:List E)(Q:List Nat)(nx:Int)(f:LwI n o e.r.toNat L Q)(a:PlOk o.N nx (e,L))(g:nx<=1073741824)(h:L.length<=1024)(k:0<=t/\t<e.sz):
  Aj 44 [Y m,.agg #[I e.id,I e.st,I e.sz,I e.q,I e.r,I e.mp],I t] [trA Tb m i n o (some (⟨o.N,o.C,AX n o.C,0⟩,o.R))] (λv G=>(¬CE t L/\v=.tuple #[.agg #[I e.id,I e.st,I e.sz,I e.q,I e.r,I e.mp],I 0]/\G=[trA Tb m i n o (some (⟨o.N,o.C,AX n o.C,0⟩,o.R))])\/(cnt (AX n o.C) 0 1024<=12/\∃c,v=.tuple #[.agg #[I 0,I 0,I 0,I 0,I 0,I 0],I 20]/\G=[trA Tb m i n o (some c)])\/(CE t L/\∃(t3:TS) (r:Nat),UnF n o t3 r Q t L/\v=.tuple #[.agg #[I e.id,I e.st,I e.sz,I e.q,I (r:Int),I (e.mp-1)],I 0]/\G=[trA Tb m i n o (some (t3,AZ r++Q))])):=by
 have d:=Ww (Tb:=Tb) m i n o e.id e.st e.sz e.q e.mp t e.r.toNat L Q f (a.vok g h);rw[R9 a.r.1,<-f.r] at d;intro z R w H;refine Ret.mono (d z R w H) ?_;rintro v l ⟨Γ',(⟨q,_⟩|⟨⟨_,q⟩,rfl,rfl⟩|⟨⟨_,q⟩,c,rfl,rfl⟩|⟨⟨_,q⟩,t3,r,j,rfl,rfl⟩),b⟩
 ·exact absurd k q
 ·exact ⟨_,.inl ⟨q,Z,Z⟩,b⟩
 ·exact ⟨_,.inr (.inl ⟨q,c,Z,Z⟩),b⟩
 exact ⟨_,.inr (.inr ⟨q,t3,r,j,Z,Z⟩),b⟩
set_option maxHeartbeats 4000000 in
theorem Ub (b pp mb n:Nat) (nx:Int) (vs:List Vl) (o:TB) (e:Vl) (L:List E) (Q:List Nat) (at_:Int) (k:Nat) (hI:LwI n o e.r.toNat L Q) (g:PlOk o.N nx (e,L)) (l:nx<=1073741824) (u:L.length<=1024) (hk:0<=at_+(k:Int)/\at_+(k:Int)<e.sz) (d c f a:Nat) (bs:List UInt8) (a1:(k+1)*64<=bs.length) (x:bs.length<=1073741824):Aj 41 [.agg #[I e.id,I e.st,I e.sz,I e.q,I e.r,I e.mp],I (k:Int),Y d,Y c,Y f] [voA b pp nx ([]) vs,trA Tb pp mb n o (some (⟨o.N,o.C,AX n o.C,0⟩,o.R)),blk d [Y b] 33,blk c [I at_] 3,blk f [.slice (some ⟨a,0,none⟩) bs.length bs.length] 46,blk a (bs.map u8) 5] (λv G=>((getE (at_+(k:Int)) L=0/\e.q<=e.mp)/\v=.tuple #[.agg #[I 0,I 0,I 0,I 0,I 0,I 0],I 30]/\G=[voA b pp nx [] vs,trA Tb pp mb n o (some (⟨o.N,o.C,AX n o.C,0⟩,o.R)),blk d [Y b] 33,blk c [I at_] 3,blk f [.slice (some ⟨a,0,none⟩) bs.length bs.length] 46,blk a (bs.map u8) 5])\/((¬(getE (at_+(k:Int)) L=0/\e.q<=e.mp)/\cnt (AX n o.C) 0 1024<=11)/\∃m,v=.tuple #[.agg #[I 0,I 0,I 0,I 0,I 0,I 0],I 20]/\G=[voA b pp nx [] vs,trA Tb pp mb n o (some m),blk d [Y b] 33,blk c [I at_] 3,blk f [.slice (some ⟨a,0,none⟩) bs.length bs.length] 46,blk a (bs.map u8) 5])\/(¬(getE (at_+(k:Int)) L=0/\e.q<=e.mp)/\∃(t3:TS) (r val:Nat),WrF n o t3 e.r.toNat r Q (at_+(k:Int)) val ((bs.drop (k*64)).take 64) L/\v=.tuple #[.agg #[I e.id,I e.st,I e.sz,I e.q,I (r:Int),I (if getE (at_+(k:Int)) L=0 then e.mp+1 else e.mp)],I 0]/\G=[voA b pp nx [] vs,trA Tb pp mb n o (some (t3,AZ r++Q)),blk d [Y b] 33,blk c [I at_] 3,blk f [.slice (some ⟨a,0,none⟩) bs.length bs.length] 46,blk a (bs.map u8) 5])):=by
 intro z R w H;replace H:=H.l6;obtain ⟨t,sv,H⟩:=H.vo;replace H:=H.l8;have s:1<=e.sz/\e.sz<=1048576:=g.sz;have j:((bs.drop (k*64)).take 64).length=64:=by rw[Aez,AeQ];omega
 refine Ae func41 Z ntmps41 Z (Za 2 [] H Z ?_);intro b1 w H;refine Za 0 [] H Z ?_;intro b2 w H;refine Zc 4 Z ?_;replace H:=H.f8.f8.f3.f4.f8;refine AQ (Sep z (blk d [Y b] 33::blk b [Y pp,I nx,t,sv] 85::blk b1 [I e.id,I e.st,I e.sz,I e.q,I e.r,I e.mp] 77::blk c [I at_] 3::blk f [.slice (some ⟨a,0,none⟩) bs.length bs.length] 46::R)) 20 Z J (A4 H λw i=>?_);have H:=i.l10;refine HJ [0,1,2,3,4,5,6,7,8,9,10,11,12,13] [0,0,0,1,0,2,6,3,0,4,0] [at_+(k:Int),((k*64:Nat):Int),((k+1:Nat):Int),(((k+1)*64:Nat):Int)] (by exact H.pick 10 [0,1,2,3,4] Z) Z J U Z (BM 14 Z J J J Z Z Z (BO Z (z:=1) (p:=(k*64)) (q:=((k+1)*64)) (o':=k*64) (l':=64) (c':=bs.length-k*64) J Z (.inr ⟨_,_,_,Z,Z,Z⟩) (.inr ⟨_,_,_,Z,Z,Z⟩) U U U U U U) (H.pick 10 [0,1,2,3,4] Z) (AE [15] J O (Am (Bt Z Z Z Z Z Z (λw=>call42 _ w) (WH e L Q (blk a (bs.map u8) 5) ((bs.drop (k*64)).take 64) nx hI g l u hk j (λh q=>by rw[j];exact q.rd U U (by rw[Aeh];omega) (by rw[AeR,<-AfW,<-Afr]))) H.f9.f9 Z ?_))));rintro _ w _ (⟨hq,rfl,rfl⟩|⟨hq,m,rfl,rfl⟩|⟨hq,t3,r,val,hW,rfl,rfl⟩) i
 ·have H:=i.l10;refine Ax (H.pick 10 [2,3,4,5,6] Z) (AT [16,17] [] [] (by exact H.pick 10 [2,3,4,5,6] Z) Z J Z (AE [18] J O (Am (Bj Z Z Z (Al 7 H Z Z Z Z (vs:=[I 0,I 0,I 0,I 0,I 0,I 0]) Z (by simp[u8,u32,Value.oneCell']) J O (out:=[I 0,I 0,I 0,I 0,I 0,I 0]) Z) ?_))));rintro w H;replace H:=H.l10;refine Ax (H.pick 10 [2,3,4,5,6] Z) (AT [19] [] [] (by exact H.pick 10 [2,3,4,5,6] Z) Z J Z (a_done J (gn (Zc 2 Z (Zl [7,6] H Z ?_)))));exact ⟨_,.inl ⟨hq,Z,Z⟩,(H.pick 10 [3,8,9,0,2,5,6,1] Z).toVo⟩
 ·have H:=i.l10;refine Ax (H.pick 10 [2,3,4,5,6] Z) (AT [16,17] [] [] (by exact H.pick 10 [2,3,4,5,6] Z) Z J Z (AE [18] J O (Am (Bj Z Z Z (Al 7 H Z Z Z Z (vs:=[I 0,I 0,I 0,I 0,I 0,I 0]) Z (by simp[u8,u32,Value.oneCell']) J O (out:=[I 0,I 0,I 0,I 0,I 0,I 0]) Z) ?_))));rintro w H;replace H:=H.l10;refine Ax (H.pick 10 [2,3,4,5,6] Z) (AT [19] [] [] (by exact H.pick 10 [2,3,4,5,6] Z) Z J Z (a_done J (gn (Zc 2 Z (Zl [7,6] H Z ?_)))));exact ⟨_,.inr (.inl ⟨hq,m,Z,Z⟩),(H.pick 10 [3,8,9,0,2,5,6,1] Z).toVo⟩
 have H:=i.l10;refine Ax (H.pick 10 [2,3,4,5,6] Z) (AT [16,17] [] [] (by exact H.pick 10 [2,3,4,5,6] Z) Z J Z (AE [18] J O (Am (Bj Z Z Z (Al 7 H Z Z Z Z (vs:=[I e.id,I e.st,I e.sz,I e.q,I (r:Int),I (if getE (at_+(k:Int)) L=0 then e.mp+1 else e.mp)]) Z (by simp[u8,u32,Value.oneCell']) J O (out:=[I e.id,I e.st,I e.sz,I e.q,I (r:Int),I (if getE (at_+(k:Int)) L=0 then e.mp+1 else e.mp)]) Z) ?_))));rintro w H;replace H:=H.l10;refine Ax (H.pick 10 [2,3,4,5,6] Z) (AT [19] [] [] (by exact H.pick 10 [2,3,4,5,6] Z) Z J Z (a_done J (gn (Zc 2 Z (Zl [7,6] H Z ?_)))));exact ⟨_,.inr (.inr ⟨hq,t3,r,val,hW,Z,Z⟩),(H.pick 10 [3,8,9,0,2,5,6,1] Z).toVo⟩
set_option maxHeartbeats 4000000 in
theorem Uc (a pp mb n:Nat) (nx:Int) (vs:List Vl) (o:TB) (e:Vl) (L:List E) (Q:List Nat) (at_:Int) (k:Nat) (u:LwI n o e.r.toNat L Q) (d:PlOk o.N nx (e,L)) (g:nx<=1073741824) (l:L.length<=1024) (t:0<=at_+(k:Int)/\at_+(k:Int)<e.sz) (c b:Nat):Aj 43 [.agg #[I e.id,I e.st,I e.sz,I e.q,I e.r,I e.mp],I (k:Int),Y c,Y b] [voA a pp nx ([]) vs,trA Tb pp mb n o (some (⟨o.N,o.C,AX n o.C,0⟩,o.R)),blk c [Y a] 33,blk b [I at_] 3] (λv G=>(¬CE (at_+(k:Int)) L/\v=.tuple #[.agg #[I e.id,I e.st,I e.sz,I e.q,I e.r,I e.mp],I 0]/\G=[voA a pp nx [] vs,trA Tb pp mb n o (some (⟨o.N,o.C,AX n o.C,0⟩,o.R)),blk c [Y a] 33,blk b [I at_] 3])\/(cnt (AX n o.C) 0 1024<=12/\∃h,v=.tuple #[.agg #[I 0,I 0,I 0,I 0,I 0,I 0],I 20]/\G=[voA a pp nx [] vs,trA Tb pp mb n o (some h),blk c [Y a] 33,blk b [I at_] 3])\/(CE (at_+(k:Int)) L/\∃(t3:TS) (r:Nat),UnF n o t3 r Q (at_+(k:Int)) L/\v=.tuple #[.agg #[I e.id,I e.st,I e.sz,I e.q,I (r:Int),I (e.mp-1)],I 0]/\G=[voA a pp nx [] vs,trA Tb pp mb n o (some (t3,AZ r++Q)),blk c [Y a] 33,blk b [I at_] 3])):=by
 intro z R w H;replace H:=H.l4;obtain ⟨j,s,H⟩:=H.vo;replace H:=H.l6;have i:1<=e.sz/\e.sz<=1048576:=d.sz;refine Ae func43 Z ntmps43 Z (Za 2 [] H Z ?_);intro y w H;refine Za 0 [] H Z ?_;intro b2 w H;refine Zc 4 Z ?_;replace H:=H.f7.f2.f3.f7;refine AQ (Sep z (blk c [Y a] 33::blk a [Y pp,I nx,j,s] 85::blk y [I e.id,I e.st,I e.sz,I e.q,I e.r,I e.mp] 77::blk b [I at_] 3::R)) 13 Z J (A4 H λw f=>?_);have H:=f.l8;refine HJ [0,1,2,3,4,5,6,7] [0,0,0,1,0,2,6,3,0] [at_+(k:Int)] (by exact H.pick 8 [0,1,2,3] Z) Z J U Z (AE [8] J O (Am (Bt Z Z Z Z Z Z (λw=>call44 _ w) (WI e L Q nx u d g l t) H.f7 Z ?_)));rintro _ w _ (⟨hq,rfl,rfl⟩|⟨hq,h,rfl,rfl⟩|⟨hq,t3,r,x,rfl,rfl⟩) f
 ·have H:=f.l8;refine Ax (H.pick 8 [1,2,3,4] Z) (AT [9,10] [] [] (by exact H.pick 8 [1,2,3,4] Z) Z J Z (AE [11] J O (Am (Bj Z Z Z (Al 5 H Z Z Z Z (vs:=[I e.id,I e.st,I e.sz,I e.q,I e.r,I e.mp]) Z (by simp[u8,u32,Value.oneCell']) J O (out:=[I e.id,I e.st,I e.sz,I e.q,I e.r,I e.mp]) Z) ?_))));rintro w H;replace H:=H.l8;refine Ax (H.pick 8 [1,2,3,4] Z) (AT [12] [] [] (by exact H.pick 8 [1,2,3,4] Z) Z J Z (a_done J (gn (Zc 2 Z (Zl [5,6] H Z ?_)))));exact ⟨_,.inl ⟨hq,Z,Z⟩,(H.pick 8 [2,6,7,0,1,4] Z).toVo⟩
 ·have H:=f.l8;refine Ax (H.pick 8 [1,2,3,4] Z) (AT [9,10] [] [] (by exact H.pick 8 [1,2,3,4] Z) Z J Z (AE [11] J O (Am (Bj Z Z Z (Al 5 H Z Z Z Z (vs:=[I 0,I 0,I 0,I 0,I 0,I 0]) Z (by simp[u8,u32,Value.oneCell']) J O (out:=[I 0,I 0,I 0,I 0,I 0,I 0]) Z) ?_))));rintro w H;replace H:=H.l8;refine Ax (H.pick 8 [1,2,3,4] Z) (AT [12] [] [] (by exact H.pick 8 [1,2,3,4] Z) Z J Z (a_done J (gn (Zc 2 Z (Zl [5,6] H Z ?_)))));exact ⟨_,.inr (.inl ⟨hq,h,Z,Z⟩),(H.pick 8 [2,6,7,0,1,4] Z).toVo⟩
 have H:=f.l8;refine Ax (H.pick 8 [1,2,3,4] Z) (AT [9,10] [] [] (by exact H.pick 8 [1,2,3,4] Z) Z J Z (AE [11] J O (Am (Bj Z Z Z (Al 5 H Z Z Z Z (vs:=[I e.id,I e.st,I e.sz,I e.q,I (r:Int),I (e.mp-1)]) Z (by simp[u8,u32,Value.oneCell']) J O (out:=[I e.id,I e.st,I e.sz,I e.q,I (r:Int),I (e.mp-1)]) Z) ?_))));rintro w H;replace H:=H.l8;refine Ax (H.pick 8 [1,2,3,4] Z) (AT [12] [] [] (by exact H.pick 8 [1,2,3,4] Z) Z J Z (a_done J (gn (Zc 2 Z (Zl [5,6] H Z ?_)))));exact ⟨_,.inr (.inr ⟨hq,t3,r,x,Z,Z⟩),(H.pick 8 [2,6,7,0,1,4] Z).toVo⟩
end
section
variable{Tb:Ai}
def KV(N N2:Hm)(Q:List Nat):Prop:=∀c∈Q,∀M,Root N c M->Root N2 c M/\A5 N2 M=A5 N M
theorem KV.refl(N:Hm)(Q:List Nat):KV N N Q:=λ_ _ _ h=>⟨h,Z⟩
theorem KV.trans{N N2 d:Hm}{Q:List Nat}(a:KV N N2 Q)(b:KV N2 d Q):KV N d Q:=λc e M h=>by
 obtain ⟨f,g⟩:=a c e M h;obtain ⟨i,j⟩:=b c e M f;exact ⟨i,j.trans g⟩
theorem KV.of{N N2:Hm}{Q:List Nat}(a:Kp N N2 Q)(b:Dt N N2):KV N N2 Q:=λc d M h=>⟨a c d M h,b.vol h (a c d M h)⟩
theorem KV.kp{N N2:Hm}{Q:List Nat}(a:KV N N2 Q):Kp N N2 Q:=λc b M h=>(a c b M h).1
theorem PlOk.fit{N:Hm}{nx:Int}{p:Pl}(h:PlOk N nx p)(a:nx<=1073741824)(e:p.2.length<=1048576):p.1.Fit:=by
 obtain ⟨i,f,g,c,b,_,_,d,_⟩:=h;exact ⟨by omega,by omega,by omega,by omega,by omega,by omega⟩
structure EaJ(n:Nat)(o:TB)(nx:Int)(e:Vl)(Q:List Nat)(k:Nat)(o2:TB)(e2:Vl)(L2:List E):Prop where
 lw:LwI n o2 e2.r.toNat L2 Q
 ok:PlOk o2.N nx (e2,L2)
 len:L2.length<=1024
 kv:KV o.N o2.N Q
 fld:e2.id=e.id/\e2.st=e.st/\e2.sz=e.sz/\e2.q=e.q
 fr:cnt (AX n o.C) 0 1024<=cnt (AX n o2.C) 0 1024+12*k
variable{n:Nat}{o o2:TB}{nx:Int}{e e2:Vl}{Q:List Nat}{k:Nat}{L L2:List E}
theorem EaJ.zero(h:LwI n o e.r.toNat L Q)(a:PlOk o.N nx (e,L))(b:L.length<=1024):EaJ n o nx e Q 0 o e L:=⟨h,a,b,KV.refl _ _,⟨Z,Z,Z,Z⟩,by omega⟩
theorem EaJ.pos(h:EaJ n o nx e Q k o2 e2 L2)(K:TrK n o2 none):∀x∈L2,1<=x.2:=λx a=>(G3 K.i U (show ∀e∈L2,∃b,Dl o2 none e.2=some (.dt b) from h.ok.root.data) x a).1
theorem EaJ.wr(h:EaJ n o nx e Q k o2 e2 L2)(K:TrK n o2 none){t3:TS}{val:Nat}{bs:List UInt8}(w:WrF n o2 t3 e2.r.toNat r Q t val bs L2)(d:0<=t/\t<e2.sz)(i:r<=1023)(c:(putE t val L2).length<=1024):
  EaJ n o nx e Q (k+1) ⟨t3.N,t3.C,AZ r++Q⟩ {e2 with r:=(r:Int),mp:=if getE t L2=0 then e2.mp+1 else e2.mp} (putE t val L2):=by
 have hs:=h.ok.root.srt.1;have a:=h.ok.mp;have hp:=PH hs (h.pos K) t val;refine ⟨h.lw.done w.root w.nd Z,⟨h.ok.id,h.ok.st,h.ok.sz,h.ok.q,⟨by show (0:Int)<=(r:Int);omega,by show (r:Int)<=1023;omega⟩,w.root,w.nd,?_,λx b=>?_⟩,c,h.kv.trans (KV.of w.kp w.dt),h.fld,?_⟩
 ·show (if getE t L2=0 then e2.mp+1 else e2.mp)=_
  dsimp only at a ⊢;rw[hp,a]
 ·rcases (putE_mem hs x).1 b with q|q
  ·rw[q];exact d.2
  exact h.ok.key x q.1
 have:=h.fr;have:=w.f;have:=w.g;dsimp only;omega
theorem EaJ.un(h:EaJ n o nx e Q k o2 e2 L2){t3:TS}(w:UnF n o2 t3 r Q t L2)(b:CE t L2)(d:r<=1023):
  EaJ n o nx e Q (k+1) ⟨t3.N,t3.C,AZ r++Q⟩ {e2 with r:=(r:Int),mp:=e2.mp-1} (BW t L2):=by
 have hs:=h.ok.root.srt.1;have a:=h.ok.mp;have hp:=PI hs b;refine ⟨h.lw.done w.root w.nd Z,⟨h.ok.id,h.ok.st,h.ok.sz,h.ok.q,⟨by show (0:Int)<=(r:Int);omega,by show (r:Int)<=1023;omega⟩,w.root,w.nd,?_,λx c=>h.ok.key x (Afd.1 c).1⟩,Agu (AfV _ _) h.len,h.kv.trans (KV.of w.kp w.dt),h.fld,?_⟩
 ·show e2.mp-1=_
  dsimp only at a ⊢;rw[<-hp,a]
 have:=h.fr;have:=w.f;have:=w.g;dsimp only;omega
theorem EaJ.no(h:EaJ n o nx e Q k o2 e2 L2):EaJ n o nx e Q (k+1) o2 e2 L2:=⟨h.lw,h.ok,h.len,h.kv,h.fld,by have:=h.fr;omega⟩
def DN(bs:List UInt8)(k:Nat):List UInt8:=(bs.drop (k*64)).take 64
def EB(at_ q:Int)(k:Nat)(V:List Bk):Prop:=¬G4 (at_+(k:Int)) V/\q<=(V.length:Int)
def WTr(at_ q:Int)(bs:List UInt8)(V0:List Bk)(k:Nat)(V:List Bk):Prop:=∃vf:Nat->List Bk,vf 0=V0/\vf k=V/\∀j,j<k->¬EB at_ q j (vf j)/\∀V2,PutAt (at_+(j:Int)) (DN bs j) (vf j) V2->V2=vf (j+1)
theorem WTr.zero(at_ q:Int)(bs:List UInt8)(V:List Bk):WTr at_ q bs V 0 V:=⟨λ_=>V,Z,Z,λj h=>by omega⟩
theorem WTr.step{bs:List UInt8}{e V d:List Bk}(h:WTr t q bs e k V)(f:¬EB t q k V)(g:∀V2,PutAt (t+(k:Int)) (DN bs k) V V2->V2=d):WTr t q bs e (k+1) d:=by
 obtain ⟨vf,a,b,c⟩:=h;refine ⟨fup vf (k+1) d,by rw[fup_ne _ _ U];exact a,BN _ _ _,λj i=>?_⟩;rcases Aes j k with q|q
 ·rw[fup_ne _ _ U,fup_ne _ _ U];exact c j q
 obtain rfl:j=k:=by omega
 rw[fup_ne _ _ U,BN,b];exact ⟨f,g⟩
def C9(at_:Int):Nat->List Bk->List Bk
 | 0,V=>V
 | k+1,V=>BA (at_+(k:Int)) (C9 at_ k V)
theorem EaJ.quo(h:EaJ n o nx e Q k o2 e2 L2)(K:TrK n o2 none)(at_:Int):(getE (at_+(k:Int)) L2=0/\e2.q<=e2.mp)↔EB at_ e.q k (A5 o2.N L2):=by
 have c:=h.ok.mp;dsimp only at c;unfold EB;rw[Wt (h.pos K),Kr,h.fld.2.2.2,c];constructor
 ·rintro ⟨a,b⟩;exact ⟨λq=>q a,b⟩
 rintro ⟨a,b⟩;exact ⟨Aff a,b⟩
def JW(n:Nat)(o:TB)(nx:Int)(e:Vl)(Q:List Nat)(at_:Int)(bs:List UInt8)(V0:List Bk)(k:Nat)(o2:TB)(e2:Vl)(L2:List E):Prop:=EaJ n o nx e Q k o2 e2 L2/\WTr at_ e.q bs V0 k (A5 o2.N L2)
def JU(n:Nat)(o:TB)(nx:Int)(e:Vl)(Q:List Nat)(at_:Int)(V0:List Bk)(k:Nat)(o2:TB)(e2:Vl)(L2:List E):Prop:=EaJ n o nx e Q k o2 e2 L2/\A5 o2.N L2=C9 at_ k V0
def ErW(n:Nat)(e:Vl)(at_:Int)(k:Nat)(o2:TB)(L2:List E)(er:Int):Prop:=(er=30/\EB at_ e.q k (A5 o2.N L2))\/(er=20/\¬EB at_ e.q k (A5 o2.N L2)/\cnt (AX n o2.C) 0 1024<=11)
end
section
variable{Tb:Ai}
variable{Tb:Ai}
theorem Acu(f pp n:Nat)(nx:Int)(vs:List Vl)(o:TB)(e:Vl)(i:Nat)(Q:List Nat)(a0:nx<=1073741824)(at_:Int)(bs:List UInt8)(V0:List Bk)(j g x d:Nat)(a1:bs.length<=1073741824)(a4:p*64<=bs.length)(a7:0<=at_/\at_<=e.sz-p):
  ∀(k:Nat) (o2:TB) (e2:Vl) (L2:List E) (y:Nat),(k:Int)<p->JW n o nx e Q at_ bs V0 k o2 e2 L2->Aj 41 (.agg #[I e2.id,I e2.st,I e2.sz,I e2.q,I e2.r,I e2.mp]::I (k:Int)::[Y j,Y g,Y x]) [voA f pp nx [] (vs.set i e2),trA Tb pp y n o2 (some (⟨o2.N,o2.C,AX n o2.C,0⟩,o2.R)),seps [blk j [Y f] 33,blk g [I at_] 3,blk x [.slice (some ⟨d,0,none⟩) bs.length bs.length] 46,blk d (bs.map u8) 5]] (λv G=>(∃(er:Int) (s:TS×List Nat),(er≠0/\ErW n e at_ k o2 L2 er)/\v=.tuple #[.agg #[I 0,I 0,I 0,I 0,I 0,I 0],I er]/\G=[voA f pp nx [] (vs.set i e2),trA Tb pp y n o2 (some s),seps [blk j [Y f] 33,blk g [I at_] 3,blk x [.slice (some ⟨d,0,none⟩) bs.length bs.length] 46,blk d (bs.map u8) 5]])\/(∃(c:Vl) (t:TS) (R3:List Nat),((∃L3,JW n o nx e Q at_ bs V0 (k+1) ⟨t.N,t.C,R3⟩ c L3)/\c.Fit/\t.k+1+manyN n<=40)/\v=.tuple #[.agg #[I c.id,I c.st,I c.sz,I c.q,I c.r,I c.mp],I 0]/\G=[voA f pp nx [] (vs.set i e2),trA Tb pp y n o2 (some (t,R3)),seps [blk j [Y f] 33,blk g [I at_] 3,blk x [.slice (some ⟨d,0,none⟩) bs.length bs.length] 46,blk d (bs.map u8) 5]])):=by
 intro k o2 e2 L2 y hk hJ z R w H;obtain ⟨b,hT⟩:=hJ;have K0:=H.says 1 Z (λh a=>trA.k0 a);have hz:=b.fld.2.2.1;have H3:=(H.pick 3 [2,0,1] Z).opened;have l:0<=at_+(k:Int)/\at_+(k:Int)<e2.sz:=⟨by omega,by rw[hz];omega⟩;refine Ret.mono (Cn.at (Ub f pp y n nx (vs.set i e2) o2 e2 L2 Q at_ k b.lw b.ok a0 b.len l j g x d bs U a1) H3 6 [4,5,0,1,2,3] Z Z) ?_;rintro v w' ⟨Γ',(⟨hq,rfl,rfl⟩|⟨⟨hq,hf⟩,s3,rfl,rfl⟩|⟨hq,t3,r,val,u,rfl,rfl⟩),H'⟩
 ·exact ⟨_,.inl ⟨30,_,⟨by omega,.inl ⟨Z,(b.quo K0 at_).1 hq⟩⟩,Z,Z⟩,((H'.pick 6 [2,3,4,5,0,1] Z).made 4 (λh q=>q)).pick 3 [1,2,0] Z⟩
 ·exact ⟨_,.inl ⟨20,_,⟨by omega,.inr ⟨Z,λq=>hq ((b.quo K0 at_).2 q),hf⟩⟩,Z,Z⟩,((H'.pick 6 [2,3,4,5,0,1] Z).made 4 (λh q=>q)).pick 3 [1,2,0] Z⟩
 have K3:=H'.says 1 Z (λh a=>trA.k a);have a2:r<=1023:=by
  by_cases h0:r=0
  ·omega
  have:=(K3.i.rin r (by show r∈AZ r++Q;rw[DS h0];simp)).2;have:=K3.hn;omega
 have a3:(putE (at_+(k:Int)) val L2).length<=1024:=by
  have:=JK K3.i U u.root.data u.nd;have:=K3.hn;omega
 have m:=b.wr K0 u l a2 a3;have a6:=u.k;have a5:manyN n<=6:=by have:=b.lw.n;unfold manyN;omega
 exact ⟨_,.inr ⟨_,t3,AZ r++Q,⟨⟨_,m,hT.step (λq=>hq ((b.quo K0 at_).2 q)) (λV2 hp=>u.vol V2 hp)⟩,m.ok.fit a0 (by show (putE (at_+(k:Int)) val L2).length<=1048576;omega),by omega⟩,Z,Z⟩,((H'.pick 6 [2,3,4,5,0,1] Z).made 4 (λh q=>q)).pick 3 [1,2,0] Z⟩
theorem Acv(f pp n:Nat)(nx:Int)(vs:List Vl)(o:TB)(e:Vl)(i:Nat)(Q:List Nat)(g:nx<=1073741824)(at_:Int)(y:List Bk)(l j:Nat)(a4:0<=at_/\at_<=e.sz-p):
  ∀(k:Nat) (o2:TB) (e2:Vl) (L2:List E) (m:Nat),(k:Int)<p->JU n o nx e Q at_ y k o2 e2 L2->Aj 43 (.agg #[I e2.id,I e2.st,I e2.sz,I e2.q,I e2.r,I e2.mp]::I (k:Int)::[Y l,Y j]) [voA f pp nx [] (vs.set i e2),trA Tb pp m n o2 (some (⟨o2.N,o2.C,AX n o2.C,0⟩,o2.R)),seps [blk l [Y f] 33,blk j [I at_] 3]] (λv G=>(∃(er:Int) (s:TS×List Nat),(er≠0/\er=20/\cnt (AX n o2.C) 0 1024<=12)/\v=.tuple #[.agg #[I 0,I 0,I 0,I 0,I 0,I 0],I er]/\G=[voA f pp nx [] (vs.set i e2),trA Tb pp m n o2 (some s),seps [blk l [Y f] 33,blk j [I at_] 3]])\/(∃(c:Vl) (t:TS) (R3:List Nat),((∃L3,JU n o nx e Q at_ y (k+1) ⟨t.N,t.C,R3⟩ c L3)/\c.Fit/\t.k+1+manyN n<=40)/\v=.tuple #[.agg #[I c.id,I c.st,I c.sz,I c.q,I c.r,I c.mp],I 0]/\G=[voA f pp nx [] (vs.set i e2),trA Tb pp m n o2 (some (t,R3)),seps [blk l [Y f] 33,blk j [I at_] 3]])):=by
 intro k o2 e2 L2 m hk hJ z R w H;obtain ⟨b,hT⟩:=hJ;have hz:=b.fld.2.2.1;have H3:=(H.pick 3 [2,0,1] Z).opened;have a1:0<=at_+(k:Int)/\at_+(k:Int)<e2.sz:=⟨by omega,by rw[hz];omega⟩;have a2:manyN n<=6:=by have:=b.lw.n;unfold manyN;omega
 refine Ret.mono (Cn.at (Uc f pp m n nx (vs.set i e2) o2 e2 L2 Q at_ k b.lw b.ok g b.len a1 l j) H3 4 [2,3,0,1] Z Z) ?_;rintro v w' ⟨Γ',(⟨hq,rfl,rfl⟩|⟨hf,s3,rfl,rfl⟩|⟨hq,t3,r,hU,rfl,rfl⟩),u⟩
 ·refine ⟨_,.inr ⟨e2,_,_,⟨⟨L2,b.no,?_⟩,b.ok.fit g (by have:=b.len;show L2.length<=1048576;omega),by show 0+1+manyN n<=40;omega⟩,Z,Z⟩,((u.pick 4 [2,3,0,1] Z).made 2 (λh q=>q)).pick 3 [1,2,0] Z⟩
  show A5 o2.N L2=BA (at_+(k:Int)) (C9 at_ k y);rw[<-hT,volB_del,GB (λx hx q=>hq ⟨x.2,by rw[<-q];exact hx⟩)]
 ·exact ⟨_,.inl ⟨20,_,⟨by omega,Z,hf⟩,Z,Z⟩,((u.pick 4 [2,3,0,1] Z).made 2 (λh q=>q)).pick 3 [1,2,0] Z⟩
 have K3:=u.says 1 Z (λh a=>trA.k a);have a0:r<=1023:=by
  by_cases h0:r=0
  ·omega
  have:=(K3.i.rin r (by show r∈AZ r++Q;rw[DS h0];simp)).2;have:=K3.hn;omega
 have d:=b.un hU hq a0;have a3:=hU.k;refine ⟨_,.inr ⟨_,t3,AZ r++Q,⟨⟨_,d,?_⟩,d.ok.fit g (by have:=d.len;show (BW (at_+(k:Int)) L2).length<=1048576;omega),by omega⟩,Z,Z⟩,((u.pick 4 [2,3,0,1] Z).made 2 (λh q=>q)).pick 3 [1,2,0] Z⟩;show A5 t3.N (BW (at_+(k:Int)) L2)=BA (at_+(k:Int)) (C9 at_ k y);rw[hU.vol b.ok.root,hT]
end
section
variable{Tb:Ai}
set_option maxHeartbeats 4000000 in
theorem Pe (P:List Pl) {vs:List Vl} (hP:vs=P.map Prod.fst) {o:TB} (y:VInv n o t P) (a4:g+16<=1000000000) (id at_:Int) (a0: -9223372036854775808<=at_/\at_<=9223372036854775807) (c:Nat) (bs:List UInt8) (a3:bs.length<=1073741824) (sy:Bool):Aj 10 [Y m,I id,I at_,.slice (some ⟨c,0,none⟩) bs.length bs.length,.bool sy] [voA m j t ([]) vs,trA Tb j g n o none,blk c (bs.map u8) 5] (λv G=>((∀e∈vs,¬(e.st=1/\e.id=id))/\v=.tuple #[I 0,I 31]/\G=[voA m j t [] vs,trA Tb j g n o none,blk c (bs.map u8) 5])\/(∃(i:Nat) (e:Vl) (L:List E),(P[i]?=some (e,L)/\e.st=1/\e.id=id)/\((Br e.sz (decide (((bs.length%64:Nat):Int)=0)) at_ ((bs.length/64:Nat):Int)≠0/\v=.tuple #[I 0,I (Br e.sz (decide (((bs.length%64:Nat):Int)=0)) at_ ((bs.length/64:Nat):Int))]/\G=[voA m j t [] vs,trA Tb j g n o none,blk c (bs.map u8) 5])\/(Br e.sz (decide (((bs.length%64:Nat):Int)=0)) at_ ((bs.length/64:Nat):Int)=0/\∃(k:Nat) (o2:TB) (e2:Vl) (L2:List E) (m2:Nat) (er:Int),(JW n ⟨o.N,o.C,AZ e.r.toNat++C8 (P.eraseIdx i)⟩ t e (C8 (P.eraseIdx i)) at_ bs (A5 o.N L) k o2 e2 L2/\((er=0/\(k:Int)=((bs.length/64:Nat):Int))\/((k:Int)<((bs.length/64:Nat):Int)/\ErW n e at_ k o2 L2 er))/\m2<=g+16)/\v=.tuple #[I (k:Int),I er]/\G=[voA m j t [] (vs.set i e2),trA Tb j m2 n o2 none,blk c (bs.map u8) 5])))):=by
 intro z R w H;have K:=H.says 1 Z (λh a=>trA.k a);have hn:=K.hn;have hv:vs.length=8:=by rw[hP,Aeh];exact y.len
 have hf:∀e∈vs,e.Fit:=by rw[hP];exact y.fit K
 have b5:=y.n;have x:=y.nb
 refine Ae func10 Z ntmps10 Z (Za 2 [] H Z ?_);intro b1 w H;refine Za 0 [] H Z ?_;intro b2 w H;refine Za 0 [] H Z ?_;intro b3 w H;refine Z3 22 [0,0,2,0,1,0,0,0,0] [((bs.length/64:Nat):Int),((bs.length%64:Nat):Int)] H Z U (Ar Z (call39 _) (Pa hv (λe he=>(by have:=(hf e he).sz;omega)) a0 ⟨by omega,by omega⟩) H.f3 ?_);rintro _ w _ (⟨a6,rfl,rfl⟩|⟨i,e,⟨he,l,s⟩,rfl,rfl⟩) d
 ·have H:=d.l6;refine Z0 23 [3] Z (Zr Z ?_);exact ⟨_,.inl ⟨a6,Z,Z⟩,H.pick 6 [0,4,5] Z⟩
 have H:=d.l6;refine Z0 14 [0] Z (Af Z (λh1=>?_) (λh1=>?_))
 ·refine Zc 8 Z (Zr Z ?_);obtain ⟨L,b⟩:=Ho hP he;exact ⟨_,.inr ⟨i,e,L,⟨b,l,s⟩,.inl ⟨by assumption,Z,Z⟩⟩,H.pick 6 [0,4,5] Z⟩
 refine Zc 3 Z ?_;have hE:Br e.sz (decide (((bs.length%64:Nat):Int)=0)) at_ ((bs.length/64:Nat):Int)=0:=Aff λq=>by contradiction
 refine AB 13 (v:=I (i:Int)) Z (congrArg I (if_pos hE)) ?_;have a5:=FZ hE;obtain ⟨L,b⟩:=Ho hP he;have p:=y.ok b l;have a9:1<=e.sz/\e.sz<=1048576:=p.sz;have a7:=(Aed.1 he).1;have a2:L.length<=1024:=R8 K (T:=none) p;have a8:vs.set i e=vs:=by obtain ⟨hl,rfl⟩:=Aed.1 he;exact Ago hl
 refine Z2 4 [3,0] H Z (Ab Z (C5 Z Z Z) ?_);have d:=(((H.mono 0 (B:=voA m j t [] (vs.set i e)) Z (λh a=>by rw[a8];exact a)).mono 4 (B:=trA Tb j g n ⟨o.N,o.C,AZ e.r.toNat++C8 (P.eraseIdx i)⟩ none) Z (λh a=>a.perm0 (y.r.trans (Je b)))).pick 6 [3,2,1,5,0,4] Z).made 4 (A:=seps [blk b1 [Y m] 33,blk b2 [I at_] 3,blk b3 [.slice (some ⟨c,0,none⟩) bs.length bs.length] 46,blk c (bs.map u8) 5]) (λh q=>q);clear H;have H:Sep z (seps [blk b1 [Y m] 33,blk b2 [I at_] 3,blk b3 [.slice (some ⟨c,0,none⟩) bs.length bs.length] 46,blk c (bs.map u8) 5]::voA m j t ([]) (vs.set i e)::trA Tb j g n ⟨o.N,o.C,AZ e.r.toNat++C8 (P.eraseIdx i)⟩ none::R) w:=d;clear d;refine Ar Z (call40 _) (Q0 m j g n t vs ⟨o.N,o.C,AZ e.r.toNat++C8 (P.eraseIdx i)⟩ e L i a7 hv ⟨by omega,x.2⟩ ((bs.length/64:Nat):Int) U a4 (seps [blk b1 [Y m] 33,blk b2 [I at_] 3,blk b3 [.slice (some ⟨c,0,none⟩) bs.length bs.length] 46,blk c (bs.map u8) 5]) 41 (λa w=>call41 a w) (JW n ⟨o.N,o.C,AZ e.r.toNat++C8 (P.eraseIdx i)⟩ t e (C8 (P.eraseIdx i)) at_ bs (A5 o.N L)) (λk o2 e2 L2 er=>ErW n e at_ k o2 L2 er) ⟨EaJ.zero (y.lw b p) p a2,WTr.zero _ _ _ _⟩ (λk o2 e2 L2 u=>GD hf (u.1.ok.fit x.2 (by have:=u.1.len;show L2.length<=1048576;omega))) (Acu m j n t vs ⟨o.N,o.C,AZ e.r.toNat++C8 (P.eraseIdx i)⟩ e i (C8 (P.eraseIdx i)) x.2 at_ bs (A5 o.N L) b1 b2 b3 c a3 U U)) H.f2.f2 ?_;rintro _ w _ (⟨k,o2,e2,L2,er,⟨f,u,b0,a1⟩,rfl,rfl⟩|⟨k,o2,e2,L2,⟨f,u⟩,rfl,rfl⟩) d
 ·have H:=d.l3;have d:=(H.pick 3 [2,0,1] Z).opened
  clear H;have H:Sep z (blk b1 [Y m] 33::blk b2 [I at_] 3::blk b3 [.slice (some ⟨c,0,none⟩) bs.length bs.length] 46::blk c (bs.map u8) 5::voA m j t ([]) (vs.set i e2)::trA Tb j (g+2*k) n o2 none::R) w:=d;clear d;refine Z0 13 [0] Z (An 44 Z (λh2=>U) (λh2=>?_));refine Zc 16 Z (Zr Z ?_);exact ⟨_,.inr ⟨i,e,L,⟨b,l,s⟩,.inr ⟨hE,k,o2,e2,L2,_,er,⟨u,.inr ⟨f,a1⟩,by omega⟩,Z,Z⟩⟩,H.pick 6 [4,5,3] Z⟩
 have H:=d.l3;have d:=(H.pick 3 [2,0,1] Z).opened;clear H;have H:Sep z (blk b1 [Y m] 33::blk b2 [I at_] 3::blk b3 [.slice (some ⟨c,0,none⟩) bs.length bs.length] 46::blk c (bs.map u8) 5::voA m j t ([]) (vs.set i e2)::trA Tb j (g+2*k) n o2 none::R) w:=d;clear d;refine Z0 17 [3] Z (Es Z (λh3=>?_) (λh3=>?_))
 ·refine Z2 2 [0,0] H Z (z_E_ Z (call35 _) (Ic) H.f5.f5 ?_);intro w H;refine Zc 12 Z (Zr Z ?_);exact ⟨_,.inr ⟨i,e,L,⟨b,l,s⟩,.inr ⟨hE,k,o2,e2,L2,_,0,⟨u,.inl ⟨Z,f⟩,by omega⟩,by rw[<-f],Z⟩⟩,H.pick 6 [0,1,5] Z⟩
 refine Zc 11 Z (Zr Z ?_);exact ⟨_,.inr ⟨i,e,L,⟨b,l,s⟩,.inr ⟨hE,k,o2,e2,L2,_,0,⟨u,.inl ⟨Z,f⟩,by omega⟩,by rw[<-f],Z⟩⟩,H.pick 6 [4,5,3] Z⟩
set_option maxHeartbeats 4000000 in
theorem Pf (P:List Pl) {vs:List Vl} (hP:vs=P.map Prod.fst) {o:TB} (x:VInv n o t P) (a4:g+16<=1000000000) (id at_ b:Int) (a0: -9223372036854775808<=at_/\at_<=9223372036854775807) (a3: -9223372036854775808<=b/\b<=9223372036854775807):Aj 12 [Y m,I id,I at_,I b] [voA m j t ([]) vs,trA Tb j g n o none] (λv G=>((∀e∈vs,¬(e.st=1/\e.id=id))/\v=.tuple #[I 0,I 31]/\G=[voA m j t [] vs,trA Tb j g n o none])\/(∃(i:Nat) (e:Vl) (L:List E),(P[i]?=some (e,L)/\e.st=1/\e.id=id)/\((Br e.sz true at_ b≠0/\v=.tuple #[I 0,I (Br e.sz true at_ b)]/\G=[voA m j t [] vs,trA Tb j g n o none])\/(Br e.sz true at_ b=0/\∃(k:Nat) (o2:TB) (e2:Vl) (L2:List E) (m2:Nat) (er:Int),(JU n ⟨o.N,o.C,AZ e.r.toNat++C8 (P.eraseIdx i)⟩ t e (C8 (P.eraseIdx i)) at_ (A5 o.N L) k o2 e2 L2/\((er=0/\(k:Int)=b)\/((k:Int)<b/\er=20/\cnt (AX n o2.C) 0 1024<=12))/\m2<=g+16)/\v=.tuple #[I (k:Int),I er]/\G=[voA m j t [] (vs.set i e2),trA Tb j m2 n o2 none])))):=by
 intro z R w H;have K:=H.says 1 Z (λh a=>trA.k a);have hn:=K.hn;have hv:vs.length=8:=by rw[hP,Aeh];exact x.len
 have hf:∀e∈vs,e.Fit:=by rw[hP];exact x.fit K
 have b4:=x.n;have u:=x.nb
 refine Ae func12 Z ntmps12 Z (Za 2 [] H Z ?_);intro b1 w H;refine Za 0 [] H Z ?_;intro b2 w H;refine Z2 10 [1,0,0,0] H Z (Ar Z (call39 _) (Pa hv (λe y=>(by have:=(hf e y).sz;omega)) a0 a3) H.f2 ?_);rintro _ w _ (⟨a6,rfl,rfl⟩|⟨i,e,⟨y,f,s⟩,rfl,rfl⟩) d
 ·have H:=d.l4;refine Z0 23 [3] Z (Zr Z ?_);exact ⟨_,.inl ⟨a6,Z,Z⟩,H.pick 4 [0,3] Z⟩
 have H:=d.l4;refine Z0 14 [0] Z (Af Z (λh1=>?_) (λh1=>?_))
 ·refine Zc 8 Z (Zr Z ?_);obtain ⟨L,c⟩:=Ho hP y;exact ⟨_,.inr ⟨i,e,L,⟨c,f,s⟩,.inl ⟨by assumption,Z,Z⟩⟩,H.pick 4 [0,3] Z⟩
 refine Zc 3 Z ?_;have hE:Br e.sz true at_ b=0:=Aff λq=>by contradiction
 refine AB 10 (v:=I (i:Int)) Z (congrArg I (if_pos hE)) ?_;have a5:=FZ hE;obtain ⟨L,c⟩:=Ho hP y;have p:=x.ok c f;have a9:1<=e.sz/\e.sz<=1048576:=p.sz;have a7:=(Aed.1 y).1;have a2:L.length<=1024:=R8 K (T:=none) p;have a8:vs.set i e=vs:=by obtain ⟨hl,rfl⟩:=Aed.1 y;exact Ago hl
 refine Z2 4 [2,0] H Z (Ab Z (C5 Z Z Z) ?_);have d:=(((H.mono 0 (B:=voA m j t [] (vs.set i e)) Z (λh a=>by rw[a8];exact a)).mono 3 (B:=trA Tb j g n ⟨o.N,o.C,AZ e.r.toNat++C8 (P.eraseIdx i)⟩ none) Z (λh a=>a.perm0 (x.r.trans (Je c)))).pick 4 [2,1,0,3] Z).made 2 (A:=seps [blk b1 [Y m] 33,blk b2 [I at_] 3]) (λh q=>q);clear H;have H:Sep z (seps [blk b1 [Y m] 33,blk b2 [I at_] 3]::voA m j t ([]) (vs.set i e)::trA Tb j g n ⟨o.N,o.C,AZ e.r.toNat++C8 (P.eraseIdx i)⟩ none::R) w:=d;clear d;refine Ar Z (call40 _) (Q0 m j g n t vs ⟨o.N,o.C,AZ e.r.toNat++C8 (P.eraseIdx i)⟩ e L i a7 hv ⟨by omega,u.2⟩ b U a4 (seps [blk b1 [Y m] 33,blk b2 [I at_] 3]) 43 (λa w=>call43 a w) (JU n ⟨o.N,o.C,AZ e.r.toNat++C8 (P.eraseIdx i)⟩ t e (C8 (P.eraseIdx i)) at_ (A5 o.N L)) (λk o2 e2 L2 er=>er=20/\cnt (AX n o2.C) 0 1024<=12) ⟨EaJ.zero (x.lw c p) p a2,Z⟩ (λk o2 e2 L2 hJ=>GD hf (hJ.1.ok.fit u.2 (by have:=hJ.1.len;show L2.length<=1048576;omega))) (Acv m j n t vs ⟨o.N,o.C,AZ e.r.toNat++C8 (P.eraseIdx i)⟩ e i (C8 (P.eraseIdx i)) u.2 at_ (A5 o.N L) b1 b2 U)) H.f2.f2 ?_;rintro _ w _ (⟨k,o2,e2,L2,er,⟨l,hJ,b0,a1⟩,rfl,rfl⟩|⟨k,o2,e2,L2,⟨l,hJ⟩,rfl,rfl⟩) d
 ·have H:=d.l3;have d:=(H.pick 3 [2,0,1] Z).opened
  clear H;have H:Sep z (blk b1 [Y m] 33::blk b2 [I at_] 3::voA m j t ([]) (vs.set i e2)::trA Tb j (g+2*k) n o2 none::R) w:=d;clear d;refine Zc 7 Z (Zr Z ?_);exact ⟨_,.inr ⟨i,e,L,⟨c,f,s⟩,.inr ⟨hE,k,o2,e2,L2,_,er,⟨hJ,.inr ⟨l,a1⟩,by omega⟩,Z,Z⟩⟩,H.pick 4 [2,3] Z⟩
 have H:=d.l3;have d:=(H.pick 3 [2,0,1] Z).opened;clear H;have H:Sep z (blk b1 [Y m] 33::blk b2 [I at_] 3::voA m j t ([]) (vs.set i e2)::trA Tb j (g+2*k) n o2 none::R) w:=d;clear d;refine Zc 7 Z (Zr Z ?_);exact ⟨_,.inr ⟨i,e,L,⟨c,f,s⟩,.inr ⟨hE,k,o2,e2,L2,_,0,⟨hJ,.inl ⟨Z,l⟩,by omega⟩,by rw[<-l],Z⟩⟩,H.pick 4 [2,3] Z⟩
end
section
section late
variable{P:Program}{ops:Array Oper}{Q:Exit->Act->World->Prop}{S:World->Prop}{E:List Nat}
theorem ready_un{listed:Array Bool}(d:j∈Region.ready .any ops listed)(e:listed.size=ops.size):listed.getD j false=true->False:=λc=>by
 have b:=(mem_ready.1 d).1;obtain ⟨_,g,a,_⟩:=mem_ready.1 d;have h:=(Ae3.1 a).1;have f:j<listed.size:=by omega
 simp[f] at c b;rw[c] at b;cases b
theorem Ng{i:Nat}{oi:Oper}{v:Value}(hi:ops[i]?=some oi)(p:∀(j:Nat) (o:Oper) cs b,ops[j]?=some o->o.op≠ .select cs b)
  (hQ:∀c a w,Q (.panic c) (a.put oi.dst v) w->Q (.panic c) a w):
  ∀(fuel:Nat) (listed:Array Bool) (a:Act) (w:World),Dc ops listed->listed.size=ops.size->(∀j∈E,listed.getD j false=true\/EU ops m j i=true)->
   (∀j s,ops[j]?=some s->j≠i->listed.getD j true=false->(∀e∈s.after,Region.binds .any e=true->e.on≠i)->oi.apart ops s=true)->
   i∈Region.ready .any ops listed->YieldsIf P ops S oi v a->S w->
   EV P ops Q S E fuel (listed.setIfInBounds i true) (a.put oi.dst v) w->EV P ops Q S E (fuel+1) listed a w:=by
 intro fuel
 induction fuel with
 | zero=>
  intro listed a w hd d _ _ q hy u H;refine ⟨λh=>(by rw[h] at q;cases q),λj t=>?_⟩;by_cases hji:j=i
  ·subst hji;exact hy.wpOp hi u ⟨λ_=>u,H⟩
  have:=ready_mono t hji;rw[H.1] at this;cases this
 | succ fuel ih=>
  intro listed a w hd d hE f q hy u H;refine ⟨λh=>(by rw[h] at q;cases q),λj t=>?_⟩;by_cases hji:j=i
  ·subst hji;exact hy.wpOp hi u ⟨λ_=>u,H⟩
  have h1:=H.2 j (ready_mono t hji);have l:E.contains j=false:=by
   cases hc:E.contains j with
   | false=>rfl
   | true=>
    have hm:j∈E:=by simpa using hc
    rcases hE j hm with h|h
    ·exact (ready_un t d h).elim
    exact (ready_un q d (ready_waits hd d h t)).elim
  obtain ⟨n,s,r,a0⟩:=mem_ready.1 t;have y:∀e∈s.after,Region.binds .any e=true->e.on≠i:=λe he hb a1=>by
   have h1:=a0 e he hb;rw[a1] at h1;exact ready_un q d h1
  have h2:=wpOp_putIf r (f j s r hji n y) (λcs b=>p i oi cs b hi) (λcs b=>p j s cs b r) hQ hy h1;have g:∀k x,ops[k]?=some x->k≠i->(listed.setIfInBounds j true).getD k true=false->
    (∀e∈x.after,Region.binds .any e=true->e.on≠i)->oi.apart ops x=true:=λk x hk a4 z a2=>by
   refine f k x hk a4 ?_ a2;by_cases hjk:j=k
   ·subst hjk;exact n
   rw[getD_set_ne true hjk] at z;exact z
  have a3:∀k∈E,(listed.setIfInBounds j true).getD k false=true\/EU ops m k i=true:=λk hk=>by
   by_cases hjk:j=k
   ·subst hjk
    have hm:E.contains j=true:=by simpa using hk
    rw[hm] at l;cases l
   rw[getD_set_ne false hjk];exact hE k hk
  refine wpOp_mono (λa' w' h3=>⟨λ_=>h3.2.1 l,ih (listed.setIfInBounds j true) a' w' (hd.next t) (by simpa using d) a3 g (ready_mono q (AfU hji)) h3.1 (h3.2.1 l) ?_⟩) h2;rw[Agt _ _ hji];exact h3.2.2
theorem PJ{i:Nat}{oi:Oper}{v:Value}(hi:ops[i]?=some oi)(s:E.contains i=true)(l:∀(j:Nat) (o:Oper) cs b,ops[j]?=some o->o.op≠ .select cs b)
  (hQ:∀c a w,Q (.panic c) (a.put oi.dst v) w->Q (.panic c) a w):
  ∀(fuel:Nat) (listed:Array Bool) (a:Act) (w:World),Dc ops listed->listed.size=ops.size->
   (∀j n,ops[j]?=some n->j≠i->listed.getD j true=false->(∀e∈n.after,Region.binds .any e=true->e.on≠i)->oi.apart ops n=true)->
   i∈Region.ready .any ops listed->YieldsIf P ops (λ_=>True) oi v a->
   EV P ops Q S E fuel (listed.setIfInBounds i true) (a.put oi.dst v) w->EV P ops Q S E (fuel+1) listed a w:=by
 intro fuel
 induction fuel with
 | zero=>
  intro listed a w hd p _ q hy H;refine ⟨λh=>(by rw[h] at q;cases q),λj t=>?_⟩;by_cases hji:j=i
  ·subst hji;exact hy.wpOp hi trivial ⟨λe=>(by rw[s] at e;cases e),H⟩
  have:=ready_mono t hji;rw[H.1] at this;cases this
 | succ fuel ih=>
  intro listed a w hd p d q hy H;refine ⟨λh=>(by rw[h] at q;cases q),λj t=>?_⟩;by_cases hji:j=i
  ·subst hji;exact hy.wpOp hi trivial ⟨λe=>(by rw[s] at e;cases e),H⟩
  have z:=H.2 j (ready_mono t hji);obtain ⟨g,n,m,y⟩:=mem_ready.1 t;have u:∀e∈n.after,Region.binds .any e=true->e.on≠i:=λe he hb a0=>by
   have z:=y e he hb;rw[a0] at z;exact ready_un q p z
  have h2:=wpOp_putIf m (d j n m hji g u) (λcs b=>l i oi cs b hi) (λcs b=>l j n cs b m) hQ hy z;have f:∀k r,ops[k]?=some r->k≠i->(listed.setIfInBounds j true).getD k true=false->
    (∀e∈r.after,Region.binds .any e=true->e.on≠i)->oi.apart ops r=true:=λk r hk a2 x a1=>by
   refine d k r hk a2 ?_ a1;by_cases hjk:j=k
   ·subst hjk;exact g
   rw[getD_set_ne true hjk] at x;exact x
  refine wpOp_mono (λa' w' h3=>⟨h3.2.1,ih (listed.setIfInBounds j true) a' w' (hd.next t) (by simpa using p) f (ready_mono q (AfU hji)) h3.1 ?_⟩) h2;rw[Agt _ _ hji];exact h3.2.2
end late
section late2
variable{P:Program}{ops:List Oper}{N R:Act->World->Prop}{X:Nat->Act->World->Prop}{S:World->Prop}{E:List Nat}{a:Act}{w:World}{fuel:Nat}{listed:Array Bool}{n d i:Nat}{ds:List Deferred}{L:List (Nat×Value)}{v:Value}{o:Oper}
theorem E4(i:Nat)(hi:ops[i]?=some o)(u:(E.all λj=>listed.getD j false||EU ops.toArray ops.length j i)=true)(hs:Region.noSelect ops.toArray=true)(x:Region.free .any ops.toArray listed i=true)(t:(Region.ready .any ops.toArray listed).contains i=true)
  (r:BP ops L o.guard=true)(p:o.dst=some d)(g:Nat.blt d n=true)(l:Av P S n ds L o v)(s:S w)
  (K:∀a',Fr n ds ((d,v)::L) a'->Hw P ops (Qp N X R) S E fuel (listed.setIfInBounds i true) a' w):∀a,Fr n ds L a->Hw P ops (Qp N X R) S E (fuel+1) listed a w:=λa k b e=>
 have c:ops.toArray[i]?=some o:=by simpa using hi
 have f:i∈Region.ready .any ops.toArray listed:=by simpa using t
 Ng (i:=i) (oi:=o) (v:=v) c (AgG hs) (λ_ _ _ h=>h.elim) fuel listed a w b (by simpa using e) (λj m=>by simpa using (Af3.1 u) j m) (AgY c x) f (.inl ⟨wantL_ok k r,λq h=>l a k q h⟩) s
  (by rw[p];exact K _ (k.put d v g) (b.next f) (by simpa using e))
theorem Ph(i:Nat)(hi:ops[i]?=some o)(r:E.contains i=true)(hs:Region.noSelect ops.toArray=true)(s:Region.free .any ops.toArray listed i=true)(q:(Region.ready .any ops.toArray listed).contains i=true)
  (p:BP ops L o.guard=true)(l:o.dst=some d)(g:Nat.blt d n=true)(k:Av P (λ_=>True) n ds L o v)
  (K:∀a',Fr n ds ((d,v)::L) a'->Hw P ops (Qp N X R) S E fuel (listed.setIfInBounds i true) a' w):∀a,Fr n ds L a->Hw P ops (Qp N X R) S E (fuel+1) listed a w:=λa j b e=>
 have c:ops.toArray[i]?=some o:=by simpa using hi
 have f:i∈Region.ready .any ops.toArray listed:=by simpa using q
 PJ (i:=i) (oi:=o) (v:=v) c r (AgG hs) (λ_ _ _ h=>h.elim) fuel listed a w b (by simpa using e) (AgY c s) f (.inl ⟨wantL_ok j p,λm h=>k a j m h⟩)
  (by rw[l];exact K _ (j.put d v g) (b.next f) (by simpa using e))
end late2
theorem AdV{P:Program}{ops:List Oper}{C:World->Prop}{Q:Act->Prop}{rest:List Oper}{o:Oper}{n d:Nat}{ds:List Deferred}{L:List (Nat×Value)}{v:Value}{f:FuncId}{x:Operand}{us:List Value}{args:List Operand}{vs:List Value}{tys:Array TypeId}(p:BP ops L o.guard=true)(m:o.dst=some d)(i:Nat.blt d n=true)
  (y:o.op=.call {callee:=.value x,args:=args.toArray,argTypes:=tys})(r:ev L x=some (.func (.func f) #[] us.toArray))(b:evs L args=some vs)(t:∀w,(callFunc f (vs++us).toArray).run P w=.ok (.enter f (vs++us).toArray) w)(h:∀w,C w->Calls P f (vs++us).toArray w (Ret λu k=>u=v/\C k))
  (K:∀a',Fr n ds ((d,v)::L) a'->wpQuiet P ops.toArray C Q rest a'):∀a,Fr n ds L a->wpQuiet P ops.toArray C Q (o::rest) a:=λa j=>
 wpQuiet_step λK' l=>by
  rw[if_pos (wantL_ok j p)];refine ⟨v,λw s=>?_,l _ ?_⟩
  ·unfold Oper.quietAt
   rw[Ku j y r b t];refine ⟨Z,Agx (h w s) λe k q=>?_⟩
   cases e with
   | returned u=>obtain ⟨rfl,g⟩:=q;exact ⟨Z,g⟩
   | panicked c=>exact q.elim
   | outgrown=>exact q.elim
  rw[m];exact K _ (j.put d v i)
def Jg(x y:Int):Int:=if x<y then -1 else if y<x then 1 else 0
theorem Q1(x y:Int):Jg x y<0↔x<y:=by
 unfold Jg;split
 ·omega
 split<;>omega
def Hx(Z_:List Vl)(i j:Nat):Prop:=∀(p q:Nat) (a b:Vl),p<q->q<i->q≠j->Z_[p]?=some a->Z_[q]?=some b->a.id<=b.id
theorem WJ(Z_:List Vl):Hx Z_ 1 1:=λp q a b c d=>by omega
theorem Sa{Z_:List Vl}{i:Nat}(h:Hx Z_ i i):Hx Z_ (i+1) i:=λp q a b c e d=>h p q a b c U d
theorem IJ{Z_:List Vl}{i:Nat}(h:Hx Z_ i j)(l:j=0\/∃e f:Vl,Z_[j-1]?=some e/\Z_[j]?=some f/\¬f.id<e.id):Hx Z_ i i:=λp q a b m n _ c k=>by
 by_cases hq:q=j
 ·subst hq
  rcases l with e|⟨e,f,d,g,o⟩
  ·omega
  rw[k] at g;cases g;by_cases hp:p=q-1
  ·subst hp;rw[c] at d;cases d;omega
  have:=h p (q-1) a e U U U c d;omega
 exact h p q a b m n hq c k
theorem Ud{Z_:List Vl}{i:Nat}{e f:Vl}(h:Hx Z_ i j)(m:Z_[j-1]?=some e)(n:Z_[j]?=some f)(u:0<j)(r:f.id<e.id):Hx ((Z_.set j e).set (j-1) f) i (j-1):=λp q a b o l t c d=>by
 have s:=(Aed.1 n).1;have g:∀k,((Z_.set j e).set (j-1) f)[k]?=if k=j-1 then some f else if k=j then some e else Z_[k]? :=λk=>by
  by_cases k1:k=j-1
  ·subst k1;rw[if_pos Z,Afy (by rw[AeW];omega)]
  rw[if_neg k1,Aga U];by_cases k2:k=j
  ·subst k2;rw[if_pos Z,Afy s]
  rw[if_neg k2,Aga U]
 rw[g] at c d;rw[if_neg t] at d;by_cases q2:q=j
 ·rw[if_pos q2] at d;cases d
  split at c
  ·cases c;omega
  rw[if_neg U] at c;exact h p (j-1) a e U U U c m
 rw[if_neg q2] at d;split at c
 ·cases c;exact h j q f b U l q2 n d
 split at c
 ·cases c;exact h (j-1) q e b U l q2 m d
 exact h p q a b o l q2 c d
theorem Ue{Z_:List Vl}{e f:Vl}(a:Z_[j-1]?=some e)(d:Z_[j]?=some f)(g:0<j):((Z_.set j e).set (j-1) f).Perm Z_:=by
 obtain ⟨b,rfl⟩:=Aed.1 a;obtain ⟨c,rfl⟩:=Aed.1 d;exact List.set_set_perm c b
theorem WK{Z_ X:List Vl}(hp:Z_.Perm X){i:Nat}(hi:X.length<=i)(h:Hx Z_ i i):Z_.Pairwise λa b=>a.id<=b.id:=by
 have f:=hp.length_eq;rw[Afx];intro p q e d c;exact h p q _ _ c U U (Aef e) (Aef d)
theorem isnan_c:Aj 173 [I t] [] (λv G=>v=.bool false/\G=[]):=by
 intro z R w H;refine Ae func173 Z ntmps173 Z (Z0 14 [0] Z (Zr Z ?_));exact ⟨_,⟨congrArg Value.bool (decide_eq_false (λq=>q Z)),Z⟩,H⟩
theorem Acw:Aj 126 [I t,I s] [] (λv G=>v=I (Jg t s)/\G=[]):=by
 intro z R w H;refine Ae func126 Z ntmps126 Z (Zc 8 Z (z_E_ Z (call173 _) (isnan_c) H ?_));intro w H;refine Zc 6 Z (z_E_ Z (call173 _) (isnan_c) H ?_);intro w H;refine Z0 29 [0] Z (Af Z (λb=>?_) (λb=>?_))
 ·refine Zc 6 Z (Zr Z ?_);exact ⟨_,⟨by unfold Jg;rw[if_pos U],Z⟩,H⟩
 refine Z0 10 [0] Z (Af Z (λa=>?_) (λa=>?_))
 ·refine Zc 6 Z (Zr Z ?_);exact ⟨_,⟨by unfold Jg;rw[if_neg U,if_pos U],Z⟩,H⟩
 refine Zc 8 Z (Zr Z ?_);exact ⟨_,⟨by unfold Jg;rw[if_neg U,if_neg U],Z⟩,H⟩
theorem Aam(a b:Vl):Aj 125 [.agg #[I a.id,I a.st,I a.sz,I a.q,I a.r,I a.mp],.agg #[I b.id,I b.st,I b.sz,I b.q,I b.r,I b.mp]] [] (λv G=>v=I (Jg a.id b.id)/\G=[]):=by
 intro z R w H;refine Ae func125 Z ntmps125 Z (Za 2 [] H Z ?_);intro d w H;refine Za 0 [] H Z ?_;intro c w H;refine Z2 9 [0,1,0,0,0,0] H Z (z_E_ Z (call126 _) (Acw) H ?_);intro w H;refine Zc 4 Z (Zr Z ?_);exact ⟨_,⟨Z,Z⟩,H.perm 2 [] Z Z⟩
set_option maxHeartbeats 4000000 in
theorem Acx (X:List Vl) (hX:X.length<=12):Aj 206 [y,I 0,I (X.length:Int),.func (.func 125) #[] #[]] [grow 77 6 y X.length (Be X)] (λv G=>∃Y_:List Vl,(Y_.Perm X/\Y_.Pairwise (λa b=>a.id<=b.id))/\v=.tuple #[]/\G=[grow 77 6 y X.length (Be Y_)]):=by
 intro z R w H;have a0:=H.sy 0 (·.slc);obtain ⟨s,t,rfl⟩:=a0;refine Ae func206 Z ntmps206 Z (Z1 8 [] [1] Z U ?_);refine AD (σ:=Nat×List Vl) (λ⟨i,Z_⟩=>[(8,I (i:Int)),(0,.slice s X.length t),(1,I 0),(2,I (X.length:Int)),(3,.func (.func 125) #[] #[])])
   (λ⟨i,Z_⟩ w=>Sep z (grow 77 6 (.slice s X.length t) X.length (Be Z_)::R) w/\((1<=i/\(i<=X.length\/i=1))/\Z_.Perm X/\Hx Z_ i i)) (λ⟨i,Z_⟩=>X.length-i) ⟨1,X⟩
   fr_z ⟨H,⟨⟨by omega,.inr Z⟩,Ahf _,WJ X⟩⟩ ?_
 clear H;rintro ⟨i,Z_⟩ w ⟨d,x⟩;dsimp only at x d ⊢;have H:=d.l1;obtain ⟨hi,hp,hs⟩:=x;have a2:=hp.length_eq;refine Z0 8 [0] Z (Af Z (λh1=>?_) (λh1=>?_))
 ·refine Zc 11 Z ?_;refine AD (σ:=Nat×List Vl) (λ⟨j,Z_⟩=>[(9,I (j:Int)),(0,.slice s X.length t),(1,I 0),(2,I (X.length:Int)),(3,.func (.func 125) #[] #[]),(8,I (i:Int)),(12,I (i:Int)),(13,I (X.length:Int)),(14,.bool (decide ((i:Int)<(X.length:Int)))),(17,I (i:Int))])
    (λ⟨j,Z_⟩ w=>Sep z (grow 77 6 (.slice s X.length t) X.length (Be Z_)::R) w/\(j<=i/\Z_.Perm X/\Hx Z_ (i+1) j)) (λ⟨j,Z_⟩=>j) ⟨i,Z_⟩
    (λ_ o=>(o.all Z)) ⟨H,⟨Aek _,hp,Sa hs⟩⟩ ?_
  clear H;rintro ⟨j,Z_⟩ w ⟨d,x⟩;dsimp only at x d ⊢;have H:=d.l1;obtain ⟨hj,hp,hs⟩:=x;have a2:=hp.length_eq;refine Zc 2 Z (By (Sep z _) J J H.drew (B4 4 [] Z J (Ce 21 Z (λh2=>?_) (λh2=>?_))))
  ·obtain ⟨e,m⟩:∃e,Z_[j-1]?=some e:=⟨_,Aef U⟩;obtain ⟨f,g⟩:∃f,Z_[j]?=some f:=⟨_,Aef U⟩;have c:=(H.rv 0 (·.rd)).at (AV g 0 _ Z)
   refine B4 3 [] Z J (AM Z Z Z (Ak Z (z:=6) (j:=j) (r:=j*6) J Z Z Z U c U) (AM Z Z Z (Bq Z Z (vs:=f.cells) J (by simp[Vl.cells]) (λ_ n=>(λk u p=>(n.rv 0 (·.rd)).at (AV g k u p)))) (Hb 3 [] [((j-1:Nat):Int)] Z J U (AM Z Z Z (Ak Z (z:=6) (j:=(j-1)) (r:=(j-1)*6) J Z Z U U c U) (AM Z Z Z (Bq Z Z (vs:=e.cells) J (by simp[Vl.cells]) (λ_ n=>(λk u p=>(n.rv 0 (·.rd)).at (AV m k u p)))) (AdV Z Z Z Z Z Z (λw=>call125 _ w) (v:=I (Jg f.id e.id)) (cq (Aam f e) (by rintro _ _ ⟨rfl,rfl⟩;exact ⟨Z,Z⟩) 0 [] [] Z Z Z Z) (B4 2 [] Z J (BL (λw d=>?_)))))))));have H:=d.l1;refine gn (Zc 1 Z (Af Z (λh3=>?_) (λh3=>?_)))
   ·have a1:=(Q1 f.id e.id).1 h3
    refine Zc 4 Z (Ou (Sep z (grow 77 6 (.slice s X.length t) X.length (Be Z_)::R)) [2,3,4,15,16,17] 18 Z J (A4 H λw d=>?_));have H:=d.l1;refine Ph 2 Z J J J J Z Z Z (Ck Z Z) (Ph 3 Z J J J J Z Z Z (Ck Z Z) (Ph 4 Z J J J J Z Z Z (Hy Z Z Z (r:=((j-1:Nat):Int)) U U) (E4 0 Z J J J J Z Z Z (Ck Z Z) H (E4 1 Z J J J J Z Z Z (Ck Z Z) H (E4 5 Z J J J J Z Z Z (Ck Z Z) H (E4 6 Z J J J J Z Z Z (Ck Z Z) H (E4 7 Z J J J J Z Z Z (Hy Z Z Z (r:=((j-1:Nat):Int)) U U) H (E4 8 Z J J J J Z Z Z (Ak Z (z:=6) (j:=(j-1)) (r:=(j-1)*6) J Z Z U U c U) H (E4 9 Z J J J J Z Z Z (Bq Z Z (vs:=e.cells) J (by simp[Vl.cells]) (λ_ n=>(λk u p=>(n.rv 0 (·.rd)).at (AV m k u p)))) H (E4 10 Z J J J J Z Z Z (Ck Z Z) H (E4 11 Z J J J J Z Z Z (Ck Z Z) H (E4 12 Z J J J J Z Z Z (Ak Z (z:=6) (j:=j) (r:=j*6) J Z Z Z U c U) H (E4 13 Z J J J J Z Z Z (Bq Z Z (vs:=f.cells) J (by simp[Vl.cells]) (λ_ n=>(λk u p=>(n.rv 0 (·.rd)).at (AV g k u p)))) H ?_)))))))))))));refine E4 14 Z J J J J Z Z Z (Ak Z (z:=6) (j:=j) (r:=j*6) J Z Z Z U c U) H (C6 [15] J O (Am (Bj Z Z Z (CW 0 H Z Z Z Z (vs:=[I e.id,I e.st,I e.sz,I e.q,I e.r,I e.mp]) Z (by simp[Value.oneCell']) J U (by simp only[Aei,AeD];omega) (out:=Be (Z_.set (j) e)) (EK (e2:=e) g 0 O (by simp[Vl.cells]))) ?_)));rintro w H;refine Au (λh=>absurd h (by decide)) (C6 [16] J O (Am (Ct Z Z Z Z (Ak Z (z:=6) (j:=(j-1)) (r:=(j-1)*6) J Z Z U U c U) (Au (λh=>absurd h (by decide)) (C6 [17] J O (Am (Bj Z Z Z (CW 0 H Z Z Z Z (vs:=[I f.id,I f.st,I f.sz,I f.q,I f.r,I f.mp]) Z (by simp[Value.oneCell']) J U (by simp only[Aei,AeD];omega) (out:=Be ((Z_.set j e).set (j-1) f)) (EK (e2:=f) (by rw[Aga U];exact m) 0 O (by simp[Vl.cells]))) ?_)))))));rintro w H;refine Au (λh=>absurd h (by decide)) (K8 J (gn (Z1 7 [] [((j-1:Nat):Int)] Z U (gf ?_))));intro _ o;refine ⟨⟨j-1,(Z_.set j e).set (j-1) f⟩,o.cz,⟨H,?_⟩,?_⟩
    ·exact ⟨by omega,(Ue m g U).trans hp,Ud hs m g U a1⟩
    (dsimp only;omega)
   have l:¬f.id<e.id:=λq=>h3 ((Q1 f.id e.id).2 q);refine Zc 2 Z (gx (Z1 8 [] [(i:Int)+1] Z U (gf ?_)));intro _ o;refine ⟨⟨i+1,Z_⟩,o.cz,⟨H,?_⟩,?_⟩
   ·refine ⟨⟨by omega,.inl U⟩,hp,?_⟩;first
      | exact IJ hs (.inl U)
      | exact IJ hs (.inr ⟨e,f,m,g,l⟩)
   (dsimp only;omega)
  refine B4 13 [] Z J (BL (λw d=>?_));have H:=d.l1;refine gn (Zc 4 Z (gx (Z1 8 [] [(i:Int)+1] Z U (gf ?_))));intro _ o;refine ⟨⟨i+1,Z_⟩,o.cz,⟨H,?_⟩,?_⟩
  ·refine ⟨⟨by omega,.inl U⟩,hp,?_⟩;first
     | exact IJ hs (.inl U)
     | exact IJ hs (.inr ⟨e,f,m,g,l⟩)
  (dsimp only;omega)
 refine Zc 2 Z (gx (Zc 1 Z (Zf Z ?_)))
 exact ⟨_,⟨Z_,⟨hp,WK hp U hs⟩,Z,Z⟩,H⟩
end
theorem Acy(a:0<=t)(c:t<=12):Aj 172 [.int .u64 t] [] (λv G=>∃l:Int,v=I l/\G=[]):=by
 intro z R w H;refine (Go.Proofs.Any.bits_Len (P:=prog) (ρ:=I4) {Kh with} t w a U).mono ?_;rintro e b ⟨rfl,rfl⟩;exact ⟨_,⟨_,Z,Z⟩,H⟩
def Db(vs:List Vl):List Vl:=vs.filter λe=>decide (e.st=1)
theorem liv_len(vs:List Vl):(Db vs).length<=vs.length:=AfV _ _
theorem Pi{vs:List Vl}{e:Vl}(h:vs[i]?=some e):Db (vs.take (i+1))=Db (vs.take i)++if e.st=1 then [e] else []:=by
 rw[AeM,h];unfold Db;rw[AfP];by_cases q:e.st=1<;>simp[q]
theorem Acz(X:List Vl)(e:X.length<=12):Aj 171 [u,I 0,I (X.length:Int),I t,.func (.func 125) #[] #[]] [grow 77 6 u X.length (Be X)] (λv G=>∃Y_:List Vl,(Y_.Perm X/\Y_.Pairwise (λa b=>a.id<=b.id))/\v=.tuple #[]/\G=[grow 77 6 u X.length (Be Y_)]):=by
 intro z R w H;refine Ae func171 Z ntmps171 Z (Zc 11 Z (GO 2 (DG (Z1 16 [0] [(X.length:Int)] Z U (Af Z (λc=>?_) (λc=>?_))))))
 ·refine Zc 6 Z (Ar Z (call206 _) (Acx X e) H ?_);rintro _ w _ ⟨Y_,d,rfl,rfl⟩ H;refine Zc 3 Z (Zr Z ?_);exact ⟨_,⟨Y_,d,Z,Z⟩,H⟩
 (exfalso;omega)
theorem Aan(X:List Vl)(f:X.length<=12):Aj 124 [u,.func (.func 125) #[] #[]] [grow 77 6 u X.length (Be X)] (λv G=>∃Y_:List Vl,(Y_.Perm X/\Y_.Pairwise (λa b=>a.id<=b.id))/\v=.tuple #[]/\G=[grow 77 6 u X.length (Be Y_)]):=by
 intro z R w H;have c:=H.sy 0 (·.slc);refine Ae func124 Z ntmps124 Z (Zc 3 Z (Ab Z (Ef Z (sz:=6) J Z c) (Zc 7 Z (Ab Z (Up Z J Z (r:=(X.length:Int)) (by simp[IntKind.wrap,IntKind.bits,IntKind.signed];omega)) (Ar Z (call172 _) (Acy U U) H ?_)))));rintro _ w _ ⟨d,rfl,rfl⟩ H;refine Zc 1 Z (Ar Z (call171 _) (Acz X f) H ?_);rintro _ w _ ⟨Y_,e,rfl,rfl⟩ H;refine Zc 1 Z (Zf Z ?_);exact ⟨_,⟨Y_,e,Z,Z⟩,H⟩
set_option maxHeartbeats 4000000 in
theorem Q3 {vs:List Vl} (hv:vs.length=8):Aj 75 [Y n] [voA n m t l vs] (λv G=>∃Y_:List Vl,(Y_.Perm (Db vs)/\Y_.Pairwise (λa b=>a.id<=b.id))/\G=[grow 77 6 v (Db vs).length (Be Y_),voA n m t l vs]):=by
 intro z R w H;refine Ae func75 Z ntmps75 Z (Zc 12 Z ?_);obtain ⟨vv,s,H⟩:=H.vo;have a0:=H.sy 1 (·.slc);obtain ⟨g,h,rfl⟩:=a0;replace H:=(H.nilg 77 6).l4;refine Z2 11 [1,2,1,0] H Z ?_;refine AD (σ:=Nat×Value) (λ⟨i,u⟩=>[(12,I (i:Int)),(3,u),(2,.slice none 0 0),(10,.slice g vs.length h),(11,I (vs.length:Int))])
   (λ⟨i,u⟩ w=>Sep z (grow 77 6 u ((Db (vs.take i)).length) (Be (Db (vs.take i)))::blk n [Y m,I t,.slice g vs.length h,s] 85::grow 77 6 (.slice g vs.length h) vs.length (Be vs)::Cz s l::R) w/\(i<=vs.length)) (λ⟨i,u⟩=>vs.length-i) ⟨0,.slice none 0 0⟩
   (λ_ f=>(f.co Z (by go_num) f.cz)) ⟨(by simpa [Db,Be] using H),AeN _⟩ ?_
 clear H;rintro ⟨i,u⟩ w ⟨c,hI⟩;dsimp only at hI c ⊢;have H:=c.l4;have su:=H.sy 0 (·.slc);have hi:=hI;clear hI;refine Z0 6 [0] Z (Af Z (λh1=>?_) (λh1=>?_))
 ·refine Zc 5 Z ?_;obtain ⟨e,p⟩:∃e,vs[i]?=some e:=⟨_,Aef U⟩;have o:=(H.rv 2 (·.rd)).at (AV p 0 _ Z)
  have a4:=liv_len (vs.take i);have a2:=List.length_take_le i vs;refine Zc 1 Z (Ab Z (Ak Z (z:=6) (j:=i) (r:=i*6) J Z Z Z U o U) (Ab Z (Bq Z Z (vs:=e.cells) J (by simp[Vl.cells]) (Az (λk u hk=>(H.rv 2 (·.rd)).at (AV p k u hk)))) (Za 0 [] H Z ?_)));intro b1 w H;refine Z4 10 [0,1,0,0,0] H Z ?_;intro w H;refine Af Z (λh2=>?_) (λh2=>?_)
  ·refine Z2 3 [0,6] H Z (AP Z (AO H Z J Ci Z (by decide) (by decide) (out:=[I e.id,I e.st,I e.sz,I e.q,I e.r,I e.mp]) J) ?_);rintro _ w ⟨b2,rfl,H⟩;refine AP Z (AW 2 H Z Z J Ci Z Z (H.rv 0 (·.rd U U O Z)) (by simp[Value.oneCell']) U) ?_;rintro v3 w c;have c:Sep z (blk b2 [I e.id,I e.st,I e.sz,I e.q,I e.r,I e.mp] 77::blk b1 [I e.id,I e.st,I e.sz,I e.q,I e.r,I e.mp] 77::grow 77 6 v3 ((Db (vs.take i)).length+1) (Be (Db (vs.take i))++[I e.id,I e.st,I e.sz,I e.q,I e.r,I e.mp])::blk n [Y m,I t,.slice g vs.length h,s] 85::grow 77 6 (.slice g vs.length h) vs.length (Be vs)::Cz s l::R) w:=c
   have a1:(Be (Db (vs.take i))++[I e.id,I e.st,I e.sz,I e.q,I e.r,I e.mp]:List Value)=Be (Db (vs.take i)++[e]):=by rw[JM];rfl
   rw[a1] at c;have H:=c.l6;refine Z1 8 [] [(i:Int)+1] Z U ?_;replace H:=H.f1.d.d;refine gf ?_;intro _ f;refine ⟨⟨i+1,v3⟩,f.cz,⟨(by rw[Pi p,if_pos (by assumption),Aeg];exact H),?_⟩,?_⟩
   ·show i+1<=vs.length;omega
   (dsimp only;omega)
  refine Z1 7 [] [(i:Int)+1] Z U ?_;replace H:=H.d;refine gf ?_;intro _ f;refine ⟨⟨i+1,u⟩,f.cz,⟨(by rw[Pi p,if_neg (by assumption),AeY];exact H),?_⟩,?_⟩
  ·show i+1<=vs.length;omega
  (dsimp only;omega)
 refine Zc 2 Z (gx (Zc 3 Z ?_));obtain rfl:i=vs.length:=by omega
 rw[Ae9] at H;rw[Ae9] at su;refine Zc 2 Z (Ar Z (call124 _) (Aan (Db vs) (by have:=liv_len vs;omega)) H ?_);rintro _ w _ ⟨Y_,⟨y,x⟩,rfl,rfl⟩ H;refine Zc 9 Z (Zr Z ?_);exact ⟨_,⟨Y_,⟨y,x⟩,Z⟩,((H.pick 4 [1,2,3,0] Z).toVo).pick 2 [1,0] Z⟩
def Wv.cells(x:Wv):List Value:=[.int .i64 x.id,.int .i64 x.sz,.int .i64 x.q,x.u]
def Bl(W:List Wv):List Value:=W.flatMap Wv.cells
theorem F1(A B:List Wv):Bl (A++B)=Bl A++Bl B:=Af2
theorem Aao(W:List Wv):(Bl W).length=W.length*4:=by
 induction W with
 | nil=>rfl
 | cons x t ih=>simp only[Bl,AeJ,Aeg,Aei] at ih ⊢;rw[ih];simp[Wv.cells];omega
theorem Bu:∀{W:List Wv} {j:Nat} {x:Wv},W[j]?=some x->∀k u,(Wv.cells x)[k]?=some u->(Bl W)[j*4+k]?=some u
 | y::t,0,x,h,k,u,hk=>by
  simp at h;subst h;have hl:k<(Wv.cells y).length:=(Aed.1 hk).1;show (Wv.cells y++Bl t)[0*4+k]?=_;rw[Nat.zero_mul,AfO,Aeo hl];exact hk
 | y::t,j+1,x,h,k,u,hk=>by
  have ih:=Bu (W:=t) (j:=j) (x:=x) (by simpa using h) k u hk;show (Wv.cells y++Bl t)[(j+1)*4+k]?=_;rw[Aeu (by simp[Wv.cells];omega)];rw[<-ih];congr 1;simp[Wv.cells];omega
def wdA(pw:Nat)(wn:Int)(W:List Wv):Ai:=λh=>∃u:Value,True/\seps [blk pw [u,.int .i64 wn] 31,grow 40 4 u W.length (Bl W)] h
theorem Sep.wd{w:World}(H:Sep z (wdA n t W::Γ) w):∃u:Value,Sep z (YtemljpjnhjnncaaGreatDoor.blk n [u,I t] 31::YtemljpjnhjnncaaGreatDoor.grow 40 4 u W.length (Bl W)::Γ) w:=by
 obtain ⟨u,_,H⟩:=H.into (p:=λ_:Value=>True) (As:=λu=>[YtemljpjnhjnncaaGreatDoor.blk n [u,I t] 31,YtemljpjnhjnncaaGreatDoor.grow 40 4 u W.length (Bl W)]) (λ_ q=>q);exact ⟨u,H⟩
theorem Sep.toWd{w:World}(H:Sep z (YtemljpjnhjnncaaGreatDoor.blk n [u,I t] 31::YtemljpjnhjnncaaGreatDoor.grow 40 4 u W.length (Bl W)::Γ) w):Sep z (wdA n t W::Γ) w:=H.made 2 (λh q=>⟨u,trivial,q⟩)
theorem Ie(id:Int)(u:W.length<=64):Aj 49 [Y n,I id] [wdA n t W] (λv G=>(∃(j:Nat) (x:Wv),(W[j]?=some x/\x.id=id)/\v=I (j:Int)/\G=[wdA n t W])\/((∀x∈W,x.id≠id)/\v=I (-1)/\G=[wdA n t W])):=by
 intro z R w H;obtain ⟨uw,H⟩:=H.wd;have l:=H.sy 1 (·.slc);obtain ⟨o,m,rfl⟩:=l;have a0:=H.sy 1 (·.rd.slcapZ);refine Ae func49 Z ntmps49 Z (Zc 12 Z ?_);refine AD (σ:=Nat) (λi=>[(5,I (i:Int)),(0,Y n),(1,I id)])
   (λi w=>Sep z (blk n [.slice o W.length m,I t] 31::grow 40 4 (.slice o W.length m) W.length (Bl W)::R) w/\(i<=W.length/\∀(j:Nat) (x:Wv),j<i->W[j]?=some x->x.id≠id)) (λi=>W.length-i) 0
   fr_z ⟨H,⟨AeN _,λj e h=>by omega⟩⟩ ?_
 clear H;rintro i w ⟨y,hI⟩;have H:=y.l2;obtain ⟨hi,c⟩:=hI;refine Z2 12 [0,0,0,0] H Z (Af Z (λp=>?_) (λp=>?_))
 ·refine Zc 5 Z ?_;obtain ⟨x,f⟩:∃x,W[i]?=some x:=⟨_,Aef U⟩;have a:=(H.rv 1 (·.rd)).at (Bu f 0 _ Z)
  refine Z2 6 [0,0,0] H Z (Ab Z (Ak Z (z:=4) (j:=i) (r:=i*4) J Z Z Z U a U) (Ab Z (Bh Z (k:=0) (r:=i*4) J Z a Z) (Ab Z (Ay Z Z J (Az a)) (Z0 4 [0] Z (Af Z (λh2=>?_) (λh2=>?_))))))
  ·refine Zc 7 Z (Zr Z ?_);exact ⟨_,.inl ⟨i,x,⟨f,by assumption⟩,Z,Z⟩,(H.pick 2 [0,1] Z).toWd⟩
  refine Z1 8 [] [(i:Int)+1] Z U (gf ?_);intro _ s;refine ⟨(i+1),s.cz,⟨H,?_⟩,?_⟩
  ·refine ⟨by omega,λj g d b=>?_⟩;rcases Aes j i with q|q
   ·exact c j g q b
   obtain rfl:j=i:=by omega
   rw[f] at b;cases b;omega
  omega
 refine Zc 2 Z (gx (Zc 8 Z (Zr Z ?_)));exact ⟨_,.inr ⟨λg b=>(by obtain ⟨j,d⟩:=AeX.1 b;exact c j g (by have:=(Aed.1 d).1;omega) d),Z,Z⟩,(H.pick 2 [0,1] Z).toWd⟩
theorem Ml{a:Int}(i:W.length<=64)(m:∀x∈W,1<=x.sz/\x.sz<=1048576)(a2: -9223372036854775808<=p/\p<=9223372036854775807)(a0: -9223372036854775808<=a/\a<=9223372036854775807):Aj 67 [Y n,I s,I p,I a,.bool b] [wdA n t W] (λv G=>((∀x∈W,x.id≠s)/\v=.tuple #[I 0,I 31]/\G=[wdA n t W])\/(∃(j:Nat) (x:Wv),(W[j]?=some x/\x.id=s)/\v=.tuple #[I (if Br x.sz b p a=0 then (j:Int) else 0),I (Br x.sz b p a)]/\G=[wdA n t W])):=by
 intro z R w H;refine Ae func67 Z ntmps67 Z (Zc 10 Z (Ar Z (call49 _) (Ie s i) H ?_));rintro _ w _ (⟨j,x,⟨f,c⟩,rfl,rfl⟩|⟨h,rfl,rfl⟩) u
 ·have H:=u.l1;refine Z0 10 [0] Z (Af Z (λh1=>U) (λh1=>?_))
  refine Zc 8 Z (DR 20 Z (λh2=>?_) (λh2=>?_))
  ·refine Zc 17 Z (Zr Z ?_);have e:Br x.sz b p a=1:=by unfold Br;rw[if_neg (λq=>by first|omega|(obtain ⟨o,_⟩:=q;simp_all))]
   exact ⟨_,.inr ⟨j,x,⟨f,c⟩,by rw[e];rfl,Z⟩,H.pick 1 [0] Z⟩
  refine Z0 4 [0] Z (An 24 Z (λh3=>?_) (λh3=>?_))
  ·refine Zc 13 Z (Zr Z ?_);have e:Br x.sz b p a=1:=by unfold Br;rw[if_neg (λq=>by first|omega|(obtain ⟨o,_⟩:=q;simp_all))]
   exact ⟨_,.inr ⟨j,x,⟨f,c⟩,by rw[e];rfl,Z⟩,H.pick 1 [0] Z⟩
  refine Z0 5 [0] Z (Af Z (λh4=>?_) (λh4=>?_))
  ·refine Zc 7 Z (Zr Z ?_);have e:Br x.sz b p a=1:=by unfold Br;rw[if_neg (λq=>by first|omega|(obtain ⟨o,_⟩:=q;simp_all))]
   exact ⟨_,.inr ⟨j,x,⟨f,c⟩,by rw[e];rfl,Z⟩,H.pick 1 [0] Z⟩
  refine Zc 4 Z ?_;obtain ⟨uw,H⟩:=H.wd;have l:=H.sy 1 (·.slc);obtain ⟨aw,cw,rfl⟩:=l;have a3:=(Aed.1 f).1;have d:=(H.rv 1 (·.rd)).at (Bu f 0 _ Z);have g:=(H.rv 1 (·.rd)).at (Bu f 1 _ Z);have y:=m x (Aee f);refine Z0 4 [0] Z (An 30 Z (λh5=>?_) (λh5=>?_))
  ·refine Zc 35 Z (Zr Z ?_);have e:Br x.sz b p a=34:=by unfold Br;rw[if_pos ⟨by first|assumption|simp_all,by omega,by omega⟩,if_neg U]
   exact ⟨_,.inr ⟨j,x,⟨f,c⟩,by rw[e];rfl,Z⟩,(H.pick 2 [0,1] Z).toWd⟩
  refine Z2 6 [0,0,0] H Z (Ab Z (Ak Z (z:=4) (j:=j) (r:=j*4) J Z Z Z U d U) (Ab Z (Bh Z (k:=1) (r:=j*4+1) J Z d Z) (Ab Z (Ay Z Z J (Az g)) (Z0 3 [0] Z (An 42 Z (λh6=>?_) (λh6=>?_))))))
  ·refine Zc 23 Z (Zr Z ?_);have e:Br x.sz b p a=34:=by unfold Br;rw[if_pos ⟨by first|assumption|simp_all,by omega,by omega⟩,if_neg U]
   exact ⟨_,.inr ⟨j,x,⟨f,c⟩,by rw[e];rfl,Z⟩,(H.pick 2 [0,1] Z).toWd⟩
  refine Z2 6 [0,0,0] H Z (Ab Z (Ak Z (z:=4) (j:=j) (r:=j*4) J Z Z Z U d U) (Ab Z (Bh Z (k:=1) (r:=j*4+1) J Z d Z) (Ab Z (Ay Z Z J (Az g)) (Z1 6 [0] [x.sz-p] Z U (Af Z (λh7=>?_) (λh7=>?_))))))
  ·refine Zc 7 Z (Zr Z ?_);have e:Br x.sz b p a=34:=by unfold Br;rw[if_pos ⟨by first|assumption|simp_all,by omega,by omega⟩,if_neg U]
   exact ⟨_,.inr ⟨j,x,⟨f,c⟩,by rw[e];rfl,Z⟩,(H.pick 2 [0,1] Z).toWd⟩
  refine Zc 10 Z (Zr Z ?_);have e:Br x.sz b p a=0:=by unfold Br;rw[if_pos ⟨by first|assumption|simp_all,by omega,by omega⟩,if_pos U]
  exact ⟨_,.inr ⟨j,x,⟨f,c⟩,by rw[e];rfl,Z⟩,(H.pick 2 [0,1] Z).toWd⟩
 have H:=u.l1;refine Z0 18 [3] Z (Zr Z ?_);exact ⟨_,.inl ⟨h,Z,Z⟩,H.pick 1 [0] Z⟩
set_option maxHeartbeats 6000000 in
theorem Mn (b5:W.length<=64) (A:Ai) (a5:∀x∈W,InB A x.u x.V) (a0:∀x∈W,x.V.length<=1048576):Aj 9 [Y n] [wdA n t W,A] (λv G=>∃(b:Nat) (W2:List Wv) (A2:Ai),(W2.map Wv.core=W.map Wv.core/\Ink A A2/\∀x∈W2,InB A2 x.u x.V)/\v=Y b/\G=[wdA n t W,wdA b t W2,A2]):=by
 intro z R w H;replace H:=H.l2;refine Ae func9 Z ntmps9 Z (Zc 6 Z ?_);obtain ⟨uw,H⟩:=H.wd;replace H:=H.l3;have a8:=H.sy 1 (·.slc);obtain ⟨s,p,rfl⟩:=a8;have b6:=H.sy 1 (·.rd.slcapZ);refine Za 6 [1,0,0] H Z ?_;intro b1 w H;refine Zc 5 Z ?_;replace H:=(H.nilg 40 4).l5;refine Zc 5 Z ?_;refine AD (σ:=Nat×List Wv×Value×Ai) (λ⟨i,W2,o,AA⟩=>[(4,I (i:Int)),(0,Y n),(2,.pointer none),(3,Y b1)])
   (λ⟨i,W2,o,AA⟩ w=>Sep z (grow 40 4 o W2.length (Bl W2)::blk b1 [o,I t] 31::blk n [.slice s W.length p,I t] 31::grow 40 4 (.slice s W.length p) W.length (Bl W)::AA::R) w/\(i<=W.length/\W2.map Wv.core=(W.take i).map Wv.core/\Ink A AA/\∀x∈W2,InB AA x.u x.V)) (λ⟨i,W2,o,AA⟩=>W.length-i) ⟨0,[],.slice none 0 0,A⟩
   fr_z ⟨(by simpa [Bl] using H),⟨AeN _,by simp,Ink.refl A,by simp⟩⟩ ?_
 clear H;rintro ⟨i,W2,o,AA⟩ w ⟨e,hI⟩;dsimp only at hI e ⊢;have H:=e.l5;obtain ⟨hi,g,hK,a1⟩:=hI;have b7:W2.length=i:=by have:=congrArg List.length g;simp only[Aeh,Aez] at this;omega
 have a2:∀x∈W,InB AA x.u x.V:=λx f=>hK _ _ (a5 x f);refine Z2 12 [0,2,0,0] H Z (Af Z (λh1=>?_) (λh1=>?_))
 ·refine Zc 5 Z ?_;obtain ⟨⟨xi,xs,xq,xu,a⟩,f⟩:∃x:Wv,W[i]?=some x:=⟨_,Aef U⟩;have a3:InB AA xu a:=a2 _ (Aee f)
  have a9:=H.sy 4 (λq=>(a3 _ q).slc);have m:=(H.rv 3 (·.rd)).at (Bu f 0 _ Z);refine Z2 6 [0,2,0] H Z (Ab Z (Ak Z (z:=4) (j:=i) (r:=i*4) J Z Z Z U m U) (Ab Z (Bq Z Z (vs:=[I xi,I xs,I xq,xu]) J O (Az (λk u hk=>(H.rv 3 (·.rd)).at (Bu f k u hk)))) (Za 0 [] H Z ?_)));intro b2 w H;refine AC Z Z (Al 0 H Z Z Z Z (vs:=[I xi,I xs,I xq,xu]) Z (Ad Z (Ad Z (Ad Z (Ad a9.one Aw)))) J O (out:=[I xi,I xs,I xq,xu]) Z) ?_;rintro w H;replace H:=H.l6;refine Zc 8 Z ?_;have b0:a.length<=1048576:=a0 _ (Aee f);refine Z2 4 [3,0,0] H Z ?_;replace H:=(H.nilg 90 2).l7;refine AP Z (AW 0 H Z Z J A6 Z Z (H.rv 6 (a3 _)) (GC) U) ?_;rintro c w e;have a7:([]++BY a:List Value)=BY a:=by simp
  rw[a7] at e;rw[show (0+a.length:Nat)=a.length from by omega] at e;have H:=e.l7;have l:=H.sy 0 (·.slc);refine Z0 7 [3] Z (AC Z Z (NA 1 H Z Z Z Z l.cells l.one J) ?_);rintro w H;replace H:=H.l7;refine Zc 2 Z ?_;replace H:=H.f1.f3;refine Bp (Sep z (blk b1 [o,I t] 31::blk b2 [I xi,I xs,I xq,c] 40::R)) 11 Z J (A4 H λw e=>?_);have H:=e.l7;refine Bv [0,1,2,3,4] [0,0] J (λ_ f=>(AR (f.blk 0 Z) AN)) (by exact H.pick 7 [0,1] Z) Z J Z Z (BG 5 J Z Z J J J Z Z Z (B0 Z Z (vs:=[I xi,I xs,I xq,c]) J (λ_ f=>(f.blk 1 Z).part 0 4 _ Z)) (H.pick 7 [0,1] Z) (AF [6] J O (Am (B6 Z Z Z Z (AO H Z J Bm Z (by decide) (by decide) (out:=[I xi,I xs,I xq,c]) J) ?_))));rintro _ w ⟨b4,rfl,H⟩;replace H:=H.l8;refine Au (λ_=>(H.pick 8 [1,2] Z)) (AF [7] J O (Am (B6 Z Z Z Z (AW 4 H Z Z J Bm Z Z (H.rv 0 (·.rd U U O Z)) (Ad Z (Ad Z (Ad Z (Ad l.one Aw)))) U) ?_)));rintro v5 w e;have e:Sep z (blk b4 [I xi,I xs,I xq,c] 40::blk b1 [o,I t] 31::blk b2 [I xi,I xs,I xq,c] 40::grow 90 2 c a.length (BY a)::grow 40 4 v5 (W2.length+1) (Bl W2++[I xi,I xs,I xq,c])::blk n [.slice s W.length p,I t] 31::grow 40 4 (.slice s W.length p) W.length (Bl W)::AA::R) w:=e;have a6:(Bl W2++[I xi,I xs,I xq,c]:List Value)=Bl (W2++[(⟨xi,xs,xq,c,a⟩:Wv)]):=(by rw[F1];rfl);rw[a6] at e;rw[show (W2.length+1:Nat)=(W2++[(⟨xi,xs,xq,c,a⟩:Wv)]).length from by simp] at e;have H:=e.l8;have a4:=H.sy 4 (·.slc);refine Au (λ_=>(H.pick 8 [1,2] Z)) (Bv [8,9] [0] J (λ_ _=>AN) (by exact H.pick 8 [1,2] Z) Z J Z Z (AF [10] J O (Am (Bj Z Z Z (Lt 1 H Z Z Z Z a4.cells a4.one J) ?_))));rintro w H;replace H:=H.l8;refine Au (λh=>absurd Z h) (Bo J (gn (Zc 2 Z ?_)));have e:=(H.pick 8 [3,7,0,1,2,4,5,6] Z).made 2 (A:=both (grow 90 2 c a.length (BY a)) AA) (λh q=>q);clear H;have H:Sep z (both (grow 90 2 c a.length (BY a)) AA::blk b4 [I xi,I xs,I xq,c] 40::blk b1 [v5,I t] 31::blk b2 [I xi,I xs,I xq,c] 40::grow 40 4 v5 ((W2++[(⟨xi,xs,xq,c,a⟩:Wv)]).length) (Bl (W2++[(⟨xi,xs,xq,c,a⟩:Wv)]))::blk n [.slice s W.length p,I t] 31::grow 40 4 (.slice s W.length p) W.length (Bl W)::R) w:=e;clear e;refine Z1 5 [] [(i:Int)+1] Z U ?_;replace H:=H.f3.d.f1.d.f4.f4.f3.f4;refine gf ?_;intro _ hF;refine ⟨⟨i+1,W2++[⟨xi,xs,xq,c,a⟩],v5,both (grow 90 2 c a.length (BY a)) AA⟩,hF.cz,⟨H,?_⟩,?_⟩
  ·exact ⟨by show i+1<=W.length;omega,by rw[AeH,g,AeM,f];simp[Wv.core],hK.trans (Ink.both _ AA),λy hy=>by rcases Aer.1 hy with q|q;exact InB.old (a1 y q);simp at q;subst q;exact InB.grow⟩
  (dsimp only;omega)
 refine Zc 2 Z (gx (Zc 9 Z (Zr Z ?_)));obtain rfl:i=W.length:=by omega
 rw[Ae9] at g;have H9:=(H.pick 5 [1,0,2,3,4] Z).toWd;exact ⟨_,⟨b1,W2,AA,⟨g,hK,a1⟩,Z,Z⟩,((H9.pick 4 [1,2,0,3] Z).toWd)⟩
theorem InB.nilB :InB A (.slice none 0 0) []:=λh _=>rdH.nil 2 h
theorem Q4(h:∀x∈W,x.u.oneCell'=true):∀c∈Bl W,c.oneCell'=true:=λc a=>by
 obtain ⟨x,b,a⟩:=Agi.1 a;simp only[Wv.cells,Aep,List.not_mem_nil,or_false] at a;rcases a with rfl|rfl|rfl|rfl
 ·rfl
 ·rfl
 ·rfl
 exact h x b
theorem wdC_drop:∀(L:List Wv) (p:Nat),(Bl L).drop (p*4)=Bl (L.drop p)
 | L,0=>by simp
 | [],p+1=>by simp[Bl]
 | x::L,p+1=>by
  have e1:Bl (x::L)=I x.id::I x.sz::I x.q::x.u::Bl L:=rfl;rw[e1,show (p+1)*4=p*4+4 by omega];simp only[Ae5];exact wdC_drop L p
theorem Pj:∀(L:List Wv) (p:Nat),(Bl L).take (p*4)=Bl (L.take p)
 | L,0=>by simp[Bl]
 | [],p+1=>by simp[Bl]
 | x::L,p+1=>by
  have e1:Bl (x::L)=I x.id::I x.sz::I x.q::x.u::Bl L:=rfl;rw[e1,show (p+1)*4=p*4+4 by omega];simp only[Ae7,Pj L p];rfl
theorem rdH.cutW{a:Option Addr}{c p:Nat}{L:List Wv}(r:rdH 4 (.slice a n c) n (Bl L) h)(d:p+m<=n)(b:n<=c):rdH 4 (.slice (YtemljpjnhjnncaaGreatDoor.cutZ 4 a c p) m (c-p)) m (Bl ((L.drop p).take m)) h:=by
 have:=r.cutZ U d b;rwa[wdC_drop,Pj] at this
set_option maxHeartbeats 4000000 in
theorem Q5 (e:Nat) (a:Int) (W:List Wv) (y:0<=a/\a<=1073741824) (a0:W.length<=64) (A:Ai) (xs xq:Int) (s:Value) (b:List Bk) (i:InB A s b) (r:b.length<=1048576):Aj 50 [Y e,.agg #[I t,I xs,I xq,s]] [wdA e a W,A] (λv G=>(8<=W.length/\v=.tuple #[I 0,I 32]/\G=[wdA e a W,A])\/((W.length<8/\1073741824<=a)/\v=.tuple #[I 0,I 15]/\G=[wdA e a W,A])\/((W.length<8/\a<1073741824)/\∃(u:Value) (A2:Ai),(Ink A A2/\InB A2 u b)/\v=.tuple #[I a,I 0]/\G=[wdA e (a+1) (W++[⟨a,xs,xq,u,b⟩]),A2])):=by
 intro z R w H;replace H:=H.l2;obtain ⟨uw,H⟩:=H.wd;replace H:=H.l3;have n:=H.sy 1 (·.slc);obtain ⟨k,j,rfl⟩:=n;refine Ae func50 Z ntmps50 Z (Za 2 [] H Z ?_);intro p w H;refine Z2 15 [0,1,0,0] H Z (Af Z (λh1=>?_) (λh1=>?_))
 ·refine Zc 7 Z (Zr Z ?_);exact ⟨_,.inl ⟨by omega,Z,Z⟩,(H.pick 4 [1,2,3] Z).toWd⟩
 refine Z2 12 [1,1,0,0] H Z (Af Z (λh2=>?_) (λh2=>?_))
 ·refine Zc 7 Z (Zr Z ?_);exact ⟨_,.inr (.inl ⟨⟨by omega,by omega⟩,Z,Z⟩),(H.pick 4 [1,2,3] Z).toWd⟩
 refine Z4 22 [1,1,0,0,0,3,0,0] H Z ?_;intro w H;replace H:=(H.nilg 90 2).l5;refine AP Z (AW 0 H Z Z J A6 Z Z (H.rv 4 (i _)) (GC) U) ?_;rintro d w c;have o:([]++BY b:List Value)=BY b:=by simp
 rw[o] at c;rw[show (0+b.length:Nat)=b.length from by omega] at c;have H:=c.l5;have f:=H.sy 0 (·.slc);refine Z0 7 [3] Z (AC Z Z (NA 1 H Z Z Z Z f.cells f.one J) ?_);rintro w H;replace H:=H.l5;refine Zc 3 Z ?_;have c:=(H.pick 5 [0,4,1,2,3] Z).made 2 (A:=both (grow 90 2 d b.length (BY b)) A) (λh q=>q);clear H;have H:Sep z (both (grow 90 2 d b.length (BY b)) A::blk p [I a,I xs,I xq,d] 40::blk e [.slice k W.length j,I a] 31::grow 40 4 (.slice k W.length j) W.length (Bl W)::R) w:=c;clear c;replace H:=H.f1.f2;refine Bp (Sep z (blk e [.slice k W.length j,I a] 31::blk p [I a,I xs,I xq,d] 40::R)) 11 Z J (A4 H λw c=>?_);have H:=c.l4;refine Bv [0,1,2,3,4] [0,0] J (λ_ m=>(AR (m.blk 0 Z) AN)) (by exact H.pick 4 [0,1] Z) Z J Z Z (BG 5 J Z Z J J J Z Z Z (B0 Z Z (vs:=[I a,I xs,I xq,d]) J (λ_ m=>(m.blk 1 Z).part 0 4 _ Z)) (H.pick 4 [0,1] Z) (AF [6] J O (Am (B6 Z Z Z Z (AO H Z J Bm Z (by decide) (by decide) (out:=[I a,I xs,I xq,d]) J) ?_))));rintro _ w ⟨b3,rfl,H⟩;replace H:=H.l5;refine Au (λ_=>(H.pick 5 [1,2] Z)) (AF [7] J O (Am (B6 Z Z Z Z (AW 4 H Z Z J Bm Z Z (H.rv 0 (·.rd U U O Z)) (Ad Z (Ad Z (Ad Z (Ad f.one Aw)))) U) ?_)));rintro x w c;have c:Sep z (blk b3 [I a,I xs,I xq,d] 40::blk e [.slice k W.length j,I a] 31::blk p [I a,I xs,I xq,d] 40::both (grow 90 2 d b.length (BY b)) A::grow 40 4 x (W.length+1) (Bl W++[I a,I xs,I xq,d])::R) w:=c;have l:(Bl W++[I a,I xs,I xq,d]:List Value)=Bl (W++[(⟨a,xs,xq,d,b⟩:Wv)]):=(by rw[F1];rfl);rw[l] at c;rw[show (W.length+1:Nat)=(W++[(⟨a,xs,xq,d,b⟩:Wv)]).length from by simp] at c;have H:=c.l5;have g:=H.sy 4 (·.slc);refine Au (λ_=>(H.pick 5 [1,2] Z)) (Bv [8,9] [0] J (λ_ _=>AN) (by exact H.pick 5 [1,2] Z) Z J Z Z (AF [10] J O (Am (Bj Z Z Z (Lt 1 H Z Z Z Z g.cells g.one J) ?_))));rintro w H;replace H:=H.l5;refine Au (λh=>absurd Z h) (Bo J (gn (Z5 22 [1,1,0,1,1,0,2,0] [a+1] H Z U ?_)));intro w H;refine Zr Z ?_;exact ⟨_,.inr (.inr ⟨⟨by omega,by omega⟩,_,_,⟨Ink.both _ A,InB.grow⟩,Z,Z⟩),(H.pick 5 [1,4,3] Z).toWd⟩
theorem Uf(j:0<=t/\t<=1073741824)(k:W.length<=64)(b a:Int):Aj 24 [Y n,I b,I a] [wdA n t W,A] (λv G=>(¬((1<=b/\b<=1048576)/\0<=a/\a<=1048576)/\v=.tuple #[I 0,I 1]/\G=[wdA n t W,A])\/(((1<=b/\b<=1048576)/\0<=a/\a<=1048576)/\((8<=W.length/\v=.tuple #[I 0,I 32]/\G=[wdA n t W,A])\/((W.length<8/\1073741824<=t)/\v=.tuple #[I 0,I 15]/\G=[wdA n t W,A])\/((W.length<8/\t<1073741824)/\∃(h:Value) (A2:Ai),(Ink A A2/\InB A2 h [])/\v=.tuple #[I t,I 0]/\G=[wdA n (t+1) (W++[⟨t,b,a,h,[]⟩]),A2])))):=by
 intro z R w H;refine Ae func24 Z ntmps24 Z (Z0 12 [0] Z (An 10 Z (λm=>?_) (λm=>?_)))
 ·refine Zc 21 Z (Zr Z ?_);exact ⟨_,.inl ⟨by omega,Z,Z⟩,H.pick 2 [0,1] Z⟩
 refine Z0 4 [0] Z (An 14 Z (λq=>?_) (λq=>?_))
 ·refine Zc 17 Z (Zr Z ?_);exact ⟨_,.inl ⟨by omega,Z,Z⟩,H.pick 2 [0,1] Z⟩
 refine Z0 4 [0] Z (An 18 Z (λo=>?_) (λo=>?_))
 ·refine Zc 13 Z (Zr Z ?_);exact ⟨_,.inl ⟨by omega,Z,Z⟩,H.pick 2 [0,1] Z⟩
 refine Z0 5 [0] Z (Af Z (λp=>?_) (λp=>?_))
 ·refine Zc 7 Z (Zr Z ?_);exact ⟨_,.inl ⟨by omega,Z,Z⟩,H.pick 2 [0,1] Z⟩
 refine Zc 8 Z (Ar Z (call50 _) (Q5 n t W j k A b a (.slice none 0 0) [] InB.nilB O) H ?_);rintro _ w _ (⟨f,rfl,rfl⟩|⟨⟨g,c⟩,rfl,rfl⟩|⟨⟨e,d⟩,h,A2,i,rfl,rfl⟩) l
 ·have H:=l.l2;refine Zc 7 Z (Zr Z ?_);exact ⟨_,.inr ⟨by omega,.inl ⟨f,Z,Z⟩⟩,H.pick 2 [0,1] Z⟩
 ·have H:=l.l2;refine Zc 7 Z (Zr Z ?_);exact ⟨_,.inr ⟨by omega,.inr (.inl ⟨⟨g,c⟩,Z,Z⟩)⟩,H.pick 2 [0,1] Z⟩
 have H:=l.l2;refine Zc 7 Z (Zr Z ?_);exact ⟨_,.inr ⟨by omega,.inr (.inr ⟨⟨e,d⟩,h,A2,i,Z,Z⟩)⟩,H.pick 2 [0,1] Z⟩
theorem Mp(a2:0<=t/\t<=1073741824)(id:Int)(h:W.length<=64)(a1:∀x∈W,InB A x.u x.V)(e:∀x∈W,x.V.length<=1048576):Aj 16 [Y n,I id] [wdA n t W,A] (λv G=>((∀x∈W,x.id≠id)/\v=.tuple #[I 0,I 31]/\G=[wdA n t W,A])\/(∃(j:Nat) (x:Wv),(W[j]?=some x/\x.id=id)/\((8<=W.length/\v=.tuple #[I 0,I 32]/\G=[wdA n t W,A])\/((W.length<8/\1073741824<=t)/\v=.tuple #[I 0,I 15]/\G=[wdA n t W,A])\/((W.length<8/\t<1073741824)/\∃(s:Value) (A2:Ai),(Ink A A2/\InB A2 s x.V)/\v=.tuple #[I t,I 0]/\G=[wdA n (t+1) (W++[⟨t,x.sz,x.q,s,x.V⟩]),A2])))):=by
 intro z R w H;refine Ae func16 Z ntmps16 Z (Zc 10 Z (Ar Z (call49 _) (Ie id h) H ?_));rintro _ w _ (⟨j,x,⟨b,a⟩,rfl,rfl⟩|⟨y,rfl,rfl⟩) d
 ·have H:=d.l2;refine Z0 10 [0] Z (Af Z (λh1=>U) (λh1=>?_))
  refine Zc 3 Z ?_;obtain ⟨uw,H⟩:=H.wd;have a4:=H.sy 1 (·.slc);obtain ⟨aw,cw,rfl⟩:=a4;obtain ⟨xi,xs,xq,xu,xV⟩:=x;have o:InB A xu xV:=a1 _ (Aee b);have g:xV.length<=1048576:=e _ (Aee b);have c:=(H.rv 1 (·.rd)).at (Bu b 0 _ Z);have a8:=(Aed.1 b).1;refine Z2 7 [0,0,0] H Z (Ab Z (Ak Z (z:=4) (j:=j) (r:=j*4) J Z Z Z U c U) (Ab Z (Bq Z Z (vs:=[I xi,I xs,I xq,xu]) J O (Az (λk u hk=>(H.rv 1 (·.rd)).at (Bu b k u hk)))) ?_));replace H:=((H.pick 3 [0,1,2] Z).toWd).l2;refine Ar Z (call50 _) (Q5 n t W a2 h A xs xq xu xV o g) H ?_;rintro _ w _ (⟨i,rfl,rfl⟩|⟨⟨l,m⟩,rfl,rfl⟩|⟨⟨p,f⟩,s,A2,a0,rfl,rfl⟩) d
  ·have H:=d.l2;refine Zc 7 Z (Zr Z ?_);exact ⟨_,.inr ⟨j,_,⟨b,a⟩,.inl ⟨i,Z,Z⟩⟩,H.pick 2 [0,1] Z⟩
  ·have H:=d.l2;refine Zc 7 Z (Zr Z ?_);exact ⟨_,.inr ⟨j,_,⟨b,a⟩,.inr (.inl ⟨⟨l,m⟩,Z,Z⟩)⟩,H.pick 2 [0,1] Z⟩
  have H:=d.l2;refine Zc 7 Z (Zr Z ?_);exact ⟨_,.inr ⟨j,_,⟨b,a⟩,.inr (.inr ⟨⟨p,f⟩,s,A2,a0,Z,Z⟩)⟩,H.pick 2 [0,1] Z⟩
 have H:=d.l2;refine Z0 18 [3] Z (Zr Z ?_);exact ⟨_,.inl ⟨y,Z,Z⟩,H.pick 2 [0,1] Z⟩
set_option maxHeartbeats 4000000 in
theorem AcA (id:Int) (k:W.length<=64) (d:∀x∈W,x.u.oneCell'=true):Aj 30 [Y n,I id] [wdA n t W] (λv G=>((∀x∈W,x.id≠id)/\v=I 31/\G=[wdA n t W])\/(∃(j:Nat) (x:Wv),(W[j]?=some x/\x.id=id)/\v=I 0/\G=[wdA n t (W.take j++W.drop (j+1))])):=by
 intro z R w H;refine Ae func30 Z ntmps30 Z (Zc 9 Z (Ar Z (call49 _) (Ie id k) H ?_));rintro _ w _ (⟨j,x,⟨r,b⟩,rfl,rfl⟩|⟨f,rfl,rfl⟩) a
 ·have H:=a.l1;refine Z0 10 [0] Z (Af Z (λs=>U) (λs=>?_))
  refine Zc 3 Z ?_;obtain ⟨uw,H⟩:=H.wd;have i:=H.sy 1 (·.slc);obtain ⟨o,e,rfl⟩:=i;have a2:=H.sy 1 (·.rd.slcapZ);have a1:=(Aed.1 r).1;refine Z2 12 [0,0,0] H Z (Ab Z (FW (z:=4) (p:=0) (q:=j) (l':=j) (c':=e) Z J Z (.inl ⟨Z,Z⟩) (.inr ⟨_,_,_,Z,Z,Z⟩) U U Z Z) ?_);replace H:=(H.nilg 40 4).l3;refine AP Z (AW 0 H Z Z J Bm Z Z (H.rv 2 (·.rd.cutW U U)) (Q4 (λy h=>d y (Afw (Afh h)))) U) ?_;rintro v1 w a;have g:([]++Bl ((W.drop 0).take j):List Value)=Bl (W.take j):=by simp
  rw[g] at a;rw[show (0+j:Nat)=j from by omega] at a;have H:=a.l3;refine Z3 12 [0,1,0] [((j+1:Nat):Int)] H Z U (Ab Z (FW (z:=4) (p:=(j+1)) (q:=W.length) (l':=W.length-(j+1)) (c':=e-(j+1)) Z J Z (.inr ⟨_,_,_,Z,Z,U⟩) (.inl ⟨Z,Z⟩) U U Z Z) (AP Z (AW 0 H Z Z J Bm Z Z (H.rv 2 (·.rd.cutW U U)) (Q4 (λy h=>d y (Afw (Afh h)))) U) ?_));rintro v2 w a;have a:Sep z (grow 40 4 v2 (j+(W.length-(j+1))) (Bl (W.take j)++Bl ((W.drop (j+1)).take (W.length-(j+1))))::blk n [.slice o W.length e,I t] 31::grow 40 4 (.slice o W.length e) W.length (Bl W)::R) w:=a;have m:(Bl (W.take j)++Bl ((W.drop (j+1)).take (W.length-(j+1))):List Value)=Bl (W.take j++W.drop (j+1)):=(by rw[F1,Ael (l:=W.drop (j+1)) (by rw[AeQ];omega)]);rw[m] at a;rw[show (j+(W.length-(j+1)):Nat)=(W.take j++W.drop (j+1)).length from by simp only[Aeg,Aez,AeQ];omega] at a;have H:=a.l3;have c:=H.sy 0 (·.slc);refine Z0 9 [0] Z (AC Z Z (Lt 1 H Z Z Z Z c.cells c.one J) ?_);rintro w H;refine Zc 8 Z (Zr Z ?_);exact ⟨_,.inr ⟨j,x,⟨r,b⟩,Z,Z⟩,(H.pick 3 [1,0] Z).toWd⟩
 have H:=a.l1;refine Z0 17 [3] Z (Zr Z ?_);exact ⟨_,.inl ⟨f,Z,Z⟩,H.pick 1 [0] Z⟩
def If(V:List Bk)(size:Int):Prop:=∃b,V[V.length-1]?=some b/\size<=b.1
theorem Ig{x x2:Wv}(h:W[i]?=some x)(k:Nat)(f:k+V.length<=4)(b:x.cells.take k++V++x.cells.drop (k+V.length)=x2.cells):(Bl W).take (i*4+k)++V++(Bl W).drop (i*4+k+V.length)=Bl (W.set i x2):=by
 obtain ⟨a,rfl⟩:=Aed.1 h;have e1:W=W.take i++W[i]::W.drop (i+1):=by rw[<-Ae1 a,AeP]
 have d:W.set i x2=W.take i++x2::W.drop (i+1):=by rw[Afc,if_pos a]
 have e:(Bl (W.take i)).length=i*4:=by rw[Aao,Aez,AeG U]
 have c:Bl W=Bl (W.take i)++(W[i].cells++Bl (W.drop (i+1))):=by
  have:=congrArg Bl e1;rw[F1] at this;exact this.trans (congrArg (Bl (W.take i)++ ·) Z)
 have g:W[i].cells.length=4:=rfl;rw[c,d,F1];rw[show i*4+k=(Bl (W.take i)).length+k by omega,Ahk,show (Bl (W.take i)).length+k+V.length=(Bl (W.take i)).length+(k+V.length) by omega,Ahl,Aev U,AeV U];have:Bl (x2::W.drop (i+1))=x2.cells++Bl (W.drop (i+1)):=by simp[Bl]
 rw[this,<-b];simp only[Aej]
set_option maxHeartbeats 4000000 in
theorem Ug (id a:Int) (a1:W.length<=64) (a2:∀x∈W,InB A x.u x.V) (o:∀x∈W,x.V.length<=1048576):Aj 32 [Y n,I id,I a] [wdA n t W,A] (λv G=>((∀x∈W,x.id≠id)/\v=I 31/\G=[wdA n t W,A])\/(∃(j:Nat) (x:Wv),(W[j]?=some x/\x.id=id)/\((¬(1<=a/\a<=1048576)/\v=I 1/\G=[wdA n t W,A])\/(((1<=a/\a<=1048576)/\If x.V a)/\v=I 33/\G=[wdA n t W,A])\/(((1<=a/\a<=1048576)/\¬If x.V a)/\v=I 0/\G=[wdA n t (W.set j {x with sz:=a}),A])))):=by
 intro z R w H;refine Ae func32 Z ntmps32 Z (Zc 9 Z (Ar Z (call49 _) (Ie id a1) H ?_));rintro _ w _ (⟨j,x,⟨f,e⟩,rfl,rfl⟩|⟨a0,rfl,rfl⟩) H'
 ·have H:=H'.l2;refine Z0 10 [0] Z (Af Z (λh1=>U) (λh1=>?_))
  refine Z0 8 [0] Z (An 16 Z (λh2=>?_) (λh2=>?_))
  ·refine Zc 12 Z (Zr Z ?_);exact ⟨_,.inr ⟨j,_,⟨f,e⟩,.inl ⟨by omega,Z,Z⟩⟩,H.pick 2 [0,1] Z⟩
  refine Z0 5 [0] Z (Af Z (λh3=>?_) (λh3=>?_))
  ·refine Zc 6 Z (Zr Z ?_);exact ⟨_,.inr ⟨j,_,⟨f,e⟩,.inl ⟨by omega,Z,Z⟩⟩,H.pick 2 [0,1] Z⟩
  refine Zc 3 Z ?_;obtain ⟨uw,H⟩:=H.wd;have a3:=H.sy 1 (·.slc);obtain ⟨aw,cw,rfl⟩:=a3;obtain ⟨xi,xs,xq,xu,d⟩:=x;have i:InB A xu d:=a2 _ (Aee f);have a4:=H.sy 2 (λq=>(i _ q).slc);have a6:d.length<=1048576:=o _ (Aee f);have c:=(H.rv 1 (·.rd)).at (Bu f 0 _ Z);have a5:=(H.rv 1 (·.rd)).at (Bu f 1 _ Z);have h:=(H.rv 1 (·.rd)).at (Bu f 3 _ Z);have a9:=(Aed.1 f).1;refine Z2 6 [0,0,0] H Z (Ab Z (Ak Z (z:=4) (j:=j) (r:=j*4) J Z Z Z U c U) (Ab Z (Bh Z (k:=3) (r:=j*4+3) J Z c Z) (Ab Z (Ay Z Z J (Az h)) (Zc 5 Z ?_))));obtain ⟨l,m,rfl⟩:=a4;refine Z0 5 [0] Z (An 31 Z (λh4=>?_) (λh4=>?_))
  ·obtain ⟨b,y⟩:∃b,d[d.length-1]?=some b:=⟨_,Aef U⟩;have g:=(H.rv 2 (i _)).at (CO y).1
   refine Z1 4 [] [((d.length-1:Nat):Int)] Z U (Ab Z (Ak Z (z:=2) (j:=(d.length-1)) (r:=(d.length-1)*2) J Z Z U U g U) (Ab Z (Bh Z (k:=0) (r:=(d.length-1)*2) J Z g Z) (Ab Z (Ay Z Z J (Az g)) (Z0 5 [0] Z (Af Z (λh5=>?_) (λh5=>?_))))))
   ·have s:If d a:=⟨b,y,by omega⟩
    refine Zc 6 Z (Zr Z ?_);exact ⟨_,.inr ⟨j,_,⟨f,e⟩,.inr (.inl ⟨⟨by omega,s⟩,Z,Z⟩)⟩,(H.pick 3 [0,1,2] Z).toWd⟩
   have s:¬If d a:=λ⟨b9,p,q⟩=>by rw[y] at p;cases p;omega
   refine Z2 10 [0,0,0] H Z (Ab Z (Ak Z (z:=4) (j:=j) (r:=j*4) J Z Z Z U c U) (Ab Z (Bh Z (k:=1) (r:=j*4+1) J Z c Z) (AC Z Z (CW 1 H Z Z Z Z (vs:=[I a]) Z (Ad Z Aw) J U (by simp only[Aei,AeD];omega) (out:=Bl (W.set j ⟨xi,a,xq,.slice l d.length m,d⟩)) (Ig (x2:=⟨xi,a,xq,.slice l d.length m,d⟩) f 1 O (by simp[Wv.cells]))) ?_)));rintro w H;refine Zc 8 Z (Zr Z ?_);exact ⟨_,.inr ⟨j,_,⟨f,e⟩,.inr (.inr ⟨⟨by omega,s⟩,Z,Z⟩)⟩,Sep.toWd (W:=W.set j ⟨xi,a,xq,.slice l d.length m,d⟩) (by rw[AeW];exact H.pick 3 [0,1,2] Z)⟩
  have s:¬If d a:=λ⟨b,y,_⟩=>by have:=(Aed.1 y).1;omega
  refine Z2 23 [0,0,0] H Z (Ab Z (Ak Z (z:=4) (j:=j) (r:=j*4) J Z Z Z U c U) (Ab Z (Bh Z (k:=1) (r:=j*4+1) J Z c Z) (AC Z Z (CW 1 H Z Z Z Z (vs:=[I a]) Z (Ad Z Aw) J U (by simp only[Aei,AeD];omega) (out:=Bl (W.set j ⟨xi,a,xq,.slice l d.length m,d⟩)) (Ig (x2:=⟨xi,a,xq,.slice l d.length m,d⟩) f 1 O (by simp[Wv.cells]))) ?_)));rintro w H;refine Zc 8 Z (Zr Z ?_);exact ⟨_,.inr ⟨j,_,⟨f,e⟩,.inr (.inr ⟨⟨by omega,s⟩,Z,Z⟩)⟩,Sep.toWd (W:=W.set j ⟨xi,a,xq,.slice l d.length m,d⟩) (by rw[AeW];exact H.pick 3 [0,1,2] Z)⟩
 have H:=H'.l2;refine Z0 17 [3] Z (Zr Z ?_);exact ⟨_,.inl ⟨a0,Z,Z⟩,H.pick 2 [0,1] Z⟩
theorem AcB{C:World->Prop}{o:Oper}{ds:List Deferred}{y:Operand}{yt:TypeId}{l m:List UInt8}(f:o.op=.binOp .add T x y yt)(c:ev L x=some (Cl l))(d:ev L y=some (Cl m))(g:l.length+m.length<=9223372036854775807):Av P C n ds L o (Cl (l++m)):=λa b w _=>by
 simp only[execOp,f,b.ev c,b.ev d,Cl];have e:∀w:World,(Op.stringOp .add ⟨l.toArray⟩ ⟨m.toArray⟩).run P w=.ok (.string ⟨(l++m).toArray⟩) w:=λw=>by
  rw[run_string_add_sum w _ _ (by simp[ByteArray.size];omega),ByteArray.mk_append_mk]
 simp[go_sem,e]
theorem WL(at_:Int)(k:Nat)(V:List Bk):(C9 at_ k V).length<=V.length:=by
 induction k with
 | zero=>exact Aek _
 | succ k ih=>exact Agu (JL _ _) ih
theorem Uh{V:List Bk}(at_:Int)(k:Nat)(h:∀j,(BU j V).length=64):(rdB V at_ k).length=64*k:=by
 induction k with
 | zero=>rfl
 | succ k ih=>simp only[rdB,Aeg,ih,h];omega
set_option maxHeartbeats 6000000 in
theorem WM (id at_ d:Int) (a4:W.length<=64) (A:Ai) (a5:∀x∈W,InB A x.u x.V) (a0:∀x∈W,x.V.length<=1048576) (j:Nat) (x:Wv) (i:W[j]?=some x) (f:x.id=id) (hu:∀(k:Nat) (y:Wv),W[k]?=some y->y.id=x.id->k=j) (b7:0<=at_/\at_<=1073741824) (hd:0<=d/\d<=64):Aj 70 [Y n,I id,I at_,I d] [wdA n t W,A] (λv G=>∃(k:Nat) (b:Value) (A2:Ai),((k:Int)=d/\Ink A A2/\InB A2 b (C9 at_ k x.V))/\v=.tuple #[]/\G=[wdA n t (W.set j ⟨x.id,x.sz,x.q,b,C9 at_ k x.V⟩),A2]):=by
 intro z R w H;refine Ae func70 Z ntmps70 Z (Zc 4 Z (Ar Z (call49 _) (Ie id a4) H ?_));rintro _ w _ (⟨j9,x9,⟨a7,m⟩,rfl,rfl⟩|⟨a1,rfl,rfl⟩) e
 ·have H:=e.l2;obtain rfl:j=j9:=(hu j9 x9 a7 (m.trans f.symm)).symm;refine Zc 4 Z ?_;obtain ⟨uw,H⟩:=H.wd;have b0:=H.sy 1 (·.slc)
  obtain ⟨s,p,rfl⟩:=b0;obtain ⟨xi,xs,xq,xu,a⟩:=x;have a8:InB A xu a:=a5 _ (Aee i);have b2:a.length<=1048576:=a0 _ (Aee i);have b1:=(Aed.1 i).1;have a3:W.set j ⟨xi,xs,xq,xu,C9 at_ 0 a⟩=W:=by obtain ⟨hl,e9⟩:=Aed.1 i;show W.set j ⟨xi,xs,xq,xu,a⟩=W;rw[<-e9];exact Ago hl
  refine Zc 5 Z ?_;refine AD (σ:=Nat×Value×Ai) (λ⟨k,b,AA⟩=>[(9,I (k:Int)),(0,Y n),(2,I at_),(3,I d),(8,I (j:Int))])
    (λ⟨k,b,AA⟩ w=>Sep z (blk n [.slice s W.length p,I t] 31::grow 40 4 (.slice s W.length p) W.length (Bl (W.set j ⟨xi,xs,xq,b,C9 at_ k a⟩))::AA::R) w/\((k:Int)<=d/\Ink A AA/\InB AA b (C9 at_ k a))) (λ⟨k,b,AA⟩=>d.toNat-k) ⟨0,xu,A⟩
    fr_z ⟨(by rw[a3];exact H),⟨by show ((0:Nat):Int)<=d;omega,Ink.refl A,a8⟩⟩ ?_
  clear H;rintro ⟨k,b,AA⟩ w ⟨e,hI⟩;dsimp only at hI e ⊢;have H:=e.l3;obtain ⟨b3,hK,l⟩:=hI;refine Z0 6 [0] Z (An 15 Z (λh1=>?_) (λh1=>?_))
  ·refine Z0 6 [0] Z (Af Z (λh2=>?_) (λh2=>?_))
   ·refine Zc 4 Z ?_;have o:(W.set j ⟨xi,xs,xq,b,C9 at_ k a⟩)[j]?=some ⟨xi,xs,xq,b,C9 at_ k a⟩:=Afy b1
    have c:=(H.rv 1 (·.rd)).at (Bu o 0 _ Z);have b6:=WL at_ k a;refine Bp (Sep z (blk n [.slice s W.length p,I t] 31::grow 40 4 (.slice s W.length p) W.length (Bl (W.set j ⟨xi,xs,xq,b,C9 at_ k a⟩))::R)) 18 Z J (A4 H λw e=>?_);have H:=e.l3;refine Bv [0,1,2,3,4,5,6,7,8,9] [0,0,0,0] J (λ_ i=>(AR (i.blk 0 Z) AN)) (by exact H.pick 3 [0,1] Z) Z J Z Z (BG 10 J Z Z J J J Z Z Z (Ak Z (z:=4) (j:=j) (r:=j*4) J Z Z Z U c U) (H.pick 3 [0,1] Z) (BG 11 J Z Z J J J Z Z Z (Bq Z Z (vs:=[I xi,I xs,I xq,b]) J O (λ_ a9=>(λk' u hk=>(a9.rv 1 (·.rd)).at (Bu o k' u hk)))) (H.pick 3 [0,1] Z) (Bv [12,13] [] J (λ_ _=>AN) (by exact H.pick 3 [0,1] Z) Z J Z Z (BG 14 J Z Z J J J Z Z Z (C3 Z Z Z (r:=at_+(k:Int)) U U) (H.pick 3 [0,1] Z) (AF [15] J O (Am (Bt Z Z Z Z Z Z (λw=>call119 _ w) (QS (at_+(k:Int)) AA l U) H.f2 Z ?_)))))));rintro _ w _ ⟨g,rfl,rfl⟩ H;have a6:=H.sy 0 (·.rd.slc);refine Au (λ_=>(H.pick 4 [2,3] Z)) (BG 16 J Z Z J J J Z Z Z (Ak Z (z:=4) (j:=j) (r:=j*4) J Z Z Z U c U) (H.pick 4 [2,3] Z) (AF [17] J O (Am (Bj Z Z Z (CW 3 H Z Z Z Z (vs:=[I xi,I xs,I xq,g]) Z (Ad Z (Ad Z (Ad Z (Ad a6.one Aw)))) J U (by simp only[Aei,AeD];omega) (out:=Bl ((W.set j ⟨xi,xs,xq,b,C9 at_ k a⟩).set j ⟨xi,xs,xq,g,C9 at_ (k+1) a⟩)) (Ig (x2:=⟨xi,xs,xq,g,C9 at_ (k+1) a⟩) o 0 O (by simp[Wv.cells]))) ?_))));rintro w H;refine Au (λh=>absurd Z h) (Bo J (gn (Zc 2 Z ?_)));rw[AgW] at H;have e:=(H.pick 4 [0,1,2,3] Z).made 2 (A:=both (grow 90 2 g ((C9 at_ (k+1) a).length) (BY (C9 at_ (k+1) a))) AA) (λh q=>q);clear H;have H:Sep z (both (grow 90 2 g ((C9 at_ (k+1) a).length) (BY (C9 at_ (k+1) a))) AA::blk n [.slice s W.length p,I t] 31::grow 40 4 (.slice s W.length p) W.length (Bl (W.set j ⟨xi,xs,xq,g,C9 at_ (k+1) a⟩))::R) w:=e;clear e;refine Z1 5 [] [(k:Int)+1] Z U ?_;replace H:=H.f2.f2;refine gf ?_;intro _ hF;refine ⟨⟨k+1,g,both (grow 90 2 g ((C9 at_ (k+1) a).length) (BY (C9 at_ (k+1) a))) AA⟩,hF.cz,⟨H,?_⟩,?_⟩
    ·exact ⟨by show ((k+1:Nat):Int)<=d;omega,hK.trans (Ink.both _ AA),InB.grow⟩
    (dsimp only;omega)
   refine Zc 2 Z (gx (Zc 1 Z (Zf Z ?_)));have a2:(k:Int)=d:=by omega
   exact ⟨_,⟨k,b,AA,⟨a2,hK,l⟩,Z,Z⟩,Sep.toWd (W:=(W.set j ⟨xi,xs,xq,b,C9 at_ k a⟩)) (by rw[AeW];exact H.pick 3 [0,1,2] Z)⟩
  (exfalso;omega)
 exact absurd f (a1 _ (Aee i))
set_option maxHeartbeats 6000000 in
theorem Aap (id at_ a:Int) (a2:W.length<=64) (A:Ai) (a3:∀x∈W,InB A x.u x.V) (g:∀x∈W,x.V.length<=1048576) (s:∀x∈W,1<=x.sz/\x.sz<=1048576) (i:∀x∈W,∀j,(BU j x.V).length=64) (h: -9223372036854775808<=at_/\at_<=9223372036854775807) (a1: -9223372036854775808<=a/\a<=9223372036854775807):Aj 28 [Y n,I id,I at_,I a] [wdA n t W,A] (λv G=>((∀x∈W,x.id≠id)/\v=.tuple #[Cl [],I 31]/\G=[wdA n t W,A])\/(∃(j:Nat) (x:Wv),(W[j]?=some x/\x.id=id)/\((Br x.sz true at_ a≠0/\v=.tuple #[Cl [],I (Br x.sz true at_ a)]/\G=[wdA n t W,A])\/(Br x.sz true at_ a=0/\v=.tuple #[Cl (rdB x.V at_ a.toNat),I 0]/\G=[wdA n t W,A])))):=by
 intro z R w H;refine Ae func28 Z ntmps28 Z (Zc 12 Z (Ar Z (call67 _) (Ml a2 s h a1) H ?_));rintro _ w _ (⟨a0,rfl,rfl⟩|⟨j,x,⟨b,c⟩,rfl,rfl⟩) y
 ·have H:=y.l2;refine Z0 23 [3] Z (Zr Z ?_);exact ⟨_,.inl ⟨a0,Z,Z⟩,H.pick 2 [0,1] Z⟩
 have H:=y.l2;refine Z0 14 [0] Z (Af Z (λh1=>?_) (λh1=>?_))
 ·refine Zc 8 Z (Zr Z ?_);exact ⟨_,.inr ⟨j,x,⟨b,c⟩,.inl ⟨by assumption,Z,Z⟩⟩,H.pick 2 [0,1] Z⟩
 refine Zc 9 Z ?_;have hE:Br x.sz true at_ a=0:=Aff λq=>by contradiction
 refine AB 10 (v:=I (j:Int)) Z (congrArg I (if_pos hE)) ?_;have a4:=FZ hE;have b1:=s x (Aee b);obtain ⟨uw,H⟩:=H.wd;have a6:=H.sy 1 (·.slc);obtain ⟨aw,cw,rfl⟩:=a6;obtain ⟨xi,xs,xq,xu,e⟩:=x;have o:InB A xu e:=a3 _ (Aee b);have d:=(H.rv 1 (·.rd)).at (Bu b 0 _ Z);have b5:=(Aed.1 b).1;have f:=i _ (Aee b);refine Zc 5 Z ?_;refine AD (σ:=Nat) (λk=>[(13,I (k:Int)),(12,Cl (rdB e at_ k)),(0,Y n),(2,I at_),(3,I a),(8,Cl []),(9,I 0),(10,I (j:Int))])
   (λk w=>Sep z (blk n [.slice aw W.length cw,I t] 31::grow 40 4 (.slice aw W.length cw) W.length (Bl W)::A::R) w/\((k:Int)<=a)) (λk=>a.toNat-k) 0
   (λ_ p=>(p.co Z (by go_num) p.cz)) ⟨H,U⟩ ?_
 clear H;rintro k w ⟨y,hI⟩;have H:=y.l3;have b2:=hI;clear hI;refine Z0 8 [0] Z (Af Z (λh2=>?_) (λh2=>?_))
 ·refine Zc 4 Z ?_;have a9:=Uh at_ k f
  have a8:=f (at_+(k:Int));refine Z2 7 [0,0,0] H Z (Ab Z (Ak Z (z:=4) (j:=j) (r:=j*4) J Z Z Z U d U) (Ab Z (Bq Z Z (vs:=[I xi,I xs,I xq,xu]) J O (Az (λk u hk=>(H.rv 1 (·.rd)).at (Bu b k u hk)))) (Z1 3 [] [at_+(k:Int)] Z U (z_E_ Z (call14 _) (O5 o) H.f2 ?_))));intro w H;refine Ab Z (AcB (l:=rdB e at_ k) (m:=BU (at_+(k:Int)) e) Z Z Z (by dsimp only at a8 a9;omega)) (Z1 9 [] [(k:Int)+1] Z U ?_);replace H:=H.f2.f2;refine gf ?_;intro _ p;refine ⟨(k+1),(p.co Z (by go_num) p.cz),⟨H,?_⟩,?_⟩
  ·show ((k+1:Nat):Int)<=a;omega
  omega
 refine Zc 2 Z (gx (Zc 10 Z (Zr Z ?_)));obtain rfl:k=a.toNat:=by omega
 exact ⟨_,.inr ⟨j,_,⟨b,c⟩,.inr ⟨hE,Z,Z⟩⟩,(H.pick 3 [0,1,2] Z).toWd⟩
theorem WN:Aj 21 [] [] (λv G=>∃b:Nat,v=Y b/\G=[wdA b 1 []]):=by
 intro z R w H;refine Ae func21 Z ntmps21 Z (Za 8 [] H Z ?_);intro c w H;refine Zc 4 Z (Zr Z ?_);have a:=H.nilg 40 4;exact ⟨_,⟨c,Z,Z⟩,Sep.toWd (W:=[]) (a.pick 2 [1,0] Z)⟩
theorem WO(g a:Value)(c:∀h,A h->rdH 6 g 8 (Be (List.replicate 8 v0)) h):Aj 116 [.agg #[I 1,g,a]] [A,Cz a ([])] (λv G=>v=.bool true/\G=[A,Cz a []]):=by
 intro z R w H;obtain ⟨n,f,rfl⟩:=H.sy 0 (λq=>(c _ q).slc);refine Ae func116 Z ntmps116 Z (Za 2 [] H Z ?_);intro p w H;refine Z2 18 [1,0,0] H Z ?_;refine AD (σ:=Nat) (λi=>[(10,I (i:Int)),(1,Y p),(8,.slice n 8 f),(9,I 8)])
   (λi w=>Sep z (blk p [I 1,.slice n 8 f,a] 83::A::Cz a ([])::R) w/\(i<=8)) (λi=>8-i) 0
   fr_z ⟨H,AeN _⟩ ?_
 clear H;rintro i w ⟨H',o⟩;have H:=H'.l3;have hi:=o;clear o;refine Z0 6 [0] Z (Af Z (λt=>?_) (λt=>?_))
 ·refine Zc 5 Z ?_;have e:(List.replicate 8 v0)[i]?=some v0:=by rw[List.getElem?_replicate,if_pos U]
  have b:=(H.rv 1 (c _)).at (AV e 0 _ Z);refine Zc 1 Z (Ab Z (Ak Z (z:=6) (j:=i) (r:=i*6) J Z Z Z U b U) (Ab Z (Bq Z Z (vs:=v0.cells) J (by simp[Vl.cells]) (Az (λk u y=>(H.rv 1 (c _)).at (AV e k u y)))) (Za 0 [] H Z ?_)));intro b2 w H;refine Z4 7 [0,0,6] H Z ?_;intro w H;refine Ab Z (Bg Z Z (out:=[I 0,I 0,I 0,I 0,I 0,I 0]) J) (Ab Z (T9 (cs:=[(0:Int),0,0,0,0,0]) (es:=[(0:Int),0,0,0,0,0]) (m:=6) Z J Z Z J J Z Z) (Zc 2 Z (Af Z (λl=>?_) (λl=>?_))))
  ·refine Z1 8 [] [(i:Int)+1] Z U ?_;replace H:=H.d;refine gf ?_;intro _ x;refine ⟨(i+1),x.cz,⟨H,?_⟩,?_⟩
   ·omega
   omega
  exact absurd Z l
 refine Zc 2 Z (gx (Zc 8 Z (Zr Z ?_)));exact ⟨_,⟨Z,Z⟩,H.pick 3 [1,2] Z⟩
set_option maxHeartbeats 2000000 in
theorem Aaq (n:Nat) {G:StG} (mb:Nat) (hF:Fine D G mb) (hn:((0:Nat):Int)<G.x.pages) (d:G.M 0=⟨1,Dr 1 [] (List.replicate 8 v0)⟩):Aj 63 [Y m] [plB m i j g n b,stoA i r D G none] (λv X=>∃u:Nat,v=.tuple #[Y u,I 0]/\X=[voA u m 1 [] (List.replicate 8 v0),plB m i j g n b,stoA i r D G none]):=by
 intro z R w H;replace H:=H.l2;refine Ae func63 Z ntmps63 Z (Z2 23 [0,0,0,0] H Z (Ar Z (call85 _) (Lf i r D G none 0 hn hF.clean.f1 ⟨1,Dr 1 [] (List.replicate 8 v0)⟩ d.symm) H.f1 ?_));rintro _ w _ (⟨l,rfl,rfl⟩|⟨t,rv,rfl,rfl⟩) f
 ·exact absurd (congrArg Pg.kind l) (by show (1:Int)≠0;decide)
 have H:=f.l3;obtain ⟨k,a,rest,rfl,c1,c2,c3,H⟩:=H.ungrow 0 Z U;replace H:=H.l3;refine Za 3 [] H Z ?_;intro b1 w H;refine Z4 18 [0,4,1,0,0] H Z ?_;intro w H;refine Ar Z (call115 _) (T6 k 0 a (Dr 1 [] (List.replicate 8 v0)) (blk k ((Dr 1 [] (List.replicate 8 v0)).map u8++rest) 5) (λh q=>q.rd U U (by rw[Aeg,Aeh,Kt O O];omega) (by rw[Aew,AeR,AeI (by rw[Aeh,Kt O O])])) 1 [] (List.replicate 8 v0) O O U O (λe y=>by rw[(Af4.1 y).2];exact v0_fit) Z) H.f1 ?_;rintro _ w _ ⟨c,cs,p,rfl,rfl⟩ H;replace H:=H.l6;have f:=H.mono 1 (B:=Cz cs []) Z (λh q=>⟨q,λ_=>p Z⟩);clear H;have H:Sep z (grow 77 6 c 8 (Be (List.replicate 8 v0))::Cz cs ([])::blk k ((Dr 1 [] (List.replicate 8 v0)).map u8++rest) 5::blk b1 [I 1,.slice (some ⟨k,0,none⟩) 240 a] 104::stoA i r D G none::plB m i j g n b::R) w:=f;clear f;have s:=H.sy 0 (·.slc);have o:=H.sy 1 (·.1.slc);refine Za 3 [] H Z ?_;intro b2 w H;refine AC Z Z (Al 0 H Z Z Z Z (vs:=[I 1,c,cs]) Z (Ad Z (Ad s.one (Ad o.one Aw))) J O (out:=[I 1,c,cs]) Z) ?_;rintro w H;replace H:=H.l7;refine Z2 15 [0,4,0,4,0,3] H Z (z_E_ Z (call116 _) (WO c cs (λh q=>q.rd)) H.f2.f2 ?_);intro w H;refine Z2 11 [2,3] H Z (Ab Z (Bg Z Z (out:=[Y m,I 1,c,cs]) J) (Za 0 [] H Z ?_));intro b3 w H;refine Zc 5 Z (Zr Z ?_);exact ⟨_,⟨_,Z,Z⟩,(H.pick 8 [0,1,2,7,6] Z).toVo (vs:=(List.replicate 8 v0))⟩
section
variable{Tb:Ai}
theorem F2(N:Nat)(e: -9223372036854775808<=t/\t<=9223372036854775807)(hN:0<N/\N<=1099511627776):Aj 8 [I t,I (N:Int)] [] (λv G=>v=I (pkI t N:Int)/\G=[]):=by
 intro z R w H;refine Ae func8 Z ntmps8 Z (Z0 12 [0] Z (Af Z (λd=>?_) (λd=>?_)))
 ·refine Z1 3 [] [t+1] Z U (Ab Z (PN Z Z (r:= -(t+1)) U U) (Zc 7 Z (Ab Z (Re Z Z Z U) ?_)))
  have b:=AhG (N:Int) (show 0<= -(t+1) by omega);refine Zc 4 Z (Zr Z ?_);have c:(-(t+1)).tmod (N:Int)=(pkI t N:Int):=by unfold pkI;rw[if_pos U];omega
  exact ⟨_,⟨congrArg I c,Z⟩,H⟩
 refine Zc 6 Z (Ab Z (Re Z Z Z U) ?_);have b:=AhG (N:Int) (show 0<=t by omega);refine Zc 4 Z (Zr Z ?_);have c:t.tmod (N:Int)=(pkI t N:Int):=by unfold pkI;rw[if_neg U];omega
 exact ⟨_,⟨congrArg I c,Z⟩,H⟩
set_option maxHeartbeats 2000000 in
theorem Aar (n:Nat) (y:16<=n/\n<=1024) (Tb:Ai) (hT:Ht Tb) {a:StG} (bs:List UInt8) (q:bs.length=256) (r:bs=AK (Cd 1 [] (List.replicate 8 v0) (List.replicate 8 v0).length)) (hO:OInv D a.x a.B (λb=>b=a.rs)) (u:Clean D) (j:a.x.gen<=((5:Nat):Int)/\a.x.epoch<=((5:Nat):Int)) (g:a.x.pages=n) (hM:a.M=El (λ_=>noPg) (some (gF n (bs.take 240) (manyN n),1+manyN n))):Aj 20 [Y i] [diskA i D,Tb] (λv G=>∃s pp:Nat,v=Y s/\G=[voA s pp 1 [] (List.replicate 8 v0),trA Tb pp 6 n (FG n) none]):=by
 intro z R w H;refine Ae func20 Z ntmps20 Z (Zc 8 Z (Ar Z (call52 _) (TG hO u j U) H ?_));rintro _ w _ ⟨ps,D3,b,h,c,a0,rfl,rfl⟩ H;have l:pgMap (ov b) a.B=a.M:=by rw[h];rfl
 obtain ⟨f,d⟩:=TV (n:=n) q (l.trans hM);refine Z0 24 [4] Z (Ar Z (call62 _) (Zp 6 n (C1 (manyN n+1)) c y g (bs.take 240) f d (λk=>RS k) (λp hp=>by unfold C1;rw[if_pos U])) H ?_);rintro _ w _ ⟨pp,pc,bn,m,pa,rfl,rfl⟩ H;refine Z0 24 [4] Z (Ar Z (call63 _) (Aaq n 6 c (by show (0:Int)<a.x.pages;omega) (f.trans (by rw[r];rfl))) H.f1 ?_);rintro _ w _ ⟨s,rfl,rfl⟩ H;refine Z0 24 [4] Z (Zr Z ?_);have H8:=(H.pick 8 [1,2,3,4,5,6,7,0] Z).toPo (X:=⟨ps,i,pc,bn,m,pa,D3,(Qx a.x (pgMap (ov b) a.B)),Dq,[],0,BX,Tb⟩) (mb:=6) (n:=n) (M0:=pgMap (ov b) a.B) (C0:=C1 (manyN n+1)) (t:=none) ⟨y,c,g,⟨hT,Z⟩,λp _=>rfl,d,λk=>RS k,λp hp=>(by unfold C1;rw[if_pos U]),λ_=>⟨Z,Z⟩,λ_ e=>(by cases e)⟩ Z;have H9:=Sep.toTr0 (o:=FG n) H8 (ZS n);exact ⟨_,⟨_,_,Z,Z⟩,H9.pick 2 [1,0] Z⟩
set_option maxHeartbeats 2000000 in
theorem Pk (n:Nat) (i:16<=n/\n<=1024) (Tb:Ai) (l:Ht Tb):Aj 5 [I (n:Int)] [Tb] (λv G=>∃j pd e pp b:Nat,v=.tuple #[Y j,.bool true]/\G=[blk j [Y pd,Y e,Y b] 36,voA e pp 1 [] (List.replicate 8 v0),trA Tb pp 6 n (FG n) none,wdA b 1 []]):=by
 intro z R w H;refine Ae func5 Z ntmps5 Z (Zc 8 Z (Ar Z (call18 _) (Abr 1200) H ?_));rintro _ w _ (⟨h,rfl,rfl⟩|⟨_,pd,rfl,rfl⟩) p
 ·exact absurd U h
 have H:=p.l2;refine Z0 19 [4] Z (Ar Z (call19 _) (RZ 1200 n i (Acd U)) H ?_);rintro _ w _ ⟨D2,G2,bs,a,d,m,f,c,k,g,o,rfl,rfl⟩ H;refine Z0 10 [4] Z (Ar Z (call20 _) (Aar n i Tb l bs a d m f c g o) H ?_);rintro _ w _ ⟨e,pp,rfl,rfl⟩ H;refine Zc 7 Z (Ar Z (call21 _) (WN) H ?_);rintro _ w _ ⟨b,rfl,rfl⟩ H;refine Za 1 [] H Z ?_;intro q w H;refine Zc 7 Z (Zr Z ?_);exact ⟨_,⟨_,_,_,_,_,Z,Z⟩,H.pick 4 [0,2,3,1] Z⟩
end
def mV(cc:Int)(od:Bool):Nat:=if od=true then pkI cc 11*64+7 else pkI cc 11*64
theorem XF(cc:Int)(od:Bool):mV cc od<711:=by
 have:=OX cc (show 0<11 by omega);unfold mV;split<;>omega
def Q6(W:List Wv)(ci:Int):Int:=if 0<W.length/\0<=ci/\ci<100 then ((W[(ci%(W.length:Int)).toNat]?).map Wv.id).getD ci else ci
def KpW(W W2:List Wv)(id:Int):Prop:=∀y∈W,y.id≠id->y.core∈W2.map Wv.core
def KpE(W W2:List Wv)(id kd:Int):Prop:=KpW W W2 id/\(pkI kd 10=2->W2.map Wv.core=W.map Wv.core)
theorem KpW.eq{W2:List Wv}{id:Int}(h:W2.map Wv.core=W.map Wv.core):KpW W W2 id:=λy a _=>h▸Aem.2 ⟨y,a,Z⟩
theorem KpE.eq{W W2:List Wv}{id kd:Int}(h:W2.map Wv.core=W.map Wv.core):KpE W W2 id kd:=⟨.eq h,λ_=>h⟩
theorem KpW.app{W2 X:List Wv}{id:Int}(h:W2.map Wv.core=W.map Wv.core):KpW W (W2++X) id:=λy a _=>by
 rw[AeH,h];exact Agb _ (Aem.2 ⟨y,a,Z⟩)
theorem KpW.set{W:List Wv}{id:Int}{j:Nat}{x x2:Wv}(f:W[j]?=some x)(d:x.id=id):KpW W (W.set j x2) id:=λy g b=>by
 obtain ⟨a,e⟩:=AeX.1 g;have c:j≠a:=λq=>by subst q;rw[f] at e;cases e;exact b d
 exact Aem.2 ⟨y,Aee (by rw[Aga c];exact e),Z⟩
theorem KpW.del{id:Int}{x:Wv}(c:W[j]?=some x)(b:x.id=id):KpW W (W.take j++W.drop (j+1)) id:=λy d a=>by
 refine Aem.2 ⟨y,?_,Z⟩;have f:=(Aed.1 c).1;have e:W=W.take j++x::W.drop (j+1):=by
  have:=AeP j W;rw[Ae1 f,show W[j]=x from (Aed.1 c).2] at this;exact this.symm
 rw[e] at d;rcases Aer.1 d with q|q
 ·exact Agb _ q
 rcases Aep.1 q with rfl|q
 ·exact absurd b a
 exact Agm _ q
theorem KpW.tr{Wc W2:List Wv}{id:Int}(h:Wc.map Wv.core=W.map Wv.core)(k:KpW Wc W2 id):KpW W W2 id:=λy b a=>by
 have:y.core∈Wc.map Wv.core:=h▸Aem.2 ⟨y,b,Z⟩;obtain ⟨z,c,e⟩:=Aem.1 this;have:=k z c (by have:=congrArg Prod.fst e;simp only[Wv.core] at this;omega);rwa[e] at this
theorem WP{d cs cq:Int}{od:Bool}(y: -9223372036854775808<=d/\d<=9223372036854775807)(j: -9223372036854775808<=q/\q<=9223372036854775807):Aj 11 [.agg #[I t,I s,I p,I q,I d,I cs,I cq,.bool c,.bool od]] [] (λv G=>∃(b:Nat) (bs:List UInt8),bs.length=mV q od/\v=.slice (some ⟨b,0,none⟩) bs.length bs.length/\G=[blk b (bs.map u8) 5]):=by
 intro z R w H;have o:=OX q (show 0<11 by omega);refine Ae func11 Z ntmps11 Z (Za 2 [] H Z ?_);intro h w H;refine Z2 7 [3,0,0] H Z (z_E_ Z (call8 _) (F2 11 j U) H ?_);intro w H;refine Z1 4 [] [((pkI q 11*64:Nat):Int)] Z U (Xn (λa w=>∃(m:Nat),Fr 35 [] [(3,I (m:Int)),(0,.agg #[I t,I s,I p,I q,I d,I cs,I cq,.bool c,.bool od]),(1,Y h),(2,.slice none 0 0),(6,.pointer (some ⟨h,3,none⟩)),(7,I q),(8,I (pkI q 11:Int)),(9,I ((pkI q 11*64:Nat):Int))] a/\Sep z (blk h [I t,I s,I p,I q,I d,I cs,I cq,.bool c,.bool od] 28::R) w/\(m=mV q od)) ?_ ?_)
 ·refine Z2 6 [8,0,0] H Z (Es Z (λr=>?_) (λr=>?_))
  ·refine Z1 5 [] [((pkI q 11*64+7:Nat):Int)] Z U ?_;exact gf λ_ e=>⟨(pkI q 11*64+7),e.cz,H,(by unfold mV;first|rw[if_pos (by assumption)]|rw[if_pos (by simp_all)])⟩
  refine Zc 1 Z ?_;exact gf λ_ e=>⟨(pkI q 11*64),e.cz,H,(by unfold mV;first|rw[if_neg (by assumption)]|rw[if_neg (by simp_all)])⟩
 rintro a w ⟨m,e,H,g⟩;revert a;have hm:=g;clear g;have u:=XF q od;refine Zc 3 Z (AP Z (Eo (k:=m) H Z J CL Z Z Z U) ?_);rintro _ w ⟨l,rfl,H⟩;refine Zc 10 Z ?_;refine AD (σ:=Nat×List UInt8) (λ⟨i,bs⟩=>[(5,I (i:Int)),(1,Y h),(2,.slice none 0 0),(3,I (m:Int)),(4,.slice (some ⟨l,0,none⟩) m m)])
   (λ⟨i,bs⟩ w=>Sep z (blk l (bs.map u8) 5::blk h [I t,I s,I p,I q,I d,I cs,I cq,.bool c,.bool od] 28::R) w/\(i<=m/\bs.length=m)) (λ⟨i,bs⟩=>m-i) ⟨0,List.replicate m 0⟩
   fr_z ⟨(by simpa [u8] using H),⟨AeN _,by simp⟩⟩ ?_
 clear H;rintro ⟨i,bs⟩ w ⟨n,g⟩;dsimp only at g n ⊢;have H:=n.l2;obtain ⟨hi,f⟩:=g;refine Z0 8 [0] Z (Af Z (λx=>?_) (λx=>?_))
 ·refine Z3 12 [4,1,0] [(i:Int)/64,(i:Int)/64*3] H Z U (Ab Z (SC Z Z Z) (Z1 2 [] [(i:Int)%2] Z U (Ab Z (SC Z Z Z) (Ab Z (Rj Z J Z) (Z1 1 [1,i,i] [] Z U (AC Z Z (Al 0 H Z Z Z Z (vs:=[u8 (GI (IntKind.i64.wrap (IntKind.i64.wrap (d+(i:Int)/64*3)+(i:Int)%2)))]) Z (Ad Z Aw) J (by simp only[Aeh,Aei,AeD];omega) (out:=(bs.set i (GI (IntKind.i64.wrap (IntKind.i64.wrap (d+(i:Int)/64*3)+(i:Int)%2)))).map u8) (Acf U)) ?_))))));rintro w H;refine Z1 8 [] [(i:Int)+1] Z U (gf ?_);intro _ e;refine ⟨⟨i+1,bs.set i (GI (IntKind.i64.wrap (IntKind.i64.wrap (d+(i:Int)/64*3)+(i:Int)%2)))⟩,e.cz,⟨H,?_⟩,?_⟩
  ·exact ⟨by show i+1<=m;omega,by show (bs.set i _).length=m;rw[AeW];exact f⟩
  (dsimp only;omega)
 refine Zc 2 Z (gx (Zc 9 Z (Zr Z ?_)));exact ⟨_,⟨l,bs,by omega,by rw[f],Z⟩,H.pick 2 [0] Z⟩
theorem Pm(vs:List Vl)(b:∀h,A h->rdH 6 u vs.length (Be vs) h)(hv:vs.length=8):Aj 118 [.agg #[I t,u,y]] [A,Cz y ([])] (λv G=>∃g:Bool,((∀e∈vs,e.st≠0)->g=true)/\v=.bool g/\G=[A,Cz y []]):=by
 intro z R w H;obtain ⟨x,n,rfl⟩:=H.sy 0 (λq=>(b _ q).slc);refine Ae func118 Z ntmps118 Z (Za 2 [] H Z ?_);intro f w H;refine Zc 10 Z ?_;refine AD (σ:=Nat) (λi=>[(3,I (i:Int)),(1,Y f)])
   (λi w=>Sep z (blk f [I t,.slice x vs.length n,y] 83::A::Cz y ([])::R) w/\(i<=vs.length)) (λi=>vs.length-i) 0
   fr_z ⟨H,AeN _⟩ ?_
 clear H;rintro i w ⟨p,d⟩;have H:=p.l3;have hi:=d;clear d;refine Z2 10 [1,0,0,0] H Z (Af Z (λm=>?_) (λm=>?_))
 ·refine Zc 5 Z ?_;obtain ⟨e,c⟩:∃e,vs[i]?=some e:=⟨_,Aef U⟩;have a:=(H.rv 1 (b _)).at (AV c 1 _ Z)
  refine Z2 4 [1,0,0] H Z (Ab Z (Ak Z (z:=6) (j:=i) (r:=i*6) J Z Z Z U a U) (Ab Z (Bh Z (k:=1) (r:=i*6+1) J Z a Z) (Ab Z (Ay Z Z J (Az a)) (Z0 3 [0] Z (Af Z (λs=>?_) (λs=>?_))))))
  ·refine Zc 6 Z (Zr Z ?_);exact ⟨_,⟨false,λq=>absurd (by assumption) (q e (Aee c)),Z,Z⟩,H.pick 3 [1,2] Z⟩
  refine Z1 8 [] [(i:Int)+1] Z U (gf ?_);intro _ o;refine ⟨(i+1),o.cz,⟨H,?_⟩,?_⟩
  ·omega
  omega
 refine Zc 2 Z (gx (Zc 8 Z (Zr Z ?_)));exact ⟨_,⟨true,λ_=>rfl,Z,Z⟩,H.pick 3 [1,2] Z⟩
theorem Aas{vs:List Vl}(d:vs.length=8):Aj 66 [Y n,I s,I p] [blk n [Y m,Y i,Y j] 36,voA i g t ([]) vs] (λv G=>∃k:Bool,((s=20/\p<25)\/(s=32/\∀x∈vs,x.st≠0)->k=true)/\v=.bool k/\G=[blk n [Y m,Y i,Y j] 36,voA i g t [] vs]):=by
 intro z R w H;refine Ae func66 Z ntmps66 Z (Z0 10 [0] Z (An 9 Z (λl=>?_) (λl=>?_)))
 ·refine Z0 4 [0] Z (An 13 Z (λh2=>?_) (λh2=>?_))
  ·refine Zc 15 Z (Zr Z ?_);exact ⟨_,⟨_,(by rintro (⟨c,a⟩|⟨c,a⟩)<;>first|rfl|(exfalso;omega)|exact b a|simp_all),Z,Z⟩,H.pick 2 [0,1] Z⟩
  refine Z0 3 [0] Z (An 16 Z (λr=>?_) (λr=>?_))
  ·refine Z2 4 [1,0,0] H Z (Ar Z (call77 _) (Lp d O) H.f1 ?_);rintro _ w _ ⟨y,cs,rfl,rfl⟩ H
   refine Ar Z (call118 _) (Pm vs (λh q=>q.rd) d) H ?_;rintro _ w _ ⟨o,b,rfl,rfl⟩ H;refine Zc 6 Z (Zr Z ?_);exact ⟨_,⟨_,(by rintro (⟨c,a⟩|⟨c,a⟩)<;>first|rfl|(exfalso;omega)|exact b a|simp_all),Z,Z⟩,H.pick 4 [3,2] Z⟩
  refine Zc 12 Z (Zr Z ?_);exact ⟨_,⟨_,(by rintro (⟨c,a⟩|⟨c,a⟩)<;>first|rfl|(exfalso;omega)|exact b a|simp_all),Z,Z⟩,H.pick 2 [0,1] Z⟩
 refine Z0 7 [0] Z (An 16 Z (λu=>?_) (λu=>?_))
 ·refine Z2 4 [1,0,0] H Z (Ar Z (call77 _) (Lp d O) H.f1 ?_);rintro _ w _ ⟨y,cs,rfl,rfl⟩ H
  refine Ar Z (call118 _) (Pm vs (λh q=>q.rd) d) H ?_;rintro _ w _ ⟨o,b,rfl,rfl⟩ H;refine Zc 6 Z (Zr Z ?_);exact ⟨_,⟨_,(by rintro (⟨c,a⟩|⟨c,a⟩)<;>first|rfl|(exfalso;omega)|exact b a|simp_all),Z,Z⟩,H.pick 4 [3,2] Z⟩
 refine Zc 12 Z (Zr Z ?_);exact ⟨_,⟨_,(by rintro (⟨c,a⟩|⟨c,a⟩)<;>first|rfl|(exfalso;omega)|exact b a|simp_all),Z,Z⟩,H.pick 2 [0,1] Z⟩
theorem Sb{cc cf cs cq:Int}{o:Int}(a0:W.length<=64):Aj 17 [Y n,.agg #[I t,I s,I p,I cc,I cf,I cs,I cq,.bool b,.bool c]] [blk n [Y m,Y e,Y g] 36,wdA g o W] (λv G=>∃i:Int,((0<W.length/\0<=s/\s<100->∃x∈W,x.id=i)/\i=Q6 W s)/\v=I i/\G=[blk n [Y m,Y e,Y g] 36,wdA g o W]):=by
 intro z R w H;replace H:=H.l2;replace H:=H.f1;obtain ⟨uw,H⟩:=H.wd;replace H:=H.l3;have l:=H.sy 1 (·.slc);obtain ⟨aw,cw,rfl⟩:=l;refine Ae func17 Z ntmps17 Z (Za 2 [] H Z ?_);intro b1 w H;refine Z2 16 [2,3,0,0,1,0,0] H Z (An 14 Z (λu=>?_) (λu=>?_))
 ·refine Z2 5 [1,0,0,0] H Z (An 19 Z (λh2=>?_) (λh2=>?_))
  ·refine Z2 6 [1,0,0,0] H Z (Af Z (λh3=>?_) (λh3=>?_))
   ·refine Zc 1 Z ?_;have h:=Agn s (show (W.length:Int)≠0 by omega)
    have a2:=Af5 s (show (0:Int)<W.length by omega);obtain ⟨j,y⟩:∃j:Nat,(j:Int)=s%(W.length:Int):=⟨_,Int.toNat_of_nonneg h⟩;obtain ⟨x,f⟩:∃x,W[j]?=some x:=⟨_,Aef U⟩;have a:=(H.rv 2 (·.rd)).at (Bu f 0 _ Z);refine By (Sep z _) J J H.drew (Hb 18 [2,3,0,0,1,0,1,0,0,2,3,0,0,1,0] [s%(W.length:Int)] Z J U (AM Z Z Z (Ak Z (z:=4) (j:=j) (r:=j*4) J Z Z U U a U) (AM Z Z Z (Bh Z (k:=0) (r:=j*4) J Z a Z) (AM Z Z Z (Ay Z Z J (λ_ hs=>(hs.rv 2 (·.rd)).at (Bu f 0 _ Z))) (B4 1 [] Z J (BL (λw d=>?_)))))));have H:=d.l4;refine gn (Zc 2 Z (Zr Z ?_));have d:=(H.pick 4 [1,2,3] Z).toWd;exact ⟨_,⟨_,⟨(λ_=>⟨x,Aee f,Z⟩),(by unfold Q6;rw[if_pos ⟨by omega,by omega,by omega⟩,<-y,Ae6,f];rfl)⟩,Z,Z⟩,d.pick 2 [1,0] Z⟩
   refine Z2 10 [1,0,0] H Z (Zr Z ?_);have d:=(H.pick 4 [1,2,3] Z).toWd;exact ⟨_,⟨_,⟨(λq=>by first|(exfalso;omega)|simp_all),(by unfold Q6;rw[if_neg U])⟩,Z,Z⟩,d.pick 2 [1,0] Z⟩
  refine Z2 17 [1,0,0] H Z (Zr Z ?_);have d:=(H.pick 4 [1,2,3] Z).toWd;exact ⟨_,⟨_,⟨(λq=>by first|(exfalso;omega)|simp_all),(by unfold Q6;rw[if_neg U])⟩,Z,Z⟩,d.pick 2 [1,0] Z⟩
 refine Z2 22 [1,0,0] H Z (Zr Z ?_);have d:=(H.pick 4 [1,2,3] Z).toWd;exact ⟨_,⟨_,⟨(λq=>by first|(exfalso;omega)|simp_all),(by unfold Q6;rw[if_neg U])⟩,Z,Z⟩,d.pick 2 [1,0] Z⟩
theorem Fp{vs:List Vl}(hv:vs.length=8){f e:Int}:Aj 26 [Y n,I s,I p,Y g,I q,I f,I e] [blk n [Y m,Y i,Y j] 36,voA i r t ([]) vs] (λv G=>(p=0/\v=.bool (decide (f=0/\s=q))/\G=[blk n [Y m,Y i,Y g] 36,voA i r t [] vs])\/(p≠0/\∃h:Bool,(s=0/\(p=f\/(f=0/\((p=20/\e<25)\/(p=32/\∀x∈vs,x.st≠0))))->h=true)/\v=.bool h/\G=[blk n [Y m,Y i,Y j] 36,voA i r t [] vs])):=by
 intro z R w H;refine Ae func26 Z ntmps26 Z (Z0 12 [0] Z (Af Z (λk=>?_) (λk=>?_)))
 ·refine Z4 14 [2,0,0] H Z ?_;intro w H;refine An 24 Z (λu=>?_) (λu=>?_)
  ·refine Z0 8 [0] Z (Zr Z ?_);exact ⟨_,.inl ⟨by assumption,congrArg Value.bool (by rw[Aey];simp_all),Z⟩,H.pick 2 [0,1] Z⟩
  refine Zc 8 Z (Zr Z ?_);exact ⟨_,.inl ⟨by assumption,congrArg Value.bool (by rw[Aey];simp_all),Z⟩,H.pick 2 [0,1] Z⟩
 refine Zc 7 Z (Ar Z (call66 _) (Aas hv) H ?_);rintro _ w _ ⟨rb,a,rfl,rfl⟩ H;refine Z0 8 [0] Z (An 35 Z (λl=>?_) (λl=>?_))
 ·refine Z0 4 [0] Z (An 39 Z (λo=>?_) (λo=>?_))
  ·refine Zc 11 Z (Zr Z ?_);exact ⟨_,.inr ⟨by assumption,_,(by rintro ⟨d,c|⟨c,b⟩⟩<;>first|rfl|(exfalso;omega)|exact a b|simp_all),Z,Z⟩,H.pick 2 [0,1] Z⟩
  refine Z0 3 [0] Z (An 42 Z (λy=>?_) (λy=>?_))
  ·refine Zc 8 Z (Zr Z ?_);exact ⟨_,.inr ⟨by assumption,_,(by rintro ⟨d,c|⟨c,b⟩⟩<;>first|rfl|(exfalso;omega)|exact a b|simp_all),Z,Z⟩,H.pick 2 [0,1] Z⟩
  refine Zc 8 Z (Zr Z ?_);exact ⟨_,.inr ⟨by assumption,_,(by rintro ⟨d,c|⟨c,b⟩⟩<;>first|rfl|(exfalso;omega)|exact a b|simp_all),Z,Z⟩,H.pick 2 [0,1] Z⟩
 refine Zc 15 Z (Zr Z ?_);exact ⟨_,.inr ⟨by assumption,_,(by rintro ⟨d,c|⟨c,b⟩⟩<;>first|rfl|(exfalso;omega)|exact a b|simp_all),Z,Z⟩,H.pick 2 [0,1] Z⟩
section
variable{Tb:Ai}
theorem trA.d64{mb n:Nat}{o:TB}(a:trA Tb i mb n o none h):∀p b,o.N p=some (.dt b)->b.length=240:=by
 obtain ⟨M0,c,_⟩:=a;exact λp b e=>(c.m _ _ e).2.2
def usedP(P:List Pl):Nat:=P.countP λp=>decide (p.1.st≠0)
structure LvI(n:Nat)(o:TB)(nx:Int)(P:List Pl)(W:List Wv)(A:Ai):Prop where
 inv:VInv n o nx P
 rel:VRel o.N P W
 nxe:nx=1+(usedP P:Int)
 bag:∀x∈W,InB A x.u x.V
 d:∀p b,o.N p=some (.dt b)->b.length=240
 k:TrK n o none
variable{n:Nat}{o o2:TB}{nx:Int}{P:List Pl}{W:List Wv}{A A2:Ai}
theorem LvI.hv(h:LvI n o nx P W A):(P.map Prod.fst).length=8:=by rw[Aeh];exact h.inv.len
theorem LvI.nx9(h:LvI n o nx P W A):1<=nx/\nx<=9:=by
 have a:=h.nxe;have b:usedP P<=P.length:=List.countP_le_length;have:=h.inv.len;have:=h.inv.nb;omega
theorem LvI.w8(h:LvI n o nx P W A):W.length<=8:=by have:=h.rel.len;have:=h.inv.len;omega
theorem LvI.ok(h:LvI n o nx P W A){p:Pl}(hi:P[i]?=some p)(hs:p.1.st=1):PlOk o.N nx p:=by
 rcases h.inv.all p (Aee hi) with rfl|q
 ·cases hs
 exact q
theorem LvI.pl(h:LvI n o nx P W A){p:Pl}(q:PlOk o.N nx p):p.2.length<=639:=by
 have:=JK h.k.i U (show ∀e∈p.2,∃b,Dl o none e.2=some (.dt b) from q.root.data) q.nd;have:=h.inv.n;omega
theorem LvI.w(h:LvI n o nx P W A){x:Wv}(m:x∈W):(1<=x.sz/\x.sz<=1048576)/\(0<=x.q/\x.q<=1048576)/\x.V.length<=639/\(∀j,(BU j x.V).length=64)/\1<=x.id/\x.id<nx:=by
 obtain ⟨j,k⟩:=AeX.1 m;obtain ⟨i,p,hi,hs,e⟩:=h.rel.back k;have q:=h.ok hi hs;have l:=h.pl q;simp only[Wv.core,CI,Afv] at e;obtain ⟨e1,e2,r,c⟩:=e;refine ⟨by rw[e2];exact q.sz,by rw[r];exact q.q,by rw[c,Kr];exact l,λj=>?_,by rw[e1];exact q.id⟩;rw[c];have a:=q.root.data;generalize p.2=L at a;unfold A5
 induction L with
 | nil=>rfl
 | cons e t ih=>
  rw[AeL,BU];split
  ·obtain ⟨b,f⟩:=a e O
   have:=h.d _ _ f;rw[f];show (List.take 64 b).length=64;rw[Aez];omega
  exact ih λe g=>a e (by simp[g])
theorem LvI.both(h:LvI n o nx P W A){e:Vl}{L:List E}{x:Wv}(hi:P[i]?=some (e,L))(hs:e.st=1)(b:W[j]?=some x)(d:x.id=e.id):x.sz=e.sz/\x.q=e.q/\x.V=A5 o.N L:=by
 obtain ⟨k,x2,a,e2⟩:=h.rel.at hi hs;simp only[Wv.core,CI,Afv] at e2;obtain ⟨e1,g,f,c⟩:=e2;have:=h.rel.uniq b a U;subst this;rw[b] at a;cases a;exact ⟨g,f,c⟩
theorem LvI.at(h:LvI n o nx P W A){id:Int}{i:Nat}{e:Vl}{L:List E}(hi:P[i]?=some (e,L))(hs:e.st=1)(b:e.id=id):∃(j:Nat) (x:Wv),W[j]?=some x/\x.id=id:=by
 obtain ⟨c,x2,a,e2⟩:=h.rel.at hi hs;simp only[Wv.core,CI,Afv] at e2;exact ⟨c,x2,a,by omega⟩
theorem LvI.back(h:LvI n o nx P W A){id:Int}{j:Nat}{x:Wv}(b:W[j]?=some x)(a:x.id=id):∃e∈P.map Prod.fst,e.st=1/\e.id=id:=by
 obtain ⟨i,p,hi,hs,e⟩:=h.rel.back b;simp only[Wv.core,CI,Afv] at e;exact ⟨p.1,Aem.2 ⟨p,Aee hi,Z⟩,hs,by omega⟩
theorem Dm(P:List Pl)(i:Nat)(e:Vl)(L:List E):(P.set i (e,L)).map Prod.fst=(P.map Prod.fst).set i e:=by rw[AhA]
theorem Pn{P:List Pl}{p p2:Pl}(hi:P[i]?=some p)(b:p2.1.st≠0):(usedP P:Int)+(if p.1.st=0 then 1 else 0)=usedP (P.set i p2):=by
 obtain ⟨a,rfl⟩:=Aed.1 hi;unfold usedP;rw[List.countP_set a];have c:decide (p2.1.st≠0)=true:=decide_eq_true b;have d:decide (P[i].1.st≠0)=true->0<P.countP λp=>decide (p.1.st≠0):=λq=>List.countP_pos_iff.2 ⟨P[i],AfQ a,q⟩;simp only[c,if_true];by_cases e:P[i].1.st=0
 ·rw[if_pos e,if_neg (by simp[e])];omega
 rw[if_neg e,if_pos (by simp[e])];have:=d (by simp[e]);omega
theorem Jh{P:List Pl}{p p2:Pl}(hi:P[i]?=some p)(b:p.1.st=1)(a:p2.1.st≠0):(usedP (P.set i p2):Int)=usedP P:=by
 have:=Pn hi a;rw[if_neg U] at this;omega
theorem Q7{W:List Wv}{x2:Wv}(h:∀x∈W,InB A x.u x.V)(a:Ink A A2)(b:InB A2 x2.u x2.V):∀x∈W.set j x2,InB A2 x.u x.V:=λx c=>by
 rcases Ahv c with q|rfl
 ·exact a _ _ (h x q)
 exact b
theorem LvI.ea(h:LvI n o nx P W A){k:Nat}{e e2:Vl}{L L2:List E}{x:Wv}(hi:P[i]?=some (e,L))(hs:e.st=1)(w:W[j]?=some x)(d:x.id=e.id)(f:EaJ n ⟨o.N,o.C,AZ e.r.toNat++C8 (P.eraseIdx i)⟩ nx e (C8 (P.eraseIdx i)) k o2 e2 L2)
 (hk:Ink A A2)(hb:InB A2 v (A5 o2.N L2))(hd:∀p b,o2.N p=some (.dt b)->b.length=240)(K:TrK n o2 none):LvI n o2 nx (P.set i (e2,L2)) (W.set j ⟨x.id,x.sz,x.q,v,A5 o2.N L2⟩) A2:=by
 have q:=h.ok hi hs;have hq:=h.both hi hs w d;have y:=f.fld;have c:=q.id;dsimp only at c;have m:∀p∈P,p.1.st=1->p.1.id≠e.id->A5 o2.N p.2=A5 o.N p.2:=λp hp t s=>by
  obtain ⟨a,g⟩:=AeX.1 hp;have l:a≠i:=λq=>by subst q;rw[hi] at g;cases g;exact s Z
  have u:=h.ok g t;by_cases e0:p.1.r.toNat=0
  ·rcases u.root with ⟨_,z⟩|⟨r1,_⟩
   ·rw[z];rfl
   exact absurd e0 r1
  exact (f.kv _ (Mj (Hk g l) e0) _ u.root).2
 refine ⟨h.inv.upd hi ⟨Afo _,h.inv.nb.2⟩ f.kv.kp f.ok (.inl y.1) (by rw[f.lw.r]),h.rel.upd h.inv hi w (show e.id≠0 by omega) hs (show e2.st=1 by omega) d ?_ y.1 m,?_,Q7 h.bag hk hb,hd,K⟩
 ·simp only[Wv.core,CI,Afv]
  exact ⟨by omega,by omega,by omega,trivial⟩
 have:=Jh (p2:=(e2,L2)) hi hs (show e2.st≠0 by omega);have h0:=h.nxe;omega
theorem LvI.left(h:LvI n o nx P W A)(b:nx<=8):¬∀e∈P.map Prod.fst,e≠v0:=λa=>by
 have c:=h.nxe;have d:usedP P=P.length:=List.countP_eq_length.2 λp hp=>by
  rcases h.inv.all p hp with rfl|q
  ·exact absurd Z (a _ (Aem.2 ⟨_,hp,Z⟩))
  have:=q.st;simp only[decide_eq_true_eq];omega
 have:=h.inv.len;omega
def WrE(W W2:List Wv)(id at_:Int)(m fr:Nat):Prop:=∀x∈W,x.id=id->Br x.sz (decide (((m%64:Nat):Int)=0)) at_ ((m/64:Nat):Int)=0->
 ∃(j k:Nat) (u2:Value) (V2:List Bk) (bs:List UInt8),W[j]?=some x/\WTr at_ x.q bs x.V k V2/\W2=W.set j ⟨x.id,x.sz,x.q,u2,V2⟩/\(k=m/64\/(k<m/64/\(EB at_ x.q k V2\/fr<=11+12*k)))
theorem WrE.no{W W2:List Wv}{id:Int}(h:∀x∈W,x.id≠id):WrE W W2 id t m i:=λx a e=>absurd e (h x a)
theorem LvI.eq(h:LvI n o nx P W A){x y:Wv}(c:W[j]?=some x)(d:y∈W)(e:y.id=x.id):y=x:=by
 obtain ⟨a,b⟩:=AeX.1 d;have:=h.rel.uniq c b e;subst this;rw[c] at b;exact (Agd b).symm
theorem WrE.bad(h:LvI n o nx P W A){W2:List Wv}{id:Int}{x:Wv}(b:W[j]?=some x)(a:x.id=id)(d:Br x.sz (decide (((m%64:Nat):Int)=0)) t ((m/64:Nat):Int)≠0):WrE W W2 id t m i:=λy c e q=>by
 have:=h.eq b c (e.trans a.symm);subst this;exact absurd q d
theorem WrE.did(h:LvI n o nx P W A){id:Int}{k c2:Nat}{x:Wv}{bs:List UInt8}{vf:Nat->List Bk}{a:List Bk}(d:W[j]?=some x)(c:x.id=id)(hq:x.q=q)(l:vf 0=x.V)(p:vf k=a)(u:∀j,j<k->¬EB t q j (vf j)/\∀V3,PutAt (t+(j:Int)) (DN bs j) (vf j) V3->V3=vf (j+1))
  (g:m<=c2+12*k)(b:(s=0/\(k:Int)=((bs.length/64:Nat):Int))\/((k:Int)<((bs.length/64:Nat):Int)/\((s=30/\EB t q k a)\/(s=20/\¬EB t q k a/\c2<=11))))(f:Value):WrE W (W.set j ⟨x.id,x.sz,x.q,f,a⟩) id t bs.length m:=λy i e _=>by
 have:=h.eq d i (e.trans c.symm);subst this;subst hq;refine ⟨j,k,f,a,bs,d,⟨vf,l,p,u⟩,Z,?_⟩;rcases b with r|⟨v,r|r⟩
 ·exact .inl U
 ·exact .inr ⟨by omega,.inl r.2⟩
 exact .inr ⟨by omega,.inr (by have:=r.2.2;omega)⟩
theorem LvI.ink(h:LvI n o nx P W A)(b:Ink A A2):LvI n o nx P W A2:=⟨h.inv,h.rel,h.nxe,λx a=>b _ _ (h.bag x a),h.d,h.k⟩
end
section
variable{Tb:Ai}
theorem Ui(h:n<B.length/64):(DN B n).length=64:=by unfold DN;rw[Aez,AeQ];omega
theorem Po(h:j<B.length/64)(a:B.length<=711){hp:Hp}(q:blk n (B.map u8) T hp):rdH 1 (.slice (some ⟨n,j*64,none⟩) ((j+1)*64-j*64) (B.length-j*64)) (DN B j).length ((DN B j).map u8) hp:=by
 have e1:=Ui h;have e2:(j+1)*64-j*64=64:=by omega
 rw[e1,e2];exact q.rd U U (by rw[Aeh];omega) (by unfold DN;rw[Afr,AfW])
theorem PutAt.le{k:Int}{d:List UInt8}{V a:List Bk}(h:PutAt k d V a):a.length<=V.length+1:=by
 obtain ⟨i,_,_,rfl⟩:=h;have:=JL k V;simp only[Aeg,Aez,Aei,AeQ];omega
section
variable{at_ q er m:Int}{vf:Nat->List Bk}{V:List Bk}{k i c:Nat}
theorem AcC(c:i<=k)(b:¬(i:Int)<m){X:Prop}(a:(er=0/\(k:Int)=m)\/((k:Int)<m/\X)):(k:Int)=(i:Int)/\er=0:=by
 rcases a with h|h
 ·omega
 omega
theorem lw_quo(f:∀j,j<k->¬EB at_ q j (vf j))(hq:EB at_ q i (vf i))(g:i<=k)(a:vf k=V)(d:(er=0/\(k:Int)=m)\/((k:Int)<m/\((er=30/\EB at_ q k V)\/(er=20/\¬EB at_ q k V/\c<=11))))(e:(i:Int)<m):(k:Int)=(i:Int)/\er=30:=by
 have b:k=i:=by
  rcases Aes i k with h|h
  ·exact absurd hq (f i h)
  omega
 subst b;rw[a] at hq;rcases d with h|⟨_,h|h⟩
 ·omega
 ·exact ⟨Z,h.1⟩
 exact absurd hq h.2.1
theorem Pp(hq:¬EB at_ q i (vf i))(e:(i:Int)=(k:Int))(b:vf k=V)(a:(er=0/\(k:Int)=m)\/((k:Int)<m/\((er=30/\EB at_ q k V)\/(er=20/\¬EB at_ q k V/\c<=11))))(d:(i:Int)<m):er=20/\c<=11:=by
 obtain rfl:i=k:=by omega
 rw[b] at hq;rcases a with h|⟨_,h|h⟩
 ·omega
 ·exact absurd h.2 hq
 exact ⟨h.1,h.2.2⟩
end
set_option maxHeartbeats 8000000 in
theorem Uj {pd pv pw pp mb:Nat} (P:List Pl) (o:TB) (W:List Wv) (A:Ai) (m:LvI n o t P W A) (g1:mb+20<=1000000000) (id:Int) {kd ci ca cc cf cs cq:Int} {sy od:Bool} (b8: -9223372036854775808<=ca/\ca<=9223372036854775807) (c9: -9223372036854775808<=cc/\cc<=9223372036854775807) (d5: -9223372036854775808<=cf/\cf<=9223372036854775807) {fr:Int} (g0:fr=(cnt (AX n o.C) 0 1024:Int)):Aj 27 [Y g,I id,.agg #[I kd,I ci,I ca,I cc,I cf,I cs,I cq,.bool sy,.bool od],I fr] [blk g [Y pd,Y pv,Y pw] 36,voA pv pp t ([]) (P.map Prod.fst),trA Tb pp mb n o none,wdA pw t W,A] (λv G=>∃(p2:Nat) (nx2:Int) (P2:List Pl) (c7:List Vl) (o2:TB) (W2:List Wv) (A2:Ai) (m2:Nat),(LvI n o2 nx2 P2 W2 A2/\c7=P2.map Prod.fst/\m2<=mb+16/\nx2=t/\WrE W W2 id ca (mV cc od) (cnt (AX n o.C) 0 1024)/\KpW W W2 id/\Ink A A2)/\v=.bool true/\G=[blk g [Y pd,Y pv,Y p2] 36,voA pv pp nx2 [] c7,trA Tb pp m2 n o2 none,wdA p2 nx2 W2,A2]):=by
 intro z R w H;replace H:=H.l5;have d1:W.length<=64:=by have:=m.w8;omega
 have d7:=λx c=>(m.w (x:=x) c).1
 have e1:=m.bag;refine Ae func27 Z ntmps27 Z (Za 2 [] H Z ?_);intro b1 w H;refine Z2 6 [0,9] H Z (Ar Z (call11 _) (WP d5 c9) H ?_);rintro _ w _ ⟨db,bs,b0,rfl,rfl⟩ H;replace H:=H.l7;have g3:=XF cc od;have e6:bs.length/64<=11:=by omega
 refine Zc 4 Z ?_;replace H:=H.f1.f2;refine Bp (Sep z (blk g [Y pd,Y pv,Y pw] 36::blk b1 [I kd,I ci,I ca,I cc,I cf,I cs,I cq,.bool sy,.bool od] 28::R)) 20 Z J (A4 H λw f=>?_);have H:=f.l7;refine Bv [0,1,2,3,4,5,6,7] [2,0,2,1] J (λ_ c=>(AR (c.blk 0 Z) (AR (c.blk 1 Z) AN))) (by exact H.pick 7 [0,1] Z) Z J Z Z (BG 8 J Z Z J J J Z Z Z (Fu Z (z:=1) J Z) (H.pick 7 [0,1] Z) (BG 9 J Z Z J J J Z Z Z (Lr Z Z Z (r:=((bs.length/64:Nat):Int)) U U U U) (H.pick 7 [0,1] Z) (Bv [10] [] J (λ_ _=>AN) (by exact H.pick 7 [0,1] Z) Z J Z Z (BG 11 J Z Z J J J Z Z Z (Fu Z (z:=1) J Z) (H.pick 7 [0,1] Z) (BG 12 J Z Z J J J Z Z Z (Ls Z Z Z (r:=((bs.length%64:Nat):Int)) U U U) (H.pick 7 [0,1] Z) (Bv [13] [] J (λ_ _=>AN) (by exact H.pick 7 [0,1] Z) Z J Z Z (AF [14] J O (Am (Bt Z Z Z Z Z Z (λw=>call67 _ w) (Ml d1 d7 b8 U) H.f5 Z ?_)))))))));rintro _ w _ (⟨b9,rfl,rfl⟩|⟨j,x,⟨c,a⟩,rfl,rfl⟩) f
 ·have H:=f.l7;refine Au (λ_=>(H.pick 7 [1,2] Z)) (Bv [15,16,17,18] [] J (λ_ _=>AN) (by exact H.pick 7 [1,2] Z) Z J Z Z (AF [19] J O (Am (Ct Z Z Z Z (Bf Z Z) (Au (λh=>absurd Z h) (Bo J (gn (Zc 2 Z ?_))))))));replace H:=H.f2.f2;refine Bp (Sep z (blk g [Y pd,Y pv,Y pw] 36::blk b1 [I kd,I ci,I ca,I cc,I cf,I cs,I cq,.bool sy,.bool od] 28::R)) 16 Z J (A4 H λw f=>?_)
  have H:=f.l7;refine Bv [0,1,2,3,4,5,6,7,8,9] [1,0,2,1,7,1] J (λ_ c=>(AR (c.blk 0 Z) (AR (c.blk 1 Z) AN))) (by exact H.pick 7 [0,1] Z) Z J Z Z (AF [10] J O (Am (Bt Z Z Z Z Z Z (λw=>call10 _ w) (Pe P Z m.inv U id ca b8 db bs U sy) H.f3.f5.f5 Z ?_)));rintro _ w _ (⟨c2,rfl,rfl⟩|⟨i,e,L,⟨hi,hs,a2⟩,(⟨_,rfl,rfl⟩|⟨_,k,o2,e2,L2,m2,er,_,rfl,rfl⟩)⟩) f
  ·have H:=f.l7;refine Au (λ_=>(H.pick 7 [3,4] Z)) (Bv [11,12,13,14] [] J (λ_ _=>AN) (by exact H.pick 7 [3,4] Z) Z J Z Z (AF [15] J O (Am (Ct Z Z Z Z (Bf Z Z) (Au (λh=>absurd Z h) (Bo J (gn (Z0 22 [3,3,3] Z (Zr Z ?_)))))))));exact ⟨_,⟨_,_,P,_,o,W,A,mb,⟨m,Z,by omega,Z,WrE.no b9,.eq Z,Ink.refl _⟩,Z,Z⟩,H.pick 7 [3,0,1,5,6] Z⟩
  ·exact (by obtain ⟨j9,x9,q1,q2⟩:=m.at hi hs a2;exact absurd q2 (b9 x9 (Aee q1)))
  exact (by obtain ⟨j9,x9,q1,q2⟩:=m.at hi hs a2;exact absurd q2 (b9 x9 (Aee q1)))
 have H:=f.l7;refine Au (λ_=>(H.pick 7 [1,2] Z)) (Bv [15,16,17,18] [] J (λ_ _=>AN) (by exact H.pick 7 [1,2] Z) Z J Z Z (AF [19] J O (Am (Ct Z Z Z Z (Bf Z Z) (Au (λh=>absurd Z h) (Bo J (gn (Zc 2 Z ?_))))))));replace H:=H.f2.f2;refine Bp (Sep z (blk g [Y pd,Y pv,Y pw] 36::blk b1 [I kd,I ci,I ca,I cc,I cf,I cs,I cq,.bool sy,.bool od] 28::R)) 16 Z J (A4 H λw f=>?_);have H:=f.l7;refine Bv [0,1,2,3,4,5,6,7,8,9] [1,0,2,1,7,1] J (λ_ c=>(AR (c.blk 0 Z) (AR (c.blk 1 Z) AN))) (by exact H.pick 7 [0,1] Z) Z J Z Z (AF [10] J O (Am (Bt Z Z Z Z Z Z (λw=>call10 _ w) (Pe P Z m.inv U id ca b8 db bs U sy) H.f3.f5.f5 Z ?_)));rintro _ w _ (⟨c2,rfl,rfl⟩|⟨i,e,L,⟨hi,hs,a2⟩,(⟨hE,rfl,rfl⟩|⟨hE,k,o2,e2,L2,m2,er,⟨⟨b3,vf,d3,a1,a5⟩,a3,f0⟩,rfl,rfl⟩)⟩) f
 ·exact (by obtain ⟨e9,a9,q1,q2⟩:=m.back c a;exact absurd ⟨q1,q2⟩ (c2 e9 a9))
 ·have H:=f.l7;have a7:=m.both hi hs c (a.trans a2.symm)
  refine Au (λ_=>(H.pick 7 [3,4] Z)) (Bv [11,12,13,14] [] J (λ_ _=>AN) (by exact H.pick 7 [3,4] Z) Z J Z Z (AF [15] J O (Am (Ct Z Z Z Z (Bf Z Z) (Au (λh=>absurd Z h) (Bo J (gn (Zc 3 Z (AB 11 (v:=I (Br e.sz (decide (((bs.length%64:Nat):Int)=0)) ca ((bs.length/64:Nat):Int))) Z (congrArg I (by rw[a7.1])) (Z0 5 [0] Z (Af Z (λh1=>?_) (λh1=>?_))))))))))))
  ·refine Z0 6 [0] Z (An 56 Z (λh2=>?_) (λh2=>?_))
   ·refine Z0 7 [3] Z (Zr Z ?_);exact ⟨_,⟨_,_,P,_,o,W,A,mb,⟨m,Z,by omega,Z,b0▸WrE.bad m c a (by rw[a7.1];exact hE),.eq Z,Ink.refl _⟩,Z,Z⟩,H.pick 7 [3,0,1,5,6] Z⟩
   exact absurd Z h2
  exact absurd hE h1
 have H:=f.l7;have a7:=m.both hi hs c (a.trans a2.symm);refine Au (λ_=>(H.pick 7 [3,4] Z)) (Bv [11,12,13,14] [] J (λ_ _=>AN) (by exact H.pick 7 [3,4] Z) Z J Z Z (AF [15] J O (Am (Ct Z Z Z Z (Bf Z Z) (Au (λh=>absurd Z h) (Bo J (gn (Zc 3 Z (AB 11 (v:=I 0) Z (congrArg I (by rw[a7.1];exact hE)) (Z0 10 [4] Z (AB 10 (v:=I (j:Int)) Z (congrArg I (if_pos (by rw[a7.1];exact hE))) ?_)))))))))));replace H:=H.f5;obtain ⟨uw,H⟩:=H.wd;replace H:=H.l8;have e5:=H.sy 1 (·.slc);obtain ⟨aw,cw,rfl⟩:=e5;obtain ⟨xi,xs,xq,xu,xV⟩:=x;have b6:∀p b,o2.N p=some (.dt b)->b.length=240:=H.says 3 Z (λh q=>trA.d64 q);have K2:=H.says 3 Z (λh q=>trA.k q);have e4:=(m.w (Aee c)).2.2.1;have d6:InB A xu xV:=e1 _ (Aee c);have d0:=(Aed.1 c).1;obtain ⟨d4,b4,c6⟩:=a7;dsimp only at d4 b4 c6 e4;have a6:cnt (AX n o.C) 0 1024<=cnt (AX n o2.C) 0 1024+12*k:=b3.fr;have a0:vf 0=xV:=by rw[d3,c6]
 have e0:W.set j ⟨xi,xs,xq,xu,vf 0⟩=W:=by obtain ⟨hl,e9⟩:=Aed.1 c;rw[a0];show W.set j ⟨xi,xs,xq,xu,xV⟩=W;rw[<-e9];exact Ago hl
 have f9:(k:Int)<=((bs.length/64:Nat):Int):=by rcases a3 with q|q<;>omega
 have d2:=FZ hE;have c4:=(m.ok hi hs).sz;dsimp only at c4;refine Zc 5 Z ?_;refine AD (σ:=Nat×Value×Ai) (λ⟨s,u2,AA⟩=>[(14,I (s:Int)),(0,Y g),(3,I fr),(6,Y b1),(9,.slice (some ⟨db,0,none⟩) bs.length bs.length),(10,I (j:Int)),(12,I (k:Int)),(13,I er)])
   (λ⟨s,u2,AA⟩ w=>Sep z (blk pw [.slice aw W.length cw,I t] 31::grow 40 4 (.slice aw W.length cw) W.length (Bl (W.set j ⟨xi,xs,xq,u2,vf s⟩))::voA pv pp t ([]) ((P.map Prod.fst).set i e2)::trA Tb pp m2 n o2 none::blk db (bs.map u8) 5::blk g [Y pd,Y pv,Y pw] 36::blk b1 [I kd,I ci,I ca,I cc,I cf,I cs,I cq,.bool sy,.bool od] 28::AA::R) w/\(s<=k/\(vf s).length<=639+s/\Ink A AA/\InB AA u2 (vf s))) (λ⟨s,u2,AA⟩=>k-s) ⟨0,xu,A⟩
   fr_z ⟨(by rw[e0];exact H),⟨AeN _,by rw[a0];omega,Ink.refl A,by rw[a0];exact d6⟩⟩ ?_
 clear H;rintro ⟨s,u2,AA⟩ w ⟨f,hI⟩;dsimp only at hI f ⊢;have H:=f.l8;obtain ⟨c5,g2,hK,y⟩:=hI;refine Z1 10 [0] [((bs.length/64:Nat):Int)] Z U (Af Z (λh3=>?_) (λh3=>?_))
 ·refine Zc 5 Z ?_;have d9:=H.sy 7 (λq=>(y _ q).slc)
  obtain ⟨au,cu,rfl⟩:=d9;have b5:(W.set j ⟨xi,xs,xq,.slice au (vf s).length cu,vf s⟩)[j]?=some ⟨xi,xs,xq,.slice au (vf s).length cu,vf s⟩:=Afy d0;have a4:=(H.rv 1 (·.rd)).at (Bu b5 0 _ Z);refine Z2 9 [2,5,0,0,0,0] H Z (Ab Z (Ak Z (z:=4) (j:=j) (r:=j*4) J Z Z Z U a4 U) (Ab Z (Bq Z Z (vs:=[I xi,I xs,I xq,.slice au (vf s).length cu]) J O (Az (λk' u hk=>(H.rv 1 (·.rd)).at (Bu b5 k' u hk)))) (Za 0 [] H Z ?_)));intro b2 w H;refine Z5 10 [0,0,4,2,7,0] [ca+(s:Int)] H Z U ?_;intro w H;refine z_E_ Z (call68 _) (Acg AA y) H.f8 ?_;intro w H;refine Zc 7 Z (Ab Z (AH Z Z) (Zc 1 Z (An 85 Z (λh4=>?_) (λh4=>?_))))
  ·refine Z2 9 [3,1,0,2,1,0,0] H Z (Af Z (λh5=>?_) (λh5=>?_))
   ·obtain ⟨d8,a9⟩:=lw_quo (λq hq=>(a5 q hq).1) (i:=s) ⟨by assumption,by omega⟩ c5 a1 a3 U;refine Z0 5 [0] Z (An 95 Z (λh6=>?_) (λh6=>?_))
    ·refine Z0 8 [0] Z (Zr Z ?_);obtain rfl:s=k:=by omega
     rw[a1] at H y;have hF:=m.ea hi hs c (a.trans a2.symm) b3 hK y b6 K2;have f:=Sep.toWd (W:=W.set j ⟨xi,xs,xq,.slice au (A5 o2.N L2).length cu,A5 o2.N L2⟩) (by rw[AeW];exact H.pick 9 [2,3,7,4,5,0] Z);exact ⟨_,⟨_,_,_,_,o2,_,AA,m2,⟨hF,(Dm P i e2 L2).symm,by omega,Z,b0▸WrE.did m c a b4 a0 a1 a5 a6 a3 _,.set c a,hK⟩,congrArg Value.bool (decide_eq_true U),Z⟩,f.pick 5 [1,2,3,0,4] Z⟩
    exact absurd a9 h6
   refine Z0 10 [0] Z (Af Z (λh7=>?_) (λh7=>?_))
   ·have c1:=Pp (i:=s) (λq9=>by have q1:=q9.1;have q2:=q9.2;first|exact q1 (by assumption)|exact absurd q1 (by assumption)|simp_all|omega) U a1 a3 U
    refine Z0 5 [0] Z (An 105 Z (λh8=>?_) (λh8=>?_))
    ·refine Z1 10 [0] [12*(s:Int),25+12*(s:Int)] Z U (Zr Z ?_);obtain rfl:s=k:=by omega
     rw[a1] at H y;have hF:=m.ea hi hs c (a.trans a2.symm) b3 hK y b6 K2;have f:=Sep.toWd (W:=W.set j ⟨xi,xs,xq,.slice au (A5 o2.N L2).length cu,A5 o2.N L2⟩) (by rw[AeW];exact H.pick 9 [2,3,7,4,5,0] Z);exact ⟨_,⟨_,_,_,_,o2,_,AA,m2,⟨hF,(Dm P i e2 L2).symm,by omega,Z,b0▸WrE.did m c a b4 a0 a1 a5 a6 a3 _,.set c a,hK⟩,congrArg Value.bool (decide_eq_true U),Z⟩,f.pick 5 [1,2,3,0,4] Z⟩
    exact absurd c1.1 h8
   refine Zc 2 Z ?_;replace H:=H.f6.f2.f8.f5.f5.f8;refine Bp (Sep z (blk g [Y pd,Y pv,Y pw] 36::blk pw [.slice aw W.length cw,I t] 31::grow 40 4 (.slice aw W.length cw) W.length (Bl (W.set j ⟨xi,xs,xq,.slice au (vf s).length cu,vf s⟩))::blk b1 [I kd,I ci,I ca,I cc,I cf,I cs,I cq,.bool sy,.bool od] 28::blk b2 [I xi,I xs,I xq,.slice au ((vf s).length) cu] 40::blk db (bs.map u8) 5::R)) 24 Z J (A4 H λw f=>?_);have H:=f.l9;refine Bv [0,1,2,3,4,5,6,7] [2,0,0,1] J (λ_ c=>(AR (c.blk 0 Z) (AR (c.blk 1 Z) AN))) (by exact H.pick 9 [0,1,2,3,4,5] Z) Z J Z Z (BG 8 J Z Z J J J Z Z Z (B0 Z Z (vs:=[I xi,I xs,I xq,.slice au ((vf s).length) cu]) J (λ_ c=>(c.blk 4 Z).part 0 4 _ Z)) (H.pick 9 [0,1,2,3,4,5] Z) (Bv [9,10,11] [2,0] J (λ_ c=>(AR (c.blk 3 Z) AN)) (by exact H.pick 9 [0,1,2,3,4,5] Z) Z J Z Z (BG 12 J Z Z J J J Z Z Z (C3 Z Z Z (r:=ca+(s:Int)) U U) (H.pick 9 [0,1,2,3,4,5] Z) (Bv [13,14] [] J (λ_ _=>AN) (by exact H.pick 9 [0,1,2,3,4,5] Z) Z J Z Z (BG 15 J Z Z J J J Z Z Z (Hz Z Z Z (r:=((s*64:Nat):Int)) U U) (H.pick 9 [0,1,2,3,4,5] Z) (Bv [16] [] J (λ_ _=>AN) (by exact H.pick 9 [0,1,2,3,4,5] Z) Z J Z Z (BG 17 J Z Z J J J Z Z Z (C3 Z Z Z (r:=(s:Int)+1) U U) (H.pick 9 [0,1,2,3,4,5] Z) (BG 18 J Z Z J J J Z Z Z (Hz Z Z Z (r:=(((s+1)*64:Nat):Int)) U U) (H.pick 9 [0,1,2,3,4,5] Z) (BG 19 J Z Z J J J Z Z Z (BO Z (z:=1) (p:=(s*64)) (q:=((s+1)*64)) (o':=(s*64)) (l':=((s+1)*64)-(s*64)) (c':=bs.length-(s*64)) J Z (.inr ⟨_,_,_,Z,Z,Z⟩) (.inr ⟨_,_,_,Z,Z,Z⟩) U U U U U U) (H.pick 9 [0,1,2,3,4,5] Z) (BG 20 J Z Z J J J Z Z Z (Ch (l:=DN bs s) Z J J Z (λ_ b7=>b7.rv 5 (λq=>Po U U q))) (H.pick 9 [0,1,2,3,4,5] Z) (AF [21] J O (Am (Bt Z Z Z Z Z Z (λw=>call69 _ w) (TZ (ca+(s:Int)) (vf s) AA y (DN bs s) U) H.f6 Z ?_)))))))))))));rintro _ w _ ⟨u3,V2,a8,rfl,rfl⟩ H;replace H:=H.l10;have e3:=PutAt.le a8;obtain rfl:V2=vf (s+1):=(a5 s U).2 V2 a8;have c0:=H.sy 0 (·.rd.slc);refine Au (λ_=>(H.pick 10 [2,3,4,5,6,7] Z)) (BG 22 J Z Z J J J Z Z Z (Ak Z (z:=4) (j:=j) (r:=j*4) J Z Z Z U a4 U) (H.pick 10 [2,3,4,5,6,7] Z) (AF [23] J O (Am (Bj Z Z Z (CW 4 H Z Z Z Z (vs:=[I xi,I xs,I xq,u3]) Z (Ad Z (Ad Z (Ad Z (Ad c0.one Aw)))) J U (by simp only[Aei,AeD];omega) (out:=Bl ((W.set j ⟨xi,xs,xq,.slice au (vf s).length cu,vf s⟩).set j ⟨xi,xs,xq,u3,vf (s+1)⟩)) (Ig (x2:=⟨xi,xs,xq,u3,vf (s+1)⟩) b5 0 O (by simp[Wv.cells]))) ?_))));rintro w H;replace H:=H.l10;refine Au (λh=>absurd Z h) (Bo J (gn (Zc 2 Z ?_)));rw[AgW] at H;have f:=(H.pick 10 [0,1,2,3,4,5,6,7,8,9] Z).made 2 (A:=both (grow 90 2 u3 ((vf (s+1)).length) (BY (vf (s+1)))) AA) (λh q=>q);clear H;have H:Sep z (both (grow 90 2 u3 ((vf (s+1)).length) (BY (vf (s+1)))) AA::blk g [Y pd,Y pv,Y pw] 36::blk pw [.slice aw W.length cw,I t] 31::grow 40 4 (.slice aw W.length cw) W.length (Bl (W.set j ⟨xi,xs,xq,u3,vf (s+1)⟩))::blk b1 [I kd,I ci,I ca,I cc,I cf,I cs,I cq,.bool sy,.bool od] 28::blk b2 [I xi,I xs,I xq,.slice au ((vf s).length) cu] 40::blk db (bs.map u8) 5::voA pv pp t ([]) ((P.map Prod.fst).set i e2)::trA Tb pp m2 n o2 none::R) w:=f;clear f;refine Z1 5 [] [(s:Int)+1] Z U ?_;replace H:=H.f5.d.f4.f2.f5.f7.f7.f7.f7;refine gf ?_;intro _ hF;refine ⟨⟨s+1,u3,both (grow 90 2 u3 ((vf (s+1)).length) (BY (vf (s+1)))) AA⟩,hF.cz,⟨H,?_⟩,?_⟩
   ·exact ⟨by show s+1<=k;omega,by show (vf (s+1)).length<=_;omega,hK.trans (Ink.both _ AA),InB.grow⟩
   (dsimp only;omega)
  refine Z0 20 [0] Z (Af Z (λh9=>?_) (λh9=>?_))
  ·have c1:=Pp (i:=s) (λq9=>by have q1:=q9.1;first|exact q1 (by assumption)|exact absurd q1 (by assumption)|simp_all|omega) U a1 a3 U
   refine Z0 5 [0] Z (An 105 Z (λc8=>?_) (λc8=>?_))
   ·refine Z1 10 [0] [12*(s:Int),25+12*(s:Int)] Z U (Zr Z ?_);obtain rfl:s=k:=by omega
    rw[a1] at H y;have hF:=m.ea hi hs c (a.trans a2.symm) b3 hK y b6 K2;have f:=Sep.toWd (W:=W.set j ⟨xi,xs,xq,.slice au (A5 o2.N L2).length cu,A5 o2.N L2⟩) (by rw[AeW];exact H.pick 9 [2,3,7,4,5,0] Z);exact ⟨_,⟨_,_,_,_,o2,_,AA,m2,⟨hF,(Dm P i e2 L2).symm,by omega,Z,b0▸WrE.did m c a b4 a0 a1 a5 a6 a3 _,.set c a,hK⟩,congrArg Value.bool (decide_eq_true U),Z⟩,f.pick 5 [1,2,3,0,4] Z⟩
   exact absurd c1.1 c8
  refine Zc 2 Z ?_;replace H:=H.f6.f2.f8.f5.f5.f8;refine Bp (Sep z (blk g [Y pd,Y pv,Y pw] 36::blk pw [.slice aw W.length cw,I t] 31::grow 40 4 (.slice aw W.length cw) W.length (Bl (W.set j ⟨xi,xs,xq,.slice au (vf s).length cu,vf s⟩))::blk b1 [I kd,I ci,I ca,I cc,I cf,I cs,I cq,.bool sy,.bool od] 28::blk b2 [I xi,I xs,I xq,.slice au ((vf s).length) cu] 40::blk db (bs.map u8) 5::R)) 24 Z J (A4 H λw f=>?_);have H:=f.l9;refine Bv [0,1,2,3,4,5,6,7] [2,0,0,1] J (λ_ c=>(AR (c.blk 0 Z) (AR (c.blk 1 Z) AN))) (by exact H.pick 9 [0,1,2,3,4,5] Z) Z J Z Z (BG 8 J Z Z J J J Z Z Z (B0 Z Z (vs:=[I xi,I xs,I xq,.slice au ((vf s).length) cu]) J (λ_ c=>(c.blk 4 Z).part 0 4 _ Z)) (H.pick 9 [0,1,2,3,4,5] Z) (Bv [9,10,11] [2,0] J (λ_ c=>(AR (c.blk 3 Z) AN)) (by exact H.pick 9 [0,1,2,3,4,5] Z) Z J Z Z (BG 12 J Z Z J J J Z Z Z (C3 Z Z Z (r:=ca+(s:Int)) U U) (H.pick 9 [0,1,2,3,4,5] Z) (Bv [13,14] [] J (λ_ _=>AN) (by exact H.pick 9 [0,1,2,3,4,5] Z) Z J Z Z (BG 15 J Z Z J J J Z Z Z (Hz Z Z Z (r:=((s*64:Nat):Int)) U U) (H.pick 9 [0,1,2,3,4,5] Z) (Bv [16] [] J (λ_ _=>AN) (by exact H.pick 9 [0,1,2,3,4,5] Z) Z J Z Z (BG 17 J Z Z J J J Z Z Z (C3 Z Z Z (r:=(s:Int)+1) U U) (H.pick 9 [0,1,2,3,4,5] Z) (BG 18 J Z Z J J J Z Z Z (Hz Z Z Z (r:=(((s+1)*64:Nat):Int)) U U) (H.pick 9 [0,1,2,3,4,5] Z) (BG 19 J Z Z J J J Z Z Z (BO Z (z:=1) (p:=(s*64)) (q:=((s+1)*64)) (o':=(s*64)) (l':=((s+1)*64)-(s*64)) (c':=bs.length-(s*64)) J Z (.inr ⟨_,_,_,Z,Z,Z⟩) (.inr ⟨_,_,_,Z,Z,Z⟩) U U U U U U) (H.pick 9 [0,1,2,3,4,5] Z) (BG 20 J Z Z J J J Z Z Z (Ch (l:=DN bs s) Z J J Z (λ_ b7=>b7.rv 5 (λq=>Po U U q))) (H.pick 9 [0,1,2,3,4,5] Z) (AF [21] J O (Am (Bt Z Z Z Z Z Z (λw=>call69 _ w) (TZ (ca+(s:Int)) (vf s) AA y (DN bs s) U) H.f6 Z ?_)))))))))))));rintro _ w _ ⟨u3,V2,a8,rfl,rfl⟩ H;replace H:=H.l10;have e3:=PutAt.le a8;obtain rfl:V2=vf (s+1):=(a5 s U).2 V2 a8;have c0:=H.sy 0 (·.rd.slc);refine Au (λ_=>(H.pick 10 [2,3,4,5,6,7] Z)) (BG 22 J Z Z J J J Z Z Z (Ak Z (z:=4) (j:=j) (r:=j*4) J Z Z Z U a4 U) (H.pick 10 [2,3,4,5,6,7] Z) (AF [23] J O (Am (Bj Z Z Z (CW 4 H Z Z Z Z (vs:=[I xi,I xs,I xq,u3]) Z (Ad Z (Ad Z (Ad Z (Ad c0.one Aw)))) J U (by simp only[Aei,AeD];omega) (out:=Bl ((W.set j ⟨xi,xs,xq,.slice au (vf s).length cu,vf s⟩).set j ⟨xi,xs,xq,u3,vf (s+1)⟩)) (Ig (x2:=⟨xi,xs,xq,u3,vf (s+1)⟩) b5 0 O (by simp[Wv.cells]))) ?_))));rintro w H;replace H:=H.l10;refine Au (λh=>absurd Z h) (Bo J (gn (Zc 2 Z ?_)));rw[AgW] at H;have f:=(H.pick 10 [0,1,2,3,4,5,6,7,8,9] Z).made 2 (A:=both (grow 90 2 u3 ((vf (s+1)).length) (BY (vf (s+1)))) AA) (λh q=>q);clear H;have H:Sep z (both (grow 90 2 u3 ((vf (s+1)).length) (BY (vf (s+1)))) AA::blk g [Y pd,Y pv,Y pw] 36::blk pw [.slice aw W.length cw,I t] 31::grow 40 4 (.slice aw W.length cw) W.length (Bl (W.set j ⟨xi,xs,xq,u3,vf (s+1)⟩))::blk b1 [I kd,I ci,I ca,I cc,I cf,I cs,I cq,.bool sy,.bool od] 28::blk b2 [I xi,I xs,I xq,.slice au ((vf s).length) cu] 40::blk db (bs.map u8) 5::voA pv pp t ([]) ((P.map Prod.fst).set i e2)::trA Tb pp m2 n o2 none::R) w:=f;clear f;refine Z1 5 [] [(s:Int)+1] Z U ?_;replace H:=H.f5.d.f4.f2.f5.f7.f7.f7.f7;refine gf ?_;intro _ hF;refine ⟨⟨s+1,u3,both (grow 90 2 u3 ((vf (s+1)).length) (BY (vf (s+1)))) AA⟩,hF.cz,⟨H,?_⟩,?_⟩
  ·exact ⟨by show s+1<=k;omega,by show (vf (s+1)).length<=_;omega,hK.trans (Ink.both _ AA),InB.grow⟩
  (dsimp only;omega)
 obtain ⟨d8,a9⟩:=AcC c5 U a3;refine Zc 2 Z (gx (Z0 7 [0] Z (An 137 Z (λc3=>?_) (λc3=>?_))))
 ·refine Z1 10 [0] [((bs.length/64:Nat):Int)] Z U (Zr Z ?_);obtain rfl:s=k:=by omega
  rw[a1] at H y;have hF:=m.ea hi hs c (a.trans a2.symm) b3 hK y b6 K2;have f:=Sep.toWd (W:=W.set j ⟨xi,xs,xq,u2,A5 o2.N L2⟩) (by rw[AeW];exact H.pick 8 [0,1,5,2,3,7] Z);exact ⟨_,⟨_,_,_,_,o2,_,AA,m2,⟨hF,(Dm P i e2 L2).symm,by omega,Z,b0▸WrE.did m c a b4 a0 a1 a5 a6 a3 _,.set c a,hK⟩,congrArg Value.bool (decide_eq_true U),Z⟩,f.pick 5 [1,2,3,0,4] Z⟩
 exact absurd a9 c3
end
section
variable{Tb:Ai}
set_option maxHeartbeats 8000000 in
theorem Uk {pw pp mb:Nat} (P:List Pl) (o:TB) (W:List Wv) (A:Ai) (f:LvI n o t P W A) (c5:mb+20<=1000000000) (id:Int) {ci ca cc cf cs cq:Int} {od:Bool} (a4: -9223372036854775808<=ca/\ca<=9223372036854775807) (a2: -9223372036854775808<=cc/\cc<=9223372036854775807) {fr:Int} (c3:fr=(cnt (AX n o.C) 0 1024:Int)):Aj 29 [Y m,I id,.agg #[I s,I ci,I ca,I cc,I cf,I cs,I cq,.bool c,.bool od],I fr] [blk m [Y g,Y r,Y pw] 36,voA r pp t ([]) (P.map Prod.fst),trA Tb pp mb n o none,wdA pw t W,A] (λv G=>∃(p2:Nat) (nx2:Int) (P2:List Pl) (b3:List Vl) (o2:TB) (W2:List Wv) (A2:Ai) (m2:Nat),(LvI n o2 nx2 P2 W2 A2/\b3=P2.map Prod.fst/\m2<=mb+16/\KpW W W2 id/\Ink A A2)/\v=.bool true/\G=[blk m [Y g,Y r,Y p2] 36,voA r pp nx2 [] b3,trA Tb pp m2 n o2 none,wdA p2 nx2 W2,A2]):=by
 intro z R w H;replace H:=H.l5;have b4:W.length<=64:=by have:=f.w8;omega
 have b5:=λx d=>(f.w (x:=x) d).1;have a9:∀x∈W,x.V.length<=1048576:=λx d=>by have:=(f.w d).2.2.1;omega
 have b6:=f.bag;refine Ae func29 Z ntmps29 Z (Za 2 [] H Z ?_);intro b1 w H;refine Zc 4 Z ?_;replace H:=H.f1;refine Bp (Sep z (blk m [Y g,Y r,Y pw] 36::blk b1 [I s,I ci,I ca,I cc,I cf,I cs,I cq,.bool c,.bool od] 28::R)) 15 Z J (A4 H λw u=>?_);have H:=u.l6;refine Bv [0,1,2,3,4,5,6,7,8] [2,0,2,1,3,1] J (λ_ d=>(AR (d.blk 0 Z) (AR (d.blk 1 Z) AN))) (by exact H.pick 6 [0,1] Z) Z J Z Z (AF [9] J O (Am (Bt Z Z Z Z Z Z (λw=>call67 _ w) (Ml b4 b5 a4 a2) H.f4 Z ?_)));rintro _ w _ (⟨a8,rfl,rfl⟩|⟨j,x,⟨d,a⟩,rfl,rfl⟩) u
 ·have H:=u.l6;refine Au (λ_=>(H.pick 6 [1,2] Z)) (Bv [10,11,12,13] [] J (λ_ _=>AN) (by exact H.pick 6 [1,2] Z) Z J Z Z (AF [14] J O (Am (Ct Z Z Z Z (Bf Z Z) (Au (λh=>absurd Z h) (Bo J (gn (Zc 2 Z ?_))))))));replace H:=H.f2.f2;refine Bp (Sep z (blk m [Y g,Y r,Y pw] 36::blk b1 [I s,I ci,I ca,I cc,I cf,I cs,I cq,.bool c,.bool od] 28::R)) 15 Z J (A4 H λw u=>?_)
  have H:=u.l6;refine Bv [0,1,2,3,4,5,6,7,8] [1,0,2,1,3,1] J (λ_ d=>(AR (d.blk 0 Z) (AR (d.blk 1 Z) AN))) (by exact H.pick 6 [0,1] Z) Z J Z Z (AF [9] J O (Am (Bt Z Z Z Z Z Z (λw=>call12 _ w) (Pf P Z f.inv U id ca cc a4 a2) H.f4.f4 Z ?_)));rintro _ w _ (⟨a6,rfl,rfl⟩|⟨i,e,L,⟨hi,hs,l⟩,(⟨_,rfl,rfl⟩|⟨_,k,o2,e2,L2,m2,er,_,rfl,rfl⟩)⟩) u
  ·have H:=u.l6;refine Au (λ_=>(H.pick 6 [2,3] Z)) (Bv [10,11,12,13] [] J (λ_ _=>AN) (by exact H.pick 6 [2,3] Z) Z J Z Z (AF [14] J O (Am (Ct Z Z Z Z (Bf Z Z) (Au (λh=>absurd Z h) (Bo J (gn (Z0 22 [3,3,3] Z (Zr Z ?_)))))))));exact ⟨_,⟨_,_,P,_,o,W,A,mb,⟨f,Z,by omega,.eq Z,Ink.refl _⟩,Z,Z⟩,H.pick 6 [2,0,1,4,5] Z⟩
  ·exact (by obtain ⟨j9,x9,q1,q2⟩:=f.at hi hs l;exact absurd q2 (a8 x9 (Aee q1)))
  exact (by obtain ⟨j9,x9,q1,q2⟩:=f.at hi hs l;exact absurd q2 (a8 x9 (Aee q1)))
 have H:=u.l6;refine Au (λ_=>(H.pick 6 [1,2] Z)) (Bv [10,11,12,13] [] J (λ_ _=>AN) (by exact H.pick 6 [1,2] Z) Z J Z Z (AF [14] J O (Am (Ct Z Z Z Z (Bf Z Z) (Au (λh=>absurd Z h) (Bo J (gn (Zc 2 Z ?_))))))));replace H:=H.f2.f2;refine Bp (Sep z (blk m [Y g,Y r,Y pw] 36::blk b1 [I s,I ci,I ca,I cc,I cf,I cs,I cq,.bool c,.bool od] 28::R)) 15 Z J (A4 H λw u=>?_);have H:=u.l6;refine Bv [0,1,2,3,4,5,6,7,8] [1,0,2,1,3,1] J (λ_ d=>(AR (d.blk 0 Z) (AR (d.blk 1 Z) AN))) (by exact H.pick 6 [0,1] Z) Z J Z Z (AF [9] J O (Am (Bt Z Z Z Z Z Z (λw=>call12 _ w) (Pf P Z f.inv U id ca cc a4 a2) H.f4.f4 Z ?_)));rintro _ w _ (⟨a6,rfl,rfl⟩|⟨i,e,L,⟨hi,hs,l⟩,(⟨hE,rfl,rfl⟩|⟨hE,k,o2,e2,L2,m2,er,⟨⟨a3,a7⟩,b9,c2⟩,rfl,rfl⟩)⟩) u
 ·exact (by obtain ⟨e9,c0,q1,q2⟩:=f.back d a;exact absurd ⟨q1,q2⟩ (a6 e9 c0))
 ·have H:=u.l6;have a0:=f.both hi hs d (a.trans l.symm)
  refine Au (λ_=>(H.pick 6 [2,3] Z)) (Bv [10,11,12,13] [] J (λ_ _=>AN) (by exact H.pick 6 [2,3] Z) Z J Z Z (AF [14] J O (Am (Ct Z Z Z Z (Bf Z Z) (Au (λh=>absurd Z h) (Bo J (gn (Zc 3 Z (AB 10 (v:=I (Br e.sz true ca cc)) Z (congrArg I (by rw[a0.1])) (Z0 5 [0] Z (Af Z (λh1=>?_) (λh1=>?_))))))))))))
  ·refine Z0 6 [0] Z (An 44 Z (λh2=>?_) (λh2=>?_))
   ·refine Z0 7 [3] Z (Zr Z ?_);exact ⟨_,⟨_,_,P,_,o,W,A,mb,⟨f,Z,by omega,.eq Z,Ink.refl _⟩,Z,Z⟩,H.pick 6 [2,0,1,4,5] Z⟩
   first|exact absurd hE h2|exact absurd rfl h2
  first|exact absurd hE h1|exact absurd rfl h1
 have H:=u.l6;have a0:=f.both hi hs d (a.trans l.symm);refine Au (λ_=>(H.pick 6 [2,3] Z)) (Bv [10,11,12,13] [] J (λ_ _=>AN) (by exact H.pick 6 [2,3] Z) Z J Z Z (AF [14] J O (Am (Ct Z Z Z Z (Bf Z Z) (Au (λh=>absurd Z h) (Bo J (gn (Zc 3 Z (AB 10 (v:=I 0) Z (congrArg I (by rw[a0.1];exact hE)) (Z0 9 [4] Z ?_))))))))));have b2:∀p b,o2.N p=some (.dt b)->b.length=240:=H.says 1 Z (λh q=>trA.d64 q);have K2:=H.says 1 Z (λh q=>trA.k q);have c1:cnt (AX n o.C) 0 1024<=cnt (AX n o2.C) 0 1024+12*k:=a3.fr;have c6:(k:Int)<=cc:=by rcases b9 with q|q<;>omega
 have b7:=FZ hE;have b0:=(f.ok hi hs).sz;dsimp only at b0;replace H:=H.f3.f3;refine Bp (Sep z (blk m [Y g,Y r,Y pw] 36::blk b1 [I s,I ci,I ca,I cc,I cf,I cs,I cq,.bool c,.bool od] 28::R)) 9 Z J (A4 H λw u=>?_);have H:=u.l6;refine Bv [0,1,2,3,4,5,6,7] [2,0,2,1] J (λ_ d=>(AR (d.blk 0 Z) (AR (d.blk 1 Z) AN))) (by exact H.pick 6 [0,1] Z) Z J Z Z (AF [8] J O (Am (Bt Z Z Z Z Z Z (λw=>call70 _ w) (WM id ca (k:Int) b4 A b6 a9 j x d a (λk9 y9 b8 e9=>f.rel.uniq d b8 e9) U U) H.f5.f5 Z ?_)));rintro _ w _ ⟨k2,u2,A2,⟨c4,a1,y⟩,rfl,rfl⟩ H;replace H:=H.l6;refine Au (λh=>absurd Z h) (Bo J (gn (Z0 8 [0] Z (Af Z (λh3=>?_) (λh3=>?_)))))
 ·refine Z2 10 [3,3,0,0] H Z (Zr Z ?_);obtain rfl:k2=k:=by omega
  have a5:C9 ca k2 x.V=A5 o2.N L2:=by rw[a7,a0.2.2]
  rw[a5] at H y;have hF:=f.ea hi hs d (a.trans l.symm) a3 a1 y b2 K2;exact ⟨_,⟨_,_,_,_,o2,_,A2,m2,⟨hF,(Dm P i e2 L2).symm,by omega,.set d a,a1⟩,congrArg Value.bool (decide_eq_true U),Z⟩,H.pick 6 [2,4,5,0,1] Z⟩
 refine Z0 7 [0] Z (An 65 Z (λh4=>?_) (λh4=>?_))
 ·refine Z2 6 [3,3,0,0] H Z (An 71 Z (λh5=>?_) (λh5=>?_))
  ·refine Z1 10 [0] [12*(k:Int),25+12*(k:Int)] Z U (Zr Z ?_);obtain rfl:k2=k:=by omega
   have a5:C9 ca k2 x.V=A5 o2.N L2:=by rw[a7,a0.2.2]
   rw[a5] at H y;have hF:=f.ea hi hs d (a.trans l.symm) a3 a1 y b2 K2;exact ⟨_,⟨_,_,_,_,o2,_,A2,m2,⟨hF,(Dm P i e2 L2).symm,by omega,.set d a,a1⟩,congrArg Value.bool (decide_eq_true U),Z⟩,H.pick 6 [2,4,5,0,1] Z⟩
  (exfalso;omega)
 (exfalso;omega)
end
section
variable{n:Nat}{o:TB}{nx:Int}{P:List Pl}{W:List Wv}{A:Ai}
def Ji(e:Vl):Int×Int×Int×Int:=(e.id,e.sz,e.q,e.mp)
def M8(x:Wv):Int×Int×Int×Int:=(x.id,x.sz,x.q,(x.V.length:Int))
theorem LvI.list(h:LvI n o nx P W A){Y_:List Vl}(hp:Y_.Perm (Db (P.map Prod.fst)))(hs:Y_.Pairwise λa b=>a.id<=b.id):Y_.map Ji=W.map M8/\∀y∈Y_,y.st=1:=by
 have e1:(Db (P.map Prod.fst)).map Ji=(DA o.N P).map λc=>(c.1,c.2.1,c.2.2.1,(c.2.2.2.length:Int)):=by
  unfold Db DA;rw[Agl,Afp,Afp];refine AfE λp hp=>?_;obtain ⟨f,e⟩:=Afd.1 hp;have e:p.1.st=1:=by simpa using e
  obtain ⟨i,hi⟩:=AeX.1 f;have q:=h.ok hi e;simp only[Function.comp,Ji,CI,Kr,q.mp]
 have e2:(W.map Wv.core).map (λc=>(c.1,c.2.1,c.2.2.1,(c.2.2.2.length:Int)))=W.map M8:=by
  rw[Afp];rfl
 have d:(Y_.map Ji).Perm (W.map M8):=by
  rw[<-e2];exact ((hp.map Ji).trans (e1▸Ahf _)).trans (h.rel.p.map _)
 have m:(W.map M8).Pairwise λa b=>a.1<=b.1:=by
  rw[AfL];exact h.rel.s.imp λq=>by simp only[M8];omega
 have u:(Y_.map Ji).Pairwise λa b=>a.1<=b.1:=by
  rw[AfL];exact hs
 refine ⟨List.Perm.eq_of_pairwise (λa b k v f e=>?_) u m d,λy r=>?_⟩
 ·have k:=d.mem_iff.1 k
  obtain ⟨x,t,rfl⟩:=Aem.1 k;obtain ⟨x2,l,rfl⟩:=Aem.1 v;obtain ⟨i,hi⟩:=AeX.1 t;obtain ⟨j,g⟩:=AeX.1 l;simp only[M8] at f e;have:=h.rel.uniq hi g U;subst this;rw[hi] at g;cases g;rfl
 have:=hp.mem_iff.1 r;simpa using (Afd.1 this).2
theorem LvI.liv_len(h:LvI n o nx P W A){Y_:List Vl}(hp:Y_.Perm (Db (P.map Prod.fst)))(hs:Y_.Pairwise λa b=>a.id<=b.id):(Db (P.map Prod.fst)).length=W.length:=by
 have:=congrArg List.length (h.list hp hs).1;rw[Aeh,Aeh] at this;rw[<-hp.length_eq,this]
theorem LvI.list_at(h:LvI n o nx P W A){Y_:List Vl}(hp:Y_.Perm (Db (P.map Prod.fst)))(hs:Y_.Pairwise λa b=>a.id<=b.id){x:Wv}(g:W[i]?=some x):∃e,Y_[i]?=some e/\e.id=x.id/\e.st=1/\e.sz=x.sz/\e.q=x.q/\e.mp=(x.V.length:Int):=by
 obtain ⟨d,f⟩:=h.list hp hs;have c:(Y_.map Ji)[i]?=some (M8 x):=by rw[d,Aeq,g];rfl
 rw[Aeq] at c
 cases hy:Y_[i]? with
 | none=>rw[hy] at c;cases c
 | some e=>
  rw[hy] at c;simp only[AeU,Aen,Ji,M8,Afv] at c;exact ⟨e,Z,c.1,f e (Aee hy),c.2.1,c.2.2.1,c.2.2.2⟩
set_option maxHeartbeats 6000000 in
theorem WQ {p l pp n:Nat} {nx:Int} (P:List Pl) (o:TB) (W:List Wv) (A:Ai) (f:LvI n o nx P W A):Aj 34 [Y m] [blk m [Y g,Y p,Y l] 36,voA p pp nx ([]) (P.map Prod.fst),wdA l nx W,A] (λv G=>v=.bool true/\G=[blk m [Y g,Y p,Y l] 36,voA p pp nx [] (P.map Prod.fst),wdA l nx W,A]):=by
 intro z R w H
 have a2:=f.bag;refine Ae func34 Z ntmps34 Z (Z2 11 [1,0,0] H Z (Ar Z (call75 _) (Q3 f.hv) H.f1 ?_));rintro lv w _ ⟨Y_,⟨t,y⟩,rfl⟩ H;have b5:=f.liv_len t y;have a3:=H.sy 0 (·.slc);obtain ⟨al,cl,rfl⟩:=a3;refine Zc 5 Z ?_;replace H:=H.f3;obtain ⟨uw,H⟩:=H.wd;have a4:=H.sy 1 (·.slc);obtain ⟨aw,cw,rfl⟩:=a4;have b2:=H.sy 1 (·.rd.slcapZ);refine Z2 14 [2,4,0,0,0,0,0] H Z (Af Z (λh1=>U) (λh1=>?_));refine Zc 9 Z ?_;refine AD (σ:=Nat) (λi=>[(4,I (i:Int)),(0,Y m),(3,.slice al ((Db (P.map Prod.fst)).length) cl)])
   (λi w=>Sep z (blk l [.slice aw W.length cw,I nx] 31::grow 40 4 (.slice aw W.length cw) W.length (Bl W)::grow 77 6 (.slice al ((Db (P.map Prod.fst)).length) cl) ((Db (P.map Prod.fst)).length) (Be Y_)::voA p pp nx ([]) (P.map Prod.fst)::blk m [Y g,Y p,Y l] 36::A::R) w/\(i<=W.length)) (λi=>W.length-i) 0
   fr_z ⟨H,AeN _⟩ ?_
 clear H;rintro i w ⟨s,hI⟩;have H:=s.l6;clear hI;refine Z0 9 [0] Z (Af Z (λh2=>?_) (λh2=>?_))
 ·refine Zc 5 Z ?_;obtain ⟨x,b⟩:∃x,W[i]?=some x:=⟨_,Aef U⟩;have h:=(H.rv 1 (·.rd)).at (Bu b 0 _ Z)
  obtain ⟨e,c,q1,q2,q3,q4,q5⟩:=f.list_at t y b;obtain ⟨xi,xs,xq,xu,xV⟩:=x;dsimp only at q1 q3 q4 q5;have a0:InB A xu xV:=a2 _ (Aee b);have a1:=H.sy 5 (λq=>(a0 _ q).slc);obtain ⟨ax,cx,rfl⟩:=a1;have a:=(H.rv 2 (·.rd)).at (AV c 0 _ Z);refine Z2 9 [2,4,0,0,0,0] H Z (Ab Z (Ak Z (z:=4) (j:=i) (r:=i*4) J Z Z Z U h U) (Ab Z (Bq Z Z (vs:=[I xi,I xs,I xq,.slice ax xV.length cx]) J O (Az (λk' u hk=>(H.rv 1 (·.rd)).at (Bu b k' u hk)))) (Za 0 [] H Z ?_)));intro b1 w H;refine Z4 4 [0] H Z ?_;intro w H;refine By (Sep z _) J J H.drew (B4 2 [] Z J (AM Z Z Z (Ak Z (z:=6) (j:=i) (r:=i*6) J Z Z Z U a U) (AM Z Z Z (Bh Z (k:=0) (r:=i*6) J Z a Z) (AM Z Z Z (Ay Z Z J (λ_ hs=>(hs.rv 3 (·.rd)).at (AV c 0 _ Z))) (D5 4 [0,0] (λ_ b=>(AR (b.blk 0 Z) AN)) Z J Z (Ce 46 Z (λh3=>U) (λh3=>?_)))))));refine B4 2 [] Z J (AM Z Z Z (Ak Z (z:=6) (j:=i) (r:=i*6) J Z Z Z U a U) (AM Z Z Z (Bh Z (k:=1) (r:=i*6+1) J Z a Z) (AM Z Z Z (Ay Z Z J (λ_ hs=>(hs.rv 3 (·.rd)).at (AV c 1 _ Z))) (B4 3 [] Z J (Ce 54 Z (λh4=>U) (λh4=>?_))))));refine B4 2 [] Z J (AM Z Z Z (Ak Z (z:=6) (j:=i) (r:=i*6) J Z Z Z U a U) (AM Z Z Z (Bh Z (k:=2) (r:=i*6+2) J Z a Z) (AM Z Z Z (Ay Z Z J (λ_ hs=>(hs.rv 3 (·.rd)).at (AV c 2 _ Z))) (D5 5 [1,0] (λ_ b=>(AR (b.blk 0 Z) AN)) Z J Z (Ce 64 Z (λh5=>U) (λh5=>?_))))));refine B4 2 [] Z J (AM Z Z Z (Ak Z (z:=6) (j:=i) (r:=i*6) J Z Z Z U a U) (AM Z Z Z (Bh Z (k:=3) (r:=i*6+3) J Z a Z) (AM Z Z Z (Ay Z Z J (λ_ hs=>(hs.rv 3 (·.rd)).at (AV c 3 _ Z))) (D5 5 [2,0] (λ_ b=>(AR (b.blk 0 Z) AN)) Z J Z (Ce 74 Z (λh6=>U) (λh6=>?_))))));refine B4 2 [] Z J (AM Z Z Z (Ak Z (z:=6) (j:=i) (r:=i*6) J Z Z Z U a U) (AM Z Z Z (Bh Z (k:=5) (r:=i*6+5) J Z a Z) (AM Z Z Z (Ay Z Z J (λ_ hs=>(hs.rv 3 (·.rd)).at (AV c 5 _ Z))) (GL 5 [3,0,0,0] [] Z J (BL (λw s=>?_))))));have H:=s.l7;refine gn (Zc 1 Z (Af Z (λh7=>U) (λh7=>?_)));refine Z1 8 [] [(i:Int)+1] Z U ?_;replace H:=H.d;refine gf ?_;intro _ hF;refine ⟨(i+1),hF.cz,⟨H,?_⟩,?_⟩
  ·omega
  omega
 refine Zc 2 Z (gx (Zc 8 Z (Zr Z ?_)));have s:=Sep.toWd (W:=W) (H.pick 6 [0,1,4,3,5] Z);exact ⟨_,⟨Z,Z⟩,s.pick 4 [1,2,0,3] Z⟩
end
section
variable{Tb:Ai}
variable{n:Nat}{o:TB}{nx:Int}{P:List Pl}{W:List Wv}{A:Ai}
theorem Pq:∀{V:List Bk} {b:Bk},(V.Pairwise λa b=>a.1<b.1)->b∈V->BU b.1 V=b.2
 | x::t,b,hs,hb=>by
  rw[List.pairwise_cons] at hs;rw[BU];rcases Aep.1 hb with rfl|q
  ·rw[if_pos Z]
  rw[if_neg (by have:=hs.1 b q;omega)];exact Pq hs.2 q
theorem LvI.w_at(h:LvI n o nx P W A){x:Wv}(g:x∈W){k:Nat}{b:Bk}(a:x.V[k]?=some b):BU b.1 x.V=b.2/\0<=b.1/\b.1<x.sz:=by
 obtain ⟨j,d⟩:=AeX.1 g;obtain ⟨i,p,hi,hs,e⟩:=h.rel.back d;have q:=h.ok hi hs;have a:=Aee a;simp only[Wv.core,CI,Afv] at e;obtain ⟨_,e2,_,f⟩:=e;rw[f] at a ⊢;have hs:=q.root.srt;refine ⟨Pq ?_ a,?_⟩
 ·unfold A5;rw[AfL];exact hs.1
 obtain ⟨y,c,rfl⟩:=Aem.1 a;have l:=hs.2 y c;have m:=q.key y c;dsimp only;exact ⟨by omega,by omega⟩
theorem JP(V:List Bk)(at_:Int):rdB V at_ (1:Int).toNat=BU at_ V:=by
 show rdB V at_ 0++BU (at_+((0:Nat):Int)) V=_;simp[rdB]
set_option maxHeartbeats 8000000 in
theorem Adq {pw pp mb n:Nat} {nx:Int} (P:List Pl) (o:TB) (W:List Wv) (A:Ai) (hL:LvI n o nx P W A) (b5:mb<=1000000000):Aj 38 [Y g,Y pw] [voA g pp nx ([]) (P.map Prod.fst),trA Tb pp mb n o none,wdA pw nx W,A] (λv G=>v=.bool true/\G=[voA g pp nx [] (P.map Prod.fst),trA Tb pp mb n o none,wdA pw nx W,A]):=by
 intro z R w H
 have c0:=hL.bag;have hv:=hL.hv;refine Ae func38 Z ntmps38 Z (Zc 8 Z (Ar Z (call75 _) (Q3 hL.hv) H ?_));rintro lv w _ ⟨Y_,⟨b7,b8⟩,rfl⟩ H;have e2:=hL.liv_len b7 b8;have c4:=H.sy 0 (·.slc);obtain ⟨al,cl,rfl⟩:=c4;refine Zc 5 Z ?_;replace H:=H.f3;obtain ⟨uw,H⟩:=H.wd;have c5:=H.sy 1 (·.slc);obtain ⟨aw,cw,rfl⟩:=c5;have d6:=H.sy 1 (·.rd.slcapZ);refine AQ (Sep z (blk pw [.slice aw W.length cw,I nx] 31::R)) 18 Z J (A4 H λw p=>?_);have H:=p.l6;refine AT [0,1,2,3,4,5,6,7] [0,0,0,0] [] (by exact H.pick 6 [0] Z) Z J Z (AB 23 (v:=.bool false) Z (congrArg Value.bool (decide_eq_false U)) (AT [8,9,12,13,14,15] [1,0,0] [] (by exact H.pick 6 [0] Z) Z J Z (AE [10] J O (Am (Bt Z Z Z Z Z Z (λw=>call77 _ w) (Lp hv O) H.f3 Z ?_)))));rintro _ w _ ⟨cv,cs,rfl,rfl⟩ H;refine Ax (H.pick 8 [3] Z) (BM 11 Z J J J Z Z Z (OK (v:=I nx) Z Z J) (H.pick 8 [3] Z) (AT [16,17] [0] [] (by exact H.pick 8 [3] Z) Z J Z (a_done J (gn (Zc 1 Z (Af Z (λh1=>?_) (λh1=>?_)))))))
 ·exact absurd Z h1
 refine Zc 9 Z ?_;refine AD (σ:=Nat) (λi=>[(6,I (i:Int)),(0,Y g),(1,Y pw),(5,.slice al ((Db (P.map Prod.fst)).length) cl)])
   (λi w=>Sep z (grow 77 6 cv ((P.map Prod.fst).length) (Be (P.map Prod.fst))::Cz cs ([])::voA g pp nx ([]) (P.map Prod.fst)::blk pw [.slice aw W.length cw,I nx] 31::grow 40 4 (.slice aw W.length cw) W.length (Bl W)::grow 77 6 (.slice al ((Db (P.map Prod.fst)).length) cl) ((Db (P.map Prod.fst)).length) (Be Y_)::trA Tb pp mb n o none::A::R) w/\(i<=W.length)) (λi=>W.length-i) 0
   fr_z ⟨H,AeN _⟩ ?_
 clear H;rintro i w ⟨p,hI⟩;have H:=p.l8;clear hI;refine Z0 9 [0] Z (Af Z (λh2=>?_) (λh2=>?_))
 ·refine Zc 5 Z ?_;obtain ⟨x,c⟩:∃x,W[i]?=some x:=⟨_,Aef U⟩;have b4:=(H.rv 4 (·.rd)).at (Bu c 0 _ Z)
  obtain ⟨e,he,q1,q2,q3,q4,q5⟩:=hL.list_at b7 b8 c;obtain ⟨xi,xs,xq,xu,xV⟩:=x;dsimp only at q1 q3 q4 q5;have a1:InB A xu xV:=c0 _ (Aee c);have b9:=H.sy 7 (λq=>(a1 _ q).slc);obtain ⟨ax,cx,rfl⟩:=b9;have a0:=(H.rv 5 (·.rd)).at (AV he 0 _ Z);have c3:=hL.w (Aee c);dsimp only at c3;have a9:=λk b hb=>hL.w_at (Aee c) (k:=k) (b:=b) hb;dsimp only at a9;refine Z2 6 [0,3,0] H Z (Ab Z (Ak Z (z:=4) (j:=i) (r:=i*4) J Z Z Z U b4 U) (Ab Z (Bq Z Z (vs:=[I xi,I xs,I xq,.slice ax xV.length cx]) J O (Az (λk' u hk=>(H.rv 4 (·.rd)).at (Bu c k' u hk)))) (Za 0 [] H Z ?_)));intro b1 w H;refine Z4 5 [0] H Z ?_;intro w H;refine By (Sep z _) J J H.drew (B4 2 [] Z J (AM Z Z Z (Ak Z (z:=6) (j:=i) (r:=i*6) J Z Z Z U a0 U) (AM Z Z Z (Bh Z (k:=0) (r:=i*6) J Z a0 Z) (AM Z Z Z (Ay Z Z J (λ_ hs=>(hs.rv 6 (·.rd)).at (AV he 0 _ Z))) (D5 4 [0,0] (λ_ c=>(AR (c.blk 0 Z) AN)) Z J Z (Ce 55 Z (λh3=>U) (λh3=>?_)))))));refine B4 2 [] Z J (AM Z Z Z (Ak Z (z:=6) (j:=i) (r:=i*6) J Z Z Z U a0 U) (AM Z Z Z (Bh Z (k:=2) (r:=i*6+2) J Z a0 Z) (AM Z Z Z (Ay Z Z J (λ_ hs=>(hs.rv 6 (·.rd)).at (AV he 2 _ Z))) (D5 5 [1,0] (λ_ c=>(AR (c.blk 0 Z) AN)) Z J Z (Ce 65 Z (λh4=>U) (λh4=>?_))))));refine B4 2 [] Z J (AM Z Z Z (Ak Z (z:=6) (j:=i) (r:=i*6) J Z Z Z U a0 U) (AM Z Z Z (Bh Z (k:=3) (r:=i*6+3) J Z a0 Z) (AM Z Z Z (Ay Z Z J (λ_ hs=>(hs.rv 6 (·.rd)).at (AV he 3 _ Z))) (D5 5 [2,0] (λ_ c=>(AR (c.blk 0 Z) AN)) Z J Z (Ce 75 Z (λh5=>U) (λh5=>?_))))));refine B4 2 [] Z J (AM Z Z Z (Ak Z (z:=6) (j:=i) (r:=i*6) J Z Z Z U a0 U) (AM Z Z Z (Bh Z (k:=5) (r:=i*6+5) J Z a0 Z) (AM Z Z Z (Ay Z Z J (λ_ hs=>(hs.rv 6 (·.rd)).at (AV he 5 _ Z))) (GL 5 [3,0,0,0] [] Z J (BL (λw p=>?_))))));have H:=p.l9;refine gn (Zc 1 Z (Af Z (λh6=>U) (λh6=>?_)));refine Zc 9 Z ?_;refine AD (σ:=Nat) (λt=>[(8,I (t:Int)),(0,Y g),(1,Y pw),(5,.slice al ((Db (P.map Prod.fst)).length) cl),(6,I (i:Int)),(7,Y b1)])
    (λt w=>Sep z (blk b1 [I xi,I xs,I xq,.slice ax xV.length cx] 40::grow 77 6 cv ((P.map Prod.fst).length) (Be (P.map Prod.fst))::Cz cs ([])::voA g pp nx ([]) (P.map Prod.fst)::blk pw [.slice aw W.length cw,I nx] 31::grow 40 4 (.slice aw W.length cw) W.length (Bl W)::grow 77 6 (.slice al ((Db (P.map Prod.fst)).length) cl) ((Db (P.map Prod.fst)).length) (Be Y_)::trA Tb pp mb n o none::A::R) w/\((t:Int)<=xs)) (λt=>xs.toNat-t) 0
    fr_z ⟨H,U⟩ ?_
  clear H;rintro t w ⟨p,hI⟩;have H:=p.l9;have ht:=hI;clear hI;refine Z2 8 [1,0,0,0] H Z (An 90 Z (λh7=>?_) (λh7=>?_))
  ·refine Z0 5 [0] Z (Af Z (λh8=>?_) (λh8=>?_))
   ·refine Z2 10 [0,0,0] H Z (Ar Z (call13 _) (F0 P Z hL.inv b5 xi (t:Int) 1 U U) H.f7.f4 ?_);rintro _ w _ (⟨a6,rfl,rfl⟩|⟨i9,e9,L9,⟨a3,a4,y⟩,(⟨a2,rfl,rfl⟩|⟨a2,c2,rfl,rfl⟩)⟩) p
    ·exact (by obtain ⟨e9,a8,q1,q2⟩:=hL.back c Z;exact absurd ⟨q1,q2⟩ (a6 e9 a8))
    ·exact (by have f:=hL.both a3 a4 c y.symm;have a7:=f.1;dsimp only at a7;exact absurd (by unfold Br;rw[if_pos ⟨Z,by omega,by omega⟩,if_pos U]) a2)
    have H:=p.l10;have f:=(hL.both a3 a4 c y.symm).2.2;dsimp only at f;rw[<-f,JP] at H;refine Zc 8 Z ?_;replace H:=H.f3;refine AQ (Sep z (blk b1 [I xi,I xs,I xq,.slice ax xV.length cx] 40::grow 5 1 c2 ((BU (t:Int) xV).length) ((BU (t:Int) xV).map u8)::R)) 10 Z J (A4 H λw p=>?_);have H:=p.l10;refine AT [0,1,2,3] [4] [] (by exact H.pick 10 [0,1] Z) Z J Z (BM 4 Z J J J Z Z Z (Ch (l:=BU (t:Int) xV) Z J J Z (λ_ hs=>hs.rv 1 (·.rd))) (H.pick 10 [0,1] Z) (AT [5,6] [0,4] [] (by exact H.pick 10 [0,1] Z) Z J Z (AE [7] J O (Am (Bt Z Z Z Z Z Z (λw=>call14 _ w) (O5 a1) H.f9 Z ?_)))));rintro _ w _ ⟨rfl,rfl⟩ H;refine Ax (H.pick 10 [1,2] Z) (BM 8 Z J J J Z Z Z (IR (l:=BU (t:Int) xV) (m:=BU (t:Int) xV) Z J Z Z) (H.pick 10 [1,2] Z) (AT [9] [] [] (by exact H.pick 10 [1,2] Z) Z J Z (a_done J (gn (Zc 1 Z (Af Z (λh9=>?_) (λh9=>?_)))))))
    ·first|exact absurd rfl h9|exact absurd a5.1 h9
    refine Z1 8 [] [(t:Int)+1] Z U ?_;replace H:=H.f2.d.f3.f8.f8.f8.f6.f8.f8.f8;refine gf ?_;intro _ hF;refine ⟨(t+1),hF.cz,⟨H,?_⟩,?_⟩
    ·omega
    omega
   refine Zc 2 Z (gx (Zc 8 Z ?_));refine AD (σ:=Nat) (λs=>[(11,I (s:Int)),(0,Y g),(1,Y pw),(5,.slice al ((Db (P.map Prod.fst)).length) cl),(6,I (i:Int)),(7,Y b1),(8,I (t:Int))])
     (λs w=>Sep z (blk b1 [I xi,I xs,I xq,.slice ax xV.length cx] 40::grow 77 6 cv ((P.map Prod.fst).length) (Be (P.map Prod.fst))::Cz cs ([])::voA g pp nx ([]) (P.map Prod.fst)::blk pw [.slice aw W.length cw,I nx] 31::grow 40 4 (.slice aw W.length cw) W.length (Bl W)::grow 77 6 (.slice al ((Db (P.map Prod.fst)).length) cl) ((Db (P.map Prod.fst)).length) (Be Y_)::trA Tb pp mb n o none::A::R) w/\(s<=xV.length)) (λs=>xV.length-s) 0
     fr_z ⟨H,AeN _⟩ ?_
   clear H;rintro s w ⟨p,hI⟩;have H:=p.l9;clear hI;refine Z2 10 [3,0,0,0] H Z (Af Z (λc6=>?_) (λc6=>?_))
   ·refine Zc 5 Z ?_;obtain ⟨b,hb⟩:∃b,xV[s]?=some b:=⟨_,Aef U⟩;have a5:=a9 s b hb
    have a:=(H.rv 8 (a1 _)).at (CO hb).1;replace H:=H.f8.f1;refine Bp (Sep z (blk b1 [I xi,I xs,I xq,.slice ax xV.length cx] 40::A::R)) 15 Z J (A4 H λw p=>?_);have H:=p.l9;refine Bv [0,1,2,3,4,5] [0,0,3,0] J (λ_ c=>(AR (c.blk 0 Z) AN)) (by exact H.pick 9 [0,1] Z) Z J Z Z (BG 6 J Z Z J J J Z Z Z (Ak Z (z:=2) (j:=s) (r:=s*2) J Z Z Z U a U) (H.pick 9 [0,1] Z) (BG 7 J Z Z J J J Z Z Z (Bh Z (k:=0) (r:=s*2) J Z a Z) (H.pick 9 [0,1] Z) (BG 8 J Z Z J J J Z Z Z (Ay Z Z J (λ_ hs=>(hs.rv 1 (a1 _)).at (CO hb).1)) (H.pick 9 [0,1] Z) (AF [9] J O (Am (Bt Z Z Z Z Z Z (λw=>call13 _ w) (F0 P Z hL.inv b5 xi b.1 1 U U) H.f8.f5 Z ?_))))));rintro _ w _ (⟨a6,rfl,rfl⟩|⟨i9,e9,L9,⟨a3,a4,y⟩,(⟨a2,rfl,rfl⟩|⟨a2,e1,rfl,rfl⟩)⟩) p
    ·exact (by obtain ⟨e9,a8,q1,q2⟩:=hL.back c Z;exact absurd ⟨q1,q2⟩ (a6 e9 a8))
    ·exact (by have f:=hL.both a3 a4 c y.symm;have a7:=f.1;dsimp only at a7;exact absurd (by unfold Br;rw[if_pos ⟨Z,by omega,by omega⟩,if_pos U]) a2)
    have H:=p.l10;have f:=(hL.both a3 a4 c y.symm).2.2;dsimp only at f;rw[<-f,JP] at H;refine Au (λ_=>(H.pick 10 [3,4] Z)) (Bv [10,11,12,13] [] J (λ_ _=>AN) (by exact H.pick 10 [3,4] Z) Z J Z Z (AF [14] J O (Am (Ct Z Z Z Z (Bf Z Z) (Au (λh=>absurd Z h) (Bo J (gn (Zc 2 Z (By (Sep z _) J J H.drew (GL 4 [4] [] Z J (AM Z Z Z (Ch (l:=BU b.1 xV) Z J J Z (λ_ hs=>hs.rv 0 (·.rd))) (D5 3 [3,0] (λ_ c=>(AR (c.blk 3 Z) AN)) Z J Z (AM Z Z Z (Ak Z (z:=2) (j:=s) (r:=s*2) J Z Z Z U a U) ?_)))))))))))));refine AM Z Z Z (Bh Z (k:=1) (r:=s*2+1) J Z a Z) (AM Z Z Z (Ay Z Z J (λ_ hs=>(hs.rv 4 (a1 _)).at (CO hb).2)) (AM Z Z Z (IR (l:=BU b.1 xV) (m:=b.2) Z J Z Z) (B4 1 [] Z J (BL (λw p=>?_)))));have H:=p.l10;refine gn (Zc 1 Z (Af Z (λb3=>?_) (λb3=>?_)))
    ·first|exact absurd rfl b3|exact absurd a5.1 b3
    refine Z1 8 [] [(s:Int)+1] Z U ?_;replace H:=H.d.f3.f2.f8.f8.f8.f5.f8.f8.f8;refine gf ?_;intro _ hF;refine ⟨(s+1),hF.cz,⟨H,?_⟩,?_⟩
    ·omega
    omega
   refine Zc 2 Z (gx (Z1 8 [] [(i:Int)+1] Z U ?_));replace H:=H.d;refine gf ?_;intro _ hF;refine ⟨(i+1),hF.cz,⟨H,?_⟩,?_⟩
   ·omega
   omega
  refine Zc 8 Z (gx (Zc 8 Z ?_));refine AD (σ:=Nat) (λs=>[(11,I (s:Int)),(0,Y g),(1,Y pw),(5,.slice al ((Db (P.map Prod.fst)).length) cl),(6,I (i:Int)),(7,Y b1),(8,I (t:Int))])
    (λs w=>Sep z (blk b1 [I xi,I xs,I xq,.slice ax xV.length cx] 40::grow 77 6 cv ((P.map Prod.fst).length) (Be (P.map Prod.fst))::Cz cs ([])::voA g pp nx ([]) (P.map Prod.fst)::blk pw [.slice aw W.length cw,I nx] 31::grow 40 4 (.slice aw W.length cw) W.length (Bl W)::grow 77 6 (.slice al ((Db (P.map Prod.fst)).length) cl) ((Db (P.map Prod.fst)).length) (Be Y_)::trA Tb pp mb n o none::A::R) w/\(s<=xV.length)) (λs=>xV.length-s) 0
    fr_z ⟨H,AeN _⟩ ?_
  clear H;rintro s w ⟨p,hI⟩;have H:=p.l9;clear hI;refine Z2 10 [3,0,0,0] H Z (Af Z (λc1=>?_) (λc1=>?_))
  ·refine Zc 5 Z ?_;obtain ⟨b,hb⟩:∃b,xV[s]?=some b:=⟨_,Aef U⟩;have a5:=a9 s b hb
   have a:=(H.rv 8 (a1 _)).at (CO hb).1;replace H:=H.f8.f1;refine Bp (Sep z (blk b1 [I xi,I xs,I xq,.slice ax xV.length cx] 40::A::R)) 15 Z J (A4 H λw p=>?_);have H:=p.l9;refine Bv [0,1,2,3,4,5] [0,0,3,0] J (λ_ c=>(AR (c.blk 0 Z) AN)) (by exact H.pick 9 [0,1] Z) Z J Z Z (BG 6 J Z Z J J J Z Z Z (Ak Z (z:=2) (j:=s) (r:=s*2) J Z Z Z U a U) (H.pick 9 [0,1] Z) (BG 7 J Z Z J J J Z Z Z (Bh Z (k:=0) (r:=s*2) J Z a Z) (H.pick 9 [0,1] Z) (BG 8 J Z Z J J J Z Z Z (Ay Z Z J (λ_ hs=>(hs.rv 1 (a1 _)).at (CO hb).1)) (H.pick 9 [0,1] Z) (AF [9] J O (Am (Bt Z Z Z Z Z Z (λw=>call13 _ w) (F0 P Z hL.inv b5 xi b.1 1 U U) H.f8.f5 Z ?_))))));rintro _ w _ (⟨a6,rfl,rfl⟩|⟨i9,e9,L9,⟨a3,a4,y⟩,(⟨a2,rfl,rfl⟩|⟨a2,d9,rfl,rfl⟩)⟩) p
   ·exact (by obtain ⟨e9,a8,q1,q2⟩:=hL.back c Z;exact absurd ⟨q1,q2⟩ (a6 e9 a8))
   ·exact (by have f:=hL.both a3 a4 c y.symm;have a7:=f.1;dsimp only at a7;exact absurd (by unfold Br;rw[if_pos ⟨Z,by omega,by omega⟩,if_pos U]) a2)
   have H:=p.l10;have f:=(hL.both a3 a4 c y.symm).2.2;dsimp only at f;rw[<-f,JP] at H;refine Au (λ_=>(H.pick 10 [3,4] Z)) (Bv [10,11,12,13] [] J (λ_ _=>AN) (by exact H.pick 10 [3,4] Z) Z J Z Z (AF [14] J O (Am (Ct Z Z Z Z (Bf Z Z) (Au (λh=>absurd Z h) (Bo J (gn (Zc 2 Z (By (Sep z _) J J H.drew (GL 4 [4] [] Z J (AM Z Z Z (Ch (l:=BU b.1 xV) Z J J Z (λ_ hs=>hs.rv 0 (·.rd))) (D5 3 [3,0] (λ_ c=>(AR (c.blk 3 Z) AN)) Z J Z (AM Z Z Z (Ak Z (z:=2) (j:=s) (r:=s*2) J Z Z Z U a U) ?_)))))))))))));refine AM Z Z Z (Bh Z (k:=1) (r:=s*2+1) J Z a Z) (AM Z Z Z (Ay Z Z J (λ_ hs=>(hs.rv 4 (a1 _)).at (CO hb).2)) (AM Z Z Z (IR (l:=BU b.1 xV) (m:=b.2) Z J Z Z) (B4 1 [] Z J (BL (λw p=>?_)))));have H:=p.l10;refine gn (Zc 1 Z (Af Z (λb2=>?_) (λb2=>?_)))
   ·first|exact absurd rfl b2|exact absurd a5.1 b2
   refine Z1 8 [] [(s:Int)+1] Z U ?_;replace H:=H.d.f3.f2.f8.f8.f8.f5.f8.f8.f8;refine gf ?_;intro _ hF;refine ⟨(s+1),hF.cz,⟨H,?_⟩,?_⟩
   ·omega
   omega
  refine Zc 2 Z (gx (Z1 8 [] [(i:Int)+1] Z U ?_));replace H:=H.d;refine gf ?_;intro _ hF;refine ⟨(i+1),hF.cz,⟨H,?_⟩,?_⟩
  ·omega
  omega
 refine Zc 2 Z (gx (Zc 8 Z (Zr Z ?_)));have p:=Sep.toWd (W:=W) (H.pick 8 [3,4,2,6,7] Z);exact ⟨_,⟨Z,Z⟩,p.pick 4 [1,2,0,3] Z⟩
end
end Go.Proofs.YtemljpjnhjnncaaGreatDoor
