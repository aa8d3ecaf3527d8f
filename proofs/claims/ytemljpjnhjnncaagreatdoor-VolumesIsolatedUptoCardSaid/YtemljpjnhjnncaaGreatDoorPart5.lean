/-
  Steps to: Law VolumesIsolated: what is written to one volume is read in no other one. No condition.
-/
import Derived.Test.YtemljpjnhjnncaaGreatDoorPart4
set_option maxRecDepth 100000
set_option linter.unusedSimpArgs false
set_option linter.unusedVariables false
open Go.Proofs.Tryz
namespace Go.Proofs.YtemljpjnhjnncaaGreatDoor
open Go.RowKit
variable{n m i j e g r:Nat}{t s p q:Int}{V:List Value}{B S:List UInt8}{T:TypeId}{L:List (Nat×Value)}{v u y:Value}{z:World}{l:List Int}{R:List Nat}{N:Act->World->Prop}{b c:Bool}{x:Operand}{o:List Oper}{K:Value->World->Prop}{C:Nat->Nat}{P:Program}{F:Nat->Bool}{a:Act}
variable{Γ:List Ai}{h:Hp}{A:Ai}
variable{D:Dsk}
variable{X:List E}
theorem ZX{vs:List Vl}{e:Vl}(h:vs[i]?=some e):Bb (vs.take i)++e.cells=Bb (vs.take (i+1)):=by
 rw[AeN,h,JF];simp[Bb]
theorem T7{e:Vl}(a:e.Fit):Cn prog 101 [.agg #[I e.id,I e.st,I e.sz,I e.q,I e.r,I e.mp]] [] (λv Γ=>v=.bool true/\Γ=[]):=by
 intro z R w H;have i:=a.id;have j:=a.st;have n:=a.sz;have m:=a.q;have l:=a.r;have h:=a.mp;refine Ae func101 Z ntmps101 Z (Za 2 [] H Z ?_);intro k w H;refine Z2 7 [0,0,0] H Z (z_E_ Z (call99 _) (CX) H ?_);intro w H;refine Zc 1 Z (Al 6 Z (λb=>?_) (λb=>?_))
 ·refine Z2 2 [1,0,0] H Z (z_E_ Z (call99 _) (CX) H ?_);intro w H;refine Zc 2 Z (Al 11 Z (λc=>?_) (λc=>?_))
  ·refine Z2 2 [2,0,0] H Z (z_E_ Z (call99 _) (CX) H ?_);intro w H;refine Zc 2 Z (Al 16 Z (λf=>?_) (λf=>?_))
   ·refine Z2 2 [3,0,0] H Z (z_E_ Z (call99 _) (CX) H ?_);intro w H;refine Zc 2 Z (Al 21 Z (λg=>?_) (λg=>?_))
    ·refine Z2 2 [4,0,0] H Z (z_E_ Z (call99 _) (CX) H ?_);intro w H;refine Zc 2 Z (Al 26 Z (λd=>?_) (λd=>?_))
     ·refine Z2 2 [5,0,0] H Z (z_E_ Z (call99 _) (CX) H ?_);intro w H;refine Zc 5 Z (Zr Z ?_);exact ⟨_,⟨congrArg Value.bool (by first|rfl|exact decide_eq_true U),Z⟩,H.perm 1 [] Z Z⟩
     (exfalso;omega)
    (exfalso;omega)
   (exfalso;omega)
  (exfalso;omega)
 (exfalso;omega)
set_option maxHeartbeats 2000000 in
theorem I6 (nx:Int) (sk:List Int) (vs:List Vl) {B:Ai} {sv:Value} (hA:∀h,A h->rdH 6 y vs.length (Bb vs) h) (hB:∀h,B h->rdH 1 sv sk.length (sk.map I) h) (hs:sk.length<=8) (hv:vs.length=8) (a5:0<=nx/\nx<=1073741824) (a1:∀x∈sk,0<=x/\x<=1023) (hf:∀e∈vs,e.Fit):Cn prog 54 [.agg #[I nx,y,sv]] [A,B] (λv Γ=>∃pw:Nat,v=.tuple #[.slice (some ⟨pw,0,none⟩) 240 240,I 0]/\Γ=[blk pw (A5 (AJ (Cc nx sk vs vs.length)) ((21+19*8:Nat):Int)) 167,A,B]):=by
 intro z R w H;replace H:=H.l2;obtain ⟨m,f,rfl⟩:=H.sy 0 (λq=>(hA _ q).slc);obtain ⟨l,c,rfl⟩:=H.sy 1 (λq=>(hB _ q).slc);refine Ae func54 Z ntmps54 Z (Za 2 [] H Z ?_);intro g w H;refine Z2 9 [0,0,0] H Z (z_E_ Z (call99 _) (CX) H ?_);intro w H;replace H:=H.l3;refine Ab Z (AF Z Z) (Zc 1 Z (Al 13 Z (λh1=>U) (λh1=>?_)));refine Z2 6 [2,0,0,0] H Z (Al 19 Z (λh2=>U) (λh2=>?_));refine Z2 7 [1,0,0,0] H Z (Af Z (λh3=>U) (λh3=>?_));refine Zc 4 Z (AR Z (Cb (P:=prog) H Z (zs:=(A5 (AJ []) 0)) J) ?_);rintro _ w ⟨b,rfl,H⟩;replace H:=H.l4;refine Z2 6 [0,1,0] H Z (z_E_ Z (call100 _) (CG 0 4 nx (AS (by first|omega|(simp[Ah]<;>omega))) U) H ?_);intro w H;replace H:=H.l4;rw[show Bt (AJ []) (Ag 4 nx) 0=AJ (Ag 4 nx) from BE Z (by first|omega|(simp[Ah]<;>omega))] at H;have H:Sep z (blk b (A5 (AJ (Ag 4 nx)) 4) 167::blk g [I nx,.slice m vs.length f,.slice l sk.length c] 83::A::B::R) w:=H;refine Z2 7 [2,1,0] H Z (z_E_ Z (call100 _) (CG 4 1 (sk.length:Int) (AS (by first|omega|(simp[Ah]<;>omega))) U) H ?_);intro w H;replace H:=H.l4;rw[show Bt (AJ (Ag 4 nx)) (Ag 1 (sk.length:Int)) 4=AJ (Ag 4 nx++Ag 1 (sk.length:Int)) from BE (by first|omega|(simp[Ah]<;>omega)) (by first|omega|(simp[Ah]<;>omega))] at H;have H:Sep z (blk b (A5 (AJ (Ag 4 nx++Ag 1 (sk.length:Int))) 5) 167::blk g [I nx,.slice m vs.length f,.slice l sk.length c] 83::A::B::R) w:=H;refine Z2 12 [2,1,0] H Z ?_;refine AB (σ:=Nat) (λi=>[(35,I (i:Int)),(1,Y g),(4,Y b),(33,.slice l sk.length c),(34,I (sk.length:Int))])
   (λi w=>Sep z (blk b (A5 (AJ (Ex nx sk i)) ((5+2*i:Nat):Int)) 167::blk g [I nx,.slice m vs.length f,.slice l sk.length c] 83::A::B::R) w/\(i<=sk.length)) (λi=>sk.length-i) 0
   fr_z ⟨(by simpa [Ex] using H),AeO _⟩ ?_
 clear H;rintro i w ⟨H',t⟩;have H:=H'.l4;have o:=t;clear t;have n:=IB nx sk o;refine Z0 6 [0] Z (Af Z (λh4=>?_) (λh4=>?_))
 ·refine Zc 5 Z ?_;obtain ⟨x,hx⟩:∃x,sk[i]?=some x:=⟨_,Aed U⟩;have a4:=a1 x (Aec hx)
  have s:=(H.rd 3 Z hB).at (j:=i) (u:=I x) (by simp[hx]);refine Zc 1 Z (Ab Z (Aj Z (z:=1) (j:=i) (r:=i) J Z Z Z U s U) (Ab Z (Ax Z Z J (Ay s)) (Zc 7 Z (z_E_ Z (call99 _) (CX) H ?_))));intro w H;replace H:=H.l4;refine Ab Z (AF Z Z) (Zc 2 Z (Af Z (λh5=>U) (λh5=>?_)));refine Zc 4 Z (z_E_ Z (call100 _) (CG (5+2*i) 2 x (AS (by first|omega|(simp[Ah,n]<;>omega))) U) H ?_);intro w H;replace H:=H.l4;rw[show ((5+2*i+2:Nat):Int)=(((5+2*(i+1):Nat):Int):Int) from by omega] at H;rw[show Bt (AJ (Ex nx sk i)) (Ag 2 x) (5+2*i)=AJ (Ex nx sk i++Ag 2 x) from BE (by first|omega|(simp[Ah,n]<;>omega)) (by first|omega|(simp[Ah,n]<;>omega))] at H;have H:Sep z (blk b (A5 (AJ (Ex nx sk i++Ag 2 x)) ((5+2*(i+1):Nat):Int)) 167::blk g [I nx,.slice m vs.length f,.slice l sk.length c] 83::A::B::R) w:=H;refine Z1 7 [] [(i:Int)+1] Z U (gf ?_);intro _ hF;refine ⟨(i+1),hF.cz,⟨(by rw[T4 nx hx];exact H),?_⟩,?_⟩
  ·omega
  omega
 obtain rfl:i=sk.length:=by omega
 refine Zc 2 Z (gx (Z0 5 [256] Z (Az Z Z (Ak 0 H Z Z Z Z (vs:=[I 21]) Z (Ad Z Aw) J (by rw[Fh (AS (by first|omega|(simp[Ah,n]<;>omega)))];simp) (out:=(A5 (AJ (Ex nx sk sk.length)) 21)) (Jn (AS (by first|omega|(simp[Ah,n]<;>omega))))) ?_)));rintro w H;replace H:=H.l4;rw[T6 nx hs vs] at H;refine Z2 12 [1,1,0] H Z ?_;refine AB (σ:=Nat) (λi=>[(49,I (i:Int)),(4,Y b),(47,.slice m vs.length f),(48,I (vs.length:Int))])
   (λi w=>Sep z (blk b (A5 (AJ (Cc nx sk vs i)) ((21+19*i:Nat):Int)) 167::blk g [I nx,.slice m vs.length f,.slice l sk.length c] 83::A::B::R) w/\(i<=vs.length)) (λi=>vs.length-i) 0
   fr_z ⟨H,AeO _⟩ ?_
 clear H;rintro i w ⟨H',t⟩;have H:=H'.l4;have o:=t;clear t;have a:=Ey nx hs o;refine Z0 6 [0] Z (Af Z (λh6=>?_) (λh6=>?_))
 ·refine Zc 5 Z ?_;obtain ⟨e,he⟩:∃e,vs[i]?=some e:=⟨_,Aed U⟩;have a0:=hf e (Aec he)
  have a2:=(H.rd 2 Z hA).at (AU he 0 _ Z);refine Zc 1 Z (Ab Z (Aj Z (z:=6) (j:=i) (r:=i*6) J Z Z Z U a2 U) (Ab Z (Bp Z Z (vs:=e.cells) J (by simp[Vl.cells]) (Ay (λk u hk=>(H.rd 2 Z hA).at (AU he k u hk)))) (Za 0 [] H Z ?_)));intro p w H;refine Z4 7 [0,0,6] H Z ?_;intro w H;refine z_E_ Z (call101 _) (T7 a0) H ?_;intro w H;refine Z2 10 [0,0,0] H Z (z_E_ Z (call100 _) (CG (21+19*i) 4 e.id (AS (by first|omega|(simp[Ah,a]<;>omega))) U) H.f1 ?_);intro w H;replace H:=H.l5;rw[show Bt (AJ (Cc nx sk vs i)) (Ag 4 e.id) (21+19*i)=AJ (Cc nx sk vs i++Ag 4 e.id) from BE (by first|omega|(simp[Ah,a]<;>omega)) (by first|omega|(simp[Ah,a]<;>omega))] at H;have H:Sep z (blk b (A5 (AJ (Cc nx sk vs i++Ag 4 e.id)) ((21+19*i+4:Nat):Int)) 167::blk p [I e.id,I e.st,I e.sz,I e.q,I e.r,I e.mp] 77::blk g [I nx,.slice m vs.length f,.slice l sk.length c] 83::A::B::R) w:=H;refine Z2 6 [1,1,0] H Z (z_E_ Z (call100 _) (CG (21+19*i+4) 1 e.st (AS (by first|omega|(simp[Ah,a]<;>omega))) U) H ?_);intro w H;replace H:=H.l5;rw[show Bt (AJ (Cc nx sk vs i++Ag 4 e.id)) (Ag 1 e.st) (21+19*i+4)=AJ (Cc nx sk vs i++Ag 4 e.id++Ag 1 e.st) from BE (by first|omega|(simp[Ah,a]<;>omega)) (by first|omega|(simp[Ah,a]<;>omega))] at H;have H:Sep z (blk b (A5 (AJ (Cc nx sk vs i++Ag 4 e.id++Ag 1 e.st)) ((21+19*i+5:Nat):Int)) 167::blk p [I e.id,I e.st,I e.sz,I e.q,I e.r,I e.mp] 77::blk g [I nx,.slice m vs.length f,.slice l sk.length c] 83::A::B::R) w:=H;refine Z2 6 [2,1,0] H Z (z_E_ Z (call100 _) (CG (21+19*i+5) 4 e.sz (AS (by first|omega|(simp[Ah,a]<;>omega))) U) H ?_);intro w H;replace H:=H.l5;rw[show Bt (AJ (Cc nx sk vs i++Ag 4 e.id++Ag 1 e.st)) (Ag 4 e.sz) (21+19*i+5)=AJ (Cc nx sk vs i++Ag 4 e.id++Ag 1 e.st++Ag 4 e.sz) from BE (by first|omega|(simp[Ah,a]<;>omega)) (by first|omega|(simp[Ah,a]<;>omega))] at H;have H:Sep z (blk b (A5 (AJ (Cc nx sk vs i++Ag 4 e.id++Ag 1 e.st++Ag 4 e.sz)) ((21+19*i+9:Nat):Int)) 167::blk p [I e.id,I e.st,I e.sz,I e.q,I e.r,I e.mp] 77::blk g [I nx,.slice m vs.length f,.slice l sk.length c] 83::A::B::R) w:=H;refine Z2 6 [3,1,0] H Z (z_E_ Z (call100 _) (CG (21+19*i+9) 4 e.q (AS (by first|omega|(simp[Ah,a]<;>omega))) U) H ?_);intro w H;replace H:=H.l5;rw[show Bt (AJ (Cc nx sk vs i++Ag 4 e.id++Ag 1 e.st++Ag 4 e.sz)) (Ag 4 e.q) (21+19*i+9)=AJ (Cc nx sk vs i++Ag 4 e.id++Ag 1 e.st++Ag 4 e.sz++Ag 4 e.q) from BE (by first|omega|(simp[Ah,a]<;>omega)) (by first|omega|(simp[Ah,a]<;>omega))] at H;have H:Sep z (blk b (A5 (AJ (Cc nx sk vs i++Ag 4 e.id++Ag 1 e.st++Ag 4 e.sz++Ag 4 e.q)) ((21+19*i+13:Nat):Int)) 167::blk p [I e.id,I e.st,I e.sz,I e.q,I e.r,I e.mp] 77::blk g [I nx,.slice m vs.length f,.slice l sk.length c] 83::A::B::R) w:=H;refine Z2 6 [4,1,0] H Z (z_E_ Z (call100 _) (CG (21+19*i+13) 2 e.r (AS (by first|omega|(simp[Ah,a]<;>omega))) U) H ?_);intro w H;replace H:=H.l5;rw[show Bt (AJ (Cc nx sk vs i++Ag 4 e.id++Ag 1 e.st++Ag 4 e.sz++Ag 4 e.q)) (Ag 2 e.r) (21+19*i+13)=AJ (Cc nx sk vs i++Ag 4 e.id++Ag 1 e.st++Ag 4 e.sz++Ag 4 e.q++Ag 2 e.r) from BE (by first|omega|(simp[Ah,a]<;>omega)) (by first|omega|(simp[Ah,a]<;>omega))] at H;have H:Sep z (blk b (A5 (AJ (Cc nx sk vs i++Ag 4 e.id++Ag 1 e.st++Ag 4 e.sz++Ag 4 e.q++Ag 2 e.r)) ((21+19*i+15:Nat):Int)) 167::blk p [I e.id,I e.st,I e.sz,I e.q,I e.r,I e.mp] 77::blk g [I nx,.slice m vs.length f,.slice l sk.length c] 83::A::B::R) w:=H;refine Z2 5 [5,1,0] H Z (z_E_ Z (call100 _) (CG (21+19*i+15) 4 e.mp (AS (by first|omega|(simp[Ah,a]<;>omega))) U) H ?_);intro w H;replace H:=H.l5;rw[show ((21+19*i+19:Nat):Int)=(((21+19*(i+1):Nat):Int):Int) from by omega] at H;rw[show Bt (AJ (Cc nx sk vs i++Ag 4 e.id++Ag 1 e.st++Ag 4 e.sz++Ag 4 e.q++Ag 2 e.r)) (Ag 4 e.mp) (21+19*i+15)=AJ (Cc nx sk vs i++Ag 4 e.id++Ag 1 e.st++Ag 4 e.sz++Ag 4 e.q++Ag 2 e.r++Ag 4 e.mp) from BE (by first|omega|(simp[Ah,a]<;>omega)) (by first|omega|(simp[Ah,a]<;>omega))] at H;have H:Sep z (blk b (A5 (AJ (Cc nx sk vs i++Ag 4 e.id++Ag 1 e.st++Ag 4 e.sz++Ag 4 e.q++Ag 2 e.r++Ag 4 e.mp)) ((21+19*(i+1):Nat):Int)) 167::blk p [I e.id,I e.st,I e.sz,I e.q,I e.r,I e.mp] 77::blk g [I nx,.slice m vs.length f,.slice l sk.length c] 83::A::B::R) w:=H;refine Z1 7 [] [(i:Int)+1] Z U ?_;replace H:=H.f1.d;refine gf ?_;intro _ hF;refine ⟨(i+1),hF.cz,⟨(by rw[T5 nx sk he];exact H),?_⟩,?_⟩
  ·omega
  omega
 obtain rfl:i=vs.length:=by omega
 refine Zc 2 Z (gx (Zc 4 Z (z_E_ Z (call102 _) (LS (AS (by first|omega|(simp[Ah,a]<;>omega)))) H ?_)));intro w H;refine Zc 5 Z (Zr Z ?_);rw[show 21+19*vs.length=21+19*8 by rw[hv]] at H;exact ⟨_,⟨b,Z,Z⟩,H.perm 4 [0,2,3] Z Z⟩
set_option maxHeartbeats 4000000 in
theorem T8 (b o c:Nat) (bd:List UInt8) (A:Ai) (j:∀h,A h->rdH 1 (.slice (some ⟨b,o,none⟩) 240 c) 240 (bd.map u8) h) (nx:Int) (sk:List Int) (vs:List Vl) (hs:sk.length<=8) (k:vs.length=8) (a8:0<=nx/\nx<=1073741824) (a5:∀x∈sk,0<=x/\x<=1023) (hf:∀e∈vs,e.Fit) (a:bd=Dq nx sk vs):Cn prog 115 [.slice (some ⟨b,o,none⟩) 240 c] [A] (λv Γ=>∃v1 v2:Value,(sk=[]->v2=.slice none 0 0)/\v=.tuple #[.agg #[I nx,v1,v2],.bool true]/\Γ=[grow 77 6 v1 vs.length (Bb vs),grow 3 1 v2 sk.length (sk.map I),A]):=by
 intro z R w H;replace H:=H.l1;have c3:=H.sy 0 (λq=>(j _ q).cap);have g0:AX ((bd.drop 0).take 4)=nx:=by rw[a];exact WA hs k a8
 have g1:AX ((bd.drop 4).take 1)=(sk.length:Int):=by rw[a];exact WB hs k
 refine Ae func115 Z ntmps115 Z (Za 2 [] H Z ?_);intro s w H;refine Za 6 [] H Z ?_;intro n w H;refine Za 18 [0,4] H Z ?_;intro p w H;refine Z4 5 [0] H Z ?_;intro w H;refine z_E_ Z (call165 _) (Cz 4 b o 240 (c) ((bd.drop 0).take 240) (λh q=>by have:=(j h q).cut (lo:=0) (m:=240) (c':=c) U U U;exact this) U U ((bd.drop 0).take 4) (by rw[AeD,AeE U]) (o+4) 236 (c-4) U U U) H.f3.f1 ?_;intro w H;replace H:=H.l4;refine AD 17 (v:=I nx) Z (congrArg I g0) (Za 1 [] H Z ?_);intro l w H;refine Z4 5 [0] H Z ?_;intro w H;refine z_E_ Z (call165 _) (Cz 1 b (o+4) 236 ((c-4)) ((bd.drop 4).take 236) (λh q=>by have:=(j h q).cut (lo:=4) (m:=236) (c':=(c-4)) U U U;exact this) U U ((bd.drop 4).take 1) (by rw[AeD,AeE U]) (o+5) 235 (c-5) U U U) H.f2.f2 ?_;intro w H;replace H:=H.l5;refine AD 19 (v:=I (sk.length:Int)) Z (congrArg I g1) (Z0 10 [0] Z (Af Z (λh1=>U) (λh1=>?_)));refine Zc 4 Z ?_;replace H:=(H.nilg 3 1).l6;refine Zc 6 Z ?_;refine AB (σ:=Nat×Value) (λ⟨i,v⟩=>[(24,I (i:Int)),(2,Y s),(3,.bool false),(4,Y n),(5,Y p),(6,Y l),(7,I (sk.length:Int)),(23,I (sk.length:Int))])
   (λ⟨i,v⟩ w=>Sep z (grow 3 1 v i ((sk.take i).map I)::blk p [.slice (some ⟨b,(o+(5+2*i)),none⟩) (240-(5+2*i)) (c-(5+2*i))] 258::A::blk l [I nx,.slice none 0 0,v] 83::blk n [I 0,.slice none 0 0,.slice none 0 0] 83::blk s [I 0,.slice none 0 0,.slice none 0 0] 83::R) w/\(i<=sk.length/\(i=0->v=.slice none 0 0))) (λ⟨i,v⟩=>sk.length-i) ⟨0,.slice none 0 0⟩
   fr_z ⟨H,⟨AeO _,λ_=>rfl⟩⟩ ?_
 clear H;rintro ⟨i,v⟩ w ⟨f,t⟩;dsimp only at t f ⊢;have H:=f.l6;have sv:=H.sy 0 (·.slc);obtain ⟨a6,b8⟩:=t;refine Z0 6 [0] Z (Af Z (λh2=>?_) (λh2=>?_))
 ·refine Zc 4 Z ?_;obtain ⟨x,hx⟩:∃x,sk[i]?=some x:=⟨_,Aed U⟩;have b9:=a5 x (Aec hx)
  have gx:AX ((bd.drop (5+2*i)).take 2)=x:=by rw[a];exact Ace hs k hx b9
  replace H:=H.f3;refine Bh (Sep z (blk l [I nx,.slice none 0 0,v] 83::R)) 7 Z J (AZ H λw f=>?_);have H:=f.l6;refine Bu [0,1] [2,0] J (λ_ hx=>(AO (hx.blk 0 Z) AM)) (by exact H.pick 6 [0] Z) Z J Z Z (AE [2] J O (Am (Bo Z Z Z Z Z Z (λw=>call165 _ w) (Cz 2 b (o+(5+2*i)) (240-(5+2*i)) ((c-(5+2*i))) ((bd.drop (5+2*i)).take (240-(5+2*i))) (λh q=>by have:=(j h q).cut (lo:=(5+2*i)) (m:=(240-(5+2*i))) (c':=(c-(5+2*i))) U U U;exact this) U U ((bd.drop (5+2*i)).take 2) (by rw[AeD,AeE U]) (o+(5+2*(i+1))) (240-(5+2*(i+1))) (c-(5+2*(i+1))) U U U) H.f3.f3 Z ?_)));rintro _ w _ ⟨rfl,rfl⟩ H;replace H:=H.l6;refine AD 28 (v:=I x) Z (congrArg I gx) (Ar (λ_=>(H.pick 6 [2] Z)) (AE [3] J O (Am (Ca Z Z Z Z (AP H Z J BA Z (by decide) (by decide) (out:=[I x]) J) ?_))));rintro _ w ⟨b5,rfl,H⟩;replace H:=H.l7;refine Ar (λ_=>(H.pick 7 [3] Z)) (AE [4] J O (Am (Ca Z Z Z Z (A0 4 H Z Z J BA Z Z (H.rv 0 (·.rd U U O Z)) (by simp[Value.oneCell']) U) ?_)));rintro v6 w f;have f:Sep z (blk b5 [I x] 3::blk p [.slice (some ⟨b,(o+(5+2*(i+1))),none⟩) (240-(5+2*(i+1))) (c-(5+2*(i+1)))] 258::A::blk l [I nx,.slice none 0 0,v] 83::grow 3 1 v6 (i+1) ((sk.take i).map I++[I x])::blk n [I 0,.slice none 0 0,.slice none 0 0] 83::blk s [I 0,.slice none 0 0,.slice none 0 0] 83::R) w:=f;have c0:((sk.take i).map I++[I x]:List Value)=(sk.take (i+1)).map I:=(D5 hx);rw[c0] at f;have H:=f.l7;have a1:=H.sy 4 (·.slc);refine Ar (λ_=>(H.pick 7 [3] Z)) (Bu [5] [2] J (λ_ _=>AM) (by exact H.pick 7 [3] Z) Z J Z Z (AE [6] J O (Am (Bi Z Z Z (JT 3 H Z Z Z Z a1.cells a1.one J) ?_))));rintro w H;replace H:=H.l7;refine Ar (λh=>absurd Z h) (Bj J (gn (Z1 6 [] [(i:Int)+1] Z U ?_)));replace H:=H.d.f5.f5.f4.f4.f4.f5;refine gf ?_;intro _ hF;refine ⟨⟨i+1,v6⟩,hF.cz,⟨H,?_⟩,?_⟩
  ·exact ⟨by dsimp only;omega,λq=>absurd q (by dsimp only;omega)⟩
  (dsimp only;omega)
 obtain rfl:i=sk.length:=by omega
 refine Zc 2 Z (gx (Z1 11 [] [8-(sk.length:Int)] Z U ?_));refine AB (σ:=Nat) (λi=>[(35,I (i:Int)),(2,Y s),(4,Y n),(5,Y p),(6,Y l),(34,I (8-(sk.length:Int)))])
   (λi w=>Sep z (grow 3 1 v sk.length ((sk.take sk.length).map I)::blk p [.slice (some ⟨b,(o+(5+2*sk.length+2*i)),none⟩) (240-(5+2*sk.length+2*i)) (c-(5+2*sk.length+2*i))] 258::A::blk l [I nx,.slice none 0 0,v] 83::blk n [I 0,.slice none 0 0,.slice none 0 0] 83::blk s [I 0,.slice none 0 0,.slice none 0 0] 83::R) w/\(i<=8-sk.length)) (λi=>8-sk.length-i) 0
   fr_z ⟨H,AeO _⟩ ?_
 clear H;rintro i w ⟨f,t⟩;have H:=f.l6;have a6:=t;clear t;refine Z0 6 [0] Z (Af Z (λh3=>?_) (λh3=>?_))
 ·refine Zc 6 Z (z_E_ Z (call165 _) (Cz 2 b (o+(5+2*sk.length+2*i)) (240-(5+2*sk.length+2*i)) ((c-(5+2*sk.length+2*i))) ((bd.drop (5+2*sk.length+2*i)).take (240-(5+2*sk.length+2*i))) (λh q=>by have:=(j h q).cut (lo:=(5+2*sk.length+2*i)) (m:=(240-(5+2*sk.length+2*i))) (c':=(c-(5+2*sk.length+2*i))) U U U;exact this) U U ((bd.drop (5+2*sk.length+2*i)).take 2) (by rw[AeD,AeE U]) (o+(5+2*sk.length+2*(i+1))) (240-(5+2*sk.length+2*(i+1))) (c-(5+2*sk.length+2*(i+1))) U U U) H.f2.f2 ?_);intro w H;replace H:=H.l6;refine AD 37 (v:=I 0) Z (congrArg I (by rw[a];exact ZW hs k U)) (Z1 11 [4] [(i:Int)+1] Z U ?_);replace H:=H.f5.f5.f5.f4.f4.f5;refine gf ?_;intro _ hF;refine ⟨(i+1),hF.cz,⟨H,?_⟩,?_⟩
  ·omega
  omega
 obtain rfl:i=8-sk.length:=by omega
 have a9:5+2*sk.length+2*(8-sk.length)=21:=by omega
 rw[a9] at H;refine Zc 2 Z (gx (Zc 4 Z ?_));have H:Sep z (grow 3 1 v sk.length ((sk.take sk.length).map I)::blk p [.slice (some ⟨b,(o+21),none⟩) 219 (c-21)] 258::A::blk l [I nx,.slice none 0 0,v] 83::blk n [I 0,.slice none 0 0,.slice none 0 0] 83::blk s [I 0,.slice none 0 0,.slice none 0 0] 83::R) w:=H;replace H:=(H.nilg 77 6).l7;refine Zc 5 Z ?_;refine AB (σ:=Nat×Value) (λ⟨i,u⟩=>[(41,I (i:Int)),(2,Y s),(4,Y n),(5,Y p),(6,Y l)])
   (λ⟨i,u⟩ w=>Sep z (grow 77 6 u i (Bb (vs.take i))::grow 3 1 v sk.length ((sk.take sk.length).map I)::blk p [.slice (some ⟨b,(o+(21+19*i)),none⟩) (240-(21+19*i)) (c-(21+19*i))] 258::A::blk l [I nx,u,v] 83::blk n [I 0,.slice none 0 0,.slice none 0 0] 83::blk s [I 0,.slice none 0 0,.slice none 0 0] 83::R) w/\(i<=vs.length)) (λ⟨i,u⟩=>vs.length-i) ⟨0,.slice none 0 0⟩
   fr_z ⟨H,AeO _⟩ ?_
 clear H;rintro ⟨i,u⟩ w ⟨f,t⟩;dsimp only at t f ⊢;have H:=f.l7;have su:=H.sy 0 (·.slc);have sv:=H.sy 1 (·.slc);have a6:=t;refine Z0 6 [0] Z (Af Z (λh4=>?_) (λh4=>?_))
 ·refine Zc 4 Z ?_;obtain ⟨e,y⟩:∃e,vs[i]?=some e:=⟨_,Aed U⟩;have g:=hf e (Aec y)
  have a4:AX ((bd.drop (21+19*i)).take 4)=e.id:=by rw[a];exact Acf hs k y g
  have a0:AX ((bd.drop (21+19*i+4)).take 1)=e.st:=by rw[a];exact Acg hs k y g
  have a2:AX ((bd.drop (21+19*i+5)).take 4)=e.sz:=by rw[a];exact Ach hs k y g
  have b0:AX ((bd.drop (21+19*i+9)).take 4)=e.q:=by rw[a];exact Adi hs k y g
  have c1:AX ((bd.drop (21+19*i+13)).take 2)=e.r:=by rw[a];exact Adj hs k y g
  have a7:AX ((bd.drop (21+19*i+15)).take 4)=e.mp:=by rw[a];exact Aci hs k y g
  replace H:=H.f4;refine Bh (Sep z (blk l [I nx,u,v] 83::R)) 13 Z J (AZ H λw f=>?_);have H:=f.l7;refine Bu [0,1] [1,0] J (λ_ hx=>(AO (hx.blk 0 Z) AM)) (by exact H.pick 7 [0] Z) Z J Z Z (AE [2] J O (Am (Bo Z Z Z Z Z Z (λw=>call165 _ w) (Cz 4 b (o+(21+19*i)) (240-(21+19*i)) ((c-(21+19*i))) ((bd.drop (21+19*i)).take (240-(21+19*i))) (λh q=>by have:=(j h q).cut (lo:=(21+19*i)) (m:=(240-(21+19*i))) (c':=(c-(21+19*i))) U U U;exact this) U U ((bd.drop (21+19*i)).take 4) (by rw[AeD,AeE U]) (o+(21+19*i+4)) (240-(21+19*i+4)) (c-(21+19*i+4)) U U U) H.f4.f4 Z ?_)));rintro _ w _ ⟨rfl,rfl⟩ H;replace H:=H.l7;refine AD 45 (v:=I e.id) Z (congrArg I a4) (Ar (λ_=>(H.pick 7 [2] Z)) (AE [3] J O (Am (Bo Z Z Z Z Z Z (λw=>call165 _ w) (Cz 1 b (o+(21+19*i+4)) (240-(21+19*i+4)) ((c-(21+19*i+4))) ((bd.drop (21+19*i+4)).take (240-(21+19*i+4))) (λh q=>by have:=(j h q).cut (lo:=(21+19*i+4)) (m:=(240-(21+19*i+4))) (c':=(c-(21+19*i+4))) U U U;exact this) U U ((bd.drop (21+19*i+4)).take 1) (by rw[AeD,AeE U]) (o+(21+19*i+5)) (240-(21+19*i+5)) (c-(21+19*i+5)) U U U) H Z ?_))));rintro _ w _ ⟨rfl,rfl⟩ H;replace H:=H.l7;refine AD 46 (v:=I e.st) Z (congrArg I a0) (Ar (λ_=>(H.pick 7 [2] Z)) (AE [4] J O (Am (Bo Z Z Z Z Z Z (λw=>call165 _ w) (Cz 4 b (o+(21+19*i+5)) (240-(21+19*i+5)) ((c-(21+19*i+5))) ((bd.drop (21+19*i+5)).take (240-(21+19*i+5))) (λh q=>by have:=(j h q).cut (lo:=(21+19*i+5)) (m:=(240-(21+19*i+5))) (c':=(c-(21+19*i+5))) U U U;exact this) U U ((bd.drop (21+19*i+5)).take 4) (by rw[AeD,AeE U]) (o+(21+19*i+9)) (240-(21+19*i+9)) (c-(21+19*i+9)) U U U) H Z ?_))));rintro _ w _ ⟨rfl,rfl⟩ H;replace H:=H.l7;refine AD 47 (v:=I e.sz) Z (congrArg I a2) (Ar (λ_=>(H.pick 7 [2] Z)) (AE [5] J O (Am (Bo Z Z Z Z Z Z (λw=>call165 _ w) (Cz 4 b (o+(21+19*i+9)) (240-(21+19*i+9)) ((c-(21+19*i+9))) ((bd.drop (21+19*i+9)).take (240-(21+19*i+9))) (λh q=>by have:=(j h q).cut (lo:=(21+19*i+9)) (m:=(240-(21+19*i+9))) (c':=(c-(21+19*i+9))) U U U;exact this) U U ((bd.drop (21+19*i+9)).take 4) (by rw[AeD,AeE U]) (o+(21+19*i+13)) (240-(21+19*i+13)) (c-(21+19*i+13)) U U U) H Z ?_))));rintro _ w _ ⟨rfl,rfl⟩ H;replace H:=H.l7;refine AD 48 (v:=I e.q) Z (congrArg I b0) (Ar (λ_=>(H.pick 7 [2] Z)) (AE [6] J O (Am (Bo Z Z Z Z Z Z (λw=>call165 _ w) (Cz 2 b (o+(21+19*i+13)) (240-(21+19*i+13)) ((c-(21+19*i+13))) ((bd.drop (21+19*i+13)).take (240-(21+19*i+13))) (λh q=>by have:=(j h q).cut (lo:=(21+19*i+13)) (m:=(240-(21+19*i+13))) (c':=(c-(21+19*i+13))) U U U;exact this) U U ((bd.drop (21+19*i+13)).take 2) (by rw[AeD,AeE U]) (o+(21+19*i+15)) (240-(21+19*i+15)) (c-(21+19*i+15)) U U U) H Z ?_))));rintro _ w _ ⟨rfl,rfl⟩ H;replace H:=H.l7;refine AD 49 (v:=I e.r) Z (congrArg I c1) (Ar (λ_=>(H.pick 7 [2] Z)) (AE [7] J O (Am (Bo Z Z Z Z Z Z (λw=>call165 _ w) (Cz 4 b (o+(21+19*i+15)) (240-(21+19*i+15)) ((c-(21+19*i+15))) ((bd.drop (21+19*i+15)).take (240-(21+19*i+15))) (λh q=>by have:=(j h q).cut (lo:=(21+19*i+15)) (m:=(240-(21+19*i+15))) (c':=(c-(21+19*i+15))) U U U;exact this) U U ((bd.drop (21+19*i+15)).take 4) (by rw[AeD,AeE U]) (o+(21+19*(i+1))) (240-(21+19*(i+1))) (c-(21+19*(i+1))) U U U) H Z ?_))));rintro _ w _ ⟨rfl,rfl⟩ H;replace H:=H.l7;refine AD 50 (v:=I e.mp) Z (congrArg I a7) (Ar (λ_=>(H.pick 7 [2] Z)) (BJ 8 J Z Z J J J Z Z Z (Bc Z Z (out:=[I e.id,I e.st,I e.sz,I e.q,I e.r,I e.mp]) J) (H.pick 7 [2] Z) (AE [9] J O (Am (Ca Z Z Z Z (AP H Z J Ch Z (by decide) (by decide) (out:=[I e.id,I e.st,I e.sz,I e.q,I e.r,I e.mp]) J) ?_)))));rintro _ w ⟨b7,rfl,H⟩;replace H:=H.l8;refine Ar (λ_=>(H.pick 8 [3] Z)) (AE [10] J O (Am (Ca Z Z Z Z (A0 4 H Z Z J Ch Z Z (H.rv 0 (·.rd U U O Z)) (λc hc=>QU [e] c (by simpa [Bb,Vl.cells] using hc)) U) ?_)));rintro v8 w f;have f:Sep z (blk b7 [I e.id,I e.st,I e.sz,I e.q,I e.r,I e.mp] 77::blk p [.slice (some ⟨b,(o+(21+19*(i+1))),none⟩) (240-(21+19*(i+1))) (c-(21+19*(i+1)))] 258::A::blk l [I nx,u,v] 83::grow 77 6 v8 (i+1) (Bb (vs.take i)++[I e.id,I e.st,I e.sz,I e.q,I e.r,I e.mp])::grow 3 1 v sk.length ((sk.take sk.length).map I)::blk n [I 0,.slice none 0 0,.slice none 0 0] 83::blk s [I 0,.slice none 0 0,.slice none 0 0] 83::R) w:=f;have b6:(Bb (vs.take i)++[I e.id,I e.st,I e.sz,I e.q,I e.r,I e.mp]:List Value)=Bb (vs.take (i+1)):=(ZX y);rw[b6] at f;have H:=f.l8;have a3:=H.sy 4 (·.slc);refine Ar (λ_=>(H.pick 8 [3] Z)) (Bu [11] [1] J (λ_ _=>AM) (by exact H.pick 8 [3] Z) Z J Z Z (AE [12] J O (Am (Bi Z Z Z (Lq 3 H Z Z Z Z a3.cells a3.one J) ?_))));rintro w H;replace H:=H.l8;refine Ar (λh=>absurd Z h) (Bj J (gn (Z1 6 [] [(i:Int)+1] Z U ?_)));replace H:=H.d.f6.f6.f4.f4.f4.f6.f6;refine gf ?_;intro _ hF;refine ⟨⟨i+1,v8⟩,hF.cz,⟨H,?_⟩,?_⟩
  ·dsimp only;omega
  (dsimp only;omega)
 obtain rfl:i=vs.length:=by omega
 refine Zc 2 Z (gx (Zc 4 Z ?_));rw[show vs.take vs.length=vs from Ae7,show sk.take sk.length=sk from Ae7] at H;refine Z2 2 [4,3] H Z (Aq Z (call54 _) (I6 nx sk vs (λh q=>q.rd) (λh q=>q.rd) hs k a8 a5 hf) H ?_);rintro _ w _ ⟨pw,rfl,rfl⟩ H;refine Z0 12 [4] Z (z_E_ Z (call166 _) (KT b (o+(21+19*vs.length)) (240-(21+19*vs.length)) ((c-(21+19*vs.length))) ((bd.drop (21+19*vs.length)).take (240-(21+19*vs.length))) (λh q=>by have:=(j h q).cut (lo:=(21+19*vs.length)) (m:=(240-(21+19*vs.length))) (c':=(c-(21+19*vs.length))) U U U;exact this) (.inr ⟨by omega,by rw[a,show 21+19*vs.length=173 by omega,show 240-173=67 from Z];exact O4 hs k,by omega⟩)) H.f4.f4 ?_);intro w H;replace H:=H.l8;refine Ab Z (AF Z Z) (Zc 3 Z (Af Z (λh5=>?_) (λh5=>?_)))
 ·exact absurd (by rw[a,show 21+19*vs.length=173 by omega,show 240-173=67 from Z];exact O4 hs k) h5
 refine Z2 5 [5,3] H Z (Az Z Z (Ak 7 H Z Z Z Z (vs:=[I nx,u,v]) Z (Ad Z (Ad su.one (Ad sv.one Aw))) J O (out:=[I nx,u,v]) Z) ?_);rintro w H;replace H:=H.l8;refine Zc 4 Z (Zl [7,3] H Z ?_);exact ⟨_,⟨u,v,λq=>b8 (by rw[q];rfl),Z,Z⟩,H.perm 8 [3,4,1] Z Z⟩
set_option maxHeartbeats 2000000 in
theorem R7 (dn n:Nat) (hn:16<=n/\n<=1024) (r:(CA n s t 2).Ok (dn:Int)):Cn prog 19 [Y j,I (n:Int),I s,I t] [diskA j (Ct dn)] (λv Γ=>∃(o:Dsk) (f:StG) (bs:List UInt8),bs.length=256/\bs=AJ (Cc 1 [] (List.replicate 8 v0) (List.replicate 8 v0).length)/\OInv o f.x f.B (λgot=>got=f.rs)/\Clean o/\(f.x.gen<=((5:Nat):Int)/\f.x.epoch<=((5:Nat):Int))/\o.n=dn/\f.x.pages=n/\f.M=Ej (λ_=>noPg) (some (gF n (bs.take 240) (manyN n),1+manyN n))/\v=I 0/\Γ=[diskA j o]):=by
 intro z R w H;have b3:=OG hn.1;have b2:=OF hn.2;refine Ae func19 Z ntmps19 Z (Zc 12 Z (z_E_ Z (call51 _) (VU dn r) H ?_));intro w H;refine Z0 15 [4] Z (Aq Z (call52 _) (TI (Y1 r) (VS) (show (2:Int)<=(2:Nat)/\(1:Int)<=(2:Nat) by omega) U) H ?_);rintro _ w _ ⟨ps,D0,a9,y,a7,a2,rfl,rfl⟩ H;subst y;have a:Sep z (stoA ps j D0 (Qy (CA n s t 2) (λ_=>noPg)) none::R) w:=H;clear H;have H:=a.l1;refine Z0 21 [4] Z (z_E_ Z (call53 _) (Qz) H ?_);intro w H;refine Z0 14 [4] Z (AR Z (Zd (k:=8) (out:=Xv) H Z J Ch Z Z U J) ?_);rintro _ w ⟨b1,rfl,H⟩;refine Zc 1 Z ?_;replace H:=(H.nilg 3 1).l3;refine Aq Z (call54 _) (I6 1 [] (List.replicate 8 v0) (λh q=>q.rd U U (by simp[Xv]) (by rfl)) (λh q=>q.rd) O O U O (λe he=>by rw[(Af3.1 he).2];exact v0_fit)) H.f1 ?_;rintro _ w _ ⟨pw,rfl,rfl⟩ H;obtain ⟨bs,l⟩:∃bs,bs=AJ (Cc 1 [] (List.replicate 8 v0) (List.replicate 8 v0).length):=⟨_,Z⟩;have g:bs.length=256:=by rw[l];exact AS (by rw[Ey 1 O (Aei _),Afj];omega)
 rw[<-l] at H;refine Z0 23 [4] Z (Aq Z (call55 _) (Gv 0 (by show (0:Int)<(n:Int);omega) ⟨1,bs.take 240⟩ ⟨by show (1:Int)<=1/\(1:Int)<=5;omega,by show (bs.take 240).length=240;rw[Aex];omega⟩ (λh q=>q.rd U U (V5 g) (Ze g))) H.f3 ?_);rintro _ w _ (⟨b,rfl,rfl⟩|⟨_,rfl,rfl⟩) a
 ·(exfalso;have:=b.2;omega)
 have H:=a.l4;rw[Zh n] at H;refine Z0 15 [4] Z (Aq Z (call56 _) (Ty U) H ?_);rintro _ w _ ⟨pc,bn,m,rfl,rfl⟩ H;refine Z0 20 [4] Z (z_E_ Z (call57 _) (Gb U) H ?_);intro w H;refine Z1 12 [] [(manyN n:Int)+1] Z U ?_;refine AB (σ:=Nat×List IE×Nat) (λ⟨i,p,clk⟩=>[(70,I (i:Int)),(8,I 0),(10,Y ps),(15,Y pc),(16,I (manyN n:Int)),(69,I ((manyN n:Int)+1))])
   (λ⟨i,p,clk⟩ w=>Sep z (coB pc bn n m::Cf bn (C1 i) n::AH m p clk::stoA ps j D0 (Qy (CA n s t 2) (λ_=>noPg)) (some (gF n (bs.take 240) 0,1+0))::blk pw (A5 bs ((21+19*8:Nat):Int)) 167::blk b1 Xv 77::grow 3 1 (.slice none 0 0) 0 []::R) w/\(i<=manyN n+1/\WasOk (C1 i) (λ_=>0) n p clk)) (λ⟨i,p,clk⟩=>manyN n+1-i) ⟨0,[],0⟩
   fr_z ⟨(by rw[QD];exact H),⟨by omega,by rw[QD];exact WasOk.nil _ _ _⟩⟩ ?_
 clear H;rintro ⟨i,p,clk⟩ w ⟨a,u⟩;dsimp only at u a ⊢;have H:=a.l7;obtain ⟨a3,W⟩:=u;have a0:C1 i i=0:=by simp[C1]
 refine Z0 6 [0] Z (Af Z (λh1=>?_) (λh1=>?_))
 ·refine Zc 13 Z (Aq Z (call58 _) (IY (λ_=>0) i 1 U U (by rw[a0];rfl) U (by rw[a0];omega) W) H ?_);rintro _ w _ ⟨l2,a1,W2,rfl,rfl⟩ H;refine Z1 7 [] [(i:Int)+1] Z U (gf ?_);intro _ hF;refine ⟨⟨i+1,l2,a1⟩,hF.cz,⟨(by rw[<-QC];exact H),?_⟩,?_⟩
  ·dsimp only;exact ⟨by omega,by rw[<-QC];exact W2⟩
  (dsimp only;omega)
 obtain rfl:i=manyN n+1:=by omega
 refine Zc 2 Z (gx (Zc 10 Z ?_));refine AB (σ:=Nat) (λi=>[(78,I (i:Int)),(10,Y ps),(15,Y pc),(77,I (manyN n:Int))])
   (λi w=>Sep z (coB pc bn n m::Cf bn (C1 (manyN n+1)) n::AH m p clk::stoA ps j D0 (Qy (CA n s t 2) (λ_=>noPg)) (some (gF n (bs.take 240) i,1+i))::blk pw (A5 bs ((21+19*8:Nat):Int)) 167::blk b1 Xv 77::grow 3 1 (.slice none 0 0) 0 []::R) w/\(i<=manyN n)) (λi=>manyN n-i) 0
   fr_z ⟨H,by omega⟩ ?_
 clear H;rintro i w ⟨a,u⟩;have H:=a.l7;have a3:=u;clear u;refine Z0 6 [0] Z (Af Z (λh2=>?_) (λh2=>?_))
 ·refine Z1 17 [] [((1+i:Nat):Int)] Z U (Aq Z (call59 _) (Qt i U U (RV)) H ?_);rintro _ w _ ⟨pq,rfl,rfl⟩ H;refine Zc 1 Z (Aq Z (call55 _) (Gv (1+i) (by show ((1+i:Nat):Int)<(n:Int);omega) (DB (C1 (manyN n+1)) n i) (Fb) (λh q=>q.rd U U (OE (Fb).2) (QB (Fb).2))) H.f4 ?_);rintro _ w _ (⟨b,rfl,rfl⟩|⟨_,rfl,rfl⟩) a
  ·(exfalso;have:=b.2;omega)
  have H:=a.l8;rw[Zg] at H;refine Z1 17 [4] [(i:Int)+1] Z U ?_;replace H:=H.f1.d.f6.f6.f6.f3.f6.f6.f6;refine gf ?_;intro _ hF;refine ⟨(i+1),hF.cz,⟨H,?_⟩,?_⟩
  ·omega
  omega
 obtain rfl:i=manyN n:=by omega
 refine Zc 2 Z (gx (Zc 6 Z (Aq Z (call60 _) (OB 3 a7 U) H.f3 ?_)));rintro _ w _ ⟨o,f,c,a8,⟨a6,b0⟩,a5,rfl,rfl⟩ H;refine Z0 15 [4] Z (Aq Z (call61 _) (sync_s 5 c) H ?_);rintro _ w _ ⟨rfl,a4,rfl⟩ H;refine Zc 4 Z (Zr Z ?_);have H2:=H.pick 7 [0] Z;obtain ⟨hO,a⟩:=H2.flDisk (by have:=c.q;omega);exact ⟨_,⟨o.fl,f,bs,g,l,hO,a4.clean,⟨c.gen,c.epoch⟩,a8.trans (a2.trans (VT _ _ _ _)),(a5.elim (λe=>by rw[e];rfl) (λe=>by rw[e];rfl)),a6,Z,Z⟩,a⟩
section
section
variable{P:Program}{ops:List Oper}{N R:Act->World->Prop}{X:Nat->Act->World->Prop}{n d i:Nat}{ds:List Deferred}{L:List (Nat×Value)}{w z:World}{k:Kd}{rest:List Oper}{o:Oper}{Γ pre R':List Ai}{post:Value->List Ai->Prop}{f:FuncId}{vs us:List Value}{x:Operand}{args:List Operand}{tys:Array TypeId}
theorem Kn{a:Act}(c:Fr n ds L a)(d:o.op=.call {callee:=.value x,args:=args.toArray,argTypes:=tys})(g:ev L x=some (.func (.func f) #[] us.toArray))(b:evs L args=some vs)(e:∀w,(callFunc f (vs++us).toArray).run P w=.ok (.enter f (vs++us).toArray) w):(execOp a.eval o).run P w=.ok (.enter f (vs++us).toArray) w:=by
 have e1:=c.evs b;have e2:=c.ev g;unfold execOp;simp only[d,resolve,e2,Deferred.ofValue,invoke];simp only[go_sem,AeW,e1,AeV];simpa using e w
theorem AdT(h:IL ops L n o=some d)(m:o.op=.call {callee:=.value x,args:=args.toArray,argTypes:=tys})(r:ev L x=some (.func (.func f) #[] us.toArray))(b:evs L args=some vs)(p:∀w,(callFunc f (vs++us).toArray).run P w=.ok (.enter f (vs++us).toArray) w)(t:Cn P f (vs++us) pre post)(H:Sep z (pre++R') w)
  (K:∀v g Γ',post v Γ'->Sep z (Γ'++R') g->∀a',Fr n ds ((d,v)::L) a'->BS P N X R (.o ops rest k) a' g):∀a,Fr n ds L a->BS P N X R (.o ops (o::rest) k) a w:=by
 intro a i;obtain ⟨l,s,j⟩:=Ef h;show wpList P ops.toArray _ (o::rest) a w;unfold wpList;rw[if_pos (wantL_ok i l)];left;unfold Oper.wp;rw[Kn i m r b p,AgN];exact Agu (t.use H) λe g q=>by
  cases e with
  | returned v=>obtain ⟨Γ',y,u⟩:=q;simp only[s];exact K v g Γ' y u _ (i.put d v j)
  | panicked c=>exact q.elim
  | outgrown=>exact q.elim
theorem Acj{K:Act->World->Prop}(hi:ops[i]?=some o)(k:BM ops L o.guard=true)(r:o.dst=some d)(j:Nat.blt d n=true)(l:o.op=.call {callee:=.value x,args:=args.toArray,argTypes:=tys})(p:ev L x=some (.func (.func f) #[] us.toArray))(b:evs L args=some vs)(m:∀w,(callFunc f (vs++us).toArray).run P w=.ok (.enter f (vs++us).toArray) w)(s:Cn P f (vs++us) pre post)(H:Sep z Γ w)(e:Γ=pre++R')
  (t:∀v g Γ',post v Γ'->Sep z (Γ'++R') g->∀a',Fr n ds ((d,v)::L) a'->K a' g):∀a,Fr n ds L a->wpOp P ops.toArray (Qp N X R) i K a w:=by
 intro a h;unfold wpOp;rw[Afe,hi];simp only;rw[if_pos (wantL_ok h k)];left;unfold Oper.wp;rw[Kn h l p b m,AgN];exact Agu (s.use (e▸H)) λe g q=>by
  cases e with
  | returned v=>obtain ⟨Γ',y,u⟩:=q;simp only[r];exact t v g Γ' y u _ (h.put d v j)
  | panicked c=>exact q.elim
  | outgrown=>exact q.elim
end
def Cx(sv:Value)(sk:List Int):Ai:=λh=>grow 3 1 sv sk.length (sk.map (Value.int .i64)) h/\(sk=[]->sv=.slice none 0 0)
def voA(pv pp:Nat)(nx:Int)(sk:List Int)(vs:List Vl):Ai:=λh=>∃u:Value×Value,True/\seps [blk pv [.pointer (some ⟨pp,0,none⟩),.int .i64 nx,u.1,u.2] 85,grow 77 6 u.1 vs.length (Bb vs),Cx u.2 sk] h
theorem Sep.vo{z w:World}{Γ:List Ai}{vs:List Vl}(H:Sep z (voA m j t l vs::Γ) w):∃b a:Value,Sep z (YtemljpjnhjnncaaGreatDoor.blk m [Y j,I t,b,a] 85::YtemljpjnhjnncaaGreatDoor.grow 77 6 b vs.length (Bb vs)::Cx a l::Γ) w:=by
 obtain ⟨u,_,H⟩:=H.into (p:=λ_:Value×Value=>True) (As:=λu=>[YtemljpjnhjnncaaGreatDoor.blk m [Y j,I t,u.1,u.2] 85,YtemljpjnhjnncaaGreatDoor.grow 77 6 u.1 vs.length (Bb vs),Cx u.2 l]) (λ_ q=>q);exact ⟨u.1,u.2,H⟩
theorem Sep.toVo{z w:World}{Γ:List Ai}{vs:List Vl}(H:Sep z (YtemljpjnhjnncaaGreatDoor.blk m [Y j,I t,v,u] 85::YtemljpjnhjnncaaGreatDoor.grow 77 6 v vs.length (Bb vs)::Cx u l::Γ) w):Sep z (voA m j t l vs::Γ) w:=H.made 3 (λh q=>⟨(v,u),trivial,q⟩)
theorem WC(b a e:Nat)(vs:List Vl)(A:Ai)(g:∀h,A h->rdH 6 (.slice (some ⟨b,a,none⟩) vs.length e) vs.length (Bb vs) h)(l:0<vs.length/\vs.length<=1073741824):Cn prog 174 [.slice (some ⟨b,a,none⟩) vs.length e] [A] (λv Γ=>∃f:Value,v=f/\Γ=[grow 77 6 f vs.length (Bb vs),A]):=by
 intro z R w H;refine Ae func174 Z ntmps174 Z (Zc 9 Z (Ab Z (Ij Z J Z Z) (Zc 7 Z (AR Z (EX H Z J Ch) ?_))));rintro _ w ⟨j,rfl,H⟩;refine Zc 1 Z ?_;replace H:=(H.mono 0 (B:=grow 77 6 (.slice (some ⟨j,0,none⟩) 0 0) 0 []) Z (λh q=>q.grow U U O Z)).l2;refine AR Z (A0 0 H Z Z J Ch Z Z (H.rd 1 Z g) (QU _) U) ?_;rintro k w c;have d:([]++Bb vs:List Value)=Bb vs:=by simp
 rw[d] at c;rw[show (0+vs.length:Nat)=vs.length from by omega] at c;have H:=c.l2;refine Zc 4 Z (Zr Z ?_);exact ⟨_,⟨_,Z,Z⟩,H⟩
theorem T9(b a e:Nat)(sk:List Int)(g:∀h,A h->rdH 1 (.slice (some ⟨b,a,none⟩) sk.length e) sk.length (sk.map I) h)(l:0<sk.length/\sk.length<=1073741824):Cn prog 175 [.slice (some ⟨b,a,none⟩) sk.length e] [A] (λv Γ=>∃f:Value,v=f/\Γ=[grow 3 1 f sk.length (sk.map I),A]):=by
 intro z R w H;refine Ae func175 Z ntmps175 Z (Zc 9 Z (Ab Z (Ij Z J Z Z) (Zc 7 Z (AR Z (EX H Z J BA) ?_))));rintro _ w ⟨j,rfl,H⟩;refine Zc 1 Z ?_;replace H:=(H.mono 0 (B:=grow 3 1 (.slice (some ⟨j,0,none⟩) 0 0) 0 []) Z (λh q=>q.grow U U O Z)).l2;refine AR Z (A0 0 H Z Z J BA Z Z (H.rd 1 Z g) (GS) U) ?_;rintro k w c;have d:([]++sk.map I:List Value)=sk.map I:=by simp
 rw[d] at c;rw[show (0+sk.length:Nat)=sk.length from by omega] at c;have H:=c.l2;refine Zc 4 Z (Zr Z ?_);exact ⟨_,⟨_,Z,Z⟩,H⟩
theorem R8:Cn prog 175 [.slice none 0 0] [] (λv Γ=>v=.slice none 0 0/\Γ=[]):=by
 intro z R w H;refine Ae func175 Z ntmps175 Z (Zc 9 Z (Ab Z (Uy Z J Z Z) (Zc 9 Z (Zr Z ?_))));exact ⟨_,⟨Z,Z⟩,H⟩
theorem rdH.addr{sz n c:Nat}{a:Option Addr}{xs:List Value}(r:rdH sz (.slice a n c) n xs h)(k:0<n*sz):∃b p,a=some ⟨b,p,none⟩:=by
 obtain ⟨d,c',e,i,j,l,g⟩:=r;cases e;obtain ⟨u,f⟩:∃u,xs[0]?=some u:=⟨_,Aed U⟩;obtain ⟨b,p,e,_⟩:=g 0 u f;exact ⟨b,p,e⟩
theorem R9(e:Value)(vs:List Vl)(A:Ai)(a:∀h,A h->rdH 6 e vs.length (Bb vs) h)(g:0<vs.length/\vs.length<=1073741824):Cn prog 174 [e] [A] (λv Γ=>∃f:Value,v=f/\Γ=[grow 77 6 f vs.length (Bb vs),A]):=by
 intro z R w H;obtain ⟨i,c,rfl⟩:=H.sy 0 (λq=>(a _ q).slc);obtain ⟨b,d,rfl⟩:=H.sy 0 (λq=>(a _ q).addr U);exact WC b d c vs A a g z R w H
theorem ZY(f:Value)(sk:List Int)(hs:sk.length<=1073741824):Cn prog 175 [f] [Cx f sk] (λv Γ=>∃g:Value,v=g/\Γ=[Cx g sk,Cx f sk]):=by
 intro z R w H;by_cases h0:sk=[]
 ·subst h0
  have e:=H.sy 0 (·.2 Z);subst e;refine Ret.mono (R8 z (Cx (.slice none 0 0) []::R) w H) ?_;rintro v i ⟨Γ',⟨rfl,rfl⟩,d⟩;exact ⟨_,⟨_,Z,Z⟩,(d.nilg 3 1).mono 0 (B:=Cx (.slice none 0 0) []) Z (λh q=>⟨q,λ_=>rfl⟩)⟩
 have j:0<sk.length:=Ahc.2 h0;obtain ⟨l,c,rfl⟩:=H.sy 0 (·.1.slc);obtain ⟨b,a,rfl⟩:=H.sy 0 (·.1.rd.addr U);refine Ret.mono (T9 b a c sk (λh q=>q.rd) ⟨j,hs⟩ z R w (H.mono 0 (B:=grow 3 1 (.slice (some ⟨b,a,none⟩) sk.length c) sk.length (sk.map I)) Z (λh q=>q.1))) ?_;rintro v i ⟨Γ',⟨k,rfl,rfl⟩,d⟩;exact ⟨_,⟨_,Z,Z⟩,(d.mono 0 (B:=Cx v sk) Z (λh q=>⟨q,λe=>absurd e h0⟩)).mono 1 (B:=Cx (.slice (some ⟨b,a,none⟩) sk.length c) sk) Z (λh q=>⟨q,λe=>absurd e h0⟩)⟩
end
theorem MV(sk:List Int)(vs:List Vl)(e:∀h,A h->rdH 6 u vs.length (Bb vs) h)(k:vs.length=8)(hs:sk.length<=8):Cn prog 130 [.agg #[I t,u,y]] [A,Cx y sk] (λv Γ=>∃d a:Value,v=.agg #[I t,d,a]/\Γ=[grow 77 6 d vs.length (Bb vs),Cx a sk,A,Cx y sk]):=by
 intro z R w H;replace H:=H.l2;refine Ae func130 Z ntmps130 Z (Za 2 [] H Z ?_);intro i w H;refine Za 0 [] H Z ?_;intro j w H;refine Zc 3 Z ?_;replace H:=H.f1;refine Bh (Sep z (blk i [I t,u,y] 83::R)) 10 Z J (AZ H λw g=>?_);have H:=g.l4;refine Bu [0,1,2,3,5,6] [0,0,1,0,2,0] J (λ_ f=>(AO (f.blk 0 Z) AM)) (by exact H.pick 4 [0] Z) Z J Z Z (AE [4] J O (Am (Bo Z Z Z Z Z Z (λw=>call174 _ w) (R9 u vs A e U) H.f2 Z ?_)));rintro d w _ ⟨_,rfl,rfl⟩ H;replace H:=H.l5;have b:=H.sy 0 (·.slc);refine Ar (λ_=>(H.pick 5 [2] Z)) (AE [7] J O (Am (Bo Z Z Z Z Z Z (λw=>call175 _ w) (ZY y sk U) H.f4 Z ?_)));rintro a w _ ⟨_,rfl,rfl⟩ H;replace H:=H.l6;have c:=H.sy 0 (·.1.slc);refine Ar (λ_=>(H.pick 6 [4] Z)) ?_;obtain ⟨a1,c1,rfl⟩:=b;obtain ⟨a2,c2,rfl⟩:=c;refine BJ 8 J Z Z J J J Z Z Z (Bc Z Z (out:=[I t,.slice a1 vs.length c1,.slice a2 sk.length c2]) J) (H.pick 6 [4] Z) (AE [9] J O (Am (Bi Z Z Z (Ak 5 H Z Z Z Z (vs:=[I t,.slice a1 vs.length c1,.slice a2 sk.length c2]) Z (by simp[u8,u32,Value.oneCell']) J O (out:=[I t,.slice a1 vs.length c1,.slice a2 sk.length c2]) Z) ?_)));rintro w H;replace H:=H.l6;refine Ar (λh=>absurd Z h) (Bj J (gn (Zc 2 Z (Zl [5,3] H Z ?_))));exact ⟨_,⟨_,_,Z,Z⟩,H.pick 6 [2,0,3,1] Z⟩
section
abbrev Pl:=Vl×List E
def pl0:Pl:=(v0,[])
structure PlOk(N:Hm)(nx:Int)(p:Pl):Prop where
 id:1<=p.1.id/\p.1.id<nx
 st:p.1.st=1\/p.1.st=2
 sz:1<=p.1.sz/\p.1.sz<=1048576
 q:0<=p.1.q/\p.1.q<=1048576
 r:0<=p.1.r/\p.1.r<=1023
 root:Root N p.1.r.toNat p.2
 nd:(vals p.2).Nodup
 mp:p.1.mp=(p.2.length:Int)
 key:∀e∈p.2,e.1<p.1.sz
def CZ(P:List Pl):List Nat:=P.flatMap λp=>A8 p.1.r.toNat
structure VInv(n:Nat)(o:TB)(nx:Int)(P:List Pl):Prop where
 n:n<=639
 len:P.length=8
 nb:1<=nx/\nx<=1073741824
 all:∀p∈P,p=pl0\/PlOk o.N nx p
 ids:P.Pairwise λa b=>a.1.id=b.1.id->a.1.id=0
 r:o.R.Perm (CZ P)
theorem QW(P:List Pl):(CZ P).length<=P.length:=by
 induction P with
 | nil=>simp[CZ]
 | cons p t ih=>
  have:(A8 p.1.r.toNat).length<=1:=by unfold A8;split<;>simp
  simp only[CZ,AeG,Aee,Aeg] at ih ⊢;omega
theorem QX{P:List Pl}(h:i<P.length)(p:Pl):(CZ (P.set i p)).Perm (A8 p.1.r.toNat++CZ (P.eraseIdx i)):=by
 have e:P.set i p=P.take i++p::P.drop (i+1):=by rw[Afa,if_pos h]
 rw[e,List.eraseIdx_eq_take_drop_succ];simp only[CZ,Af1,AeG];rw[<-Aeh,<-Aeh];exact Afw _ Af5
theorem I7{P:List Pl}{p:Pl}(h:P[i]?=some p):(CZ P).Perm (A8 p.1.r.toNat++CZ (P.eraseIdx i)):=by
 obtain ⟨a,rfl⟩:=Aeb.1 h;have:=QX a P[i];rwa[Af6] at this
theorem Mf{P:List Pl}{p:Pl}(h:p∈P)(a:p.1.r.toNat≠0):p.1.r.toNat∈CZ P:=
 Agg.2 ⟨p,h,by unfold A8;rw[if_neg a];simp⟩
variable{n:Nat}{o:TB}{nx:Int}{P:List Pl}
theorem VInv.lw(h:VInv n o nx P){p:Pl}(hi:P[i]?=some p)(hp:PlOk o.N nx p):LwI n ⟨o.N,o.C,A8 p.1.r.toNat++CZ (P.eraseIdx i)⟩ p.1.r.toNat p.2 (CZ (P.eraseIdx i)):=
 ⟨h.n,by have:=QW (P.eraseIdx i);have:=List.length_eraseIdx_le P i;have:=h.len;omega,hp.root,hp.nd,Z⟩
theorem Ua{N N2:Hm}(h:Root N 0 X):Root N2 0 X:=by
 rcases h with ⟨_,e⟩|⟨e,_⟩
 ·exact .inl ⟨Z,e⟩
 exact absurd Z e
theorem PlOk.kp{N N2:Hm}{p:Pl}(h:PlOk N nx p)(a:p.1.r.toNat≠0->Root N p.1.r.toNat p.2->Root N2 p.1.r.toNat p.2)(b:nx<=t):PlOk N2 t p:=
 ⟨⟨h.id.1,by have:=h.id.2;omega⟩,h.st,h.sz,h.q,h.r,by
  by_cases e:p.1.r.toNat=0
  ·have:=h.root;rw[e] at this ⊢;exact Ua this
  exact a e h.root,h.nd,h.mp,h.key⟩
theorem Hd{α:Type}{l:List α}{x:α}(h:l[j]?=some x)(a:j≠i):x∈l.eraseIdx i:=by
 rw[Ag9];exact ⟨j,a,h⟩
theorem VInv.upd(h:VInv n o nx P){p p2:Pl}(hi:P[i]?=some p){o2:TB}(m:nx<=t/\t<=1073741824)(hk:Kp o.N o2.N (CZ (P.eraseIdx i)))(hp:PlOk o2.N t p2)
  (g:p2.1.id=p.1.id\/∀q∈P,q.1.id≠p2.1.id)(y:o2.R.Perm (A8 p2.1.r.toNat++CZ (P.eraseIdx i))):VInv n o2 t (P.set i p2):=by
 have w:=(Aeb.1 hi).1;have k:∀j q,P[j]?=some q->j≠i->q=pl0\/PlOk o2.N t q:=λj q d u=>by
  rcases h.all q (Aec d) with e|e
  ·exact .inl e
  exact .inr (e.kp (λh0 z=>hk _ (Mf (Hd d u) h0) _ z) m.1)
 refine ⟨h.n,by rw[AeU];exact h.len,⟨by have:=h.nb;omega,m.2⟩,λq hq=>?_,?_,y.trans (QX w p2).symm⟩
 ·obtain ⟨j,d⟩:=AeY.1 hq
  rw[Afo] at d;split at d
  ·rename_i e
   first
    | (cases d;exact .inr hp)
    | (split at d<;>cases d;exact .inr hp)
  exact k j q d U
 have c:=h.ids;rw[Afv] at c ⊢;intro a b l s f;rw[AeU] at l s;rw[AgZ,AgZ];have x:∀j (d:j<P.length),P[j]?=some P[j]:=λj d=>Aed d;have v:P[i]=p:=by have:=x i w;rw[hi] at this;exact (Agb this).symm
 by_cases e1:i=a
 ·subst e1
  rw[if_pos Z,if_neg U];rcases g with e|e
  ·rw[e];have:=c i b l s f;rw[v] at this;exact this
  intro q;exact absurd q.symm (e _ (AfO s))
 rw[if_neg e1];by_cases e2:i=b
 ·subst e2
  rw[if_pos Z];rcases g with e|e
  ·rw[e];have:=c a i l s f;rw[v] at this;exact this
  intro q;exact absurd q (e _ (AfO l))
 rw[if_neg e2];exact c a b l s f
theorem VInv.fit(h:VInv n o nx P)(K:TrK n o none):∀e∈P.map Prod.fst,Vl.Fit e:=λe c=>by
 obtain ⟨p,hp,rfl⟩:=Aek.1 c;rcases h.all p hp with rfl|a
 ·exact v0_fit
 have d:=h.n;have:=JD K.i U (show ∀e∈p.2,∃b,Dk o none e.2=some (.dt b) from a.root.data) a.nd;have q:=h.nb;obtain ⟨g,k,f,m,l,_,_,j,_⟩:=a;exact ⟨by omega,by omega,by omega,by omega,by omega,by omega⟩

structure Wv where
 id:Int
 sz:Int
 q:Int
 u:Value
 V:List Bk
abbrev O5:=Int×Int×Int×List Bk
def Wv.core(x:Wv):O5:=(x.id,x.sz,x.q,x.V)
def CH(N:Hm)(p:Pl):O5:=(p.1.id,p.1.sz,p.1.q,AW N p.2)
def Dy(p:Pl):Bool:=decide (p.1.st=1)
def Dz(N:Hm)(P:List Pl):List O5:=(P.filter Dy).map (CH N)
structure VRel(N:Hm)(P:List Pl)(W:List Wv):Prop where
 p:(Dz N P).Perm (W.map Wv.core)
 s:W.Pairwise λa b=>a.id<b.id
theorem Mg{α:Type}{f:α->Int}{l:List α}{a a2:α}(h:l[i]?=some a)(c:∀j b,l[j]?=some b->f b=f a->j=i):l.set i a2=l.map λb=>if f b=f a then a2 else b:=by
 apply Afq;intro j;rw[Afo,Aeo];by_cases e:i=j
 ·subst e
  rw[if_pos Z,if_pos (Aeb.1 h).1,h];simp
 rw[if_neg e]
 cases hj:l[j]? with
 | none=>rfl
 | some b=>
  rw[AeR,if_neg (λq=>e (c j b hj q).symm)]
theorem O6{α:Type}{f:α->Int}{l:List α}{a:α}(h:l[i]?=some a)(g:∀j b,l[j]?=some b->f b=f a->j=i):l.take i++l.drop (i+1)=l.filter λb=>decide (f b≠f a):=by
 have k:=(Aeb.1 h).1;have e:l=l.take i++a::l.drop (i+1):=by
  have:=AeL i l;rw[AeZ k,show l[i]=a from by have:=Aed k;rw[h] at this;exact (Agb this).symm] at this;exact this.symm
 conv=>rhs;rw[e]
 rw[AfN,AhC,if_neg O];congr 1
 ·refine (Agt.2 λb d=>?_).symm
  obtain ⟨j,c⟩:=AeY.1 d;have m:=c;rw[AeX] at c;split at c
  ·simp only[decide_eq_true_eq];intro q;have:=g j b c q;omega
  cases c
 refine (Agt.2 λb d=>?_).symm;obtain ⟨j,c⟩:=AeY.1 d;rw[Afl] at c;simp only[decide_eq_true_eq];intro q;have:=g _ b c q;omega
variable{W:List Wv}{N N2:Hm}
theorem VInv.uniq(h:VInv n o nx P){p q:Pl}(hi:P[i]?=some p)(c:P[j]?=some q)(e:q.1.id=p.1.id)(d:p.1.id≠0):j=i:=by
 have a:=h.ids;rw[Afv] at a;obtain ⟨a1,rfl⟩:=Aeb.1 hi;obtain ⟨b,rfl⟩:=Aeb.1 c;rcases AfI i j with q|q|q
 ·exact absurd (a i j a1 b q e.symm) d
 ·exact q.symm
 exact absurd (a j i b a1 q e) U
theorem VRel.uniq(h:VRel N P W){x y:Wv}(hi:W[i]?=some x)(c:W[j]?=some y)(e:y.id=x.id):j=i:=by
 have a:=h.s;rw[Afv] at a;obtain ⟨a1,rfl⟩:=Aeb.1 hi;obtain ⟨b,rfl⟩:=Aeb.1 c;rcases AfI i j with q|q|q
 ·have:=a i j a1 b q;omega
 ·exact q.symm
 have:=a j i b a1 q;omega
theorem VRel.at(h:VRel N P W){p:Pl}(hi:P[i]?=some p)(hs:p.1.st=1):∃(j:Nat) (x:Wv),W[j]?=some x/\x.core=CH N p:=by
 have:CH N p∈Dz N P:=Aek.2 ⟨p,Afb.2 ⟨Aec hi,by simp[Dy,hs]⟩,Z⟩;obtain ⟨x,b,e⟩:=Aek.1 (h.p.mem_iff.1 this);obtain ⟨j,a⟩:=AeY.1 b;exact ⟨j,x,a,e⟩
theorem VRel.back(h:VRel N P W){x:Wv}(b:W[j]?=some x):∃(i:Nat) (p:Pl),P[i]?=some p/\p.1.st=1/\x.core=CH N p:=by
 have:x.core∈W.map Wv.core:=Aek.2 ⟨x,Aec b,Z⟩;obtain ⟨p,hp,e⟩:=Aek.1 (h.p.mem_iff.2 this);obtain ⟨a,c⟩:=Afb.1 hp;obtain ⟨i,hi⟩:=AeY.1 a;exact ⟨i,p,hi,by simpa [Dy] using c,e.symm⟩
theorem MW(h:∀p∈P,p.1.st=1->AW N2 p.2=AW N p.2):Dz N2 P=Dz N P:=by
 unfold Dz;refine AfC λp hp=>?_;obtain ⟨b,a⟩:=Afb.1 hp;unfold CH;rw[h p b (by simpa [Dy] using a)]
theorem VRel.upd(h:VRel N P W)(w:VInv n o nx P){p p2:Pl}{x x2:Wv}(hi:P[i]?=some p)(l:W[j]?=some x)(y:p.1.id≠0)(hs:p.1.st=1)(m:p2.1.st=1)(e:x.id=p.1.id)(e2:x2.core=CH N2 p2)(a0:p2.1.id=p.1.id)
  (hN:∀q∈P,q.1.st=1->q.1.id≠p.1.id->AW N2 q.2=AW N q.2):VRel N2 (P.set i p2) (W.set j x2):=by
 have a1:x2.id=x.id:=by have:=congrArg Prod.fst e2;simp only[Wv.core,CH] at this;omega
 have eP:=Mg (f:=λb:Pl=>b.1.id) (a2:=p2) hi (λk b d q=>w.uniq hi d q y);have eW:=Mg (f:=Wv.id) (a2:=x2) l (λk b d q=>h.uniq l d q);refine ⟨?_,?_⟩
 ·have e1:Dz N2 (P.set i p2)=(Dz N P).map λc=>if c.1=p.1.id then CH N2 p2 else c:=by
   rw[eP];unfold Dz;rw[Agj,Afn,Afn];have z:P.filter (Dy∘λb=>if b.1.id=p.1.id then p2 else b)=P.filter Dy:=by
    refine Ahq λb g=>?_;simp only[Function.comp];split
    ·rename_i q
     obtain ⟨k,d⟩:=AeY.1 g;have:=w.uniq hi d q y;subst this;rw[hi] at d;cases d;simp[Dy,hs,m]
    rfl
   rw[z];refine AfC λb g=>?_;obtain ⟨b1,b2⟩:=Afb.1 g;simp only[Function.comp];split
   ·rename_i q;rw[if_pos (by simpa [CH] using q)]
   rename_i q;rw[if_neg (by simpa [CH] using q)];unfold CH;rw[hN b b1 (by simpa [Dy] using b2) q]
  have e3:(W.set j x2).map Wv.core=(W.map Wv.core).map λc=>if c.1=p.1.id then CH N2 p2 else c:=by
   rw[eW,Afn,Afn];refine AfC λb g=>?_;simp only[Function.comp];split
   ·rename_i q;rw[if_pos (by simp only[Wv.core];omega),e2]
   rename_i q;rw[if_neg (by simp only[Wv.core];omega)]
  rw[e1,e3];exact h.p.map _
 have t:=h.s;rw[Afv] at t ⊢;intro a b v g r;rw[AeU] at v g;have:=t a b v g r;have a3:=(Aeb.1 l).1;have u:W[j]=x:=(Aeb.1 l).2;rw[AgZ,AgZ];split<;>split
 ·omega
 ·rename_i q _;subst q;rw[u] at this;omega
 ·rename_i _ q;subst q;rw[u] at this;omega
 exact this
theorem VRel.del(h:VRel N P W)(v:VInv n o nx P){p p2:Pl}{x:Wv}(hi:P[i]?=some p)(m:W[j]?=some x)(w:p.1.id≠0)(a:p2.1.st≠1)(e:x.id=p.1.id)
  (hN:∀q∈P,q.1.st=1->AW N2 q.2=AW N q.2):VRel N2 (P.set i p2) (W.take j++W.drop (j+1)):=by
 have y:=Mg (f:=λb:Pl=>b.1.id) (a2:=p2) hi (λk b d q=>v.uniq hi d q w);have g:=O6 (f:=Wv.id) m (λk b d q=>h.uniq m d q);refine ⟨?_,?_⟩
 ·have e1:Dz N2 (P.set i p2)=(Dz N P).filter λc=>decide (c.1≠p.1.id):=by
   rw[y,<-MW hN];unfold Dz;rw[Agj,Agj,Afn,List.filter_filter];have t:P.filter (Dy∘λb=>if b.1.id=p.1.id then p2 else b)=P.filter λb=>((λc:O5=>decide (c.1≠p.1.id))∘CH N2) b&&Dy b:=by
    refine Ahq λb r=>?_;simp only[Function.comp,CH];split
    ·rename_i q;simp[Dy,q,a]
    rename_i q;simp[q]
   rw[t];refine AfC λb r=>?_;obtain ⟨_,l⟩:=Afb.1 r;simp only[Function.comp,CH,AeC,decide_eq_true_eq] at l ⊢;rw[if_neg (of_decide_eq_true l.1)]
  have u:(W.take j++W.drop (j+1)).map Wv.core=(W.map Wv.core).filter λc=>decide (c.1≠p.1.id):=by
   rw[g,Agj];congr 1;refine Ahq λb _=>?_;simp only[Function.comp,Wv.core,e];exact decide_eq_decide.2 Ahu
  rw[e1,u];exact h.p.filter _
 rw[g];exact h.s.filter _
theorem VRel.new(h:VRel N P W){p p2:Pl}{x2:Wv}(hi:P[i]?=some p)(hs:p.1.st≠1)(c:p2.1.st=1)(e2:x2.core=CH N2 p2)(d:∀x∈W,x.id<x2.id)
  (hN:∀q∈P,q.1.st=1->AW N2 q.2=AW N q.2):VRel N2 (P.set i p2) (W++[x2]):=by
 have g:=(Aeb.1 hi).1;have e:P.set i p2=P.take i++p2::P.drop (i+1):=by rw[Afa,if_pos g]
 have l:P=P.take i++p::P.drop (i+1):=by
  have:=AeL i P;rw[AeZ g,show P[i]=p from (Aeb.1 hi).2] at this;exact this.symm
 refine ⟨?_,?_⟩
 ·have hp:=h.p
  rw[<-MW hN] at hp;have e1:Dz N2 P=Dz N2 (P.take i)++Dz N2 (P.drop (i+1)):=by
   conv=>lhs;rw[l]
   unfold Dz;rw[AfN,AhC,if_neg (by simp[Dy,hs]),AeH]
  have k:Dz N2 (P.set i p2)=Dz N2 (P.take i)++CH N2 p2::Dz N2 (P.drop (i+1)):=by
   rw[e];unfold Dz;rw[AfN,AhC,if_pos (by simp[Dy,c]),AeH,AeJ]
  rw[k,AeH,AeJ,e2];rw[e1] at hp;refine Afh.trans ((Afk _ hp).trans ?_);exact (List.perm_append_singleton _ _).symm
 rw[List.pairwise_append];exact ⟨h.s,by simp,λa j b f=>by simp at f;subst f;exact d a j⟩
theorem VRel.len(h:VRel N P W):W.length<=P.length:=by
 have:=h.p.length_eq;simp only[Dz,Aef] at this;rw[<-this];exact AfT _ _
end
variable{W:List Wv}
section
section
variable{P:Program}{C:World->Prop}{o:Oper}{n:Nat}{ds:List Deferred}{L:List (Nat×Value)}{x y:Operand}{xt yt:TypeId}
def MX(P:Program)(t:TypeId)(m:Nat):Bool:=match P.underlying t with
 | some (.struct fs)=>decide (fs.toList.map (λf=>f.offset)=List.range m)&&fs.toList.all λf=>f.name != "_" && Ge P f.type&&(match P.underlying f.type with|some (.int _)=>true|_=>false)
 | _=>false
theorem M8{α β:Type}(l:List α)(b b':β)(f:α->β->Sem (ForInStep β))(p:α->Bool)(w:World)(h:∀a∈l,(f a b).run P w=.ok (if p a=true then .yield b else .done b') w):(forIn l b f).run P w=.ok (if l.all p=true then b else b') w:=by
 induction l with
 | nil=>simp[go_sem]
 | cons a l ih=>
  rw[List.forIn_cons,Aev,h a O]
  cases hp:p a with
  | true=>simp only[if_true,List.all_cons,hp,Bool.true_and];exact ih λa c=>h a (by simp[c])
  | false=>simp[go_sem,hp]
theorem Ub{cs es:List Int}(ho:o.op=.binOp .eql xt x y yt)(r:MX P xt m=true)(h1:cs.length=m)(h2:es.length=m)(hs:P.stoodInHeld xt=false)(hg:P.eqGuardType P.depth xt=false)(hx:ev L x=some (.agg (cs.map I).toArray))(hy:ev L y=some (.agg (es.map I).toArray)):Au P C n ds L o (.bool (decide (cs=es))):=λa hF w _=>by
 unfold MX at r;split at r
 ·rename_i z h
  rw[AeC] at r;obtain ⟨c,g⟩:=r;have c:=of_decide_eq_true c;have s:∀d,(Op.equalIn (d+1+1) xt (.agg (cs.map I).toArray) (.agg (es.map I).toArray)).run P w=.ok (decide (cs=es)) w:=λd=>by
   rw[Op.equalIn];simp only[Aev,run_underlying h,Aer];have hh:(program).run P w=.ok P w:=by simp[program,Sem.run]
   simp only[hh,Aer,hs,Afs,if_false];rw[Aev,<-Array.forIn_toList,M8 (b':=⟨some false,⟨⟩⟩) (p:=λf=>decide (cs[f.offset]?=es[f.offset]?))]
   ·have e:z.toList.all (λf=>decide (cs[f.offset]?=es[f.offset]?))=decide (cs=es):=by
     rw[Aew,Af2,decide_eq_true_iff];constructor
     ·intro q
      apply Afq;intro k;rcases Aeq k m with hk|hk
      ·have hm:k∈z.toList.map (λf=>f.offset):=by rw[c];exact AfQ.2 hk
       obtain ⟨f,t,rfl⟩:=Aek.1 hm;simpa using q f t
      rw[AeI U,AeI U]
     intro q f _;rw[q];simp
    rw[e];by_cases q:cs=es
    ·simp[q,go_sem]
    simp[q,go_sem]
   intro f t;have j:=(Af2.1 g) f t;simp only[AeC] at j;obtain ⟨⟨h3,h4⟩,h5⟩:=j;have a0:f.offset<m:=by
    have:f.offset∈z.toList.map (λf=>f.offset):=Aek.2 ⟨f,t,Z⟩;rw[c] at this;exact AfQ.1 this
   have hn:f.name≠"_":=by simpa using h3
   rw[if_pos hn];split at h5
   ·rename_i k2 hu
    have hp:∀l:List Int,l.length=m->(part f.type (l.map I).toArray f.offset).run P w=.ok (I (l.getD f.offset 0)) w:=λl hl=>by
     have hc:((l.map I).toArray)[f.offset]?=some (I (l.getD f.offset 0)):=by
      simp[Aed (show f.offset<l.length by omega),List.getD]
     simp only[part,Aev,FM h4,Aer,if_false,Afs,hc,AeA]
    have he:∀u v:Int,(Op.equalIn (d+1) f.type (I u) (I v)).run P w=.ok (u==v) w:=λu v=>by
     rw[Op.equalIn];simp[Aev,run_underlying hu,go_sem]
    simp only[Aev,hp cs h1,hp es h2,he,Aer];have e3:(cs.getD f.offset 0==es.getD f.offset 0)=decide (cs[f.offset]?=es[f.offset]?):=by
     rw[Aed (show f.offset<cs.length by omega),Aed (show f.offset<es.length by omega)];simp[List.getD,Aed (show f.offset<cs.length by omega),Aed (show f.offset<es.length by omega)];rw[Aew];simp
    rw[e3];by_cases q:cs[f.offset]?=es[f.offset]?
    ·simp[q,go_sem]
    simp[q,go_sem]
   cases h5
  have i:(Op.equal xt (.agg (cs.map I).toArray) (.agg (es.map I).toArray)).run P w=.ok (decide (cs=es)) w:=s 9998;have b:(eqGuard .eql xt x y (.agg (cs.map I).toArray) (.agg (es.map I).toArray)).run P w=.ok () w:=by
   simp[eqGuard,Aev,program,Sem.run,hg]
  simp only[execOp,ho,hF.ev hx,hF.ev hy];simp only[binOp,Aev,b,i,Aer,AeA]
 cases r
end
theorem Adk{e:Vl}(h:[(0:Int),0,0,0,0,0]=[e.id,e.st,e.sz,e.q,e.r,e.mp]):e=v0:=by
 cases e
 simp at h;obtain ⟨f,a,d,b,g,c⟩:=h;subst f a d b g c;rfl
def Bn(sz:Int)(snd:Bool)(at_ count:Int):Int:=if snd=true/\1<=count/\count<=8 then (if 0<=at_/\at_<=sz-count then 0 else 34) else 1
theorem He:Cn prog 65 [I t,I s,I p] [] (λv Γ=>v=.bool (decide (s<=t/\t<=p))/\Γ=[]):=by
 intro z R w H;refine Ae func65 Z ntmps65 Z (Z0 11 [0] Z (Al 10 Z (λa=>?_) (λa=>?_)))
 ·refine Z0 8 [0] Z (Zr Z ?_);exact ⟨_,⟨congrArg Value.bool (by first|(rw[Aew];simp<;>omega)|(simp<;>omega)),Z⟩,H⟩
 refine Zc 8 Z (Zr Z ?_);exact ⟨_,⟨congrArg Value.bool (by first|(rw[Aew];simp<;>omega)|(simp<;>omega)),Z⟩,H⟩
theorem QY{vs:List Vl}:Cn prog 22 [Y m] [voA m i t l vs] (λv Γ=>v=Y i/\Γ=[voA m i t l vs]):=by
 intro z R w H;obtain ⟨d,c,H⟩:=H.vo;refine Ae func22 Z ntmps22 Z (Z2 15 [0,0,0] H Z (Zr Z ?_));exact ⟨_,⟨Z,Z⟩,(H.pick 3 [0,1,2] Z).toVo⟩
theorem JG{vs:List Vl}(id:Int)(hv:vs.length=8):Cn prog 46 [Y m,I id] [voA m g t l vs] (λv Γ=>(∃(i:Nat) (e:Vl),(vs[i]?=some e/\e.st=1/\e.id=id)/\v=I (i:Int)/\Γ=[voA m g t l vs])\/((∀e∈vs,¬(e.st=1/\e.id=id))/\v=I (-1)/\Γ=[voA m g t l vs])):=by
 intro z R w H;obtain ⟨vv,x,H⟩:=H.vo;have s:=H.sy 1 (·.slc);obtain ⟨u,y,rfl⟩:=s;refine Ae func46 Z ntmps46 Z (Z2 18 [1,2,0,0] H Z ?_);refine AB (σ:=Nat) (λi=>[(12,I (i:Int)),(0,Y m),(1,I id),(11,I (vs.length:Int))])
   (λi w=>Sep z (blk m [Y g,I t,.slice u vs.length y,x] 85::grow 77 6 (.slice u vs.length y) vs.length (Bb vs)::Cx x l::R) w/\(i<=vs.length/\∀(j:Nat) (e:Vl),j<i->vs[j]?=some e->¬(e.st=1/\e.id=id))) (λi=>vs.length-i) 0
   fr_z ⟨H,⟨AeO _,λj e h=>by omega⟩⟩ ?_
 clear H;rintro i w ⟨H',hI⟩;have H:=H'.l3;obtain ⟨hi,c⟩:=hI;refine Z0 6 [0] Z (Af Z (λh1=>?_) (λh1=>?_))
 ·refine Zc 11 Z ?_;obtain ⟨e,n⟩:∃e,vs[i]?=some e:=⟨_,Aed U⟩;have b:=(H.rv 1 (·.rd)).at (AU n 0 _ Z)
  have f:=(H.rv 1 (·.rd)).at (AU n 1 _ Z);refine Z2 7 [1,2,0,0] H Z (Ab Z (Aj Z (z:=6) (j:=i) (r:=i*6) J Z Z Z U b U) (Ab Z (Bm Z (k:=1) (r:=i*6+1) J Z b Z) (Ab Z (Ax Z Z J (Ay f)) (Z0 2 [0] Z (Al 25 Z (λh2=>?_) (λh2=>?_))))))
  ·refine Z2 6 [1,2,0,0] H Z (Ab Z (Aj Z (z:=6) (j:=i) (r:=i*6) J Z Z Z U b U) (Ab Z (Bm Z (k:=0) (r:=i*6) J Z b Z) (Ab Z (Ax Z Z J (Ay b)) (Z0 5 [0] Z (Af Z (λh3=>?_) (λh3=>?_))))))
   ·refine Zc 7 Z (Zr Z ?_);exact ⟨_,.inl ⟨i,e,⟨n,by assumption,by assumption⟩,Z,Z⟩,(H.pick 3 [0,1,2] Z).toVo⟩
   refine Z1 7 [] [(i:Int)+1] Z U (gf ?_);intro _ p;refine ⟨(i+1),p.cz,⟨H,?_⟩,?_⟩
   ·refine ⟨by omega,λj d o a=>?_⟩;rcases Aeq j i with q|q
    ·exact c j d q a
    obtain rfl:j=i:=by omega
    rw[n] at a;cases a;omega
   omega
  refine Z1 22 [] [(i:Int)+1] Z U (gf ?_);intro _ p;refine ⟨(i+1),p.cz,⟨H,?_⟩,?_⟩
  ·refine ⟨by omega,λj d o a=>?_⟩;rcases Aeq j i with q|q
   ·exact c j d q a
   obtain rfl:j=i:=by omega
   rw[n] at a;cases a;omega
  omega
 refine Zc 2 Z (gx (Zc 8 Z (Zr Z ?_)));exact ⟨_,.inr ⟨λd a=>(by obtain ⟨j,o⟩:=AeY.1 a;exact c j d (by have:=(Aeb.1 o).1;omega) o),Z,Z⟩,(H.pick 3 [0,1,2] Z).toVo⟩
theorem WD{o:Value}(vs:List Vl)(g:∀h,A h->rdH 6 o vs.length (Bb vs) h)(hv:vs.length=8):Cn prog 86 [o,.agg #[I 0,I 0,I 0,I 0,I 0,I 0]] [A] (λv Γ=>(∃i:Nat,vs[i]?=some v0/\v=I (i:Int)/\Γ=[A])\/((∀e∈vs,e≠v0)/\v=I (-1)/\Γ=[A])):=by
 intro z R w H;obtain ⟨am,mc,rfl⟩:=H.sy 0 (λq=>(g _ q).slc);refine Ae func86 Z ntmps86 Z (Za 2 [] H Z ?_);intro p w H;refine Zc 12 Z ?_;refine AB (σ:=Nat) (λi=>[(8,I (i:Int)),(0,.slice am vs.length mc),(3,Y p),(7,I (vs.length:Int))])
   (λi w=>Sep z (blk p [I 0,I 0,I 0,I 0,I 0,I 0] 77::A::R) w/\(i<=vs.length/\∀(j:Nat) (e:Vl),j<i->vs[j]?=some e->e≠v0)) (λi=>vs.length-i) 0
   fr_z ⟨H,⟨AeO _,λj e h=>by omega⟩⟩ ?_
 clear H;rintro i w ⟨l,t⟩;have H:=l.l2;obtain ⟨hi,b⟩:=t;refine Z0 6 [0] Z (Af Z (λs=>?_) (λs=>?_))
 ·refine Zc 11 Z ?_;obtain ⟨e,f⟩:∃e,vs[i]?=some e:=⟨_,Aed U⟩;have c:=(H.rv 1 (g _)).at (AU f 0 _ Z)
  refine Bv (Sep z _) J J H.drew (GF 3 [0,6] [] Z J (AL Z Z Z (Aj Z (z:=6) (j:=i) (r:=i*6) J Z Z Z U c U) (AL Z Z Z (Bp Z Z (vs:=e.cells) J (by simp[Vl.cells]) (λ_ hx=>(λk u hk=>(hx.rv 1 (g _)).at (AU f k u hk)))) (AL Z Z Z (Ub (cs:=[(0:Int),0,0,0,0,0]) (es:=[e.id,e.st,e.sz,e.q,e.r,e.mp]) (m:=6) Z J Z Z J J Z Z) (BI (λw l=>?_))))));have H:=l.l2;refine gn (Zc 1 Z (Af Z (λx=>?_) (λx=>?_)))
  ·refine Zc 7 Z (Zr Z ?_);exact ⟨_,.inl ⟨i,f.trans (congrArg some (Adk (e:=e) (by assumption))),Z,Z⟩,H.pick 2 [1] Z⟩
  refine Z1 7 [] [(i:Int)+1] Z U (gf ?_);intro _ y;refine ⟨(i+1),y.cz,⟨H,?_⟩,?_⟩
  ·refine ⟨by omega,λj d n a=>?_⟩;rcases Aeq j i with q|q
   ·exact b j d q a
   obtain rfl:j=i:=by omega
   have q9:d=e:=by rw[f] at a;exact (Agb a).symm
   rw[q9];exact λq=>absurd (show [(0:Int),0,0,0,0,0]=[e.id,e.st,e.sz,e.q,e.r,e.mp] by rw[q];rfl) (by assumption)
  omega
 refine Zc 2 Z (gx (Zc 8 Z (Zr Z ?_)));exact ⟨_,.inr ⟨λd a=>(by obtain ⟨j,n⟩:=AeY.1 a;exact b j d (by have:=(Aeb.1 n).1;omega) n),Z,Z⟩,H.pick 2 [1] Z⟩
theorem QZ{vs:List Vl}(k:vs.length=8):Cn prog 47 [Y m] [voA m j t l vs] (λv Γ=>(∃i:Nat,(vs[i]?=some v0/\t<1073741824)/\v=.tuple #[I (i:Int),I 0]/\Γ=[voA m j t l vs])\/((∀e∈vs,e≠v0)/\v=.tuple #[I 0,I 32]/\Γ=[voA m j t l vs])\/((v0∈vs/\1073741824<=t)/\v=.tuple #[I 0,I 15]/\Γ=[voA m j t l vs])):=by
 intro z R w H;obtain ⟨o,p,H⟩:=H.vo;refine Ae func47 Z ntmps47 Z (Z2 13 [1,2,0,0] H Z (Ab Z (Bc Z Z (out:=[I 0,I 0,I 0,I 0,I 0,I 0]) J) (Aq Z (call86 _) (WD vs (λh q=>q.rd) k) H.f1 ?_)));rintro _ w _ (⟨i,c,rfl,rfl⟩|⟨a,rfl,rfl⟩) b
 ·have H:=b.l3;refine Z0 12 [0] Z (Af Z (λd=>U) (λd=>?_))
  refine Z2 11 [1,1,1,0,0] H Z (Af Z (λf=>?_) (λf=>?_))
  ·refine Zc 7 Z (Zr Z ?_);exact ⟨_,.inr (.inr ⟨⟨Aec c,by omega⟩,Z,Z⟩),(H.pick 3 [1,0,2] Z).toVo⟩
  refine Zc 11 Z (Zr Z ?_);exact ⟨_,.inl ⟨i,⟨c,by omega⟩,Z,Z⟩,(H.pick 3 [1,0,2] Z).toVo⟩
 have H:=b.l3;refine Z0 20 [3] Z (Zr Z ?_);exact ⟨_,.inr (.inl ⟨a,Z,Z⟩),(H.pick 3 [1,0,2] Z).toVo⟩
theorem O7{vs:List Vl}{a:Int}(hv:vs.length=8)(u:∀e∈vs,-1073741824<=e.sz/\e.sz<=1073741824)(a2: -9223372036854775808<=p/\p<=9223372036854775807)(a3: -9223372036854775808<=a/\a<=9223372036854775807):Cn prog 39 [Y m,I s,I p,I a,.bool b] [voA m g t l vs] (λv Γ=>((∀e∈vs,¬(e.st=1/\e.id=s))/\v=.tuple #[I 0,I 31]/\Γ=[voA m g t l vs])\/(∃(i:Nat) (e:Vl),(vs[i]?=some e/\e.st=1/\e.id=s)/\v=.tuple #[I (if Bn e.sz b p a=0 then (i:Int) else 0),I (Bn e.sz b p a)]/\Γ=[voA m g t l vs])):=by
 intro z R w H;refine Ae func39 Z ntmps39 Z (Zc 10 Z (Aq Z (call46 _) (JG s U) H ?_));rintro _ w _ (⟨i,e,⟨h,d,c⟩,rfl,rfl⟩|⟨y,rfl,rfl⟩) H'
 ·have H:=H'.l1;refine Z0 12 [0] Z (Af Z (λh1=>U) (λh1=>?_))
  refine Zc 5 Z (FO 22 Z (λh2=>?_) (λh2=>?_))
  ·refine Zc 15 Z (Zr Z ?_);have f:Bn e.sz b p a=1:=by unfold Bn;rw[if_neg (λq=>by first|omega|(obtain ⟨q1,_⟩:=q;simp_all))]
   exact ⟨_,.inr ⟨i,e,⟨h,d,c⟩,by rw[f];rfl,Z⟩,H.pick 1 [0] Z⟩
  refine Zc 1 Z (z_E_ Z (call65 _) (He) H ?_);intro w H;refine Ab Z (AF Z Z) (Zc 4 Z (Af Z (λh3=>?_) (λh3=>?_)))
  ·refine Zc 7 Z (Zr Z ?_);have f:Bn e.sz b p a=1:=by unfold Bn;rw[if_neg (λq=>by first|omega|(obtain ⟨q1,_⟩:=q;simp_all))]
   exact ⟨_,.inr ⟨i,e,⟨h,d,c⟩,by rw[f];rfl,Z⟩,H.pick 1 [0] Z⟩
  refine Zc 1 Z ?_;obtain ⟨vv,sv,H⟩:=H.vo;have x:=H.sy 1 (·.slc);obtain ⟨am,mc,rfl⟩:=x;have a4:=(Aeb.1 h).1;have a0:=u e (Aec h);have n:=(H.rv 1 (·.rd)).at (AU h 0 _ Z);have o:=(H.rv 1 (·.rd)).at (AU h 2 _ Z);refine Z0 4 [0] Z (Al 30 Z (λh4=>?_) (λh4=>?_))
  ·refine Zc 25 Z (Zr Z ?_);have f:Bn e.sz b p a=34:=by unfold Bn;rw[if_pos ⟨by first|assumption|simp_all,by omega,by omega⟩,if_neg U]
   exact ⟨_,.inr ⟨i,e,⟨h,d,c⟩,by rw[f];rfl,Z⟩,(H.pick 3 [0,1,2] Z).toVo⟩
  refine Z2 7 [1,2,0,0] H Z (Ab Z (Aj Z (z:=6) (j:=i) (r:=i*6) J Z Z Z U n U) (Ab Z (Bm Z (k:=2) (r:=i*6+2) J Z n Z) (Ab Z (Ax Z Z J (Ay o)) (Z1 7 [0] [e.sz-a] Z U (Af Z (λh5=>?_) (λh5=>?_))))))
  ·refine Zc 7 Z (Zr Z ?_);have f:Bn e.sz b p a=34:=by unfold Bn;rw[if_pos ⟨by first|assumption|simp_all,by omega,by omega⟩,if_neg U]
   exact ⟨_,.inr ⟨i,e,⟨h,d,c⟩,by rw[f];rfl,Z⟩,(H.pick 3 [0,1,2] Z).toVo⟩
  refine Zc 11 Z (Zr Z ?_);have f:Bn e.sz b p a=0:=by unfold Bn;rw[if_pos ⟨by first|assumption|simp_all,by omega,by omega⟩,if_pos U]
  exact ⟨_,.inr ⟨i,e,⟨h,d,c⟩,by rw[f];rfl,Z⟩,(H.pick 3 [0,1,2] Z).toVo⟩
 have H:=H'.l1;refine Z0 20 [3] Z (Zr Z ?_);exact ⟨_,.inl ⟨y,Z,Z⟩,H.pick 1 [0] Z⟩
theorem ZZ(b pp ps c e pd n:Nat)(nx:Int)(sk:List Int)(vs:List Vl)(D:Dsk)(G:StG)(d:Bool)(mb:Nat)(f:Fine D G mb):Cn prog 35 [Y b] [voA b pp nx sk vs,plB pp ps c e n d,stoA ps pd D G none] (λv Γ=>v=I 0/\Fine D.fl {G with sure:=G.rs.length} mb/\Γ=[voA b pp nx sk vs,plB pp ps c e n d,stoA ps pd D.fl {G with sure:=G.rs.length} none]):=by
 intro z R w H;replace H:=H.l3;obtain ⟨i,j,H⟩:=H.vo;replace H:=H.l5;refine Ae func35 Z ntmps35 Z (Z2 15 [0,0,0,0,0,3,0] H Z (Aq Z (call61 _) (sync_s mb f) H.f4 ?_));rintro _ w _ ⟨rfl,a,rfl⟩ H;refine Zc 4 Z (Zr Z ?_);exact ⟨_,⟨Z,a,Z⟩,(H.pick 5 [1,2,3,4,0] Z).toVo⟩
end
section
variable{Tb:Ai}{z w:World}{Γ:List Ai}{pp mb n:Nat}{o:TB}{t:TS}{R:List Nat}
theorem trA.perm0{Q:List Nat}(hp:o.R.Perm Q)(a:trA Tb pp mb n o none h):trA Tb pp mb n ⟨o.N,o.C,Q⟩ none h:=by
 obtain ⟨M0,b,a⟩:=a;exact ⟨M0,⟨b.m,b.i.perm hp⟩,a⟩
theorem WE{pp mb n:Nat}{o:TB}(t:TS)(R:List Nat)(x:Pg)(j:x.Ok)(B:Ai)(f:∀h,B h->rdH 1 u 240 (x.body.map u8) h)(p:t.k<40):
  Cn prog 169 [Y pp,I 0,.agg #[I x.kind,u]] [trA Tb pp mb n o (some (t,R)),B] (λv Γ=>∃k,k<=t.k+1/\v=I 0/\Γ=[trA Tb pp mb n o (some (⟨t.N,t.C,t.F,k⟩,R)),B]):=by
 intro z R' w H;have K:=H.says 0 Z (λh a=>trA.k a);obtain ⟨⟨M0,M⟩,c,H⟩:=H.tr1;refine Ret.mono (Cn.at (write_p pp mb n M0 o.C ⟨M,t.C,t.F,t.k⟩ 0 x j u B f p ⟨.inl Z,by have:=K.hn;omega⟩ (by have:=K.one 0 (AeO _);simp only[curC] at this;show t.C 0≠0;omega)) H 2 [0,1] Z Z) ?_;rintro v q ⟨Γ',⟨e,g,rfl,rfl⟩,l⟩;refine ⟨_,⟨e,g,Z,Z⟩,Sep.toTr1 (C:=t.C) (F:=t.F) (k:=e) (N:=t.N) l c.1 ⟨λd c' b=>?_,c.2.i⟩⟩;have:=(c.2.i.nin d c' b).1;rw[fup_ne _ _ U];exact c.2.m d c' b
theorem HW{pp mb n:Nat}{vs:List Vl}{o:TB}:Cn prog 35 [Y m] [voA m pp s l vs,trA Tb pp mb n o none] (λv Γ=>v=I 0/\Γ=[voA m pp s l vs,trA Tb pp mb n o none]):=by
 intro z R' w H;obtain ⟨M0,b,H⟩:=(H.pick 2 [1,0] Z).tr0;obtain ⟨X,a,H⟩:=H.po;refine Ret.mono (Cn.at (ZZ m pp X.ps X.pc X.pa X.pd n s l vs X.D X.G false mb a.fine) H 8 [7,0,1,2,3,4,5,6] Z Z) ?_;rintro v f ⟨Γ',⟨rfl,d,rfl⟩,c⟩;refine ⟨_,⟨Z,Z⟩,(Sep.toTr0 (o:=o) ((c.pick 8 [1,2,3,4,5,6,7,0] Z).toPo (X:= {X with D:=X.D.fl,G:= {X.G with sure:=X.G.rs.length}}) (M0:=M0) (t:=none) ⟨a.hn,d,a.pg,a.tab,a.m0,a.cp,a.c0,a.one,a.idle,λT e=>(by cases e)⟩ Z) b).pick 2 [1,0] Z⟩
end
section
variable{Tb:Ai}
set_option maxHeartbeats 2000000 in
theorem Uc {vs:List Vl} {o:TB} (t:TS) (R0:List Nat) (b:List Int) (a:List Vl) (hA:∀h,A h->rdH 6 u a.length (Bb a) h) (d:a.length=8) (c:b.length<=8) (g:0<=p/\p<=1073741824) (a2:∀x∈b,0<=x/\x<=1023) (a3:∀e∈a,e.Fit) (hk:t.k+1+manyN n<=40) (a4:j<=1000000000):Cn prog 122 [Y m,.agg #[I p,u,y]] [voA m i s l vs,A,Cx y b,trA Tb i j n o (some (t,R0))] (λv Γ=>v=I 0/\Γ=[voA m i p b a,A,Cx y b,trA Tb i (j+2) n ⟨t.N,t.C,R0⟩ none]):=by
 intro z R w H;replace H:=H.l4;obtain ⟨vv,sv,H⟩:=H.vo;replace H:=H.l6;refine Ae func122 Z ntmps122 Z (Za 2 [] H Z ?_);intro b1 w H;refine Z2 10 [0,1,0] H Z (z_E_ Z (call80 _) (HS i j n o) H.f6 ?_);intro w H;replace H:=H.l7;refine AD 12 (v:=.bool true) Z Z (Z2 9 [1,3] H Z (Aq Z (call54 _) (I6 p b a hA (λh q=>q.1.rd) c d g a2 a3) H.f6.f6 ?_));rintro _ w _ ⟨pw,rfl,rfl⟩ H;replace H:=H.l8;refine Z2 22 [3,0,5,0] H Z (Aq Z (call169 _) (WE t R0 ⟨1,Dq p b a⟩ ⟨by show (1:Int)<=1/\(1:Int)<=5;omega,Km c d⟩ (blk pw (A5 (AJ (Cc p b a a.length)) ((21+19*8:Nat):Int)) 167) (λh q=>HH q (AS (by rw[Ey p c (Aei _),d];omega)) U U U (by rfl)) U) H.f3 ?_);rintro _ w _ ⟨k2,a6,rfl,rfl⟩ H;replace H:=H.l8;refine Z2 20 [4,0,5,0] H Z (z_E_ Z (call170 _) (Wi (⟨t.N,t.C,t.F,k2⟩:TS) R0 (by show k2+manyN n<=40;omega) a4) H ?_);intro w H;replace H:=H.l8;refine Z2 16 [4,4,3] H Z (Aq Z (call130 _) (MV b a (λh q=>hA h q) d c) H.f3.f3 ?_);rintro _ w _ ⟨a0,f,rfl,rfl⟩ H;replace H:=H.l10;have a1:=H.sy 0 (·.slc);have r:=H.sy 1 (·.1.slc);refine Z0 2 [1] Z (Az Z Z (Ak 7 H Z Z Z Z (vs:=[I p,a0,f]) Z (Ad Z (Ad a1.one (Ad r.one Aw))) J O (out:=[Y i,I p,a0,f]) Z) ?_);rintro w H;replace H:=H.l10;refine Zc 8 Z (Zr Z ?_);exact ⟨_,⟨Z,Z⟩,(H.pick 10 [7,0,1,2,3,4] Z).toVo⟩
end
section
variable{Tb:Ai}
theorem Ll{vs:List Vl}(i:vs.length=8)(hs:l.length<=8):Cn prog 77 [Y n] [voA n m t l vs] (λv Γ=>∃f e:Value,v=.agg #[I t,f,e]/\Γ=[grow 77 6 f vs.length (Bb vs),Cx e l,voA n m t l vs]):=by
 intro z R w H;replace H:=H.l1;obtain ⟨k,o,H⟩:=H.vo;replace H:=H.l3;refine Ae func77 Z ntmps77 Z (Za 2 [] H Z ?_);intro p w H;refine Z2 8 [1,1,3] H Z (Aq Z (call130 _) (MV l vs (λh q=>q.rd) i hs) H.f3.f3 ?_);rintro _ w _ ⟨b,a,rfl,rfl⟩ H;replace H:=H.l6;have d:=H.sy 0 (·.slc);have c:=H.sy 1 (·.1.slc);refine Az Z Z (Ak 4 H Z Z Z Z (vs:=[I t,b,a]) Z (Ad Z (Ad d.one (Ad c.one Aw))) J O (out:=[I t,b,a]) Z) ?_;rintro w H;replace H:=H.l6;refine Zc 3 Z (Zl [4,3] H Z ?_);exact ⟨_,⟨b,a,Z,Z⟩,((H.pick 6 [5,2,3,0,1] Z).toVo).pick 3 [1,2,0] Z⟩
set_option maxHeartbeats 2000000 in
theorem change_c (p pp mb n:Nat) (nx:Int) (vs:List Vl) (o:TB) (hv:vs.length=8) (E0:Ai) (f:FuncId) (us:List Value) (l:∀a w,(callFunc f a).run prog w=.ok (.enter f a) w) (u:Int->Ai->Prop) (i:Int->List Vl->TS->List Nat->Ai->Prop) (a6:∀(c:Nat) (v1 v2:Value),Cn prog f (Y c::us) [blk c [I nx,v1,v2] 83,grow 77 6 v1 vs.length (Bb vs),Cx v2 [],voA p pp nx [] vs,trA Tb pp mb n o (some ((⟨o.N,o.C,AV n o.C,0⟩:TS),o.R)),E0] (λv Γ=>(∃(e:Int) (d:Ai) (s:TS×List Nat),(e≠0/\u e d)/\v=I e/\Γ=[voA p pp nx [] vs,trA Tb pp mb n o (some s),d])\/(∃(nx2:Int) (b:List Vl) (t:TS) (j:List Nat) (d:Ai),i nx2 b t j d/\v=I 0/\Γ=[blk c [I nx2,v1,v2] 83,grow 77 6 v1 b.length (Bb b),Cx v2 [],voA p pp nx [] vs,trA Tb pp mb n o (some (t,j)),d]))) (hG:∀nx2 b t j d,i nx2 b t j d->b.length=8/\(0<=nx2/\nx2<=1073741824)/\(∀e∈b,e.Fit)/\t.k+1+manyN n<=40) (a4:mb<=1000000000):Cn prog 71 [Y p,(.func (.func f) #[] us.toArray)] [voA p pp nx ([]) vs,trA Tb pp mb n o none,E0] (λv Γ=>(∃(e:Int) (d:Ai),(e≠0/\u e d)/\v=I e/\Γ=[voA p pp nx [] vs,trA Tb pp mb n o none,d])\/(∃(nx2:Int) (b:List Vl) (t:TS) (j:List Nat) (d:Ai),i nx2 b t j d/\v=I 0/\Γ=[voA p pp nx2 [] b,trA Tb pp (mb+2) n ⟨t.N,t.C,j⟩ none,d])):=by
 intro z R w H;refine Ae func71 Z ntmps71 Z (Zc 7 Z ?_);obtain ⟨vv,sv,H⟩:=H.vo;refine Z2 5 [0,0,0] H Z (z_E_ Z (call120 _) (Zx) H.f3 ?_);intro w H;replace H:=((H.pick 5 [1,2,3,0,4] Z).toVo).l3;refine Z0 15 [4] Z (Aq Z (call77 _) (Ll hv O) H ?_);rintro _ w _ ⟨r,m,rfl,rfl⟩ H;have y:=H.sy 0 (·.slc);have x:=H.sy 1 (·.1.slc);refine Za 0 [] H Z ?_;intro b2 w H;refine Az Z Z (Ak 0 H Z Z Z Z (vs:=[I nx,r,m]) Z (Ad Z (Ad y.one (Ad x.one Aw))) J O (out:=[I nx,r,m]) Z) ?_;rintro w H;refine Zc 6 Z (AdT Z Z Z Z (l _) (a6 b2 r m) H ?_);rintro _ w _ (⟨e,d,s,⟨a1,a0⟩,rfl,rfl⟩|⟨nx2,b,t,j,d,g,rfl,rfl⟩) H'
 ·have H:=H'.l3;refine Z0 9 [0] Z (Af Z (λh1=>?_) (λh1=>?_))
  ·refine Zc 1 Z ?_;obtain ⟨b3,b1,H⟩:=H.vo
   refine Z2 5 [0,0,0] H Z (z_E_ Z (call121 _) (Zy) H.f3 ?_);intro w H;replace H:=((H.pick 5 [1,2,3,0,4] Z).toVo).l3;refine Zc 9 Z (Zr Z ?_);exact ⟨_,.inl ⟨e,d,⟨a1,a0⟩,Z,Z⟩,H.pick 3 [0,1,2] Z⟩
  (exfalso;omega)
 have H:=H'.l6;obtain ⟨a5,a2,a3,a7⟩:=hG _ _ _ _ _ g;refine Z2 16 [4,0,3] H Z (z_E_ Z (call122 _) (Uc t j [] b (λh q=>q.rd) a5 O a2 O a3 a7 a4) H.f4.f3.f3.f4 ?_);intro w H;refine Zc 4 Z (Zr Z ?_);exact ⟨_,.inr ⟨nx2,b,t,j,d,g,Z,Z⟩,H.pick 6 [0,3,5] Z⟩
end
section
variable{Tb:Ai}
section
variable{P:Program}{o:Oper}{w z:World}{Γ:List Ai}{n:Nat}{ds:List Deferred}{L:List (Nat×Value)}{v:Value}{x y:Operand}
theorem CV(i:Nat)(H:Sep z Γ w){e:TypeId}{q:Nat}{t:Option Addr}{vs:List Value}(hi:Γ[i]?=some (grow e j (.slice t m r) m V))(ho:o.op=.store T x y)(hx:ev L x=some (Hj t q))(hy:ev L y=some v)(hv:v.cells=vs.toArray)(h1:∀u∈vs,u.oneCell'=true)
  (hs:(P.info? T).map (·.size)=some vs.length)(hm:0<m)(hq:q+vs.length<=m*j){out:List Value}(c:V.take q++vs++V.drop (q+vs.length)=out):
  DH P n ds L o w (λk=>Sep z (Γ.set i (grow e j (.slice t m r) m out)) k):=λa hF=>by
 have s:V.length=m*j:=H.says i hi (λh g=>g.len);obtain ⟨g,a1,rest,hu,h3,h4,h5,H2⟩:=H.ungrow i hi hm;cases hu;have f:i<Γ.length:=(Aeb.1 hi).1;have l:(Γ.set i (blk g (V++rest) e))[i]?=some (blk g (V++rest) e):=by rw[Aff f]
 have a0:m*j+(r-m)*j=r*j:=by rw[<-AhF];congr 1;omega
 obtain ⟨k,hr,H3⟩:=Ak (P:=P) (n:=n) (ds:=ds) (L:=L) i H2 (p:=0+q) (vs:=vs) l ho hx hy hv h1 hs (by rw[Aee,s,h5];omega) (out:=out++rest) (by
  rw[AfM,Aet U,AeT U,<-c];simp only[Aeh]) a hF
 refine ⟨k,hr,?_⟩;rw[AgE] at H3;have d:out.length=m*j:=by rw[<-c];simp only[Aee,Aex,AeM];omega
 have:=H3.mono i (B:=grow e j (.slice (some ⟨g,0,none⟩) m r) m out) (by rw[Aff f]) (λh b=>blk.grow b h3 h4 (by rw[Aee,d,h5];omega) (by rw[<-d,AeF];rfl));rw[AgE] at this;exact this
end
theorem EI{vs:List Vl}{e e2:Vl}(h:vs[i]?=some e)(k:Nat)(j:k+V.length<=6)(c:e.cells.take k++V++e.cells.drop (k+V.length)=e2.cells):(Bb vs).take (i*6+k)++V++(Bb vs).drop (i*6+k+V.length)=Bb (vs.set i e2):=by
 obtain ⟨a,rfl⟩:=Aeb.1 h;have e1:vs=vs.take i++vs[i]::vs.drop (i+1):=by rw[<-AeZ a,AeL]
 have b:vs.set i e2=vs.take i++e2::vs.drop (i+1):=by rw[Afa,if_pos a]
 have g:(Bb (vs.take i)).length=i*6:=by rw[ZT,Aex,AeE U]
 have d:Bb vs=Bb (vs.take i)++(vs[i].cells++Bb (vs.drop (i+1))):=by
  have:=congrArg Bb e1;rw[JF] at this;exact this.trans (congrArg (Bb (vs.take i)++ ·) Z)
 have f:vs[i].cells.length=6:=rfl;rw[d,b,JF];rw[show i*6+k=(Bb (vs.take i)).length+k by omega,Ahi,show (Bb (vs.take i)).length+k+V.length=(Bb (vs.take i)).length+(k+V.length) by omega,Ahj,Aet U,AeT U];have:Bb (e2::vs.drop (i+1))=e2.cells++Bb (vs.drop (i+1)):=by simp[Bb]
 rw[this,<-c];simp only[Aeh]
theorem Z6(c h:Nat)(nx:Int)(d b:Value)(vs:List Vl)(i:Nat)(e:Vl)(g:vs[i]?=some e)(o:vs.length=8):Cn prog 72 [Y c,Y h] [blk c [I nx,d,b] 83,grow 77 6 d vs.length (Bb vs),Cx b ([]),blk h [I (i:Int)] 3] (λv Γ=>v=I 0/\Γ=[blk c [I nx,d,b] 83,grow 77 6 d vs.length (Bb (vs.set i {e with st:=2})),Cx b ([]),blk h [I (i:Int)] 3]):=by
 intro z R w H;have f:=H.sy 1 (·.slc);obtain ⟨q,p,rfl⟩:=f;have n:=(Aeb.1 g).1;have a:=(H.rv 1 (·.rd)).at (AU g 0 _ Z);refine Ae func72 Z ntmps72 Z (Zc 6 Z (BH 7 J J (AZ H λw m=>?_)));have H:=m.l4;refine PV 5 [1,0,1] (AO (H.blk 0 Z) (AO (H.blk 3 Z) AM)) Z J Z (B9 Z Z Z (Aj Z (z:=6) (j:=i) (r:=i*6) J Z Z Z U a U) (B9 Z Z Z (Bm Z (k:=1) (r:=i*6+1) J Z a Z) (CF (gw (Az Z Z (CV 1 H Z Z Z Z (vs:=[I 2]) Z (by simp[Value.oneCell']) J U (by simp only[Aeg,AeB];omega) (out:=Bb (vs.set i {e with st:=2})) (EI (e2:= {e with st:=2}) g 1 O (by simp[Vl.cells,v0]))) ?_)))));rintro w H;refine Zc 8 Z (Zr Z ?_);exact ⟨_,⟨Z,Z⟩,H.pick 4 [0,1,2,3] Z⟩
theorem Z7(c bs l:Nat)(nx:Int)(f d:Value)(vs:List Vl)(i:Nat)(e:Vl)(h:vs[i]?=some e)(p:vs.length=8)(a:Int):Cn prog 74 [Y c,Y bs,Y l] [blk c [I nx,f,d] 83,grow 77 6 f vs.length (Bb vs),Cx d ([]),blk bs [I a] 3,blk l [I (i:Int)] 3] (λv Γ=>v=I 0/\Γ=[blk c [I nx,f,d] 83,grow 77 6 f vs.length (Bb (vs.set i {e with sz:=a})),Cx d ([]),blk bs [I a] 3,blk l [I (i:Int)] 3]):=by
 intro z R w H;have g:=H.sy 1 (·.slc);obtain ⟨s,q,rfl⟩:=g;have o:=(Aeb.1 h).1;have b:=(H.rv 1 (·.rd)).at (AU h 0 _ Z);refine Ae func74 Z ntmps74 Z (Zc 6 Z (BH 8 J J (AZ H λw n=>?_)));have H:=n.l5;refine PV 6 [1,0,1,2] (AO (H.blk 0 Z) (AO (H.blk 4 Z) (AO (H.blk 3 Z) AM))) Z J Z (B9 Z Z Z (Aj Z (z:=6) (j:=i) (r:=i*6) J Z Z Z U b U) (B9 Z Z Z (Bm Z (k:=2) (r:=i*6+2) J Z b Z) (CF (gw (Az Z Z (CV 1 H Z Z Z Z (vs:=[I a]) Z (by simp[Value.oneCell']) J U (by simp only[Aeg,AeB];omega) (out:=Bb (vs.set i {e with sz:=a})) (EI (e2:= {e with sz:=a}) h 2 O (by simp[Vl.cells,v0]))) ?_)))));rintro w H;refine Zc 8 Z (Zr Z ?_);exact ⟨_,⟨Z,Z⟩,H.pick 5 [0,1,2,3,4] Z⟩
theorem Q0{n:Nat}{o:TB}{s:TS×List Nat}:Cn prog 145 [Y m] [trA Tb m i n o (some s)] (λv Γ=>v=I 0/\Γ=[trA Tb m i n o (some s)]):=by
 intro z R w H;refine Ae func145 Z ntmps145 Z (Zc 19 Z (z_E_ Z (call80 _) (HS m i n o) H ?_));intro w H;refine AD 6 (v:=.bool true) Z Z (Zc 12 Z (Zr Z ?_));exact ⟨_,⟨Z,Z⟩,H⟩
theorem Ack(pp mb n:Nat)(o:TB)(t:TS)(a:List Nat)(p:Nat)(e:p≠0)(hp:manyN n<p/\p<n)(b:1<=t.C p)(d:a.length+n<1000):Cn prog 88 [Y pp,I (p:Int)] [trA Tb pp mb n o (some (t,a))] (λv Γ=>v=.tuple #[I (p:Int),I 0]/\Γ=[trA Tb pp mb n o (some ({t with C:=fup t.C p (t.C p+1)},p::a))]):=by
 intro z R w H;refine Ae func88 Z ntmps88 Z (Zc 10 Z (z_E_ Z (call145 _) (Q0) H ?_));intro w H;refine Z0 19 [4,0] Z (Af Z (λc=>U) (λc=>?_));refine Zc 7 Z (z_E_ Z (call146 _) (XC pp mb n o t a p hp b d) H ?_);intro w H;refine Z0 20 [4] Z (Zr Z ?_);exact ⟨_,⟨Z,Z⟩,H⟩
theorem Z8(pp mb n:Nat)(o:TB)(s:TS×List Nat):Cn prog 88 [Y pp,I 0] [trA Tb pp mb n o (some s)] (λv Γ=>v=.tuple #[I 0,I 0]/\Γ=[trA Tb pp mb n o (some s)]):=by
 intro z R w H;refine Ae func88 Z ntmps88 Z (Zc 10 Z (z_E_ Z (call145 _) (Q0) H ?_));intro w H;refine Z0 27 [4,3] Z (Zr Z ?_);exact ⟨_,⟨Z,Z⟩,H⟩
theorem WF{n:Nat}{o:TB}(t:TS)(b:List Nat)(r:Int)(f:0<=r)(a:r.toNat≠0->(manyN n<r.toNat/\r.toNat<n)/\1<=t.C r.toNat)(g:b.length+n<1000):Cn prog 88 [Y m,I r] [trA Tb m i n o (some (t,b))] (λv Γ=>∃C2,v=.tuple #[I r,I 0]/\Γ=[trA Tb m i n o (some (⟨t.N,C2,t.F,t.k⟩,A8 r.toNat++b))]):=by
 obtain ⟨p,rfl⟩:=AfY f;intro z R w H;have e:((p:Int)).toNat=p:=rfl;rw[e] at a ⊢;by_cases h0:p=0
 ·subst h0
  refine Ret.mono (Z8 m i n o (t,b) z R w H) ?_;rintro v d ⟨Γ',⟨rfl,rfl⟩,c⟩;exact ⟨_,⟨t.C,Z,Z⟩,c⟩
 refine Ret.mono (Ack m i n o t b p h0 (a h0).1 (a h0).2 g z R w H) ?_;rintro v d ⟨Γ',⟨rfl,rfl⟩,c⟩;exact ⟨_,⟨_,Z,Z⟩,by rw[DQ h0];exact c⟩
set_option maxHeartbeats 2000000 in
theorem WH (a pp mb n:Nat) (o:TB) (c d g m:Nat) (nx:Int) (f h:Value) (vs:List Vl) (i:Nat) (e:Vl) (s:vs[i]?=some e) (hv:vs.length=8) (x:Vl) (a1:0<=nx/\nx<1073741824) (l:0<=x.r) (t:x.r.toNat≠0->(manyN n<x.r.toNat/\x.r.toNat<n)/\1<=o.C x.r.toNat) (hb:o.R.length+n<1000):Cn prog 87 [Y c,Y d,Y g,Y m] [blk c [I nx,f,h] 83,grow 77 6 f vs.length (Bb vs),Cx h ([]),voA a pp nx ([]) vs,trA Tb pp mb n o (some ((⟨o.N,o.C,AV n o.C,0⟩:TS),o.R)),blk d [Y a] 33,blk g [I x.id,I x.st,I x.sz,I x.q,I x.r,I x.mp] 77,blk m [I (i:Int)] 3] (λv Γ=>∃C2,v=I 0/\Γ=[blk c [I (nx+1),f,h] 83,grow 77 6 f vs.length (Bb (vs.set i x)),Cx h ([]),voA a pp nx ([]) vs,trA Tb pp mb n o (some (⟨o.N,C2,AV n o.C,0⟩,A8 x.r.toNat++o.R)),blk d [Y a] 33,blk g [I x.id,I x.st,I x.sz,I x.q,I x.r,I x.mp] 77,blk m [I (i:Int)] 3]):=by
 intro z R w H;replace H:=H.l8;have k:=H.sy 1 (·.slc);obtain ⟨am,mc,rfl⟩:=k;have a2:=(Aeb.1 s).1;have b:=(H.rv 1 (·.rd)).at (AU s 0 _ Z);replace H:=H.f3;obtain ⟨u,sv,H⟩:=H.vo;replace H:=H.l10;refine Ae func87 Z ntmps87 Z (Zc 11 Z ?_);replace H:=H.f8.f1.f8;refine AN (Sep z (blk d [Y a] 33::blk a [Y pp,I nx,u,sv] 85::blk g [I x.id,I x.st,I x.sz,I x.q,I x.r,I x.mp] 77::R)) 13 Z J (AZ H λw p=>?_);have H:=p.l10;refine AT [0,1,2,3,4,5] [0,0,0,1,0,4,2,0] [] (by exact H.pick 10 [0,1,2] Z) Z J Z (AC [6] J O (Am (Bo Z Z Z Z Z Z (λw=>call88 _ w) (WF (⟨o.N,o.C,AV n o.C,0⟩:TS) o.R x.r l t hb) H.f8 Z ?_)));rintro _ w _ ⟨C2,rfl,rfl⟩ H;replace H:=H.l10;refine Av (H.pick 10 [1,2,3] Z) (AT [7,8,9,10] [4] [] (by exact H.pick 10 [1,2,3] Z) Z J Z (AC [11] J O (Am (Bi Z Z Z (AdF 3 H Z Z Z Z Z Z J) ?_))));rintro w H;replace H:=H.l10;refine Av (H.pick 10 [1,2,3] Z) (AT [12] [] [] (by exact H.pick 10 [1,2,3] Z) Z J Z (a_done J (gn (Zc 2 Z (BH 7 J J (AZ H λw p=>?_))))));have H:=p.l10;refine Mu 6 [1,6,0,9,0,3,6] [] H Z J (B9 Z Z Z (Aj Z (z:=6) (j:=i) (r:=i*6) J Z Z Z U b U) (CF (gw (Az Z Z (CV 7 H Z Z Z Z (vs:=[I x.id,I x.st,I x.sz,I x.q,I x.r,I x.mp]) Z (by simp[Value.oneCell']) J U (by simp only[Aeg,AeB];omega) (out:=Bb (vs.set i x)) (EI (e2:=x) s 0 O (by simp[Vl.cells,v0]))) ?_))));rintro w H;replace H:=H.l10;refine Z5 21 [0,6,0,0,6] [nx+1] H Z U ?_;intro w H;refine Zr Z ?_;exact ⟨_,⟨C2,Z,Z⟩,((H.pick 10 [2,4,5,6,7,8,0,1,3,9] Z).toVo).pick 8 [1,2,3,0,4,5,6,7] Z⟩
end
section
variable{Tb:Ai}
theorem Gy{vs:List Vl}{x:Vl}(h:∀e∈vs,e.Fit)(b:x.Fit):∀e∈vs.set i x,e.Fit:=λe a=>by
 rcases Aht a with q|q
 ·exact h e q
 rw[q];exact b
theorem Sa(i pp mb n:Nat)(nx:Int)(vs:List Vl)(o:TB)(y:vs.length=8){f:FuncId}(us:List Value)(d:∀a w,(callFunc f a).run prog w=.ok (.enter f a) w)(nx2:Int)(b:List Vl)(R2:List Nat)
  (r:∀(c:Nat) (g h:Value),Cn prog f (Y c::us) [blk c [I nx,g,h] 83,grow 77 6 g vs.length (Bb vs),Cx h [],voA i pp nx [] vs,trA Tb pp mb n o (some (⟨o.N,o.C,AV n o.C,0⟩,o.R)),A] (λv Γ=>∃C2,v=I 0/\Γ=[blk c [I nx2,g,h] 83,grow 77 6 g vs.length (Bb b),Cx h [],voA i pp nx [] vs,trA Tb pp mb n o (some (⟨o.N,C2,AV n o.C,0⟩,R2)),A]))
  (s:b.length=vs.length)(l:0<=nx2/\nx2<=1073741824)(m:∀e∈b,e.Fit)(x:manyN n<=9)(p:mb<=1000000000):
  Cn prog 71 [Y i,.func (.func f) #[] us.toArray] [voA i pp nx [] vs,trA Tb pp mb n o none,A] (λv Γ=>∃C2,v=I 0/\Γ=[voA i pp nx2 [] b,trA Tb pp (mb+2) n ⟨o.N,C2,R2⟩ none,A]):=by
 intro z R w H;refine Ret.mono (change_c i pp mb n nx vs o y A f us d (λ_ _=>False) (λj k t R0 E2=>∃C2,j=nx2/\k=b/\t=⟨o.N,C2,AV n o.C,0⟩/\R0=R2/\E2=A) (λc g h z R w H=>?_) ?_ p z R w H) ?_
 ·refine Ret.mono (r c g h z R w H) ?_
  rintro v u ⟨Γ',⟨C2,rfl,rfl⟩,q⟩;exact ⟨_,.inr ⟨nx2,b,_,R2,A,⟨C2,Z,Z,Z,Z,Z⟩,Z,Z⟩,by rw[s];exact q⟩
 ·rintro _ _ _ _ _ ⟨C2,rfl,rfl,rfl,rfl,rfl⟩;exact ⟨by omega,l,m,by show 0+1+manyN n<=40;omega⟩
 rintro v u ⟨Γ',(⟨e,E2,⟨_,hb⟩,_⟩|⟨j,k,t,R0,E2,⟨C2,rfl,rfl,rfl,rfl,rfl⟩,rfl,rfl⟩),q⟩
 ·exact hb.elim
 exact ⟨_,⟨C2,Z,Z⟩,q⟩
theorem Z9{vs:List Vl}{o:TB}(l:vs.length=8)(h:0<=t/\t<=1073741824)(s:∀e∈vs,e.Fit){d:Nat}(i:Nat)(e:Vl)(p:vs[i]?=some e)(k:manyN n<=9)(f:g<=1000000000):Cn prog 71 [Y m,.func (.func 72) #[] #[Y d]] [voA m j t [] vs,trA Tb j g n o none,blk d [I (i:Int)] 3] (λv Γ=>∃C2,v=I 0/\Γ=[voA m j t [] (vs.set i {e with st:=2}),trA Tb j (g+2) n ⟨o.N,C2,o.R⟩ none,blk d [I (i:Int)] 3]):=by
 have b:=s e (Aec p);refine Sa m j g n t vs o l [Y d] (λa w=>call72 a w) t _ o.R (λc y u z R w H=>?_) O h (Gy s ⟨b.id,by show (0:Int)<=2/\(2:Int)<=2;omega,b.sz,b.q,b.r,b.mp⟩) k f;refine Ret.mono (Cn.at (Z6 c d t y u vs i e p l) H 6 [0,1,2,5,3,4] Z Z) ?_;rintro v w' ⟨Γ',⟨rfl,rfl⟩,x⟩;exact ⟨_,⟨o.C,Z,Z⟩,x.pick 6 [0,1,2,4,5,3] Z⟩
theorem Aaa{vs:List Vl}{o:TB}(u:vs.length=8)(p:0<=t/\t<=1073741824)(y:∀e∈vs,e.Fit){bs d:Nat}(i:Nat)(e:Vl)(x:vs[i]?=some e)(b:Int)(a0:1<=b/\b<=1048576)(s:manyN n<=9)(k:g<=1000000000):Cn prog 71 [Y m,.func (.func 74) #[] #[Y bs,Y d]] [voA m j t [] vs,trA Tb j g n o none,blk bs [I b] 3,blk d [I (i:Int)] 3] (λv Γ=>∃C2,v=I 0/\Γ=[voA m j t [] (vs.set i {e with sz:=b}),trA Tb j (g+2) n ⟨o.N,C2,o.R⟩ none,blk bs [I b] 3,blk d [I (i:Int)] 3]):=by
 intro z R w H;have f:=y e (Aec x);have H2:=((H.pick 4 [2,3,0,1] Z).made 2 (A:=seps [blk bs [I b] 3,blk d [I (i:Int)] 3]) (λh q=>q)).pick 3 [1,2,0] Z;refine Ret.mono (Sa m j g n t vs o u [Y bs,Y d] (λa w=>call74 a w) t (vs.set i {e with sz:=b}) o.R (λc v1 v2 z R w H=>?_) O p (Gy y ⟨f.id,f.st,by show 0<=b/\b<=1048576;omega,f.q,f.r,f.mp⟩) s k z R w H2) ?_
 ·have H3:=(H.pick 6 [5,0,1,2,3,4] Z).opened
  refine Ret.mono (Cn.at (Z7 c bs d t v1 v2 vs i e x u b) H3 7 [2,3,4,0,1,5,6] Z Z) ?_;rintro v w' ⟨Γ',⟨rfl,rfl⟩,l⟩;exact ⟨_,⟨o.C,Z,Z⟩,((l.pick 7 [3,4,0,1,2,5,6] Z).made 2 (λh q=>q)).pick 6 [1,2,3,4,5,0] Z⟩
 rintro v w' ⟨Γ',⟨C2,rfl,rfl⟩,l⟩;exact ⟨_,⟨C2,Z,Z⟩,((l.pick 3 [2,0,1] Z).opened).pick 4 [2,3,0,1] Z⟩
theorem Aab{vs:List Vl}{o:TB}(hv:vs.length=8)(p:0<=t/\t<1073741824)(hf:∀e∈vs,e.Fit){d f b:Nat}(i:Nat)(e:Vl)(he:vs[i]?=some e)(x:Vl)(y:x.Fit)(u:x.r.toNat≠0->(manyN n<x.r.toNat/\x.r.toNat<n)/\1<=o.C x.r.toNat)(hb:o.R.length+n<1000)(s:manyN n<=9)(k:g<=1000000000):Cn prog 71 [Y m,.func (.func 87) #[] #[Y d,Y f,Y b]] [voA m j t [] vs,trA Tb j g n o none,blk d [Y m] 33,blk f [I x.id,I x.st,I x.sz,I x.q,I x.r,I x.mp] 77,blk b [I (i:Int)] 3] (λv Γ=>∃C2,v=I 0/\Γ=[voA m j (t+1) [] (vs.set i x),trA Tb j (g+2) n ⟨o.N,C2,A8 x.r.toNat++o.R⟩ none,blk d [Y m] 33,blk f [I x.id,I x.st,I x.sz,I x.q,I x.r,I x.mp] 77,blk b [I (i:Int)] 3]):=by
 intro z R w H;have H2:=((H.pick 5 [2,3,4,0,1] Z).made 3 (A:=seps [blk d [Y m] 33,blk f [I x.id,I x.st,I x.sz,I x.q,I x.r,I x.mp] 77,blk b [I (i:Int)] 3]) (λh q=>q)).pick 3 [1,2,0] Z;refine Ret.mono (Sa m j g n t vs o hv [Y d,Y f,Y b] (λa w=>call87 a w) (t+1) (vs.set i x) (A8 x.r.toNat++o.R) (λc v1 v2 z R w H=>?_) O ⟨by omega,by omega⟩ (Gy hf y) s k z R w H2) ?_
 ·have H3:=(H.pick 6 [5,0,1,2,3,4] Z).opened
  refine Ret.mono (Cn.at (WH m j g n o c d f b t v1 v2 vs i e he hv x p y.r.1 u hb) H3 8 [3,4,5,6,7,0,1,2] Z Z) ?_;rintro v w' ⟨Γ',⟨C2,rfl,rfl⟩,l⟩;exact ⟨_,⟨C2,Z,Z⟩,((l.pick 8 [5,6,7,0,1,2,3,4] Z).made 3 (λh q=>q)).pick 6 [1,2,3,4,5,0] Z⟩
 rintro v w' ⟨Γ',⟨C2,rfl,rfl⟩,l⟩;exact ⟨_,⟨C2,Z,Z⟩,((l.pick 3 [2,0,1] Z).opened).pick 5 [3,4,0,1,2] Z⟩
set_option maxHeartbeats 2000000 in
theorem MY {vs:List Vl} {o:TB} (q:vs.length=8) (d:0<=t/\t<=1073741824) (r:∀e∈vs,e.Fit) (h:manyN n<=9) (b:g<=1000000000) (id:Int):Cn prog 31 [Y m,I id] [voA m j t ([]) vs,trA Tb j g n o none] (λv Γ=>((∀e∈vs,¬(e.st=1/\e.id=id))/\v=I 31/\Γ=[voA m j t [] vs,trA Tb j g n o none])\/(∃(i:Nat) (e:Vl) (C2:Nat->Nat),(vs[i]?=some e/\e.st=1/\e.id=id)/\v=I 0/\Γ=[voA m j t [] (vs.set i {e with st:=2}),trA Tb j (g+2) n ⟨o.N,C2,o.R⟩ none])):=by
 intro z R w H;refine Ae func31 Z ntmps31 Z (Zc 9 Z (Aq Z (call46 _) (JG id U) H ?_));rintro _ w _ (⟨i,e,⟨l,c,a⟩,rfl,rfl⟩|⟨f,rfl,rfl⟩) k
 ·have H:=k.l2;refine Za 0 [] H Z ?_;intro u w H;refine Z4 10 [0,0,0,0] H Z ?_;intro w H;refine Af Z (λp=>U) (λp=>?_)
  refine Zc 5 Z (Ab Z (C5 Z Z Z) (Aq Z (call71 _) (Z9 q d r i e l h b) H.f2.f2 ?_));rintro _ w _ ⟨C2,rfl,rfl⟩ H;refine Z0 16 [4] Z (z_E_ Z (call35 _) (HW) H ?_);intro w H;refine Zc 4 Z (Zr Z ?_);exact ⟨_,.inr ⟨i,e,C2,⟨l,c,a⟩,Z,Z⟩,H.pick 3 [0,1] Z⟩
 have H:=k.l2;refine Za 0 [] H Z ?_;intro s w H;refine Z4 17 [0,0,0,3] H Z ?_;intro w H;refine Zr Z ?_;exact ⟨_,.inl ⟨f,Z,Z⟩,H.pick 3 [1,2] Z⟩
set_option maxHeartbeats 2000000 in
theorem Q1 {vs:List Vl} {o:TB} (y:vs.length=8) (a:0<=t/\t<=1073741824) (hf:∀e∈vs,e.Fit) (f:manyN n<=9) (c:g<=1000000000) (i:Nat) (e:Vl) (he:vs[i]?=some e) (x:Vl) (b:x.Fit) (d:t<1073741824) (h:x.r.toNat≠0->(manyN n<x.r.toNat/\x.r.toNat<n)/\1<=o.C x.r.toNat) (hb:o.R.length+n<1000):Cn prog 48 [Y m,I (i:Int),.agg #[I x.id,I x.st,I x.sz,I x.q,I x.r,I x.mp]] [voA m j t ([]) vs,trA Tb j g n o none] (λv Γ=>∃C2:Nat->Nat,v=.tuple #[I t,I 0]/\Γ=[voA m j (t+1) [] (vs.set i ⟨t,1,x.sz,x.q,x.r,x.mp⟩),trA Tb j (g+2) n ⟨o.N,C2,A8 x.r.toNat++o.R⟩ none]):=by
 intro z R w H;replace H:=H.l2;obtain ⟨vv,sv,H⟩:=H.vo;replace H:=H.l4;refine Ae func48 Z ntmps48 Z (Za 2 [] H Z ?_);intro u w H;refine Za 0 [] H Z ?_;intro l w H;refine Za 0 [] H Z ?_;intro s w H;refine Z4 18 [2,0,1,1,3,0,0,0,1,0] H Z ?_;intro w H;have k:=(H.pick 7 [3,4,5,0,1,2,6] Z).toVo;clear H;have H:Sep z (voA m j t ([]) vs::blk s [I t,I 1,I x.sz,I x.q,I x.r,I x.mp] 77::blk l [I (i:Int)] 3::blk u [Y m] 33::trA Tb j g n o none::R) w:=k;clear k;refine Z2 2 [3,0] H Z (Ab Z (C5 Z Z Z) (Aq Z (call71 _) (Aab y ⟨a.1,d⟩ hf i e he ⟨t,1,x.sz,x.q,x.r,x.mp⟩ ⟨a,by show (0:Int)<=1/\(1:Int)<=2;omega,b.sz,b.q,b.r,b.mp⟩ h hb f c) H.f2.f2.f3.f4.f4 ?_));rintro _ w _ ⟨C2,rfl,rfl⟩ H;replace H:=H.l5;refine Z2 13 [3,2,0] H Z (z_E_ Z (call35 _) (HW) H ?_);intro w H;replace H:=H.l5;refine Z2 22 [4,0,3,0] H Z (Zr Z ?_);exact ⟨_,⟨C2,Z,Z⟩,H.pick 5 [0,1] Z⟩
set_option maxHeartbeats 2000000 in
theorem I8 {vs:List Vl} {o:TB} (s:vs.length=8) (p:0<=t/\t<=1073741824) (y:∀e∈vs,e.Fit) (r:manyN n<=9) (f:g<=1000000000) (b a:Int) (hb:o.R.length+n<1000):Cn prog 25 [Y m,I b,I a] [voA m j t ([]) vs,trA Tb j g n o none] (λv Γ=>(¬((1<=b/\b<=1048576)/\0<=a/\a<=1048576)/\v=.tuple #[I 0,I 1]/\Γ=[voA m j t [] vs,trA Tb j g n o none])\/(((1<=b/\b<=1048576)/\0<=a/\a<=1048576)/\(((∀e∈vs,e≠v0)/\v=.tuple #[I 0,I 32]/\Γ=[voA m j t [] vs,trA Tb j g n o none])\/(1073741824<=t/\v=.tuple #[I 0,I 15]/\Γ=[voA m j t [] vs,trA Tb j g n o none])\/(∃(i:Nat) (C2:Nat->Nat),(vs[i]?=some v0/\t<1073741824)/\v=.tuple #[I t,I 0]/\Γ=[voA m j (t+1) [] (vs.set i ⟨t,1,b,a,0,0⟩),trA Tb j (g+2) n ⟨o.N,C2,o.R⟩ none])))):=by
 intro z R w H;refine Ae func25 Z ntmps25 Z (Zc 10 Z (z_E_ Z (call65 _) (He) H ?_));intro w H;refine Ab Z (AF Z Z) (Zc 1 Z (Al 13 Z (λu=>?_) (λu=>?_)))
 ·refine Zc 14 Z (Zr Z ?_);exact ⟨_,.inl ⟨by omega,Z,Z⟩,H.pick 2 [0,1] Z⟩
 refine Zc 1 Z (z_E_ Z (call65 _) (He) H ?_);intro w H;refine Ab Z (AF Z Z) (Zc 3 Z (Af Z (λx=>?_) (λx=>?_)))
 ·refine Zc 7 Z (Zr Z ?_);exact ⟨_,.inl ⟨by omega,Z,Z⟩,H.pick 2 [0,1] Z⟩
 refine Zc 5 Z (Aq Z (call47 _) (QZ s) H ?_);rintro _ w _ (⟨k,⟨l,c⟩,rfl,rfl⟩|⟨d,rfl,rfl⟩|⟨⟨l,c⟩,rfl,rfl⟩) h
 ·have H:=h.l2;refine Z0 23 [4] Z (Ab Z (Bc Z Z (out:=[I 0,I 0,I b,I a,I 0,I 0]) J) (Aq Z (call48 _) (Q1 s p y r f k v0 l ⟨0,0,b,a,0,0⟩ ⟨by show (0:Int)<=0/\(0:Int)<=1073741824;omega,by show (0:Int)<=0/\(0:Int)<=2;omega,by show 0<=b/\b<=1048576;omega,by show 0<=a/\a<=1048576;omega,by show (0:Int)<=0/\(0:Int)<=1023;omega,by show (0:Int)<=0/\(0:Int)<=1048576;omega⟩ c (λq=>absurd Z q) hb) H ?_));rintro _ w _ ⟨C2,rfl,rfl⟩ H;refine Zc 7 Z (Zr Z ?_);exact ⟨_,.inr ⟨by omega,.inr (.inr ⟨k,C2,⟨l,c⟩,Z,Z⟩)⟩,H.pick 2 [0,1] Z⟩
 ·have H:=h.l2;refine Z0 23 [3] Z (Zr Z ?_);exact ⟨_,.inr ⟨by omega,.inl ⟨d,Z,Z⟩⟩,H.pick 2 [0,1] Z⟩
 have H:=h.l2;refine Z0 23 [3] Z (Zr Z ?_);exact ⟨_,.inr ⟨by omega,.inr (.inl ⟨c,Z,Z⟩)⟩,H.pick 2 [0,1] Z⟩
set_option maxHeartbeats 2000000 in
theorem Mh {mb:Nat} {vs:List Vl} {o:TB} (hv:vs.length=8) (y:0<=t/\t<=1073741824) (hf:∀e∈vs,e.Fit) (s:manyN n<=9) (x:mb<=1000000000) (id:Int) (a1:∀e∈vs,e.r.toNat≠0->(manyN n<e.r.toNat/\e.r.toNat<n)/\1<=o.C e.r.toNat) (hb:o.R.length+n<1000):Cn prog 15 [Y m,I id] [voA m g t ([]) vs,trA Tb g mb n o none] (λv Γ=>((∀e∈vs,¬(e.st=1/\e.id=id))/\v=.tuple #[I 0,I 31]/\Γ=[voA m g t [] vs,trA Tb g mb n o none])\/(∃(j:Nat) (e:Vl),(vs[j]?=some e/\e.st=1/\e.id=id)/\(((∀e∈vs,e≠v0)/\v=.tuple #[I 0,I 32]/\Γ=[voA m g t [] vs,trA Tb g mb n o none])\/(1073741824<=t/\v=.tuple #[I 0,I 15]/\Γ=[voA m g t [] vs,trA Tb g mb n o none])\/(∃(i:Nat) (C2:Nat->Nat),(vs[i]?=some v0/\t<1073741824)/\v=.tuple #[I t,I 0]/\Γ=[voA m g (t+1) [] (vs.set i {e with id:=t,st:=1}),trA Tb g (mb+2) n ⟨o.N,C2,A8 e.r.toNat++o.R⟩ none])))):=by
 intro z R w H;refine Ae func15 Z ntmps15 Z (Zc 10 Z (Aq Z (call46 _) (JG id U) H ?_));rintro _ w _ (⟨i,e,⟨b,f,c⟩,rfl,rfl⟩|⟨a0,rfl,rfl⟩) h
 ·have H:=h.l2;refine Z0 10 [0] Z (Af Z (λh1=>U) (λh1=>?_))
  refine Zc 5 Z (Aq Z (call47 _) (QZ hv) H ?_);rintro _ w _ (⟨k,⟨q,a⟩,rfl,rfl⟩|⟨d,rfl,rfl⟩|⟨⟨q,a⟩,rfl,rfl⟩) h
  ·have H:=h.l2;refine Z0 18 [4] Z ?_;obtain ⟨vv,sv,H⟩:=H.vo;have p:=H.sy 1 (·.slc)
   obtain ⟨am,mc,rfl⟩:=p;have a3:=(Aeb.1 b).1;have l:=(H.rv 1 (·.rd)).at (AU b 0 _ Z);refine Z2 9 [1,2,0,0] H Z (Ab Z (Aj Z (z:=6) (j:=i) (r:=i*6) J Z Z Z U l U) (Ab Z (Bp Z Z (vs:=e.cells) J (by simp[Vl.cells]) (Ay (λk u hk=>(H.rv 1 (·.rd)).at (AU b k u hk)))) ?_));replace H:=((H.pick 4 [0,1,2,3] Z).toVo).l2;refine Aq Z (call48 _) (Q1 hv y hf s x k v0 q e (hf e (Aec b)) a (a1 e (Aec b)) hb) H ?_;rintro _ w _ ⟨C2,rfl,rfl⟩ H;refine Zc 7 Z (Zr Z ?_);exact ⟨_,.inr ⟨i,e,⟨b,f,c⟩,.inr (.inr ⟨k,C2,⟨q,a⟩,Z,Z⟩)⟩,H.pick 2 [0,1] Z⟩
  ·have H:=h.l2;refine Z0 23 [3] Z (Zr Z ?_);exact ⟨_,.inr ⟨i,e,⟨b,f,c⟩,.inl ⟨d,Z,Z⟩⟩,H.pick 2 [0,1] Z⟩
  have H:=h.l2;refine Z0 23 [3] Z (Zr Z ?_);exact ⟨_,.inr ⟨i,e,⟨b,f,c⟩,.inr (.inl ⟨a,Z,Z⟩)⟩,H.pick 2 [0,1] Z⟩
 have H:=h.l2;refine Z0 18 [3] Z (Zr Z ?_);exact ⟨_,.inl ⟨a0,Z,Z⟩,H.pick 2 [0,1] Z⟩
end
section
variable{Tb:Ai}
structure OtE where
 k:Int
 d:Bool
 f:Int
def OtE.cells(e:OtE):List Value:=[.int .i64 e.k,.bool e.d,.int .i64 e.f]
end
section
variable{Tb:Ai}
end
section
variable{Tb:Ai}
end
section
section
variable{P:Program}{o:Oper}{w z:World}{Γ:List Ai}{n:Nat}{ds:List Deferred}{L:List (Nat×Value)}{v:Value}{x y:Operand}
end

end
def Bw(a b:Int)(L:List E):List E:=L.filter λe=>decide (a<=e.1/\e.1<b)
theorem Aac(a b:Int)(X Y_:List E):Bw a b (X++Y_)=Bw a b X++Bw a b Y_:=AfN ..
theorem scF_no(h:∀e∈X,e.1<t\/s<=e.1):Bw t s X=[]:=List.filter_eq_nil_iff.2 λe a q=>by
 have:=h e a;have:=of_decide_eq_true q;omega
theorem Aad{L:List E}(h:∀e∈L,t<=e.1/\e.1<s):Bw t s L=L:=Agt.2 λe a=>decide_eq_true (h e a)
def Br(m:Nat)(l X:List E):List E:=l++X.take (m-l.length)
theorem Aae(m:Nat)(l X Y_:List E):Br m l (X++Y_)=Br m (Br m l X) Y_:=by
 unfold Br;rw[AgY,Aeh];congr 3;rw[Aee,Aex];omega
theorem scT_full{l:List E}(h:m<=l.length):Br m l X=l:=by unfold Br;rw[Nat.sub_eq_zero_of_le h];simp
theorem Aaf(m:Nat)(l:List E):Br m l []=l:=by simp[Br]
theorem Aag{e:E}(h:X.length<m):Br m X [e]=X++[e]:=by unfold Br;rw[Aej (by simp;omega)]
theorem O8(m:Nat)(l X:List E):(Br m l X).length<=l.length+X.length:=by unfold Br;rw[Aee,Aex];omega
theorem O9(a b:Int)(L:List E):(Bw a b L).length<=L.length:=AfT ..
theorem Hf(m:Nat)(l:List E)(a b:Int)(L0 L2:List E):Br m l (Bw a b (L0++L2))=Br m (Br m l (Bw a b L0)) (Bw a b L2):=by rw[Aac,Aae]
theorem Fl{l:List E}{a b:Int}{L0 L2:List E}(h:m<=(Br m l (Bw a b L0)).length\/∀e∈L2,e.1<a\/b<=e.1):Br m l (Bw a b (L0++L2))=Br m l (Bw a b L0):=by
 rw[Hf];rcases h with h|h
 ·exact scT_full h
 rw[scF_no h,Aaf]
theorem MZ{L0:List E}{e:E}(a:(Br m X (Bw t s L0)).length<m)(b:t<=e.1/\e.1<s):Br m X (Bw t s (L0++[e]))=Br m X (Bw t s L0)++[e]:=by
 rw[Hf,Aad (L:=[e]) (by simpa using b),Aag a]
theorem Sq.ge{N:Hm}{h:Nat}{es:List E}{hi:Int}{L:List E}(s:Sq (λc a b L=>Tr N h c a b 4 L) es hi L)(hs:Srt es)(f:∀e∈es,e.1<hi):∀x∈L,nx es hi<=x.1:=λx d=>
 ((Sq.srt s hs f (λ_ _ _ _ q=>Tr.srt q)).2.1 x d).1
theorem Srt.drop{es:List E}(h:Srt es)(i:Nat):Srt (es.drop i):=List.Pairwise.drop h
theorem Srt.at_ge{es:List E}(h:Srt es){e:E}(b:es[i]?=some e):∀x∈es.drop i,e.1<=x.1:=λx a=>by
 obtain ⟨hi,rfl⟩:=Aeb.1 b;have:=h.drop i;rw[AeZ hi] at a this;rcases Aen.1 a with rfl|a
 ·exact Afm _
 exact AgU ((Srt.cons.1 this).1 x a)

def stp(N:Hm):Nat->Nat->Nat
 | 0,_=>1
 | h+1,r=>match N r with
  | some (.nd d)=>(d.es.map λe=>1+stp N h e.2).sum
  | _=>1
section
variable{Tb:Ai}
end
section
variable{Tb:Ai}
end
section
variable{Tb:Ai}
end
section
variable{Tb:Ai}
set_option maxHeartbeats 4000000 in
theorem Acl (pp mb n:Nat) (o:TB) (f c g:Int) (ra:Nat) (lo hi:Int) (m_:Nat) (L l:List E) (u:Value) (hT:Tr o.N 0 ra lo hi m_ L) (c0:l.length+L.length<=1048576):Cn prog 123 [Y pp,I (ra:Int),I f,I c,I g,u] [trA Tb pp mb n o none,grow 262 2 u l.length (EL l)] (λv Γ=>∃u2:Value,v=.tuple #[u2,I 0]/\Γ=[trA Tb pp mb n o none,grow 262 2 u2 (Br g.toNat l (Bw f c L)).length (EL (Br g.toNat l (Bw f c L)))]):=by
 intro z R w H;have K:=H.says 0 Z (λh a=>trA.k a);have hn:=K.hn;obtain ⟨es,hN,b8,a3,a0,a5,b6⟩:=hT;obtain rfl:es=L:=a5.symm;have b3:es.length<=8:=a0.len;refine Ae func123 Z ntmps123 Z (Zc 10 Z (Aq Z (call132 _) (HT pp mb n o none ra true es hN) H ?_));rintro _ w _ ⟨nk,nv,rfl,rfl⟩ H;have a6:=H.sy 0 (·.slc);obtain ⟨ka,kc,rfl⟩:=a6;have a4:=H.sy 1 (·.slc);obtain ⟨va,vc,rfl⟩:=a4;refine Za 3 [] H Z ?_;intro b1 w H;refine Z4 24 [0,4,1,0,0] H Z ?_;intro w H;refine AB (σ:=Nat×Value) (λ⟨i,u⟩=>[(29,I (i:Int)),(5,u),(0,Y pp),(2,I f),(3,I c),(4,I g),(14,Y b1),(28,I (((kL es).length:Nat):Int))])
   (λ⟨i,u⟩ w=>Sep z (blk b1 [.bool true,.slice ka ((kL es).length) kc,.slice va ((vL es).length) vc] 201::grow 3 1 (.slice ka ((kL es).length) kc) ((kL es).length) ((kL es).map I)::grow 3 1 (.slice va ((vL es).length) vc) ((vL es).length) ((vL es).map I)::trA Tb pp mb n o none::grow 262 2 u ((Br g.toNat l (Bw f c (es.take i))).length) (EL (Br g.toNat l (Bw f c (es.take i))))::R) w/\(i<=es.length)) (λ⟨i,u⟩=>es.length-i) ⟨0,u⟩
   fr_z ⟨(by simpa [Br,Bw] using H),AeO _⟩ ?_
 clear H;rintro ⟨i,u⟩ w ⟨s,hI⟩;dsimp only at hI s ⊢;have H:=s.l5;have su:=H.sy 4 (·.slc);have b0:=hI;clear hI;have b7:(kL es).length=es.length:=by simp
 have b5:(vL es).length=es.length:=by simp
 refine Z0 6 [0] Z (Af Z (λh1=>?_) (λh1=>?_))
 ·refine Zc 12 Z ?_;have a8:i<es.length:=by simp only[Aef] at *;omega
  obtain ⟨e,he⟩:∃e,es[i]?=some e:=⟨_,Aed a8⟩;have a2:=Aec he;have c1:=a3 e a2;have q:=(H.rv 1 (·.rd)).at (j:=i) (u:=I e.1) (by simp[kL,he]);have a7:=(H.rv 2 (·.rd)).at (j:=i) (u:=I (e.2:Int)) (by simp[vL,he]);have a1:=a0.srt.at_ge he;have y:es.take (i+1)=es.take i++[e]:=by rw[AeN,he];rfl
  refine Zc 2 Z (Ab Z (Ed Z (sz:=2) J Z su) (Z0 3 [0] Z (Al 37 Z (λh2=>?_) (λh2=>?_))))
  ·refine Zc 20 Z (Zr Z ?_);have p:(Br g.toNat l (Bw f c es))=(Br g.toNat l (Bw f c (es.take i))):=by have:=Fl (m:=g.toNat) (l:=l) (a:=f) (b:=c) (L0:=es.take i) (L2:=es.drop i) (by first|exact .inl U|exact .inr (λx hx=>.inr (by have:=a1 x hx;omega)));rwa[AeL] at this
   exact ⟨_,⟨u,Z,Z⟩,by rw[p];exact H.pick 5 [3,4] Z⟩
  refine Z2 3 [1,0,0] H Z (Ab Z (Aj Z (z:=1) (j:=i) (r:=i) J Z Z Z U q U) (Ab Z (Ax Z Z J (Ay q)) (Z0 6 [0] Z (Af Z (λh3=>?_) (λh3=>?_)))))
  ·refine Zc 8 Z (Zr Z ?_);have p:(Br g.toNat l (Bw f c es))=(Br g.toNat l (Bw f c (es.take i))):=by have:=Fl (m:=g.toNat) (l:=l) (a:=f) (b:=c) (L0:=es.take i) (L2:=es.drop i) (by first|exact .inl U|exact .inr (λx hx=>.inr (by have:=a1 x hx;omega)));rwa[AeL] at this
   exact ⟨_,⟨u,Z,Z⟩,by rw[p];exact H.pick 5 [3,4] Z⟩
  refine Z2 8 [0,0,0,1,0,0] H Z (Ab Z (Aj Z (z:=1) (j:=i) (r:=i) J Z Z Z U q U) (Ab Z (Ax Z Z J (Ay q)) (Z0 6 [0] Z (Af Z (λh4=>?_) (λh4=>?_)))))
  ·refine AN (Sep z (blk b1 [.bool true,.slice ka ((kL es).length) kc,.slice va ((vL es).length) vc] 201::grow 3 1 (.slice ka ((kL es).length) kc) ((kL es).length) ((kL es).map I)::grow 3 1 (.slice va ((vL es).length) vc) ((vL es).length) ((vL es).map I)::R)) 15 Z J (AZ H λw s=>?_)
   have H:=s.l5;refine AT [0,1,2,3] [1,0,0] [] (by exact H.pick 5 [0,1,2] Z) Z J Z (BN 4 Z J J J Z Z Z (Aj Z (z:=1) (j:=i) (r:=i) J Z Z Z U q U) (H.pick 5 [0,1,2] Z) (BN 5 Z J J J Z Z Z (Ax Z Z J (λ_ t=>(t.rv 1 (·.rd)).at (j:=i) (u:=I e.1) (by simp[kL,he]))) (H.pick 5 [0,1,2] Z) (AT [6,7,8] [2,0,0] [] (by exact H.pick 5 [0,1,2] Z) Z J Z (BN 9 Z J J J Z Z Z (Aj Z (z:=1) (j:=i) (r:=i) J Z Z Z U a7 U) (H.pick 5 [0,1,2] Z) (BN 10 Z J J J Z Z Z (Ax Z Z J (λ_ t=>(t.rv 2 (·.rd)).at (j:=i) (u:=I (e.2:Int)) (by simp[vL,he]))) (H.pick 5 [0,1,2] Z) (AT [11] [] [] (by exact H.pick 5 [0,1,2] Z) Z J Z (AC [12] J O (Am (Ca Z Z Z Z (AP H Z J FG Z (by decide) (by decide) (out:=[I e.1,I (e.2:Int)]) J) ?_)))))))));rintro _ w ⟨b2,rfl,H⟩;refine Av (H.pick 6 [1,2,3] Z) (AC [13] J O (Am (Ca Z Z Z Z (A0 5 H Z Z J FG Z Z (H.rv 0 (·.rd U U O Z)) (by simp[Value.oneCell']) (by have:=O8 g.toNat l (Bw f c (es.take i));have:=O9 f c (es.take i);rw[Aex] at this;omega)) ?_)));rintro v3 w s;have s:Sep z (blk b2 [I e.1,I (e.2:Int)] 262::blk b1 [.bool true,.slice ka ((kL es).length) kc,.slice va ((vL es).length) vc] 201::grow 3 1 (.slice ka ((kL es).length) kc) ((kL es).length) ((kL es).map I)::grow 3 1 (.slice va ((vL es).length) vc) ((vL es).length) ((vL es).map I)::trA Tb pp mb n o none::grow 262 2 v3 ((Br g.toNat l (Bw f c (es.take i))).length+1) (EL (Br g.toNat l (Bw f c (es.take i)))++[I e.1,I (e.2:Int)])::R) w:=s;have a9:(EL (Br g.toNat l (Bw f c (es.take i)))++[I e.1,I (e.2:Int)]:List Value)=EL (Br g.toNat l (Bw f c (es.take (i+1)))):=(by rw[y,MZ U ⟨by omega,by omega⟩,ZQ];rfl);rw[a9] at s;rw[show ((Br g.toNat l (Bw f c (es.take i))).length+1:Nat)=(Br g.toNat l (Bw f c (es.take (i+1)))).length from (by rw[y,MZ U ⟨by omega,by omega⟩,Aee];rfl)] at s;have H:=s.l6;refine Av (H.pick 6 [1,2,3] Z) (AT [14] [] [] (by exact H.pick 6 [1,2,3] Z) Z J Z (a_done J (gn (Z1 7 [] [(i:Int)+1] Z U ?_))));replace H:=H.d;refine gf ?_;intro _ hF;refine ⟨⟨i+1,v3⟩,hF.cz,⟨H,?_⟩,?_⟩
   ·show i+1<=es.length;omega
   (dsimp only;omega)
  refine Z3 35 [0,0,0] [(i:Int)+1] H Z U (gf ?_);intro _ hF;refine ⟨⟨i+1,u⟩,hF.cz,⟨(by rw[show (Br g.toNat l (Bw f c (es.take (i+1))))=(Br g.toNat l (Bw f c (es.take i))) from by rw[y];exact Fl (.inr (λx hx=>by simp at hx;subst hx;omega))];exact H),?_⟩,?_⟩
  ·show i+1<=es.length;omega
  (dsimp only;omega)
 refine Zc 2 Z (gx (Zc 10 Z (Zr Z ?_)));have p:(Br g.toNat l (Bw f c es))=(Br g.toNat l (Bw f c (es.take i))):=by rw[show es.take i=es from Aej (by simp only[Aef] at *;omega)]
 exact ⟨_,⟨u,Z,Z⟩,by rw[p];exact H.pick 5 [3,4] Z⟩
set_option maxHeartbeats 4000000 in
theorem Acm (pp mb n:Nat) (o:TB) (d f g:Int) (h:Nat) (ih:∀(ra:Nat) (lo hi:Int) (m_:Nat) (L l:List E) (u:Value),Tr o.N h ra lo hi m_ L->l.length+L.length<=1048576->Cn prog 123 [Y pp,I (ra:Int),I d,I f,I g,u] [trA Tb pp mb n o none,grow 262 2 u l.length (EL l)] (λv Γ=>∃u2:Value,v=.tuple #[u2,I 0]/\Γ=[trA Tb pp mb n o none,grow 262 2 u2 (Br g.toNat l (Bw d f L)).length (EL (Br g.toNat l (Bw d f L)))])) (ra:Nat) (lo hi:Int) (m_:Nat) (L l:List E) (u:Value) (hT:Tr o.N (h+1) ra lo hi m_ L) (s:l.length+L.length<=1048576):Cn prog 123 [Y pp,I (ra:Int),I d,I f,I g,u] [trA Tb pp mb n o none,grow 262 2 u l.length (EL l)] (λv Γ=>∃u2:Value,v=.tuple #[u2,I 0]/\Γ=[trA Tb pp mb n o none,grow 262 2 u2 (Br g.toNat l (Bw d f L)).length (EL (Br g.toNat l (Bw d f L)))]):=by
 intro z R w H;have K:=H.says 0 Z (λh a=>trA.k a);have hn:=K.hn;obtain ⟨es,hN,c5,a7,a4,a8⟩:=hT;have b9:es.length<=8:=a4.len;refine Ae func123 Z ntmps123 Z (Zc 10 Z (Aq Z (call132 _) (HT pp mb n o none ra false es hN) H ?_));rintro _ w _ ⟨nk,nv,rfl,rfl⟩ H;have b7:=H.sy 0 (·.slc);obtain ⟨ka,kc,rfl⟩:=b7;have b5:=H.sy 1 (·.slc);obtain ⟨va,vc,rfl⟩:=b5;refine Za 3 [] H Z ?_;intro b1 w H;refine Z4 24 [0,4,1,0,0] H Z ?_;intro w H;refine AB (σ:=Nat×Value×List E×List E) (λ⟨i,u,L0,L2⟩=>[(29,I (i:Int)),(5,u),(0,Y pp),(2,I d),(3,I f),(4,I g),(14,Y b1),(28,I (((kL es).length:Nat):Int))])
   (λ⟨i,u,L0,L2⟩ w=>Sep z (blk b1 [.bool false,.slice ka ((kL es).length) kc,.slice va ((vL es).length) vc] 201::grow 3 1 (.slice ka ((kL es).length) kc) ((kL es).length) ((kL es).map I)::grow 3 1 (.slice va ((vL es).length) vc) ((vL es).length) ((vL es).map I)::trA Tb pp mb n o none::grow 262 2 u ((Br g.toNat l (Bw d f L0)).length) (EL (Br g.toNat l (Bw d f L0)))::R) w/\(i<=es.length/\L=L0++L2/\Sq (λc a b L=>Tr o.N h c a b 4 L) (es.drop i) hi L2)) (λ⟨i,u,L0,L2⟩=>es.length-i) ⟨0,u,[],L⟩
   fr_z ⟨(by simpa [Br,Bw] using H),⟨AeO _,Z,a8⟩⟩ ?_
 clear H;rintro ⟨i,u,L0,L2⟩ w ⟨H',hI⟩;dsimp only at hI H' ⊢;have H:=H'.l5;have su:=H.sy 4 (·.slc);obtain ⟨c1,m,a0⟩:=hI;have c2:(kL es).length=es.length:=by simp
 have c4:(vL es).length=es.length:=by simp
 refine Z0 6 [0] Z (Af Z (λh1=>?_) (λh1=>?_))
 ·refine Zc 12 Z ?_;have a6:i<es.length:=by simp only[Aef] at *;omega
  obtain ⟨e,he⟩:∃e,es[i]?=some e:=⟨_,Aed a6⟩;have a9:=Aec he;have c6:=a7 e a9;have a3:=(H.rv 1 (·.rd)).at (j:=i) (u:=I e.1) (by simp[kL,he]);have t:=(H.rv 2 (·.rd)).at (j:=i) (u:=I (e.2:Int)) (by simp[vL,he]);obtain ⟨Lc,L3,q,a2,a1⟩:=Adg he a0;have b0:=AeZ a6;have a5:∀x∈L2,e.1<=x.1:=λx hx=>by have:=Sq.ge a0 (a4.srt.drop i) (λy hy=>(a7 y (Afu hy)).2) x hx;rw[b0] at this;have b3:=(Aeb.1 he).2;simp only[nx] at this;rw[b3] at this;exact this
  have b2:=a2.srt.2;refine Zc 2 Z (Ab Z (Ed Z (sz:=2) J Z su) (Z0 3 [0] Z (Al 37 Z (λh2=>?_) (λh2=>?_))))
  ·refine Zc 20 Z (Zr Z ?_);have p:(Br g.toNat l (Bw d f L))=(Br g.toNat l (Bw d f L0)):=by rw[m];exact Fl (by first|exact .inl U|exact .inr (λx hx=>.inr (by have:=a5 x hx;omega)))
   exact ⟨_,⟨u,Z,Z⟩,by rw[p];exact H.pick 5 [3,4] Z⟩
  refine Z2 3 [1,0,0] H Z (Ab Z (Aj Z (z:=1) (j:=i) (r:=i) J Z Z Z U a3 U) (Ab Z (Ax Z Z J (Ay a3)) (Z0 6 [0] Z (Af Z (λh3=>?_) (λh3=>?_)))))
  ·refine Zc 8 Z (Zr Z ?_);have p:(Br g.toNat l (Bw d f L))=(Br g.toNat l (Bw d f L0)):=by rw[m];exact Fl (by first|exact .inl U|exact .inr (λx hx=>.inr (by have:=a5 x hx;omega)))
   exact ⟨_,⟨u,Z,Z⟩,by rw[p];exact H.pick 5 [3,4] Z⟩
  refine Z3 30 [0,0,0,0,0,0,1,0,0,0] [(i:Int)+1] H Z U (Al 84 Z (λh4=>?_) (λh4=>?_))
  ·refine Z2 20 [2,0,0] H Z (Ab Z (Aj Z (z:=1) (j:=i) (r:=i) J Z Z Z U t U) (Ab Z (Ax Z Z J (Ay t)) (Zc 4 Z (Aq Z (call123 _) (ih e.2 e.1 (nx (es.drop (i+1)) hi) 4 Lc (Br g.toNat l (Bw d f L0)) u a2 (by have:=O8 g.toNat l (Bw d f L0);have:=O9 d f L0;rw[m,q] at s;simp only[Aee] at s;omega)) H.f4.f4 ?_))));rintro _ w _ ⟨u2,rfl,rfl⟩ H;have H':Sep z (trA Tb pp mb n o none::grow 262 2 u2 ((Br g.toNat l (Bw d f (L0++Lc))).length) (EL (Br g.toNat l (Bw d f (L0++Lc))))::blk b1 [.bool false,.slice ka ((kL es).length) kc,.slice va ((vL es).length) vc] 201::grow 3 1 (.slice ka ((kL es).length) kc) ((kL es).length) ((kL es).map I)::grow 3 1 (.slice va ((vL es).length) vc) ((vL es).length) ((vL es).map I)::R) w:=by rw[Hf];exact H
   have H:=H'.l5;refine Z1 22 [4] [(i:Int)+1] Z U ?_;replace H:=H.f1.f1.f4.f4.f4;refine gf ?_;intro _ hF;refine ⟨⟨i+1,u2,L0++Lc,L3⟩,hF.cz,⟨H,?_⟩,?_⟩
   ·exact ⟨by show i+1<=es.length;omega,by show L=L0++Lc++L3;rw[m,q,Aeh],a1⟩
   (dsimp only;omega)
  refine Z3 4 [1,0,0] [(i:Int)+1] H Z U ?_;have b8:=(H.rv 1 (·.rd)).at (j:=i+1) (u:=I (nx (es.drop (i+1)) hi)) (Adh hi (by simp only[Aef] at *;omega));refine Ab Z (Aj Z (z:=1) (j:=(i+1)) (r:=(i+1)) J Z Z U (by simp only[Aef] at *;omega) a3 U) (Ab Z (Ax Z Z J (Ay b8)) (Z0 7 [0] Z (Af Z (λh5=>?_) (λh5=>?_))))
  ·refine Z2 6 [2,0,0] H Z (Ab Z (Aj Z (z:=1) (j:=i) (r:=i) J Z Z Z U t U) (Ab Z (Ax Z Z J (Ay t)) (Zc 4 Z (Aq Z (call123 _) (ih e.2 e.1 (nx (es.drop (i+1)) hi) 4 Lc (Br g.toNat l (Bw d f L0)) u a2 (by have:=O8 g.toNat l (Bw d f L0);have:=O9 d f L0;rw[m,q] at s;simp only[Aee] at s;omega)) H.f4.f4 ?_))));rintro _ w _ ⟨u2,rfl,rfl⟩ H;have H':Sep z (trA Tb pp mb n o none::grow 262 2 u2 ((Br g.toNat l (Bw d f (L0++Lc))).length) (EL (Br g.toNat l (Bw d f (L0++Lc))))::blk b1 [.bool false,.slice ka ((kL es).length) kc,.slice va ((vL es).length) vc] 201::grow 3 1 (.slice ka ((kL es).length) kc) ((kL es).length) ((kL es).map I)::grow 3 1 (.slice va ((vL es).length) vc) ((vL es).length) ((vL es).map I)::R) w:=by rw[Hf];exact H
   have H:=H'.l5;refine Z1 22 [4] [(i:Int)+1] Z U ?_;replace H:=H.f1.f1.f4.f4.f4;refine gf ?_;intro _ hF;refine ⟨⟨i+1,u2,L0++Lc,L3⟩,hF.cz,⟨H,?_⟩,?_⟩
   ·exact ⟨by show i+1<=es.length;omega,by show L=L0++Lc++L3;rw[m,q,Aeh],a1⟩
   (dsimp only;omega)
  refine Z1 8 [] [(i:Int)+1] Z U (gf ?_);intro _ hF;refine ⟨⟨i+1,u,L0++Lc,L3⟩,hF.cz,⟨(by rw[show (Br g.toNat l (Bw d f (L0++Lc)))=(Br g.toNat l (Bw d f L0)) from Fl (.inr (λx hx=>by have:=b2 x hx;omega))];exact H),?_⟩,?_⟩
  ·exact ⟨by show i+1<=es.length;omega,by show L=L0++Lc++L3;rw[m,q,Aeh],a1⟩
  (dsimp only;omega)
 refine Zc 2 Z (gx (Zc 10 Z (Zr Z ?_)));have p:(Br g.toNat l (Bw d f L))=(Br g.toNat l (Bw d f L0)):=by have:L2=[]:=(by have b4:i=es.length:=(by simp only[Aef] at *;omega);have h:=a0;rw[b4,List.drop_length] at h;exact h);rw[m,this,AeV]
 exact ⟨_,⟨u,Z,Z⟩,by rw[p];exact H.pick 5 [3,4] Z⟩
end
section
variable{Tb:Ai}
theorem Adl{o:TB}(h:Nat):∀(a:Nat) (lo hi:Int) (b:Nat) (L l:List E) (u:Value),Tr o.N h a lo hi b L->l.length+L.length<=1048576->Cn prog 123 [Y m,I (a:Int),I t,I s,I p,u] [trA Tb m i n o none,grow 262 2 u l.length (EL l)] (λv Γ=>∃u2:Value,v=.tuple #[u2,I 0]/\Γ=[trA Tb m i n o none,grow 262 2 u2 (Br p.toNat l (Bw t s L)).length (EL (Br p.toNat l (Bw t s L)))]):=by
 induction h with
 | zero=>exact λa lo hi b L l u=>Acl m i n o t s p a lo hi b L l u
 | succ h ih=>exact λa lo hi b L l u=>Acm m i n o t s p h ih a lo hi b L l u
theorem Acn(pp mb n:Nat)(o:TB)(g:Nat)(L:List E)(d c a:Int)(j:Root o.N g L)(i:L.length<=1048576):Cn prog 73 [Y pp,I (g:Int),I d,I c,I a] [trA Tb pp mb n o none] (λv Γ=>∃u2:Value,v=.tuple #[u2,I 0]/\Γ=[trA Tb pp mb n o none,grow 262 2 u2 (Br a.toNat [] (Bw d c L)).length (EL (Br a.toNat [] (Bw d c L)))]):=by
 intro z R w H;have b:g=0->L=[]:=λq=>by rcases j with ⟨_,e⟩|⟨e,_⟩;exact e;exact absurd q e
 refine Ae func73 Z ntmps73 Z (Z0 22 [0] Z (Al 16 Z (λk=>?_) (λk=>?_)))
 ·refine Zc 18 Z (Zr Z ?_);have f:(Br a.toNat [] (Bw d c L))=[]:=by first|(rw[b U];simp[Br,Bw])|(rw[show a.toNat=0 by omega];simp[Br])|(rw[scF_no (λe _=>by omega)];simp[Br])
  exact ⟨_,⟨.slice none 0 0,rfl,rfl⟩,by rw[f];exact (((H.pick 1 [0] rfl).nilg 262 2).f1)⟩
 refine Z0 4 [0] Z (Al 20 Z (λl=>?_) (λl=>?_))
 ·refine Zc 14 Z (Zr Z ?_);have f:(Br a.toNat [] (Bw d c L))=[]:=by first|(rw[b U];simp[Br,Bw])|(rw[show a.toNat=0 by omega];simp[Br])|(rw[scF_no (λe _=>by omega)];simp[Br])
  exact ⟨_,⟨.slice none 0 0,rfl,rfl⟩,by rw[f];exact (((H.pick 1 [0] rfl).nilg 262 2).f1)⟩
 refine Z0 6 [0] Z (Af Z (λp=>?_) (λp=>?_))
 ·refine Zc 7 Z (Zr Z ?_);have f:(Br a.toNat [] (Bw d c L))=[]:=by first|(rw[b U];simp[Br,Bw])|(rw[show a.toNat=0 by omega];simp[Br])|(rw[scF_no (λe _=>by omega)];simp[Br])
  exact ⟨_,⟨.slice none 0 0,rfl,rfl⟩,by rw[f];exact (((H.pick 1 [0] rfl).nilg 262 2).f1)⟩
 refine Zc 3 Z ?_;replace H:=(H.nilg 262 2).l2;obtain ⟨_,h,m⟩:=j.resolve_left (λq=>by have:=q.1;omega);refine Zc 6 Z (Aq Z (call123 _) (Adl h g _ _ _ L [] _ m (by simpa using i)) H.f1 ?_);rintro _ w _ ⟨u2,rfl,rfl⟩ H;refine Zc 7 Z (Zr Z ?_);exact ⟨_,⟨u2,Z,Z⟩,H.pick 2 [0,1] Z⟩
end
section
variable{Tb:Ai}
theorem Hg{P:List Pl}{vs:List Vl}(b:vs=P.map Prod.fst){e:Vl}(h:vs[i]?=some e):∃L:List E,P[i]?=some (e,L):=by
 rw[b,Aeo] at h;obtain ⟨p,a,rfl⟩:=Agx.1 h;exact ⟨p.2,a⟩
theorem VInv.ok{o:TB}{P:List Pl}(h:VInv n o t P){p:Pl}(hi:P[i]?=some p)(hs:p.1.st=1):PlOk o.N t p:=by
 rcases h.all p (Aec hi) with rfl|q
 ·simp[pl0,v0] at hs
 exact q
theorem PlOk.vok{N:Hm}{p:Pl}(h:PlOk N t p)(d:t<=1073741824)(i:p.2.length<=1024):D6 p.1.id p.1.st p.1.sz p.1.q (p.1.r.toNat:Int) p.1.mp:=by
 obtain ⟨e,b,a,c,g,_,_,f,_⟩:=h;exact ⟨by omega,b,a,c,by omega,by omega,by omega⟩
theorem Sb{o:TB}{T:TT}(K:TrK n o T){p:Pl}(h:PlOk (Dk o T) t p):p.2.length<=1024:=by
 have:=JD K.i U h.root.data h.nd;have:=K.hn;omega
theorem Sc{p:Vl}(h:0<=p.r):(p.r.toNat:Int)=p.r:=by omega
theorem Aco{o:TB}(r:Int)(c:0<=r)(L:List E)(b:Root o.N r.toNat L)(a:L.length<=1048576):Cn prog 73 [Y m,I r,I t,I s,I q] [trA Tb m i n o none] (λv Γ=>∃u2:Value,v=.tuple #[u2,I 0]/\Γ=[trA Tb m i n o none,grow 262 2 u2 (Br q.toNat [] (Bw t s L)).length (EL (Br q.toNat [] (Bw t s L)))]):=by
 obtain ⟨p,rfl⟩:=AfY c;exact Acn m i n o p L t s q b a
theorem Aah{o:TB}(T:TT)(e:Vl)(L:List E)(nx:Int)(hp:PlOk (Dk o T) nx (e,L))(f:nx<=1073741824)(j:L.length<=1024)(h:0<=t/\t<e.sz):Cn prog 45 [Y m,.agg #[I e.id,I e.st,I e.sz,I e.q,I e.r,I e.mp],I t] [trA Tb m i n o T] (λv Γ=>∃b:Nat,(BT t (AW (Dk o T) L)).length=64/\v=.tuple #[.slice (some ⟨b,0,none⟩) 64 64,I 0]/\Γ=[blk b ((BT t (AW (Dk o T) L)).map u8) 5,trA Tb m i n o T]):=by
 have c:=hp.r.1;have g:=hp.vok f j;have a:=ZS (Tb:=Tb) m i n o T e.id e.st e.sz e.q e.mp t e.r.toNat L hp.root g;rw[Sc c] at a;intro z R w H;refine Ret.mono (a z R w H) ?_;rintro v k ⟨Γ',(⟨_,q⟩|⟨q,_⟩),d⟩
 ·exact ⟨Γ',q,d⟩
 exact absurd h q
set_option maxHeartbeats 4000000 in
theorem Hh {mb:Nat} (P:List Pl) {vs:List Vl} (hP:vs=P.map Prod.fst) {o:TB} (x:VInv n o t P) (a3:mb<=1000000000) (id b:Int):Cn prog 33 [Y m,I id,I b] [voA m g t ([]) vs,trA Tb g mb n o none] (λv Γ=>((∀e∈vs,¬(e.st=1/\e.id=id))/\v=I 31/\Γ=[voA m g t [] vs,trA Tb g mb n o none])\/(∃(i:Nat) (e:Vl) (L:List E),(P[i]?=some (e,L)/\e.st=1/\e.id=id)/\((¬(1<=b/\b<=1048576)/\v=I 1/\Γ=[voA m g t [] vs,trA Tb g mb n o none])\/(((1<=b/\b<=1048576)/\Bw b 1048576 L≠[])/\v=I 33/\Γ=[voA m g t [] vs,trA Tb g mb n o none])\/(((1<=b/\b<=1048576)/\Bw b 1048576 L=[])/\∃C2:Nat->Nat,v=I 0/\Γ=[voA m g t [] (vs.set i {e with sz:=b}),trA Tb g (mb+2) n ⟨o.N,C2,o.R⟩ none])))):=by
 intro z R w H;have K:=H.says 1 Z (λh a=>trA.k a);have hn:=K.hn;have hv:vs.length=8:=by rw[hP,Aef];exact x.len
 have hf:∀e∈vs,e.Fit:=by rw[hP];exact x.fit K
 have a9:=x.n;have a4:=x.nb;have a8:manyN n<=6:=by unfold manyN;omega
 refine Ae func33 Z ntmps33 Z (Za 2 [] H Z ?_);intro b1 w H;refine Zc 7 Z (Aq Z (call46 _) (JG id U) H.f1 ?_);rintro _ w _ (⟨i,e,⟨u,f,p⟩,rfl,rfl⟩|⟨a2,rfl,rfl⟩) s
 ·have H:=s.l3;refine Za 0 [] H Z ?_;intro b2 w H;refine Z4 12 [0,0,0,0] H Z ?_;intro w H;refine Af Z (λh1=>U) (λh1=>?_)
  refine Z2 3 [2,0] H Z (z_E_ Z (call65 _) (He) H ?_);intro w H;refine Ab Z (AF Z Z) (Zc 3 Z (Af Z (λh2=>?_) (λh2=>?_)))
  ·refine Zc 6 Z (Zr Z ?_);obtain ⟨L,c⟩:=Hg hP u;exact ⟨_,.inr ⟨i,e,L,⟨c,f,p⟩,.inl ⟨by omega,Z,Z⟩⟩,H.pick 4 [1,3] Z⟩
  refine Zc 4 Z ?_;obtain ⟨L,c⟩:=Hg hP u;have d:=x.ok c f;have b0:=(Aeb.1 u).1;replace H:=H.f1;obtain ⟨vv,sv,H⟩:=H.vo;have a1:=H.sy 1 (·.slc);obtain ⟨am,mc,rfl⟩:=a1;have l:=(H.rv 1 (·.rd)).at (AU u 0 _ Z);replace H:=H.f3.f4.f3.f3;refine AN (Sep z (blk m [Y g,I t,.slice am vs.length mc,sv] 85::grow 77 6 (.slice am vs.length mc) vs.length (Bb vs)::blk b1 [I b] 3::blk b2 [I (i:Int)] 3::R)) 20 Z J (AZ H λw s=>?_);have H:=s.l6;refine AT [0,1,2,3,4,5,6,7,8,9] [0,0,0,1,2,0,0,3,0] [] (by exact H.pick 6 [0,1,2,3] Z) Z J Z (BN 10 Z J J J Z Z Z (Aj Z (z:=6) (j:=i) (r:=i*6) J Z Z Z U l U) (H.pick 6 [0,1,2,3] Z) (BN 11 Z J J J Z Z Z (Bm Z (k:=4) (r:=i*6+4) J Z l Z) (H.pick 6 [0,1,2,3] Z) (BN 12 Z J J J Z Z Z (Ax Z Z J (λ_ hx=>(hx.rv 1 (·.rd)).at (AU u 4 _ Z))) (H.pick 6 [0,1,2,3] Z) (AT [13] [2,0] [] (by exact H.pick 6 [0,1,2,3] Z) Z J Z (AC [14] J O (Am (Bo Z Z Z Z Z Z (λw=>call73 _ w) (Aco e.r d.r.1 L d.root (by have:L.length<=1024:=Sb K (T:=none) d;omega)) H.f5 Z ?_)))))));rintro _ w _ ⟨u3,rfl,rfl⟩ H;have a0:=H.sy 1 (·.rd.slc);refine Av (H.pick 7 [2,3,4,5] Z) (AT [15,16,17,18,19] [] [] (by exact H.pick 7 [2,3,4,5] Z) Z J Z (a_done J (gn (Z0 15 [4] Z (Ab Z (Ed Z (sz:=2) J Z a0) (Z0 3 [0] Z (Af Z (λy=>?_) (λy=>?_))))))))
  ·have hX:Bw b 1048576 L≠[]:=λq=>by rw[q] at y;simp[Br] at y
   refine Zc 6 Z (Zr Z ?_);exact ⟨_,.inr ⟨i,e,L,⟨c,f,p⟩,.inr (.inl ⟨⟨by omega,hX⟩,Z,Z⟩)⟩,(H.pick 7 [2,3,6,0] Z).toVo⟩
  have hX:Bw b 1048576 L=[]:=Afd λq=>y (by have:=Ahc.2 q;simp only[Br,AeQ,Aex,AeB];show (0:Int)<((min ((1:Int).toNat-0) (Bw b 1048576 L).length:Nat):Int);have h1:(1:Int).toNat=1:=rfl;omega);refine Zc 3 Z ?_;have s:=(H.pick 7 [2,3,6,0,1,4,5] Z).toVo;clear H;have H:Sep z (voA m g t ([]) vs::trA Tb g mb n o none::grow 262 2 u3 ((Br (1:Int).toNat [] (Bw b 1048576 L)).length) (EL (Br (1:Int).toNat [] (Bw b 1048576 L)))::blk b1 [I b] 3::blk b2 [I (i:Int)] 3::R) w:=s;clear s;refine Zc 2 Z (Ab Z (C5 Z Z Z) (Aq Z (call71 _) (Aaa hv ⟨by omega,a4.2⟩ hf i e u b U U a3) H.f4.f4.f3.f3 ?_));rintro _ w _ ⟨C2,rfl,rfl⟩ H;refine Z0 16 [4] Z (z_E_ Z (call35 _) (HW) H ?_);intro w H;refine Zc 4 Z (Zr Z ?_);exact ⟨_,.inr ⟨i,e,L,⟨c,f,p⟩,.inr (.inr ⟨⟨by omega,hX⟩,C2,Z,Z⟩)⟩,H.pick 5 [0,1] Z⟩
 have H:=s.l3;refine Za 0 [] H Z ?_;intro b3 w H;refine Z4 19 [0,0,0,3] H Z ?_;intro w H;refine Zr Z ?_;exact ⟨_,.inl ⟨a2,Z,Z⟩,H.pick 4 [1,3] Z⟩
end
section
variable{Tb:Ai}
def rdB(V:List Bk)(at_:Int):Nat->List UInt8
 | 0=>[]
 | k+1=>rdB V at_ k++BT (at_+(k:Int)) V
theorem Aai{V:List Bk}:(rdB V t n).map u8++(BT (t+(n:Int)) V).map u8=(rdB V t (n+1)).map u8:=by simp[rdB]
theorem FY(h:Bn t b s p=0):b=true/\(1<=p/\p<=8)/\0<=s/\s<=t-p:=by
 unfold Bn at h;split at h
 ·rename_i q
  split at h
  ·rename_i r;exact ⟨q.1,q.2,r⟩
  cases h
 cases h
set_option maxHeartbeats 4000000 in
theorem FZ {mb:Nat} (P:List Pl) {vs:List Vl} (hP:vs=P.map Prod.fst) {o:TB} (p:VInv n o t P) (b8:mb<=1000000000) (id at_ b:Int) (a1: -9223372036854775808<=at_/\at_<=9223372036854775807) (b1: -9223372036854775808<=b/\b<=9223372036854775807):Cn prog 13 [Y m,I id,I at_,I b] [voA m g t ([]) vs,trA Tb g mb n o none] (λv Γ=>((∀e∈vs,¬(e.st=1/\e.id=id))/\v=.tuple #[.slice none 0 0,I 31]/\Γ=[voA m g t [] vs,trA Tb g mb n o none])\/(∃(i:Nat) (e:Vl) (L:List E),(P[i]?=some (e,L)/\e.st=1/\e.id=id)/\((Bn e.sz true at_ b≠0/\v=.tuple #[.slice none 0 0,I (Bn e.sz true at_ b)]/\Γ=[voA m g t [] vs,trA Tb g mb n o none])\/(Bn e.sz true at_ b=0/\∃u:Value,v=.tuple #[u,I 0]/\Γ=[grow 5 1 u (rdB (AW o.N L) at_ b.toNat).length ((rdB (AW o.N L) at_ b.toNat).map u8),voA m g t [] vs,trA Tb g mb n o none])))):=by
 intro z R w H;have K:=H.says 1 Z (λh a=>trA.k a);have hn:=K.hn;have hv:vs.length=8:=by rw[hP,Aef];exact p.len
 have hf:∀e∈vs,e.Fit:=by rw[hP];exact p.fit K
 have b7:=p.n;have b0:=p.nb
 refine Ae func13 Z ntmps13 Z (Zc 12 Z (Aq Z (call39 _) (O7 hv (λe x=>(by have:=(hf e x).sz;omega)) a1 b1) H ?_));rintro _ w _ (⟨a8,rfl,rfl⟩|⟨i,e,⟨x,y,a3⟩,rfl,rfl⟩) c
 ·have H:=c.l2;refine Z0 23 [3] Z (Zr Z ?_);exact ⟨_,.inl ⟨a8,Z,Z⟩,H.pick 2 [0,1] Z⟩
 have H:=c.l2;refine Z0 14 [0] Z (Af Z (λh1=>?_) (λh1=>?_))
 ·refine Zc 8 Z (Zr Z ?_);obtain ⟨L,l⟩:=Hg hP x;exact ⟨_,.inr ⟨i,e,L,⟨l,y,a3⟩,.inl ⟨by assumption,Z,Z⟩⟩,H.pick 2 [0,1] Z⟩
 refine Zc 3 Z ?_;have hE:Bn e.sz true at_ b=0:=Afd λq=>by contradiction
 refine AD 10 (v:=I (i:Int)) Z (congrArg I (if_pos hE)) ?_;have a6:=FY hE;obtain ⟨L,l⟩:=Hg hP x;have s:=p.ok l y;have b3:1<=e.sz/\e.sz<=1048576:=s.sz;have b9:=(Aeb.1 x).1;obtain ⟨vv,sv,H⟩:=H.vo;have a7:=H.sy 1 (·.slc);obtain ⟨am,mc,rfl⟩:=a7;have a0:L.length<=1024:=Sb K (T:=none) s;replace H:=(H.nilg 5 1).l5;refine Zc 12 Z ?_;refine AB (σ:=Nat×Value) (λ⟨j,u⟩=>[(28,I (j:Int)),(12,u),(0,Y m),(2,I at_),(10,I (i:Int)),(27,I b)])
   (λ⟨j,u⟩ w=>Sep z (grow 5 1 u (64*j) ((rdB (AW o.N L) at_ j).map u8)::blk m [Y g,I t,.slice am vs.length mc,sv] 85::grow 77 6 (.slice am vs.length mc) vs.length (Bb vs)::Cx sv ([])::trA Tb g mb n o none::R) w/\((j:Int)<=b/\(rdB (AW o.N L) at_ j).length=64*j)) (λ⟨j,u⟩=>b.toNat-j) ⟨0,.slice none 0 0⟩
   (λ_ hF=>(hF.co Z (by go_num) hF.cz)) ⟨(by simpa [rdB] using H),⟨by show ((0:Nat):Int)<=b;omega,Z⟩⟩ ?_
 clear H;rintro ⟨j,u⟩ w ⟨c,p⟩;dsimp only at p c ⊢;have H:=c.l5;have su:=H.sy 0 (·.slc);obtain ⟨hj,a4⟩:=p;refine Z0 6 [0] Z (Af Z (λh2=>?_) (λh2=>?_))
 ·refine Zc 11 Z ?_;have a2:=(H.rv 2 (·.rd)).at (AU x 0 _ Z)
  replace H:=H.f2.f2;refine AN (Sep z (blk m [Y g,I t,.slice am vs.length mc,sv] 85::grow 77 6 (.slice am vs.length mc) vs.length (Bb vs)::R)) 21 Z J (AZ H λw c=>?_);have H:=c.l5;refine AT [0,1,2,3,4,5,6,7,8,9] [0,0,0,1,2,0,0] [] (by exact H.pick 5 [0,1] Z) Z J Z (BN 10 Z J J J Z Z Z (Aj Z (z:=6) (j:=i) (r:=i*6) J Z Z Z U a2 U) (H.pick 5 [0,1] Z) (BN 11 Z J J J Z Z Z (Bp Z Z (vs:=e.cells) J (by simp[Vl.cells]) (λ_ hx=>(λk u hk=>(hx.rv 1 (·.rd)).at (AU x k u hk)))) (H.pick 5 [0,1] Z) (HD [12,13,14] [] [at_+(j:Int)] (by exact H.pick 5 [0,1] Z) Z J U Z (AC [15] J O (Am (Bo Z Z Z Z Z Z (λw=>call45 _ w) (Aah none e L t s b0.2 a0 U) H.f4 Z ?_))))));rintro _ w _ ⟨rb,f,rfl,rfl⟩ H;have a5:(BT (at_+(j:Int)) (AW o.N L)).length=64:=f;refine Av (H.pick 6 [2,3] Z) (AT [16,17,18,19,20] [] [] (by exact H.pick 6 [2,3] Z) Z J Z (a_done J (gn (Z0 14 [4] Z (AR Z (A0 4 H Z Z J CK Z Z (H.rv 0 (·.rd U U (by rw[Aef];have:=f;omega) (by rw[Aeu,AeP,Aej (by rw[Aef];have:=f;omega)]))) (by simp[u8,Value.oneCell']) U) ?_)))));rintro v1 w c;have c:Sep z (blk rb ((BT (at_+(j:Int)) (AW o.N L)).map u8) 5::trA Tb g mb n o none::blk m [Y g,I t,.slice am vs.length mc,sv] 85::grow 77 6 (.slice am vs.length mc) vs.length (Bb vs)::grow 5 1 v1 ((64*j)+64) ((rdB (AW o.N L) at_ j).map u8++(BT (at_+(j:Int)) (AW o.N L)).map u8)::Cx sv ([])::R) w:=c;have b2:((rdB (AW o.N L) at_ j).map u8++(BT (at_+(j:Int)) (AW o.N L)).map u8:List Value)=(rdB (AW o.N L) at_ (j+1)).map u8:=(Aai);rw[b2] at c;rw[show ((64*j)+64:Nat)=64*(j+1) from by omega] at c;have H:=c.l6;refine Z1 8 [] [(j:Int)+1] Z U ?_;replace H:=H.d.f4.f3.f3.f4;refine gf ?_;intro _ hF;refine ⟨⟨j+1,v1⟩,hF.cz,⟨H,?_⟩,?_⟩
  ·exact ⟨by show ((j+1:Nat):Int)<=b;omega,by show (rdB (AW o.N L) at_ (j+1)).length=64*(j+1);simp only[rdB,Aee,a4,a5];omega⟩
  (dsimp only;omega)
 refine Zc 2 Z (gx (Zc 10 Z (Zr Z ?_)));have a9:j=b.toNat:=by omega
 subst a9;rw[<-a4] at H;exact ⟨_,.inr ⟨i,e,L,⟨l,y,a3⟩,.inr ⟨hE,_,Z,Z⟩⟩,(((H.pick 5 [1,2,3,4,0] Z).toVo).pick 3 [2,0,1] Z)⟩
end
section
variable{Tb:Ai}
set_option maxHeartbeats 4000000 in
theorem WI (pv pp mb n:Nat) (o:TB) (c b7 bi bk:Nat) (nx:Int) (v1 v2:Value) (vs:List Vl) (i k:Nat) (e:Vl) (he:vs[i]?=some e) (hv:vs.length=8) {t0:TS} {R1:List Nat} (F:Ai) (f:FuncId) (us:List Value) (l:∀a w,(callFunc f a).run prog w=.ok (.enter f a) w) (a0:Int->Prop) (x:Vl->TS->List Nat->Prop) (a1:Cn prog f (.agg #[I e.id,I e.st,I e.sz,I e.q,I e.r,I e.mp]::I (k:Int)::us) [voA pv pp nx [] vs,trA Tb pp mb n o (some (t0,R1)),F] (λv Γ=>(∃(er:Int) (s:TS×List Nat),(er≠0/\a0 er)/\v=.tuple #[.agg #[I 0,I 0,I 0,I 0,I 0,I 0],I er]/\Γ=[voA pv pp nx [] vs,trA Tb pp mb n o (some s),F])\/(∃(b:Vl) (t:TS) (p:List Nat),x b t p/\v=.tuple #[.agg #[I b.id,I b.st,I b.sz,I b.q,I b.r,I b.mp],I 0]/\Γ=[voA pv pp nx [] vs,trA Tb pp mb n o (some (t,p)),F]))):Cn prog 78 [Y c,Y b7,Y bi,Y bk] [blk c [I nx,v1,v2] 83,grow 77 6 v1 vs.length (Bb vs),Cx v2 ([]),voA pv pp nx ([]) vs,trA Tb pp mb n o (some (t0,R1)),blk b7 [(.func (.func f) #[] us.toArray)] 86,blk bi [I (i:Int)] 3,blk bk [I (k:Int)] 3,F] (λv Γ=>(∃(er:Int) (s:TS×List Nat),(er≠0/\a0 er)/\v=I er/\Γ=[voA pv pp nx [] vs,trA Tb pp mb n o (some s),blk b7 [(.func (.func f) #[] us.toArray)] 86,blk bi [I (i:Int)] 3,blk bk [I (k:Int)] 3,F])\/(∃(b:Vl) (t:TS) (p:List Nat),x b t p/\v=I 0/\Γ=[blk c [I nx,v1,v2] 83,grow 77 6 v1 vs.length (Bb (vs.set i b)),Cx v2 [],voA pv pp nx [] vs,trA Tb pp mb n o (some (t,p)),blk b7 [(.func (.func f) #[] us.toArray)] 86,blk bi [I (i:Int)] 3,blk bk [I (k:Int)] 3,F])):=by
 intro z R w H;have a2:=H.sy 1 (·.slc);obtain ⟨am,mc,rfl⟩:=a2;have a4:=(Aeb.1 he).1;have d:=(H.rv 1 (·.rd)).at (AU he 0 _ Z);refine Ae func78 Z ntmps78 Z (Zc 6 Z ?_);replace H:=H.f7.f7.f3.f3.f7;refine AN (Sep z (blk b7 [(.func (.func f) #[] us.toArray)] 86::blk c [I nx,.slice am vs.length mc,v2] 83::grow 77 6 (.slice am vs.length mc) vs.length (Bb vs)::blk bi [I (i:Int)] 3::blk bk [I (k:Int)] 3::R)) 16 Z J (AZ H λw h=>?_);have H:=h.l9;refine AT [0,1,2,3,4,5] [0,0,1,1,0,3,0] [] (by exact H.pick 9 [0,1,2,3,4] Z) Z J Z (BN 6 Z J J J Z Z Z (Aj Z (z:=6) (j:=i) (r:=i*6) J Z Z Z U d U) (H.pick 9 [0,1,2,3,4] Z) (BN 7 Z J J J Z Z Z (Bp Z Z (vs:=e.cells) J (by simp[Vl.cells]) (λ_ hx=>(λk u hk=>(hx.rv 2 (·.rd)).at (AU he k u hk)))) (H.pick 9 [0,1,2,3,4] Z) (AT [8] [4,0] [] (by exact H.pick 9 [0,1,2,3,4] Z) Z J Z (AC [9,13] J O (JS ?_ ?_)))))
 ·refine Acj Z Z Z Z Z Z Z (λw=>l _ w) (a1) H.f8.f8.f8 Z ?_;rintro _ w _ (⟨er,s,⟨y,m⟩,rfl,rfl⟩|⟨b,t,p,g,rfl,rfl⟩) h
  ·have H:=h.l9;refine Av (H.pick 9 [3,4,5,6,7] Z) (AT [10,11,12] [] [] (by exact H.pick 9 [3,4,5,6,7] Z) Z J Z (AC [13] J O (Am (Ca Z Z Z Z (Cb (P:=prog) H Z (zs:=[I 0,I 0,I 0,I 0,I 0,I 0]) J) ?_))));rintro _ w ⟨b1,rfl,H⟩;refine Av (H.pick 10 [4,5,6,7,8] Z) (AC [14] J O (Am (Bi Z Z Z (Ak 0 H Z Z Z Z (vs:=[I 0,I 0,I 0,I 0,I 0,I 0]) Z (by simp[u8,u32,Value.oneCell']) J O (out:=[I 0,I 0,I 0,I 0,I 0,I 0]) Z) ?_)));rintro w H;refine Av (H.pick 10 [4,5,6,7,8] Z) (AT [15] [] [] (by exact H.pick 10 [4,5,6,7,8] Z) Z J Z (a_done J (gn (Zc 2 Z (BH 7 J J (AZ H λw h=>?_))))))
   have H:=h.l10;refine Mu 6 [1,5,0,7,0,0,6] [] H Z J (B9 Z Z Z (Aj Z (z:=6) (j:=i) (r:=i*6) J Z Z Z U d U) (CF (gw (Az Z Z (CV 6 H Z Z Z Z (vs:=[I 0,I 0,I 0,I 0,I 0,I 0]) Z (by simp[Value.oneCell']) J U (by simp only[Aeg,AeB];omega) (out:=Bb (vs.set i v0)) (EI (e2:=v0) he 0 O (by simp[Vl.cells,v0]))) ?_))));rintro w H;refine Zc 9 Z (Zr Z ?_);exact ⟨_,.inl ⟨er,s,⟨y,m⟩,Z,Z⟩,H.pick 10 [1,2,4,7,8,3] Z⟩
  have H:=h.l9;refine Av (H.pick 9 [3,4,5,6,7] Z) (AT [10,11,12] [] [] (by exact H.pick 9 [3,4,5,6,7] Z) Z J Z (AC [13] J O (Am (Ca Z Z Z Z (Cb (P:=prog) H Z (zs:=[I 0,I 0,I 0,I 0,I 0,I 0]) J) ?_))));rintro _ w ⟨b2,rfl,H⟩;refine Av (H.pick 10 [4,5,6,7,8] Z) (AC [14] J O (Am (Bi Z Z Z (Ak 0 H Z Z Z Z (vs:=[I b.id,I b.st,I b.sz,I b.q,I b.r,I b.mp]) Z (by simp[u8,u32,Value.oneCell']) J O (out:=[I b.id,I b.st,I b.sz,I b.q,I b.r,I b.mp]) Z) ?_)));rintro w H;refine Av (H.pick 10 [4,5,6,7,8] Z) (AT [15] [] [] (by exact H.pick 10 [4,5,6,7,8] Z) Z J Z (a_done J (gn (Zc 2 Z (BH 7 J J (AZ H λw h=>?_))))));have H:=h.l10;refine Mu 6 [1,5,0,7,0,0,6] [] H Z J (B9 Z Z Z (Aj Z (z:=6) (j:=i) (r:=i*6) J Z Z Z U d U) (CF (gw (Az Z Z (CV 6 H Z Z Z Z (vs:=[I b.id,I b.st,I b.sz,I b.q,I b.r,I b.mp]) Z (by simp[Value.oneCell']) J U (by simp only[Aeg,AeB];omega) (out:=Bb (vs.set i b)) (EI (e2:=b) he 0 O (by simp[Vl.cells,v0]))) ?_))));rintro w H;refine Zc 9 Z (Zr Z ?_);exact ⟨_,.inr ⟨b,t,p,g,Z,Z⟩,H.pick 10 [5,6,9,1,2,4,7,8,3] Z⟩
 refine Ca Z Z Z Z (Cb (P:=prog) H Z (zs:=[I 0,I 0,I 0,I 0,I 0,I 0]) J) ?_;rintro _ w ⟨b3,rfl,H⟩;refine Av (H.pick 10 [1,2,3,4,5] Z) (AC [9] J O (Am (Acj Z Z Z Z Z Z Z (λw=>l _ w) (a1) H.f9.f9.f9 Z ?_)));rintro _ w _ (⟨er,s,⟨y,m⟩,rfl,rfl⟩|⟨b,t,p,g,rfl,rfl⟩) h
 ·have H:=h.l10;refine Av (H.pick 10 [4,5,6,7,8] Z) (AT [10,11,12] [] [] (by exact H.pick 10 [4,5,6,7,8] Z) Z J Z (AC [14] J O (Am (Bi Z Z Z (Ak 3 H Z Z Z Z (vs:=[I 0,I 0,I 0,I 0,I 0,I 0]) Z (by simp[u8,u32,Value.oneCell']) J O (out:=[I 0,I 0,I 0,I 0,I 0,I 0]) Z) ?_))));rintro w H;refine Av (H.pick 10 [4,5,6,7,8] Z) (AT [15] [] [] (by exact H.pick 10 [4,5,6,7,8] Z) Z J Z (a_done J (gn (Zc 2 Z (BH 7 J J (AZ H λw h=>?_))))))
  have H:=h.l10;refine Mu 6 [1,5,0,7,0,3,6] [] H Z J (B9 Z Z Z (Aj Z (z:=6) (j:=i) (r:=i*6) J Z Z Z U d U) (CF (gw (Az Z Z (CV 6 H Z Z Z Z (vs:=[I 0,I 0,I 0,I 0,I 0,I 0]) Z (by simp[Value.oneCell']) J U (by simp only[Aeg,AeB];omega) (out:=Bb (vs.set i v0)) (EI (e2:=v0) he 0 O (by simp[Vl.cells,v0]))) ?_))));rintro w H;refine Zc 9 Z (Zr Z ?_);exact ⟨_,.inl ⟨er,s,⟨y,m⟩,Z,Z⟩,H.pick 10 [0,1,4,7,8,2] Z⟩
 have H:=h.l10;refine Av (H.pick 10 [4,5,6,7,8] Z) (AT [10,11,12] [] [] (by exact H.pick 10 [4,5,6,7,8] Z) Z J Z (AC [14] J O (Am (Bi Z Z Z (Ak 3 H Z Z Z Z (vs:=[I b.id,I b.st,I b.sz,I b.q,I b.r,I b.mp]) Z (by simp[u8,u32,Value.oneCell']) J O (out:=[I b.id,I b.st,I b.sz,I b.q,I b.r,I b.mp]) Z) ?_))));rintro w H;refine Av (H.pick 10 [4,5,6,7,8] Z) (AT [15] [] [] (by exact H.pick 10 [4,5,6,7,8] Z) Z J Z (a_done J (gn (Zc 2 Z (BH 7 J J (AZ H λw h=>?_))))));have H:=h.l10;refine Mu 6 [1,5,0,7,0,3,6] [] H Z J (B9 Z Z Z (Aj Z (z:=6) (j:=i) (r:=i*6) J Z Z Z U d U) (CF (gw (Az Z Z (CV 6 H Z Z Z Z (vs:=[I b.id,I b.st,I b.sz,I b.q,I b.r,I b.mp]) Z (by simp[Value.oneCell']) J U (by simp only[Aeg,AeB];omega) (out:=Bb (vs.set i b)) (EI (e2:=b) he 0 O (by simp[Vl.cells,v0]))) ?_))));rintro w H;refine Zc 9 Z (Zr Z ?_);exact ⟨_,.inr ⟨b,t,p,g,Z,Z⟩,H.pick 10 [5,6,9,0,1,4,7,8,2] Z⟩
end
section
variable{Tb:Ai}
theorem WJ(u pp mb n:Nat)(nx:Int)(vs:List Vl)(o:TB)(hv:vs.length=8)(a2:0<=nx/\nx<=1073741824)(hf:∀e∈vs,e.Fit)(i k:Nat)(e:Vl)(he:vs[i]?=some e)(F:Ai)(f:FuncId)(us:List Value)(x:∀a w,(callFunc f a).run prog w=.ok (.enter f a) w)(l:Int->Prop)(d:Vl->TS->List Nat->Prop)
  (a1:Cn prog f (.agg #[I e.id,I e.st,I e.sz,I e.q,I e.r,I e.mp]::I (k:Int)::us) [voA u pp nx [] vs,trA Tb pp mb n o (some (⟨o.N,o.C,AV n o.C,0⟩,o.R)),F] (λv Γ=>(∃(er:Int) (s:TS×List Nat),(er≠0/\l er)/\v=.tuple #[.agg #[I 0,I 0,I 0,I 0,I 0,I 0],I er]/\Γ=[voA u pp nx [] vs,trA Tb pp mb n o (some s),F])\/(∃(b:Vl) (t:TS) (p:List Nat),d b t p/\v=.tuple #[.agg #[I b.id,I b.st,I b.sz,I b.q,I b.r,I b.mp],I 0]/\Γ=[voA u pp nx [] vs,trA Tb pp mb n o (some (t,p)),F])))(hG:∀b t p,d b t p->b.Fit/\t.k+1+manyN n<=40)(a0:mb<=1000000000):
  Cn prog 71 [Y u,.func (.func 78) #[] #[Y m,Y j,Y g]] [voA u pp nx [] vs,trA Tb pp mb n o none,blk m [(.func (.func f) #[] us.toArray)] 86,blk j [I (i:Int)] 3,blk g [I (k:Int)] 3,F] (λv Γ=>(∃er:Int,(er≠0/\l er)/\v=I er/\Γ=[voA u pp nx [] vs,trA Tb pp mb n o none,blk m [(.func (.func f) #[] us.toArray)] 86,blk j [I (i:Int)] 3,blk g [I (k:Int)] 3,F])\/(∃(b:Vl) (t:TS) (p:List Nat),d b t p/\v=I 0/\Γ=[voA u pp nx [] (vs.set i b),trA Tb pp (mb+2) n ⟨t.N,t.C,p⟩ none,blk m [(.func (.func f) #[] us.toArray)] 86,blk j [I (i:Int)] 3,blk g [I (k:Int)] 3,F])):=by
 intro z R w H;have H2:=((H.pick 6 [2,3,4,5,0,1] Z).made 4 (A:=seps [blk m [(.func (.func f) #[] us.toArray)] 86,blk j [I (i:Int)] 3,blk g [I (k:Int)] 3,F]) (λh q=>q)).pick 3 [1,2,0] Z;refine Ret.mono (change_c u pp mb n nx vs o hv _ _ [Y m,Y j,Y g] (λa w=>call78 a w) (λer E2=>l er/\E2=seps [blk m [(.func (.func f) #[] us.toArray)] 86,blk j [I (i:Int)] 3,blk g [I (k:Int)] 3,F]) (λnx2 y t R0 E2=>∃b,nx2=nx/\y=vs.set i b/\d b t R0/\E2=seps [blk m [(.func (.func f) #[] us.toArray)] 86,blk j [I (i:Int)] 3,blk g [I (k:Int)] 3,F]) (λc v1 v2 z R w H=>?_) ?_ a0 z R w H2) ?_
 ·have H3:=(H.pick 6 [5,0,1,2,3,4] Z).opened
  refine Ret.mono (Cn.at (WI u pp mb n o c m j g nx v1 v2 vs i k e he hv F f us x l d a1) H3 9 [4,5,6,7,8,0,1,2,3] Z Z) ?_;rintro v w' ⟨Γ',(⟨er,s,⟨h1,h2⟩,rfl,rfl⟩|⟨b,t,p,hg,rfl,rfl⟩),H'⟩
  ·exact ⟨_,.inl ⟨er,_,s,⟨h1,h2,Z⟩,Z,Z⟩,((H'.pick 6 [2,3,4,5,0,1] Z).made 4 (λh q=>q)).pick 3 [1,2,0] Z⟩
  exact ⟨_,.inr ⟨nx,vs.set i b,t,p,_,⟨b,Z,Z,hg,Z⟩,Z,Z⟩,by rw[AeU];exact ((H'.pick 9 [5,6,7,8,0,1,2,3,4] Z).made 4 (λh q=>q)).pick 6 [1,2,3,4,5,0] Z⟩
 ·rintro _ _ t R0 _ ⟨b,rfl,rfl,hg,rfl⟩
  obtain ⟨g1,g2⟩:=hG _ _ _ hg;exact ⟨by simp[hv],a2,Gy hf g1,g2⟩
 rintro v w' ⟨Γ',(⟨er,E2,⟨h1,h2,rfl⟩,rfl,rfl⟩|⟨nx2,y,t,R0,E2,⟨b,rfl,rfl,hg,rfl⟩,rfl,rfl⟩),H'⟩
 ·exact ⟨_,.inl ⟨er,⟨h1,h2⟩,Z,Z⟩,((H'.pick 3 [2,0,1] Z).opened).pick 6 [4,5,0,1,2,3] Z⟩
 exact ⟨_,.inr ⟨b,t,R0,hg,Z,Z⟩,((H'.pick 3 [2,0,1] Z).opened).pick 6 [4,5,0,1,2,3] Z⟩
set_option maxHeartbeats 4000000 in
theorem Q3 (g pp mb n:Nat) (nx:Int) (vs:List Vl) (o:TB) (e:Vl) (L:List E) (i:Nat) (hi:i<vs.length) (hv:vs.length=8) (a3:0<=nx/\nx<=1073741824) (b:Int) (a8:0<=b/\b<=8) (a5:mb+16<=1000000000) (F:Ai) (f:FuncId) (l:∀a w,(callFunc f a).run prog w=.ok (.enter f a) w) (J_:Nat->TB->Vl->List E->Prop) (Er:Nat->TB->Vl->List E->Int->Prop) (hJ:J_ 0 o e L) (a1:∀k o2 e2 L2,J_ k o2 e2 L2->∀x∈vs.set i e2,x.Fit) (y:∀(k:Nat) (o2:TB) (e2:Vl) (L2:List E) (m2:Nat),(k:Int)<b->J_ k o2 e2 L2->Cn prog f (.agg #[I e2.id,I e2.st,I e2.sz,I e2.q,I e2.r,I e2.mp]::I (k:Int)::V) [voA g pp nx [] (vs.set i e2),trA Tb pp m2 n o2 (some (⟨o2.N,o2.C,AV n o2.C,0⟩,o2.R)),F] (λv Γ=>(∃(er:Int) (s:TS×List Nat),(er≠0/\Er k o2 e2 L2 er)/\v=.tuple #[.agg #[I 0,I 0,I 0,I 0,I 0,I 0],I er]/\Γ=[voA g pp nx [] (vs.set i e2),trA Tb pp m2 n o2 (some s),F])\/(∃(c:Vl) (t:TS) (m:List Nat),((∃L3,J_ (k+1) ⟨t.N,t.C,m⟩ c L3)/\c.Fit/\t.k+1+manyN n<=40)/\v=.tuple #[.agg #[I c.id,I c.st,I c.sz,I c.q,I c.r,I c.mp],I 0]/\Γ=[voA g pp nx [] (vs.set i e2),trA Tb pp m2 n o2 (some (t,m)),F]))):Cn prog 40 [Y g,I (i:Int),I b,(.func (.func f) #[] V.toArray)] [voA g pp nx ([]) (vs.set i e),trA Tb pp mb n o none,F] (λv Γ=>(∃(k:Nat) (o2:TB) (e2:Vl) (L2:List E) (er:Int),((k:Int)<b/\J_ k o2 e2 L2/\er≠0/\Er k o2 e2 L2 er)/\v=.tuple #[I (k:Int),I er]/\Γ=[voA g pp nx [] (vs.set i e2),trA Tb pp (mb+2*k) n o2 none,F])\/(∃(k:Nat) (o2:TB) (e2:Vl) (L2:List E),((k:Int)=b/\J_ k o2 e2 L2)/\v=.tuple #[I b,I 0]/\Γ=[voA g pp nx [] (vs.set i e2),trA Tb pp (mb+2*k) n o2 none,F])):=by
 intro z R w H;refine Ae func40 Z ntmps40 Z (Za 2 [] H Z ?_);intro b1 w H;refine Za 0 [] H Z ?_;intro u w H;refine Zc 12 Z ?_;refine AB (σ:=Nat×TB×Vl×List E) (λ⟨k,o2,e2,L2⟩=>[(13,I (k:Int)),(0,Y g),(2,I b),(5,Y b1),(7,Y u),(12,I b)])
   (λ⟨k,o2,e2,L2⟩ w=>Sep z (blk u [(.func (.func f) #[] V.toArray)] 86::blk b1 [I (i:Int)] 3::voA g pp nx ([]) (vs.set i e2)::trA Tb pp (mb+2*k) n o2 none::F::R) w/\((k:Int)<=b/\J_ k o2 e2 L2)) (λ⟨k,o2,e2,L2⟩=>b.toNat-k) ⟨0,o,e,L⟩
   fr_z ⟨H,⟨by show ((0:Nat):Int)<=b;omega,hJ⟩⟩ ?_
 clear H;rintro ⟨k,o2,e2,L2⟩ w ⟨j,hI⟩;dsimp only at hI j ⊢;have H:=j.l5;obtain ⟨a4,h⟩:=hI;refine Z0 6 [0] Z (Af Z (λh1=>?_) (λh1=>?_))
 ·refine Za 7 [] H Z ?_;intro b3 w H;refine Z4 6 [0] H Z ?_;intro w H;refine Ab Z (C5 Z Z Z) (Aq Z (call71 _) (WJ g pp (mb+2*k) n nx (vs.set i e2) o2 (by simp[hv]) a3 (a1 _ _ _ _ h) i k e2 (Aff hi) F f V l (Er k o2 e2 L2) (λc t m=>(∃L3,J_ (k+1) ⟨t.N,t.C,m⟩ c L3)/\c.Fit/\t.k+1+manyN n<=40) (y k o2 e2 L2 _ U h) (λ_ _ _ q=>q.2) U) H.f5.f1.f3.f3.f5.f5 ?_);rintro _ w _ (⟨er,⟨a2,p⟩,rfl,rfl⟩|⟨c,t,m,⟨⟨L3,a0⟩,a7,a6⟩,rfl,rfl⟩) j
  ·have H:=j.l6;refine Z0 9 [0] Z (Af Z (λh2=>?_) (λh2=>?_))
   ·refine Z2 9 [4,0] H Z (Zr Z ?_);exact ⟨_,.inl ⟨k,o2,e2,L2,er,⟨by omega,h,a2,p⟩,Z,Z⟩,H.pick 6 [0,1,5] Z⟩
   (exfalso;omega)
  rw[AgE] at j;have H:Sep z (voA g pp nx ([]) (vs.set i c)::trA Tb pp (mb+2*(k+1)) n ⟨t.N,t.C,m⟩ none::blk u [(.func (.func f) #[] V.toArray)] 86::blk b1 [I (i:Int)] 3::blk b3 [I (k:Int)] 3::F::R) w:=j;clear j;refine Z1 17 [4] [(k:Int)+1] Z U ?_;replace H:=H.f4.d.f4.f2.f2.f4.f4;refine gf ?_;intro _ hF;refine ⟨⟨k+1,⟨t.N,t.C,m⟩,c,L3⟩,hF.cz,⟨H,?_⟩,?_⟩
  ·exact ⟨by show ((k+1:Nat):Int)<=b;omega,a0⟩
  (dsimp only;omega)
 refine Zc 2 Z (gx (Zc 10 Z (Zr Z ?_)));exact ⟨_,.inr ⟨k,o2,e2,L2,⟨by omega,h⟩,Z,Z⟩,H.pick 5 [2,3,4] Z⟩
end
section
variable{Tb:Ai}
theorem WK{o:TB}(e:Vl)(L:List E)(Q:List Nat)(D:Ai)(bs:List UInt8)(nx:Int)(g:LwI n o e.r.toNat L Q)(a:PlOk o.N nx (e,L))(l:nx<=1073741824)(x:L.length<=1024)(p:0<=t/\t<e.sz)(s:bs.length=64)(k:∀h,D h->rdH 1 u bs.length (bs.map u8) h):
  Cn prog 42 [Y m,.agg #[I e.id,I e.st,I e.sz,I e.q,I e.r,I e.mp],I t,u] [trA Tb m i n o (some (⟨o.N,o.C,AV n o.C,0⟩,o.R)),D] (λv Γ=>((getE t L=0/\e.q<=e.mp)/\v=.tuple #[.agg #[I 0,I 0,I 0,I 0,I 0,I 0],I 30]/\Γ=[trA Tb m i n o (some (⟨o.N,o.C,AV n o.C,0⟩,o.R)),D])\/((¬(getE t L=0/\e.q<=e.mp)/\cnt (AV n o.C) 0 1024<=11)/\∃b,v=.tuple #[.agg #[I 0,I 0,I 0,I 0,I 0,I 0],I 20]/\Γ=[trA Tb m i n o (some b),D])\/(¬(getE t L=0/\e.q<=e.mp)/\∃(t3:TS) (r val:Nat),WrF n o t3 e.r.toNat r Q t val bs L/\v=.tuple #[.agg #[I e.id,I e.st,I e.sz,I e.q,I (r:Int),I (if getE t L=0 then e.mp+1 else e.mp)],I 0]/\Γ=[trA Tb m i n o (some (t3,A8 r++Q)),D])):=by
 have j:=Wy (Tb:=Tb) m i n o e.id e.st e.sz e.q e.mp t e.r.toNat L Q D u bs g (a.vok l x) k;rw[Sc a.r.1,<-g.r] at j;intro z R w H;refine Ret.mono (j z R w H) ?_;rintro v y ⟨Γ',(⟨q,_⟩|⟨_,q,_⟩|⟨_,q,rfl,rfl⟩|⟨⟨_,_,f⟩,d,b,rfl,rfl⟩|⟨⟨_,_,f⟩,t3,r,val,d,rfl,rfl⟩),c⟩
 ·exact absurd p q
 ·exact absurd s q
 ·exact ⟨_,.inl ⟨q,Z,Z⟩,c⟩
 ·exact ⟨_,.inr (.inl ⟨⟨f,d⟩,b,Z,Z⟩),c⟩
 exact ⟨_,.inr (.inr ⟨f,t3,r,val,d,Z,Z⟩),c⟩
theorem WL{o:TB}(e:Vl)(L:List E)(Q:List Nat)(nx:Int)(d:LwI n o e.r.toNat L Q)(a:PlOk o.N nx (e,L))(g:nx<=1073741824)(k:L.length<=1024)(h:0<=t/\t<e.sz):
  Cn prog 44 [Y m,.agg #[I e.id,I e.st,I e.sz,I e.q,I e.r,I e.mp],I t] [trA Tb m i n o (some (⟨o.N,o.C,AV n o.C,0⟩,o.R))] (λv Γ=>(¬CE t L/\v=.tuple #[.agg #[I e.id,I e.st,I e.sz,I e.q,I e.r,I e.mp],I 0]/\Γ=[trA Tb m i n o (some (⟨o.N,o.C,AV n o.C,0⟩,o.R))])\/(cnt (AV n o.C) 0 1024<=12/\∃b,v=.tuple #[.agg #[I 0,I 0,I 0,I 0,I 0,I 0],I 20]/\Γ=[trA Tb m i n o (some b)])\/(CE t L/\∃(t3:TS) (r:Nat),UnF n o t3 r Q t L/\v=.tuple #[.agg #[I e.id,I e.st,I e.sz,I e.q,I (r:Int),I (e.mp-1)],I 0]/\Γ=[trA Tb m i n o (some (t3,A8 r++Q))])):=by
 have f:=Wz (Tb:=Tb) m i n o e.id e.st e.sz e.q e.mp t e.r.toNat L Q d (a.vok g k);rw[Sc a.r.1,<-d.r] at f;intro z R w H;refine Ret.mono (f z R w H) ?_;rintro v l ⟨Γ',(⟨q,_⟩|⟨⟨_,q⟩,rfl,rfl⟩|⟨⟨_,q⟩,b,rfl,rfl⟩|⟨⟨_,q⟩,t3,r,j,rfl,rfl⟩),c⟩
 ·exact absurd h q
 ·exact ⟨_,.inl ⟨q,Z,Z⟩,c⟩
 ·exact ⟨_,.inr (.inl ⟨q,b,Z,Z⟩),c⟩
 exact ⟨_,.inr (.inr ⟨q,t3,r,j,Z,Z⟩),c⟩
set_option maxHeartbeats 4000000 in
theorem Ud (a pp mb n:Nat) (nx:Int) (vs:List Vl) (o:TB) (e:Vl) (L:List E) (Q:List Nat) (at_:Int) (k:Nat) (hI:LwI n o e.r.toNat L Q) (g:PlOk o.N nx (e,L)) (m:nx<=1073741824) (hl:L.length<=1024) (hk:0<=at_+(k:Int)/\at_+(k:Int)<e.sz) (f d c b:Nat) (bs:List UInt8) (u:(k+1)*64<=bs.length) (a0:bs.length<=1073741824):Cn prog 41 [.agg #[I e.id,I e.st,I e.sz,I e.q,I e.r,I e.mp],I (k:Int),Y f,Y d,Y c] [voA a pp nx ([]) vs,trA Tb pp mb n o (some (⟨o.N,o.C,AV n o.C,0⟩,o.R)),blk f [Y a] 33,blk d [I at_] 3,blk c [.slice (some ⟨b,0,none⟩) bs.length bs.length] 46,blk b (bs.map u8) 5] (λv Γ=>((getE (at_+(k:Int)) L=0/\e.q<=e.mp)/\v=.tuple #[.agg #[I 0,I 0,I 0,I 0,I 0,I 0],I 30]/\Γ=[voA a pp nx [] vs,trA Tb pp mb n o (some (⟨o.N,o.C,AV n o.C,0⟩,o.R)),blk f [Y a] 33,blk d [I at_] 3,blk c [.slice (some ⟨b,0,none⟩) bs.length bs.length] 46,blk b (bs.map u8) 5])\/((¬(getE (at_+(k:Int)) L=0/\e.q<=e.mp)/\cnt (AV n o.C) 0 1024<=11)/\∃l,v=.tuple #[.agg #[I 0,I 0,I 0,I 0,I 0,I 0],I 20]/\Γ=[voA a pp nx [] vs,trA Tb pp mb n o (some l),blk f [Y a] 33,blk d [I at_] 3,blk c [.slice (some ⟨b,0,none⟩) bs.length bs.length] 46,blk b (bs.map u8) 5])\/(¬(getE (at_+(k:Int)) L=0/\e.q<=e.mp)/\∃(t3:TS) (r val:Nat),WrF n o t3 e.r.toNat r Q (at_+(k:Int)) val ((bs.drop (k*64)).take 64) L/\v=.tuple #[.agg #[I e.id,I e.st,I e.sz,I e.q,I (r:Int),I (if getE (at_+(k:Int)) L=0 then e.mp+1 else e.mp)],I 0]/\Γ=[voA a pp nx [] vs,trA Tb pp mb n o (some (t3,A8 r++Q)),blk f [Y a] 33,blk d [I at_] 3,blk c [.slice (some ⟨b,0,none⟩) bs.length bs.length] 46,blk b (bs.map u8) 5])):=by
 intro z R w H;replace H:=H.l6;obtain ⟨t,sv,H⟩:=H.vo;replace H:=H.l8;have s:1<=e.sz/\e.sz<=1048576:=g.sz;have j:((bs.drop (k*64)).take 64).length=64:=by rw[Aex,AeM];omega
 refine Ae func41 Z ntmps41 Z (Za 2 [] H Z ?_);intro y w H;refine Za 0 [] H Z ?_;intro b2 w H;refine Zc 4 Z ?_;replace H:=H.f8.f8.f3.f4.f8;refine AN (Sep z (blk f [Y a] 33::blk a [Y pp,I nx,t,sv] 85::blk y [I e.id,I e.st,I e.sz,I e.q,I e.r,I e.mp] 77::blk d [I at_] 3::blk c [.slice (some ⟨b,0,none⟩) bs.length bs.length] 46::R)) 20 Z J (AZ H λw i=>?_);have H:=i.l10;refine HD [0,1,2,3,4,5,6,7,8,9,10,11,12,13] [0,0,0,1,0,2,6,3,0,4,0] [at_+(k:Int),((k*64:Nat):Int),((k+1:Nat):Int),(((k+1)*64:Nat):Int)] (by exact H.pick 10 [0,1,2,3,4] Z) Z J U Z (BN 14 Z J J J Z Z Z (BL Z (z:=1) (p:=(k*64)) (q:=((k+1)*64)) (o':=k*64) (l':=64) (c':=bs.length-k*64) J Z (.inr ⟨_,_,_,Z,Z,Z⟩) (.inr ⟨_,_,_,Z,Z,Z⟩) U U U U U U) (H.pick 10 [0,1,2,3,4] Z) (AC [15] J O (Am (Bo Z Z Z Z Z Z (λw=>call42 _ w) (WK e L Q (blk b (bs.map u8) 5) ((bs.drop (k*64)).take 64) nx hI g m hl hk j (λh q=>by rw[j];exact q.rd U U (by rw[Aef];omega) (by rw[AeP,<-AfU,<-Afp]))) H.f9.f9 Z ?_))));rintro _ w _ (⟨hq,rfl,rfl⟩|⟨hq,l,rfl,rfl⟩|⟨hq,t3,r,val,hW,rfl,rfl⟩) i
 ·have H:=i.l10;refine Av (H.pick 10 [2,3,4,5,6] Z) (AT [16,17] [] [] (by exact H.pick 10 [2,3,4,5,6] Z) Z J Z (AC [18] J O (Am (Bi Z Z Z (Ak 7 H Z Z Z Z (vs:=[I 0,I 0,I 0,I 0,I 0,I 0]) Z (by simp[u8,u32,Value.oneCell']) J O (out:=[I 0,I 0,I 0,I 0,I 0,I 0]) Z) ?_))));rintro w H;replace H:=H.l10;refine Av (H.pick 10 [2,3,4,5,6] Z) (AT [19] [] [] (by exact H.pick 10 [2,3,4,5,6] Z) Z J Z (a_done J (gn (Zc 2 Z (Zl [7,6] H Z ?_)))));exact ⟨_,.inl ⟨hq,Z,Z⟩,(H.pick 10 [3,8,9,0,2,5,6,1] Z).toVo⟩
 ·have H:=i.l10;refine Av (H.pick 10 [2,3,4,5,6] Z) (AT [16,17] [] [] (by exact H.pick 10 [2,3,4,5,6] Z) Z J Z (AC [18] J O (Am (Bi Z Z Z (Ak 7 H Z Z Z Z (vs:=[I 0,I 0,I 0,I 0,I 0,I 0]) Z (by simp[u8,u32,Value.oneCell']) J O (out:=[I 0,I 0,I 0,I 0,I 0,I 0]) Z) ?_))));rintro w H;replace H:=H.l10;refine Av (H.pick 10 [2,3,4,5,6] Z) (AT [19] [] [] (by exact H.pick 10 [2,3,4,5,6] Z) Z J Z (a_done J (gn (Zc 2 Z (Zl [7,6] H Z ?_)))));exact ⟨_,.inr (.inl ⟨hq,l,Z,Z⟩),(H.pick 10 [3,8,9,0,2,5,6,1] Z).toVo⟩
 have H:=i.l10;refine Av (H.pick 10 [2,3,4,5,6] Z) (AT [16,17] [] [] (by exact H.pick 10 [2,3,4,5,6] Z) Z J Z (AC [18] J O (Am (Bi Z Z Z (Ak 7 H Z Z Z Z (vs:=[I e.id,I e.st,I e.sz,I e.q,I (r:Int),I (if getE (at_+(k:Int)) L=0 then e.mp+1 else e.mp)]) Z (by simp[u8,u32,Value.oneCell']) J O (out:=[I e.id,I e.st,I e.sz,I e.q,I (r:Int),I (if getE (at_+(k:Int)) L=0 then e.mp+1 else e.mp)]) Z) ?_))));rintro w H;replace H:=H.l10;refine Av (H.pick 10 [2,3,4,5,6] Z) (AT [19] [] [] (by exact H.pick 10 [2,3,4,5,6] Z) Z J Z (a_done J (gn (Zc 2 Z (Zl [7,6] H Z ?_)))));exact ⟨_,.inr (.inr ⟨hq,t3,r,val,hW,Z,Z⟩),(H.pick 10 [3,8,9,0,2,5,6,1] Z).toVo⟩
set_option maxHeartbeats 4000000 in
theorem Ue (a pp mb n:Nat) (nx:Int) (vs:List Vl) (o:TB) (e:Vl) (L:List E) (Q:List Nat) (at_:Int) (k:Nat) (p:LwI n o e.r.toNat L Q) (d:PlOk o.N nx (e,L)) (h:nx<=1073741824) (y:L.length<=1024) (u:0<=at_+(k:Int)/\at_+(k:Int)<e.sz) (c b:Nat):Cn prog 43 [.agg #[I e.id,I e.st,I e.sz,I e.q,I e.r,I e.mp],I (k:Int),Y c,Y b] [voA a pp nx ([]) vs,trA Tb pp mb n o (some (⟨o.N,o.C,AV n o.C,0⟩,o.R)),blk c [Y a] 33,blk b [I at_] 3] (λv Γ=>(¬CE (at_+(k:Int)) L/\v=.tuple #[.agg #[I e.id,I e.st,I e.sz,I e.q,I e.r,I e.mp],I 0]/\Γ=[voA a pp nx [] vs,trA Tb pp mb n o (some (⟨o.N,o.C,AV n o.C,0⟩,o.R)),blk c [Y a] 33,blk b [I at_] 3])\/(cnt (AV n o.C) 0 1024<=12/\∃g,v=.tuple #[.agg #[I 0,I 0,I 0,I 0,I 0,I 0],I 20]/\Γ=[voA a pp nx [] vs,trA Tb pp mb n o (some g),blk c [Y a] 33,blk b [I at_] 3])\/(CE (at_+(k:Int)) L/\∃(t3:TS) (r:Nat),UnF n o t3 r Q (at_+(k:Int)) L/\v=.tuple #[.agg #[I e.id,I e.st,I e.sz,I e.q,I (r:Int),I (e.mp-1)],I 0]/\Γ=[voA a pp nx [] vs,trA Tb pp mb n o (some (t3,A8 r++Q)),blk c [Y a] 33,blk b [I at_] 3])):=by
 intro z R w H;replace H:=H.l4;obtain ⟨j,s,H⟩:=H.vo;replace H:=H.l6;have i:1<=e.sz/\e.sz<=1048576:=d.sz;refine Ae func43 Z ntmps43 Z (Za 2 [] H Z ?_);intro m w H;refine Za 0 [] H Z ?_;intro b2 w H;refine Zc 4 Z ?_;replace H:=H.f7.f2.f3.f7;refine AN (Sep z (blk c [Y a] 33::blk a [Y pp,I nx,j,s] 85::blk m [I e.id,I e.st,I e.sz,I e.q,I e.r,I e.mp] 77::blk b [I at_] 3::R)) 13 Z J (AZ H λw f=>?_);have H:=f.l8;refine HD [0,1,2,3,4,5,6,7] [0,0,0,1,0,2,6,3,0] [at_+(k:Int)] (by exact H.pick 8 [0,1,2,3] Z) Z J U Z (AC [8] J O (Am (Bo Z Z Z Z Z Z (λw=>call44 _ w) (WL e L Q nx p d h y u) H.f7 Z ?_)));rintro _ w _ (⟨hq,rfl,rfl⟩|⟨hq,g,rfl,rfl⟩|⟨hq,t3,r,t,rfl,rfl⟩) f
 ·have H:=f.l8;refine Av (H.pick 8 [1,2,3,4] Z) (AT [9,10] [] [] (by exact H.pick 8 [1,2,3,4] Z) Z J Z (AC [11] J O (Am (Bi Z Z Z (Ak 5 H Z Z Z Z (vs:=[I e.id,I e.st,I e.sz,I e.q,I e.r,I e.mp]) Z (by simp[u8,u32,Value.oneCell']) J O (out:=[I e.id,I e.st,I e.sz,I e.q,I e.r,I e.mp]) Z) ?_))));rintro w H;replace H:=H.l8;refine Av (H.pick 8 [1,2,3,4] Z) (AT [12] [] [] (by exact H.pick 8 [1,2,3,4] Z) Z J Z (a_done J (gn (Zc 2 Z (Zl [5,6] H Z ?_)))));exact ⟨_,.inl ⟨hq,Z,Z⟩,(H.pick 8 [2,6,7,0,1,4] Z).toVo⟩
 ·have H:=f.l8;refine Av (H.pick 8 [1,2,3,4] Z) (AT [9,10] [] [] (by exact H.pick 8 [1,2,3,4] Z) Z J Z (AC [11] J O (Am (Bi Z Z Z (Ak 5 H Z Z Z Z (vs:=[I 0,I 0,I 0,I 0,I 0,I 0]) Z (by simp[u8,u32,Value.oneCell']) J O (out:=[I 0,I 0,I 0,I 0,I 0,I 0]) Z) ?_))));rintro w H;replace H:=H.l8;refine Av (H.pick 8 [1,2,3,4] Z) (AT [12] [] [] (by exact H.pick 8 [1,2,3,4] Z) Z J Z (a_done J (gn (Zc 2 Z (Zl [5,6] H Z ?_)))));exact ⟨_,.inr (.inl ⟨hq,g,Z,Z⟩),(H.pick 8 [2,6,7,0,1,4] Z).toVo⟩
 have H:=f.l8;refine Av (H.pick 8 [1,2,3,4] Z) (AT [9,10] [] [] (by exact H.pick 8 [1,2,3,4] Z) Z J Z (AC [11] J O (Am (Bi Z Z Z (Ak 5 H Z Z Z Z (vs:=[I e.id,I e.st,I e.sz,I e.q,I (r:Int),I (e.mp-1)]) Z (by simp[u8,u32,Value.oneCell']) J O (out:=[I e.id,I e.st,I e.sz,I e.q,I (r:Int),I (e.mp-1)]) Z) ?_))));rintro w H;replace H:=H.l8;refine Av (H.pick 8 [1,2,3,4] Z) (AT [12] [] [] (by exact H.pick 8 [1,2,3,4] Z) Z J Z (a_done J (gn (Zc 2 Z (Zl [5,6] H Z ?_)))));exact ⟨_,.inr (.inr ⟨hq,t3,r,t,Z,Z⟩),(H.pick 8 [2,6,7,0,1,4] Z).toVo⟩
end
section
variable{Tb:Ai}
def KV(N N2:Hm)(Q:List Nat):Prop:=∀c∈Q,∀M,Root N c M->Root N2 c M/\AW N2 M=AW N M
theorem KV.refl(N:Hm)(Q:List Nat):KV N N Q:=λ_ _ _ h=>⟨h,Z⟩
theorem KV.trans{N N2 e:Hm}{Q:List Nat}(a:KV N N2 Q)(b:KV N2 e Q):KV N e Q:=λc d M h=>by
 obtain ⟨f,g⟩:=a c d M h;obtain ⟨i,j⟩:=b c d M f;exact ⟨i,j.trans g⟩
theorem KV.of{N N2:Hm}{Q:List Nat}(a:Kp N N2 Q)(b:Dt N N2):KV N N2 Q:=λc d M h=>⟨a c d M h,b.vol h (a c d M h)⟩
theorem KV.kp{N N2:Hm}{Q:List Nat}(a:KV N N2 Q):Kp N N2 Q:=λc b M h=>(a c b M h).1
theorem PlOk.fit{N:Hm}{nx:Int}{p:Pl}(h:PlOk N nx p)(a:nx<=1073741824)(i:p.2.length<=1048576):p.1.Fit:=by
 obtain ⟨c,e,b,g,f,_,_,d,_⟩:=h;exact ⟨by omega,by omega,by omega,by omega,by omega,by omega⟩
structure EaJ(n:Nat)(o:TB)(nx:Int)(e:Vl)(Q:List Nat)(k:Nat)(o2:TB)(e2:Vl)(L2:List E):Prop where
 lw:LwI n o2 e2.r.toNat L2 Q
 ok:PlOk o2.N nx (e2,L2)
 len:L2.length<=1024
 kv:KV o.N o2.N Q
 fld:e2.id=e.id/\e2.st=e.st/\e2.sz=e.sz/\e2.q=e.q
 fr:cnt (AV n o.C) 0 1024<=cnt (AV n o2.C) 0 1024+12*k
variable{n:Nat}{o o2:TB}{nx:Int}{e e2:Vl}{Q:List Nat}{k:Nat}{L L2:List E}
theorem EaJ.zero(h:LwI n o e.r.toNat L Q)(a:PlOk o.N nx (e,L))(b:L.length<=1024):EaJ n o nx e Q 0 o e L:=⟨h,a,b,KV.refl _ _,⟨Z,Z,Z,Z⟩,by omega⟩
theorem EaJ.pos(h:EaJ n o nx e Q k o2 e2 L2)(K:TrK n o2 none):∀x∈L2,1<=x.2:=λx a=>(GV K.i U (show ∀e∈L2,∃b,Dk o2 none e.2=some (.dt b) from h.ok.root.data) x a).1
theorem EaJ.wr(h:EaJ n o nx e Q k o2 e2 L2)(K:TrK n o2 none){t3:TS}{val:Nat}{bs:List UInt8}(w:WrF n o2 t3 e2.r.toNat r Q t val bs L2)(c:0<=t/\t<e2.sz)(i:r<=1023)(d:(putE t val L2).length<=1024):
  EaJ n o nx e Q (k+1) ⟨t3.N,t3.C,A8 r++Q⟩ {e2 with r:=(r:Int),mp:=if getE t L2=0 then e2.mp+1 else e2.mp} (putE t val L2):=by
 have hs:=h.ok.root.srt.1;have a:=h.ok.mp;have hp:=PH hs (h.pos K) t val;refine ⟨h.lw.done w.root w.nd Z,⟨h.ok.id,h.ok.st,h.ok.sz,h.ok.q,⟨by show (0:Int)<=(r:Int);omega,by show (r:Int)<=1023;omega⟩,w.root,w.nd,?_,λx b=>?_⟩,d,h.kv.trans (KV.of w.kp w.dt),h.fld,?_⟩
 ·show (if getE t L2=0 then e2.mp+1 else e2.mp)=_
  dsimp only at a ⊢;rw[hp,a]
 ·rcases (putE_mem hs x).1 b with q|q
  ·rw[q];exact c.2
  exact h.ok.key x q.1
 have:=h.fr;have:=w.f;have:=w.g;dsimp only;omega
theorem EaJ.un(h:EaJ n o nx e Q k o2 e2 L2){t3:TS}(w:UnF n o2 t3 r Q t L2)(b:CE t L2)(d:r<=1023):
  EaJ n o nx e Q (k+1) ⟨t3.N,t3.C,A8 r++Q⟩ {e2 with r:=(r:Int),mp:=e2.mp-1} (BW t L2):=by
 have hs:=h.ok.root.srt.1;have a:=h.ok.mp;have hp:=PI hs b;refine ⟨h.lw.done w.root w.nd Z,⟨h.ok.id,h.ok.st,h.ok.sz,h.ok.q,⟨by show (0:Int)<=(r:Int);omega,by show (r:Int)<=1023;omega⟩,w.root,w.nd,?_,λx c=>h.ok.key x (Afb.1 c).1⟩,Agr (AfT _ _) h.len,h.kv.trans (KV.of w.kp w.dt),h.fld,?_⟩
 ·show e2.mp-1=_
  dsimp only at a ⊢;rw[<-hp,a]
 have:=h.fr;have:=w.f;have:=w.g;dsimp only;omega
theorem EaJ.no(h:EaJ n o nx e Q k o2 e2 L2):EaJ n o nx e Q (k+1) o2 e2 L2:=⟨h.lw,h.ok,h.len,h.kv,h.fld,by have:=h.fr;omega⟩
def DM(bs:List UInt8)(k:Nat):List UInt8:=(bs.drop (k*64)).take 64
def Ez(at_ q:Int)(k:Nat)(V:List Bk):Prop:=¬GW (at_+(k:Int)) V/\q<=(V.length:Int)
def WTr(at_ q:Int)(bs:List UInt8)(V0:List Bk)(k:Nat)(V:List Bk):Prop:=∃vf:Nat->List Bk,vf 0=V0/\vf k=V/\∀j,j<k->¬Ez at_ q j (vf j)/\∀V2,PutAt (at_+(j:Int)) (DM bs j) (vf j) V2->V2=vf (j+1)
theorem WTr.zero(at_ q:Int)(bs:List UInt8)(V:List Bk):WTr at_ q bs V 0 V:=⟨λ_=>V,Z,Z,λj h=>by omega⟩
theorem WTr.step{bs:List UInt8}{e V d:List Bk}(h:WTr t q bs e k V)(f:¬Ez t q k V)(g:∀V2,PutAt (t+(k:Int)) (DM bs k) V V2->V2=d):WTr t q bs e (k+1) d:=by
 obtain ⟨vf,a,b,c⟩:=h;refine ⟨fup vf (k+1) d,by rw[fup_ne _ _ U];exact a,BK _ _ _,λj i=>?_⟩;rcases Aeq j k with q|q
 ·rw[fup_ne _ _ U,fup_ne _ _ U];exact c j q
 obtain rfl:j=k:=by omega
 rw[fup_ne _ _ U,BK,b];exact ⟨f,g⟩
def C8(at_:Int):Nat->List Bk->List Bk
 | 0,V=>V
 | k+1,V=>By (at_+(k:Int)) (C8 at_ k V)
theorem EaJ.quo(h:EaJ n o nx e Q k o2 e2 L2)(K:TrK n o2 none)(at_:Int):(getE (at_+(k:Int)) L2=0/\e2.q<=e2.mp)↔Ez at_ e.q k (AW o2.N L2):=by
 have c:=h.ok.mp;dsimp only at c;unfold Ez;rw[Wx (h.pos K),Kk,h.fld.2.2.2,c];constructor
 ·rintro ⟨a,b⟩;exact ⟨λq=>q a,b⟩
 rintro ⟨a,b⟩;exact ⟨Afd a,b⟩
def JW(n:Nat)(o:TB)(nx:Int)(e:Vl)(Q:List Nat)(at_:Int)(bs:List UInt8)(V0:List Bk)(k:Nat)(o2:TB)(e2:Vl)(L2:List E):Prop:=EaJ n o nx e Q k o2 e2 L2/\WTr at_ e.q bs V0 k (AW o2.N L2)
def JU(n:Nat)(o:TB)(nx:Int)(e:Vl)(Q:List Nat)(at_:Int)(V0:List Bk)(k:Nat)(o2:TB)(e2:Vl)(L2:List E):Prop:=EaJ n o nx e Q k o2 e2 L2/\AW o2.N L2=C8 at_ k V0
def ErW(n:Nat)(e:Vl)(at_:Int)(k:Nat)(o2:TB)(L2:List E)(er:Int):Prop:=(er=30/\Ez at_ e.q k (AW o2.N L2))\/(er=20/\¬Ez at_ e.q k (AW o2.N L2)/\cnt (AV n o2.C) 0 1024<=11)
end
section
variable{Tb:Ai}
variable{Tb:Ai}
theorem Acq(d pp n:Nat)(nx:Int)(vs:List Vl)(o:TB)(e:Vl)(i:Nat)(Q:List Nat)(y:nx<=1073741824)(at_:Int)(bs:List UInt8)(V0:List Bk)(b5 m g f:Nat)(a1:bs.length<=1073741824)(a6:p*64<=bs.length)(a5:0<=at_/\at_<=e.sz-p):
  ∀(k:Nat) (o2:TB) (e2:Vl) (L2:List E) (j:Nat),(k:Int)<p->JW n o nx e Q at_ bs V0 k o2 e2 L2->Cn prog 41 (.agg #[I e2.id,I e2.st,I e2.sz,I e2.q,I e2.r,I e2.mp]::I (k:Int)::[Y b5,Y m,Y g]) [voA d pp nx [] (vs.set i e2),trA Tb pp j n o2 (some (⟨o2.N,o2.C,AV n o2.C,0⟩,o2.R)),seps [blk b5 [Y d] 33,blk m [I at_] 3,blk g [.slice (some ⟨f,0,none⟩) bs.length bs.length] 46,blk f (bs.map u8) 5]] (λv Γ=>(∃(er:Int) (s:TS×List Nat),(er≠0/\ErW n e at_ k o2 L2 er)/\v=.tuple #[.agg #[I 0,I 0,I 0,I 0,I 0,I 0],I er]/\Γ=[voA d pp nx [] (vs.set i e2),trA Tb pp j n o2 (some s),seps [blk b5 [Y d] 33,blk m [I at_] 3,blk g [.slice (some ⟨f,0,none⟩) bs.length bs.length] 46,blk f (bs.map u8) 5]])\/(∃(c:Vl) (t:TS) (R3:List Nat),((∃L3,JW n o nx e Q at_ bs V0 (k+1) ⟨t.N,t.C,R3⟩ c L3)/\c.Fit/\t.k+1+manyN n<=40)/\v=.tuple #[.agg #[I c.id,I c.st,I c.sz,I c.q,I c.r,I c.mp],I 0]/\Γ=[voA d pp nx [] (vs.set i e2),trA Tb pp j n o2 (some (t,R3)),seps [blk b5 [Y d] 33,blk m [I at_] 3,blk g [.slice (some ⟨f,0,none⟩) bs.length bs.length] 46,blk f (bs.map u8) 5]])):=by
 intro k o2 e2 L2 j hk hJ z R w H;obtain ⟨b,hT⟩:=hJ;have K0:=H.says 1 Z (λh a=>trA.k0 a);have hz:=b.fld.2.2.1;have H3:=(H.pick 3 [2,0,1] Z).opened;have l:0<=at_+(k:Int)/\at_+(k:Int)<e2.sz:=⟨by omega,by rw[hz];omega⟩;refine Ret.mono (Cn.at (Ud d pp j n nx (vs.set i e2) o2 e2 L2 Q at_ k b.lw b.ok y b.len l b5 m g f bs U a1) H3 6 [4,5,0,1,2,3] Z Z) ?_;rintro v w' ⟨Γ',(⟨hq,rfl,rfl⟩|⟨⟨hq,hf⟩,s3,rfl,rfl⟩|⟨hq,t3,r,val,u,rfl,rfl⟩),H'⟩
 ·exact ⟨_,.inl ⟨30,_,⟨by omega,.inl ⟨Z,(b.quo K0 at_).1 hq⟩⟩,Z,Z⟩,((H'.pick 6 [2,3,4,5,0,1] Z).made 4 (λh q=>q)).pick 3 [1,2,0] Z⟩
 ·exact ⟨_,.inl ⟨20,_,⟨by omega,.inr ⟨Z,λq=>hq ((b.quo K0 at_).2 q),hf⟩⟩,Z,Z⟩,((H'.pick 6 [2,3,4,5,0,1] Z).made 4 (λh q=>q)).pick 3 [1,2,0] Z⟩
 have K3:=H'.says 1 Z (λh a=>trA.k a);have a2:r<=1023:=by
  by_cases h0:r=0
  ·omega
  have:=(K3.i.rin r (by show r∈A8 r++Q;rw[DQ h0];simp)).2;have:=K3.hn;omega
 have a0:(putE (at_+(k:Int)) val L2).length<=1024:=by
  have:=JD K3.i U u.root.data u.nd;have:=K3.hn;omega
 have x:=b.wr K0 u l a2 a0;have a4:=u.k;have a3:manyN n<=6:=by have:=b.lw.n;unfold manyN;omega
 exact ⟨_,.inr ⟨_,t3,A8 r++Q,⟨⟨_,x,hT.step (λq=>hq ((b.quo K0 at_).2 q)) (λV2 hp=>u.vol V2 hp)⟩,x.ok.fit y (by show (putE (at_+(k:Int)) val L2).length<=1048576;omega),by omega⟩,Z,Z⟩,((H'.pick 6 [2,3,4,5,0,1] Z).made 4 (λh q=>q)).pick 3 [1,2,0] Z⟩
theorem Acr(d pp n:Nat)(nx:Int)(vs:List Vl)(o:TB)(e:Vl)(i:Nat)(Q:List Nat)(g:nx<=1073741824)(at_:Int)(u:List Bk)(m l:Nat)(a4:0<=at_/\at_<=e.sz-p):
  ∀(k:Nat) (o2:TB) (e2:Vl) (L2:List E) (j:Nat),(k:Int)<p->JU n o nx e Q at_ u k o2 e2 L2->Cn prog 43 (.agg #[I e2.id,I e2.st,I e2.sz,I e2.q,I e2.r,I e2.mp]::I (k:Int)::[Y m,Y l]) [voA d pp nx [] (vs.set i e2),trA Tb pp j n o2 (some (⟨o2.N,o2.C,AV n o2.C,0⟩,o2.R)),seps [blk m [Y d] 33,blk l [I at_] 3]] (λv Γ=>(∃(er:Int) (s:TS×List Nat),(er≠0/\er=20/\cnt (AV n o2.C) 0 1024<=12)/\v=.tuple #[.agg #[I 0,I 0,I 0,I 0,I 0,I 0],I er]/\Γ=[voA d pp nx [] (vs.set i e2),trA Tb pp j n o2 (some s),seps [blk m [Y d] 33,blk l [I at_] 3]])\/(∃(c:Vl) (t:TS) (R3:List Nat),((∃L3,JU n o nx e Q at_ u (k+1) ⟨t.N,t.C,R3⟩ c L3)/\c.Fit/\t.k+1+manyN n<=40)/\v=.tuple #[.agg #[I c.id,I c.st,I c.sz,I c.q,I c.r,I c.mp],I 0]/\Γ=[voA d pp nx [] (vs.set i e2),trA Tb pp j n o2 (some (t,R3)),seps [blk m [Y d] 33,blk l [I at_] 3]])):=by
 intro k o2 e2 L2 j hk hJ z R w H;obtain ⟨b,hT⟩:=hJ;have hz:=b.fld.2.2.1;have H3:=(H.pick 3 [2,0,1] Z).opened;have a0:0<=at_+(k:Int)/\at_+(k:Int)<e2.sz:=⟨by omega,by rw[hz];omega⟩;have a2:manyN n<=6:=by have:=b.lw.n;unfold manyN;omega
 refine Ret.mono (Cn.at (Ue d pp j n nx (vs.set i e2) o2 e2 L2 Q at_ k b.lw b.ok g b.len a0 m l) H3 4 [2,3,0,1] Z Z) ?_;rintro v w' ⟨Γ',(⟨hq,rfl,rfl⟩|⟨hf,s3,rfl,rfl⟩|⟨hq,t3,r,hU,rfl,rfl⟩),y⟩
 ·refine ⟨_,.inr ⟨e2,_,_,⟨⟨L2,b.no,?_⟩,b.ok.fit g (by have:=b.len;show L2.length<=1048576;omega),by show 0+1+manyN n<=40;omega⟩,Z,Z⟩,((y.pick 4 [2,3,0,1] Z).made 2 (λh q=>q)).pick 3 [1,2,0] Z⟩
  show AW o2.N L2=By (at_+(k:Int)) (C8 at_ k u);rw[<-hT,volB_del,Gw (λx hx q=>hq ⟨x.2,by rw[<-q];exact hx⟩)]
 ·exact ⟨_,.inl ⟨20,_,⟨by omega,Z,hf⟩,Z,Z⟩,((y.pick 4 [2,3,0,1] Z).made 2 (λh q=>q)).pick 3 [1,2,0] Z⟩
 have K3:=y.says 1 Z (λh a=>trA.k a);have a1:r<=1023:=by
  by_cases h0:r=0
  ·omega
  have:=(K3.i.rin r (by show r∈A8 r++Q;rw[DQ h0];simp)).2;have:=K3.hn;omega
 have f:=b.un hU hq a1;have a3:=hU.k;refine ⟨_,.inr ⟨_,t3,A8 r++Q,⟨⟨_,f,?_⟩,f.ok.fit g (by have:=f.len;show (BW (at_+(k:Int)) L2).length<=1048576;omega),by omega⟩,Z,Z⟩,((y.pick 4 [2,3,0,1] Z).made 2 (λh q=>q)).pick 3 [1,2,0] Z⟩;show AW t3.N (BW (at_+(k:Int)) L2)=By (at_+(k:Int)) (C8 at_ k u);rw[hU.vol b.ok.root,hT]
end
section
variable{Tb:Ai}
set_option maxHeartbeats 4000000 in
theorem Ko (P:List Pl) {vs:List Vl} (hP:vs=P.map Prod.fst) {o:TB} (x:VInv n o t P) (a6:g+16<=1000000000) (id at_:Int) (a1: -9223372036854775808<=at_/\at_<=9223372036854775807) (c:Nat) (bs:List UInt8) (a7:bs.length<=1073741824) (sy:Bool):Cn prog 10 [Y m,I id,I at_,.slice (some ⟨c,0,none⟩) bs.length bs.length,.bool sy] [voA m j t ([]) vs,trA Tb j g n o none,blk c (bs.map u8) 5] (λv Γ=>((∀e∈vs,¬(e.st=1/\e.id=id))/\v=.tuple #[I 0,I 31]/\Γ=[voA m j t [] vs,trA Tb j g n o none,blk c (bs.map u8) 5])\/(∃(i:Nat) (e:Vl) (L:List E),(P[i]?=some (e,L)/\e.st=1/\e.id=id)/\((Bn e.sz (decide (((bs.length%64:Nat):Int)=0)) at_ ((bs.length/64:Nat):Int)≠0/\v=.tuple #[I 0,I (Bn e.sz (decide (((bs.length%64:Nat):Int)=0)) at_ ((bs.length/64:Nat):Int))]/\Γ=[voA m j t [] vs,trA Tb j g n o none,blk c (bs.map u8) 5])\/(Bn e.sz (decide (((bs.length%64:Nat):Int)=0)) at_ ((bs.length/64:Nat):Int)=0/\∃(k:Nat) (o2:TB) (e2:Vl) (L2:List E) (m2:Nat) (er:Int),(JW n ⟨o.N,o.C,A8 e.r.toNat++CZ (P.eraseIdx i)⟩ t e (CZ (P.eraseIdx i)) at_ bs (AW o.N L) k o2 e2 L2/\((er=0/\(k:Int)=((bs.length/64:Nat):Int))\/((k:Int)<((bs.length/64:Nat):Int)/\ErW n e at_ k o2 L2 er))/\m2<=g+16)/\v=.tuple #[I (k:Int),I er]/\Γ=[voA m j t [] (vs.set i e2),trA Tb j m2 n o2 none,blk c (bs.map u8) 5])))):=by
 intro z R w H;have K:=H.says 1 Z (λh a=>trA.k a);have hn:=K.hn;have hv:vs.length=8:=by rw[hP,Aef];exact x.len
 have hf:∀e∈vs,e.Fit:=by rw[hP];exact x.fit K
 have b4:=x.n;have y:=x.nb
 refine Ae func10 Z ntmps10 Z (Za 2 [] H Z ?_);intro b1 w H;refine Za 0 [] H Z ?_;intro b2 w H;refine Za 0 [] H Z ?_;intro b3 w H;refine Z3 22 [0,0,2,0,1,0,0,0,0] [((bs.length/64:Nat):Int),((bs.length%64:Nat):Int)] H Z U (Aq Z (call39 _) (O7 hv (λe he=>(by have:=(hf e he).sz;omega)) a1 ⟨by omega,by omega⟩) H.f3 ?_);rintro _ w _ (⟨a4,rfl,rfl⟩|⟨i,e,⟨he,l,s⟩,rfl,rfl⟩) d
 ·have H:=d.l6;refine Z0 23 [3] Z (Zr Z ?_);exact ⟨_,.inl ⟨a4,Z,Z⟩,H.pick 6 [0,4,5] Z⟩
 have H:=d.l6;refine Z0 14 [0] Z (Af Z (λh1=>?_) (λh1=>?_))
 ·refine Zc 8 Z (Zr Z ?_);obtain ⟨L,b⟩:=Hg hP he;exact ⟨_,.inr ⟨i,e,L,⟨b,l,s⟩,.inl ⟨by assumption,Z,Z⟩⟩,H.pick 6 [0,4,5] Z⟩
 refine Zc 3 Z ?_;have hE:Bn e.sz (decide (((bs.length%64:Nat):Int)=0)) at_ ((bs.length/64:Nat):Int)=0:=Afd λq=>by contradiction
 refine AD 13 (v:=I (i:Int)) Z (congrArg I (if_pos hE)) ?_;have a3:=FY hE;obtain ⟨L,b⟩:=Hg hP he;have p:=x.ok b l;have a9:1<=e.sz/\e.sz<=1048576:=p.sz;have a8:=(Aeb.1 he).1;have a0:L.length<=1024:=Sb K (T:=none) p;have a5:vs.set i e=vs:=by obtain ⟨hl,rfl⟩:=Aeb.1 he;exact Af6 hl
 refine Z2 4 [3,0] H Z (Ab Z (C5 Z Z Z) ?_);have d:=(((H.mono 0 (B:=voA m j t [] (vs.set i e)) Z (λh a=>by rw[a5];exact a)).mono 4 (B:=trA Tb j g n ⟨o.N,o.C,A8 e.r.toNat++CZ (P.eraseIdx i)⟩ none) Z (λh a=>a.perm0 (x.r.trans (I7 b)))).pick 6 [3,2,1,5,0,4] Z).made 4 (A:=seps [blk b1 [Y m] 33,blk b2 [I at_] 3,blk b3 [.slice (some ⟨c,0,none⟩) bs.length bs.length] 46,blk c (bs.map u8) 5]) (λh q=>q);clear H;have H:Sep z (seps [blk b1 [Y m] 33,blk b2 [I at_] 3,blk b3 [.slice (some ⟨c,0,none⟩) bs.length bs.length] 46,blk c (bs.map u8) 5]::voA m j t ([]) (vs.set i e)::trA Tb j g n ⟨o.N,o.C,A8 e.r.toNat++CZ (P.eraseIdx i)⟩ none::R) w:=d;clear d;refine Aq Z (call40 _) (Q3 m j g n t vs ⟨o.N,o.C,A8 e.r.toNat++CZ (P.eraseIdx i)⟩ e L i a8 hv ⟨by omega,y.2⟩ ((bs.length/64:Nat):Int) U a6 (seps [blk b1 [Y m] 33,blk b2 [I at_] 3,blk b3 [.slice (some ⟨c,0,none⟩) bs.length bs.length] 46,blk c (bs.map u8) 5]) 41 (λa w=>call41 a w) (JW n ⟨o.N,o.C,A8 e.r.toNat++CZ (P.eraseIdx i)⟩ t e (CZ (P.eraseIdx i)) at_ bs (AW o.N L)) (λk o2 e2 L2 er=>ErW n e at_ k o2 L2 er) ⟨EaJ.zero (x.lw b p) p a0,WTr.zero _ _ _ _⟩ (λk o2 e2 L2 u=>Gy hf (u.1.ok.fit y.2 (by have:=u.1.len;show L2.length<=1048576;omega))) (Acq m j n t vs ⟨o.N,o.C,A8 e.r.toNat++CZ (P.eraseIdx i)⟩ e i (CZ (P.eraseIdx i)) y.2 at_ bs (AW o.N L) b1 b2 b3 c a7 U U)) H.f2.f2 ?_;rintro _ w _ (⟨k,o2,e2,L2,er,⟨f,u,b5,a2⟩,rfl,rfl⟩|⟨k,o2,e2,L2,⟨f,u⟩,rfl,rfl⟩) d
 ·have H:=d.l3;have d:=(H.pick 3 [2,0,1] Z).opened
  clear H;have H:Sep z (blk b1 [Y m] 33::blk b2 [I at_] 3::blk b3 [.slice (some ⟨c,0,none⟩) bs.length bs.length] 46::blk c (bs.map u8) 5::voA m j t ([]) (vs.set i e2)::trA Tb j (g+2*k) n o2 none::R) w:=d;clear d;refine Z0 13 [0] Z (Al 44 Z (λh2=>U) (λh2=>?_));refine Zc 16 Z (Zr Z ?_);exact ⟨_,.inr ⟨i,e,L,⟨b,l,s⟩,.inr ⟨hE,k,o2,e2,L2,_,er,⟨u,.inr ⟨f,a2⟩,by omega⟩,Z,Z⟩⟩,H.pick 6 [4,5,3] Z⟩
 have H:=d.l3;have d:=(H.pick 3 [2,0,1] Z).opened;clear H;have H:Sep z (blk b1 [Y m] 33::blk b2 [I at_] 3::blk b3 [.slice (some ⟨c,0,none⟩) bs.length bs.length] 46::blk c (bs.map u8) 5::voA m j t ([]) (vs.set i e2)::trA Tb j (g+2*k) n o2 none::R) w:=d;clear d;refine Z0 17 [3] Z (Ep Z (λh3=>?_) (λh3=>?_))
 ·refine Z2 2 [0,0] H Z (z_E_ Z (call35 _) (HW) H.f5.f5 ?_);intro w H;refine Zc 12 Z (Zr Z ?_);exact ⟨_,.inr ⟨i,e,L,⟨b,l,s⟩,.inr ⟨hE,k,o2,e2,L2,_,0,⟨u,.inl ⟨Z,f⟩,by omega⟩,by rw[<-f],Z⟩⟩,H.pick 6 [0,1,5] Z⟩
 refine Zc 11 Z (Zr Z ?_);exact ⟨_,.inr ⟨i,e,L,⟨b,l,s⟩,.inr ⟨hE,k,o2,e2,L2,_,0,⟨u,.inl ⟨Z,f⟩,by omega⟩,by rw[<-f],Z⟩⟩,H.pick 6 [4,5,3] Z⟩
set_option maxHeartbeats 4000000 in
theorem Kq (P:List Pl) {vs:List Vl} (hP:vs=P.map Prod.fst) {o:TB} (u:VInv n o t P) (a5:g+16<=1000000000) (id at_ b:Int) (a1: -9223372036854775808<=at_/\at_<=9223372036854775807) (a7: -9223372036854775808<=b/\b<=9223372036854775807):Cn prog 12 [Y m,I id,I at_,I b] [voA m j t ([]) vs,trA Tb j g n o none] (λv Γ=>((∀e∈vs,¬(e.st=1/\e.id=id))/\v=.tuple #[I 0,I 31]/\Γ=[voA m j t [] vs,trA Tb j g n o none])\/(∃(i:Nat) (e:Vl) (L:List E),(P[i]?=some (e,L)/\e.st=1/\e.id=id)/\((Bn e.sz true at_ b≠0/\v=.tuple #[I 0,I (Bn e.sz true at_ b)]/\Γ=[voA m j t [] vs,trA Tb j g n o none])\/(Bn e.sz true at_ b=0/\∃(k:Nat) (o2:TB) (e2:Vl) (L2:List E) (m2:Nat) (er:Int),(JU n ⟨o.N,o.C,A8 e.r.toNat++CZ (P.eraseIdx i)⟩ t e (CZ (P.eraseIdx i)) at_ (AW o.N L) k o2 e2 L2/\((er=0/\(k:Int)=b)\/((k:Int)<b/\er=20/\cnt (AV n o2.C) 0 1024<=12))/\m2<=g+16)/\v=.tuple #[I (k:Int),I er]/\Γ=[voA m j t [] (vs.set i e2),trA Tb j m2 n o2 none])))):=by
 intro z R w H;have K:=H.says 1 Z (λh a=>trA.k a);have hn:=K.hn;have hv:vs.length=8:=by rw[hP,Aef];exact u.len
 have hf:∀e∈vs,e.Fit:=by rw[hP];exact u.fit K
 have b3:=u.n;have x:=u.nb
 refine Ae func12 Z ntmps12 Z (Za 2 [] H Z ?_);intro b1 w H;refine Za 0 [] H Z ?_;intro y w H;refine Z2 10 [1,0,0,0] H Z (Aq Z (call39 _) (O7 hv (λe he=>(by have:=(hf e he).sz;omega)) a1 a7) H.f2 ?_);rintro _ w _ (⟨a4,rfl,rfl⟩|⟨i,e,⟨he,p,s⟩,rfl,rfl⟩) d
 ·have H:=d.l4;refine Z0 23 [3] Z (Zr Z ?_);exact ⟨_,.inl ⟨a4,Z,Z⟩,H.pick 4 [0,3] Z⟩
 have H:=d.l4;refine Z0 14 [0] Z (Af Z (λh1=>?_) (λh1=>?_))
 ·refine Zc 8 Z (Zr Z ?_);obtain ⟨L,c⟩:=Hg hP he;exact ⟨_,.inr ⟨i,e,L,⟨c,p,s⟩,.inl ⟨by assumption,Z,Z⟩⟩,H.pick 4 [0,3] Z⟩
 refine Zc 3 Z ?_;have hE:Bn e.sz true at_ b=0:=Afd λq=>by contradiction
 refine AD 10 (v:=I (i:Int)) Z (congrArg I (if_pos hE)) ?_;have a3:=FY hE;obtain ⟨L,c⟩:=Hg hP he;have f:=u.ok c p;have a9:1<=e.sz/\e.sz<=1048576:=f.sz;have a8:=(Aeb.1 he).1;have a0:L.length<=1024:=Sb K (T:=none) f;have a6:vs.set i e=vs:=by obtain ⟨hl,rfl⟩:=Aeb.1 he;exact Af6 hl
 refine Z2 4 [2,0] H Z (Ab Z (C5 Z Z Z) ?_);have d:=(((H.mono 0 (B:=voA m j t [] (vs.set i e)) Z (λh a=>by rw[a6];exact a)).mono 3 (B:=trA Tb j g n ⟨o.N,o.C,A8 e.r.toNat++CZ (P.eraseIdx i)⟩ none) Z (λh a=>a.perm0 (u.r.trans (I7 c)))).pick 4 [2,1,0,3] Z).made 2 (A:=seps [blk b1 [Y m] 33,blk y [I at_] 3]) (λh q=>q);clear H;have H:Sep z (seps [blk b1 [Y m] 33,blk y [I at_] 3]::voA m j t ([]) (vs.set i e)::trA Tb j g n ⟨o.N,o.C,A8 e.r.toNat++CZ (P.eraseIdx i)⟩ none::R) w:=d;clear d;refine Aq Z (call40 _) (Q3 m j g n t vs ⟨o.N,o.C,A8 e.r.toNat++CZ (P.eraseIdx i)⟩ e L i a8 hv ⟨by omega,x.2⟩ b U a5 (seps [blk b1 [Y m] 33,blk y [I at_] 3]) 43 (λa w=>call43 a w) (JU n ⟨o.N,o.C,A8 e.r.toNat++CZ (P.eraseIdx i)⟩ t e (CZ (P.eraseIdx i)) at_ (AW o.N L)) (λk o2 e2 L2 er=>er=20/\cnt (AV n o2.C) 0 1024<=12) ⟨EaJ.zero (u.lw c f) f a0,Z⟩ (λk o2 e2 L2 hJ=>Gy hf (hJ.1.ok.fit x.2 (by have:=hJ.1.len;show L2.length<=1048576;omega))) (Acr m j n t vs ⟨o.N,o.C,A8 e.r.toNat++CZ (P.eraseIdx i)⟩ e i (CZ (P.eraseIdx i)) x.2 at_ (AW o.N L) b1 y U)) H.f2.f2 ?_;rintro _ w _ (⟨k,o2,e2,L2,er,⟨l,hJ,b4,a2⟩,rfl,rfl⟩|⟨k,o2,e2,L2,⟨l,hJ⟩,rfl,rfl⟩) d
 ·have H:=d.l3;have d:=(H.pick 3 [2,0,1] Z).opened
  clear H;have H:Sep z (blk b1 [Y m] 33::blk y [I at_] 3::voA m j t ([]) (vs.set i e2)::trA Tb j (g+2*k) n o2 none::R) w:=d;clear d;refine Zc 7 Z (Zr Z ?_);exact ⟨_,.inr ⟨i,e,L,⟨c,p,s⟩,.inr ⟨hE,k,o2,e2,L2,_,er,⟨hJ,.inr ⟨l,a2⟩,by omega⟩,Z,Z⟩⟩,H.pick 4 [2,3] Z⟩
 have H:=d.l3;have d:=(H.pick 3 [2,0,1] Z).opened;clear H;have H:Sep z (blk b1 [Y m] 33::blk y [I at_] 3::voA m j t ([]) (vs.set i e2)::trA Tb j (g+2*k) n o2 none::R) w:=d;clear d;refine Zc 7 Z (Zr Z ?_);exact ⟨_,.inr ⟨i,e,L,⟨c,p,s⟩,.inr ⟨hE,k,o2,e2,L2,_,0,⟨hJ,.inl ⟨Z,l⟩,by omega⟩,by rw[<-l],Z⟩⟩,H.pick 4 [2,3] Z⟩
end
section
section late
variable{P:Program}{ops:Array Oper}{Q:Exit->Act->World->Prop}{S:World->Prop}{E:List Nat}
theorem ready_un{listed:Array Bool}(c:j∈Region.ready .any ops listed)(f:listed.size=ops.size):listed.getD j false=true->False:=λd=>by
 have b:=(mem_ready.1 c).1;obtain ⟨_,g,a,_⟩:=mem_ready.1 c;have h:=(Ae1.1 a).1;have e:j<listed.size:=by omega
 simp[e] at d b;rw[d] at b;cases b
theorem M9{i:Nat}{oi:Oper}{v:Value}(hi:ops[i]?=some oi)(q:∀(j:Nat) (o:Oper) cs b,ops[j]?=some o->o.op≠ .select cs b)
  (hQ:∀c a w,Q (.panic c) (a.put oi.dst v) w->Q (.panic c) a w):
  ∀(fuel:Nat) (listed:Array Bool) (a:Act) (w:World),Dc ops listed->listed.size=ops.size->(∀j∈E,listed.getD j false=true\/ES ops m j i=true)->
   (∀j r,ops[j]?=some r->j≠i->listed.getD j true=false->(∀e∈r.after,Region.binds .any e=true->e.on≠i)->oi.apart ops r=true)->
   i∈Region.ready .any ops listed->YieldsIf P ops S oi v a->S w->
   ET P ops Q S E fuel (listed.setIfInBounds i true) (a.put oi.dst v) w->ET P ops Q S E (fuel+1) listed a w:=by
 intro fuel
 induction fuel with
 | zero=>
  intro listed a w hd d _ _ n hy hS H;refine ⟨λh=>(by rw[h] at n;cases n),λj t=>?_⟩;by_cases hji:j=i
  ·subst hji;exact hy.wpOp hi hS ⟨λ_=>hS,H⟩
  have:=ready_mono t hji;rw[H.1] at this;cases this
 | succ fuel ih=>
  intro listed a w hd d hE f n hy hS H;refine ⟨λh=>(by rw[h] at n;cases n),λj t=>?_⟩;by_cases hji:j=i
  ·subst hji;exact hy.wpOp hi hS ⟨λ_=>hS,H⟩
  have h1:=H.2 j (ready_mono t hji);have l:E.contains j=false:=by
   cases hc:E.contains j with
   | false=>rfl
   | true=>
    have hm:j∈E:=by simpa using hc
    rcases hE j hm with h|h
    ·exact (ready_un t d h).elim
    exact (ready_un n d (ready_waits hd d h t)).elim
  obtain ⟨p,r,s,u⟩:=mem_ready.1 t;have y:∀e∈r.after,Region.binds .any e=true->e.on≠i:=λe he hb a3=>by
   have h1:=u e he hb;rw[a3] at h1;exact ready_un n d h1
  have h2:=wpOp_putIf s (f j r s hji p y) (λcs b=>q i oi cs b hi) (λcs b=>q j r cs b s) hQ hy h1;have g:∀k x,ops[k]?=some x->k≠i->(listed.setIfInBounds j true).getD k true=false->
    (∀e∈x.after,Region.binds .any e=true->e.on≠i)->oi.apart ops x=true:=λk x hk a0 z a1=>by
   refine f k x hk a0 ?_ a1;by_cases hjk:j=k
   ·subst hjk;exact p
   rw[getD_set_ne true hjk] at z;exact z
  have a2:∀k∈E,(listed.setIfInBounds j true).getD k false=true\/ES ops m k i=true:=λk hk=>by
   by_cases hjk:j=k
   ·subst hjk
    have hm:E.contains j=true:=by simpa using hk
    rw[hm] at l;cases l
   rw[getD_set_ne false hjk];exact hE k hk
  refine wpOp_mono (λa' w' h3=>⟨λ_=>h3.2.1 l,ih (listed.setIfInBounds j true) a' w' (hd.next t) (by simpa using d) a2 g (ready_mono n (AfS hji)) h3.1 (h3.2.1 l) ?_⟩) h2;rw[Agq _ _ hji];exact h3.2.2
theorem PJ{i:Nat}{oi:Oper}{v:Value}(hi:ops[i]?=some oi)(y:E.contains i=true)(l:∀(j:Nat) (o:Oper) cs b,ops[j]?=some o->o.op≠ .select cs b)
  (hQ:∀c a w,Q (.panic c) (a.put oi.dst v) w->Q (.panic c) a w):
  ∀(fuel:Nat) (listed:Array Bool) (a:Act) (w:World),Dc ops listed->listed.size=ops.size->
   (∀j n,ops[j]?=some n->j≠i->listed.getD j true=false->(∀e∈n.after,Region.binds .any e=true->e.on≠i)->oi.apart ops n=true)->
   i∈Region.ready .any ops listed->YieldsIf P ops (λ_=>True) oi v a->
   ET P ops Q S E fuel (listed.setIfInBounds i true) (a.put oi.dst v) w->ET P ops Q S E (fuel+1) listed a w:=by
 intro fuel
 induction fuel with
 | zero=>
  intro listed a w hd m _ q hy H;refine ⟨λh=>(by rw[h] at q;cases q),λj x=>?_⟩;by_cases hji:j=i
  ·subst hji;exact hy.wpOp hi trivial ⟨λe=>(by rw[y] at e;cases e),H⟩
  have:=ready_mono x hji;rw[H.1] at this;cases this
 | succ fuel ih=>
  intro listed a w hd m d q hy H;refine ⟨λh=>(by rw[h] at q;cases q),λj x=>?_⟩;by_cases hji:j=i
  ·subst hji;exact hy.wpOp hi trivial ⟨λe=>(by rw[y] at e;cases e),H⟩
  have z:=H.2 j (ready_mono x hji);obtain ⟨g,n,p,r⟩:=mem_ready.1 x;have t:∀e∈n.after,Region.binds .any e=true->e.on≠i:=λe he hb a1=>by
   have z:=r e he hb;rw[a1] at z;exact ready_un q m z
  have h2:=wpOp_putIf p (d j n p hji g t) (λcs b=>l i oi cs b hi) (λcs b=>l j n cs b p) hQ hy z;have f:∀k s,ops[k]?=some s->k≠i->(listed.setIfInBounds j true).getD k true=false->
    (∀e∈s.after,Region.binds .any e=true->e.on≠i)->oi.apart ops s=true:=λk s hk a0 u a2=>by
   refine d k s hk a0 ?_ a2;by_cases hjk:j=k
   ·subst hjk;exact g
   rw[getD_set_ne true hjk] at u;exact u
  refine wpOp_mono (λa' w' h3=>⟨h3.2.1,ih (listed.setIfInBounds j true) a' w' (hd.next x) (by simpa using m) f (ready_mono q (AfS hji)) h3.1 ?_⟩) h2;rw[Agq _ _ hji];exact h3.2.2
end late
section late2
variable{P:Program}{ops:List Oper}{N R:Act->World->Prop}{X:Nat->Act->World->Prop}{S:World->Prop}{E:List Nat}{a:Act}{w:World}{fuel:Nat}{listed:Array Bool}{n d i:Nat}{ds:List Deferred}{L:List (Nat×Value)}{v:Value}{o:Oper}
theorem E1(i:Nat)(hi:ops[i]?=some o)(m:(E.all λj=>listed.getD j false||ES ops.toArray ops.length j i)=true)(hs:Region.noSelect ops.toArray=true)(u:Region.free .any ops.toArray listed i=true)(r:(Region.ready .any ops.toArray listed).contains i=true)
  (p:BM ops L o.guard=true)(s:o.dst=some d)(l:Nat.blt d n=true)(k:Au P S n ds L o v)(x:S w)
  (K:∀a',Fr n ds ((d,v)::L) a'->Hq P ops (Qp N X R) S E fuel (listed.setIfInBounds i true) a' w):∀a,Fr n ds L a->Hq P ops (Qp N X R) S E (fuel+1) listed a w:=λa g f c=>
 have e:ops.toArray[i]?=some o:=by simpa using hi
 have b:i∈Region.ready .any ops.toArray listed:=by simpa using r
 M9 (i:=i) (oi:=o) (v:=v) e (AgF hs) (λ_ _ _ h=>h.elim) fuel listed a w f (by simpa using c) (λj t=>by simpa using (Af2.1 m) j t) (AgW e u) b (.inl ⟨wantL_ok g p,λq h=>k a g q h⟩) x
  (by rw[s];exact K _ (g.put d v l) (f.next b) (by simpa using c))
theorem Pa(i:Nat)(hi:ops[i]?=some o)(l:E.contains i=true)(hs:Region.noSelect ops.toArray=true)(s:Region.free .any ops.toArray listed i=true)(q:(Region.ready .any ops.toArray listed).contains i=true)
  (m:BM ops L o.guard=true)(r:o.dst=some d)(k:Nat.blt d n=true)(j:Au P (λ_=>True) n ds L o v)
  (K:∀a',Fr n ds ((d,v)::L) a'->Hq P ops (Qp N X R) S E fuel (listed.setIfInBounds i true) a' w):∀a,Fr n ds L a->Hq P ops (Qp N X R) S E (fuel+1) listed a w:=λa g f c=>
 have e:ops.toArray[i]?=some o:=by simpa using hi
 have b:i∈Region.ready .any ops.toArray listed:=by simpa using q
 PJ (i:=i) (oi:=o) (v:=v) e l (AgF hs) (λ_ _ _ h=>h.elim) fuel listed a w f (by simpa using c) (AgW e s) b (.inl ⟨wantL_ok g m,λp h=>j a g p h⟩)
  (by rw[r];exact K _ (g.put d v k) (f.next b) (by simpa using c))
end late2
theorem AdU{P:Program}{ops:List Oper}{C:World->Prop}{Q:Act->Prop}{rest:List Oper}{o:Oper}{n d:Nat}{ds:List Deferred}{L:List (Nat×Value)}{v:Value}{f:FuncId}{x:Operand}{us:List Value}{args:List Operand}{vs:List Value}{tys:Array TypeId}(m:BM ops L o.guard=true)(r:o.dst=some d)(j:Nat.blt d n=true)
  (t:o.op=.call {callee:=.value x,args:=args.toArray,argTypes:=tys})(p:ev L x=some (.func (.func f) #[] us.toArray))(b:evs L args=some vs)(y:∀w,(callFunc f (vs++us).toArray).run P w=.ok (.enter f (vs++us).toArray) w)(h:∀w,C w->Calls P f (vs++us).toArray w (Ret λu k=>u=v/\C k))
  (K:∀a',Fr n ds ((d,v)::L) a'->wpQuiet P ops.toArray C Q rest a'):∀a,Fr n ds L a->wpQuiet P ops.toArray C Q (o::rest) a:=λa g=>
 wpQuiet_step λK' s=>by
  rw[if_pos (wantL_ok g m)];refine ⟨v,λw l=>?_,s _ ?_⟩
  ·unfold Oper.quietAt
   rw[Kn g t p b y];refine ⟨Z,Agu (h w l) λe k q=>?_⟩
   cases e with
   | returned u=>obtain ⟨rfl,i⟩:=q;exact ⟨Z,i⟩
   | panicked c=>exact q.elim
   | outgrown=>exact q.elim
  rw[r];exact K _ (g.put d v j)
def I9(x y:Int):Int:=if x<y then -1 else if y<x then 1 else 0
theorem Q4(x y:Int):I9 x y<0↔x<y:=by
 unfold I9;split
 ·omega
 split<;>omega
def Hr(Z_:List Vl)(i j:Nat):Prop:=∀(p q:Nat) (a b:Vl),p<q->q<i->q≠j->Z_[p]?=some a->Z_[q]?=some b->a.id<=b.id
theorem WM(Z_:List Vl):Hr Z_ 1 1:=λp q a b d c=>by omega
theorem Sd{Z_:List Vl}{i:Nat}(h:Hr Z_ i i):Hr Z_ (i+1) i:=λp q a b c e d=>h p q a b c U d
theorem IC{Z_:List Vl}{i:Nat}(h:Hr Z_ i j)(n:j=0\/∃e f:Vl,Z_[j-1]?=some e/\Z_[j]?=some f/\¬f.id<e.id):Hr Z_ i i:=λp q a b l m _ c g=>by
 by_cases hq:q=j
 ·subst hq
  rcases n with e|⟨e,f,d,k,o⟩
  ·omega
  rw[g] at k;cases k;by_cases hp:p=q-1
  ·subst hp;rw[c] at d;cases d;omega
  have:=h p (q-1) a e U U U c d;omega
 exact h p q a b l m hq c g
theorem Uf{Z_:List Vl}{i:Nat}{e f:Vl}(h:Hr Z_ i j)(m:Z_[j-1]?=some e)(n:Z_[j]?=some f)(u:0<j)(r:f.id<e.id):Hr ((Z_.set j e).set (j-1) f) i (j-1):=λp q a b o l s c d=>by
 have t:=(Aeb.1 n).1;have g:∀k,((Z_.set j e).set (j-1) f)[k]?=if k=j-1 then some f else if k=j then some e else Z_[k]? :=λk=>by
  by_cases k1:k=j-1
  ·subst k1;rw[if_pos Z,Aff (by rw[AeU];omega)]
  rw[if_neg k1,AfV U];by_cases k2:k=j
  ·subst k2;rw[if_pos Z,Aff t]
  rw[if_neg k2,AfV U]
 rw[g] at c d;rw[if_neg s] at d;by_cases q2:q=j
 ·rw[if_pos q2] at d;cases d
  split at c
  ·cases c;omega
  rw[if_neg U] at c;exact h p (j-1) a e U U U c m
 rw[if_neg q2] at d;split at c
 ·cases c;exact h j q f b U l q2 n d
 split at c
 ·cases c;exact h (j-1) q e b U l q2 m d
 exact h p q a b o l q2 c d
theorem Ug{Z_:List Vl}{e f:Vl}(b:Z_[j-1]?=some e)(d:Z_[j]?=some f)(g:0<j):((Z_.set j e).set (j-1) f).Perm Z_:=by
 obtain ⟨a,rfl⟩:=Aeb.1 b;obtain ⟨c,rfl⟩:=Aeb.1 d;exact List.set_set_perm c a
theorem WN{Z_ X:List Vl}(hp:Z_.Perm X){i:Nat}(hi:X.length<=i)(h:Hr Z_ i i):Z_.Pairwise λa b=>a.id<=b.id:=by
 have f:=hp.length_eq;rw[Afv];intro p q e d c;exact h p q _ _ c U U (Aed e) (Aed d)
theorem isnan_c:Cn prog 173 [I t] [] (λv Γ=>v=.bool false/\Γ=[]):=by
 intro z R w H;refine Ae func173 Z ntmps173 Z (Z0 14 [0] Z (Zr Z ?_));exact ⟨_,⟨congrArg Value.bool (decide_eq_false (λq=>q Z)),Z⟩,H⟩
theorem Acs:Cn prog 126 [I t,I s] [] (λv Γ=>v=I (I9 t s)/\Γ=[]):=by
 intro z R w H;refine Ae func126 Z ntmps126 Z (Zc 8 Z (z_E_ Z (call173 _) (isnan_c) H ?_));intro w H;refine Zc 6 Z (z_E_ Z (call173 _) (isnan_c) H ?_);intro w H;refine Z0 29 [0] Z (Af Z (λb=>?_) (λb=>?_))
 ·refine Zc 6 Z (Zr Z ?_);exact ⟨_,⟨by unfold I9;rw[if_pos U],Z⟩,H⟩
 refine Z0 10 [0] Z (Af Z (λa=>?_) (λa=>?_))
 ·refine Zc 6 Z (Zr Z ?_);exact ⟨_,⟨by unfold I9;rw[if_neg U,if_pos U],Z⟩,H⟩
 refine Zc 8 Z (Zr Z ?_);exact ⟨_,⟨by unfold I9;rw[if_neg U,if_neg U],Z⟩,H⟩
theorem Aaj(a b:Vl):Cn prog 125 [.agg #[I a.id,I a.st,I a.sz,I a.q,I a.r,I a.mp],.agg #[I b.id,I b.st,I b.sz,I b.q,I b.r,I b.mp]] [] (λv Γ=>v=I (I9 a.id b.id)/\Γ=[]):=by
 intro z R w H;refine Ae func125 Z ntmps125 Z (Za 2 [] H Z ?_);intro d w H;refine Za 0 [] H Z ?_;intro c w H;refine Z2 9 [0,1,0,0,0,0] H Z (z_E_ Z (call126 _) (Acs) H ?_);intro w H;refine Zc 4 Z (Zr Z ?_);exact ⟨_,⟨Z,Z⟩,H.perm 2 [] Z Z⟩
set_option maxHeartbeats 4000000 in
theorem Acu (X:List Vl) (hX:X.length<=12):Cn prog 206 [y,I 0,I (X.length:Int),.func (.func 125) #[] #[]] [grow 77 6 y X.length (Bb X)] (λv Γ=>∃Y_:List Vl,(Y_.Perm X/\Y_.Pairwise (λa b=>a.id<=b.id))/\v=.tuple #[]/\Γ=[grow 77 6 y X.length (Bb Y_)]):=by
 intro z R w H;have a0:=H.sy 0 (·.slc);obtain ⟨s,x,rfl⟩:=a0;refine Ae func206 Z ntmps206 Z (Z1 8 [] [1] Z U ?_);refine AB (σ:=Nat×List Vl) (λ⟨i,Z_⟩=>[(8,I (i:Int)),(0,.slice s X.length x),(1,I 0),(2,I (X.length:Int)),(3,.func (.func 125) #[] #[])])
   (λ⟨i,Z_⟩ w=>Sep z (grow 77 6 (.slice s X.length x) X.length (Bb Z_)::R) w/\((1<=i/\(i<=X.length\/i=1))/\Z_.Perm X/\Hr Z_ i i)) (λ⟨i,Z_⟩=>X.length-i) ⟨1,X⟩
   fr_z ⟨H,⟨⟨by omega,.inr Z⟩,Ahd _,WM X⟩⟩ ?_
 clear H;rintro ⟨i,Z_⟩ w ⟨d,t⟩;dsimp only at t d ⊢;have H:=d.l1;obtain ⟨hi,hp,hs⟩:=t;have a1:=hp.length_eq;refine Z0 8 [0] Z (Af Z (λh1=>?_) (λh1=>?_))
 ·refine Zc 11 Z ?_;refine AB (σ:=Nat×List Vl) (λ⟨j,Z_⟩=>[(9,I (j:Int)),(0,.slice s X.length x),(1,I 0),(2,I (X.length:Int)),(3,.func (.func 125) #[] #[]),(8,I (i:Int)),(12,I (i:Int)),(13,I (X.length:Int)),(14,.bool (decide ((i:Int)<(X.length:Int)))),(17,I (i:Int))])
    (λ⟨j,Z_⟩ w=>Sep z (grow 77 6 (.slice s X.length x) X.length (Bb Z_)::R) w/\(j<=i/\Z_.Perm X/\Hr Z_ (i+1) j)) (λ⟨j,Z_⟩=>j) ⟨i,Z_⟩
    (λ_ m=>(m.all Z)) ⟨H,⟨Aei _,hp,Sd hs⟩⟩ ?_
  clear H;rintro ⟨j,Z_⟩ w ⟨d,t⟩;dsimp only at t d ⊢;have H:=d.l1;obtain ⟨hj,hp,hs⟩:=t;have a1:=hp.length_eq;refine Zc 2 Z (Bv (Sep z _) J J H.drew (B0 4 [] Z J (Cd 21 Z (λh2=>?_) (λh2=>?_))))
  ·obtain ⟨e,o⟩:∃e,Z_[j-1]?=some e:=⟨_,Aed U⟩;obtain ⟨f,l⟩:∃f,Z_[j]?=some f:=⟨_,Aed U⟩;have c:=(H.rv 0 (·.rd)).at (AU l 0 _ Z)
   refine B0 3 [] Z J (AL Z Z Z (Aj Z (z:=6) (j:=j) (r:=j*6) J Z Z Z U c U) (AL Z Z Z (Bp Z Z (vs:=f.cells) J (by simp[Vl.cells]) (λ_ n=>(λk u p=>(n.rv 0 (·.rd)).at (AU l k u p)))) (G4 3 [] [((j-1:Nat):Int)] Z J U (AL Z Z Z (Aj Z (z:=6) (j:=(j-1)) (r:=(j-1)*6) J Z Z U U c U) (AL Z Z Z (Bp Z Z (vs:=e.cells) J (by simp[Vl.cells]) (λ_ n=>(λk u p=>(n.rv 0 (·.rd)).at (AU o k u p)))) (AdU Z Z Z Z Z Z (λw=>call125 _ w) (v:=I (I9 f.id e.id)) (cq (Aaj f e) (by rintro _ _ ⟨rfl,rfl⟩;exact ⟨Z,Z⟩) 0 [] [] Z Z Z Z) (B0 2 [] Z J (BI (λw d=>?_)))))))));have H:=d.l1;refine gn (Zc 1 Z (Af Z (λh3=>?_) (λh3=>?_)))
   ·have a2:=(Q4 f.id e.id).1 h3
    refine Zc 4 Z (Oo (Sep z (grow 77 6 (.slice s X.length x) X.length (Bb Z_)::R)) [2,3,4,15,16,17] 18 Z J (AZ H λw d=>?_));have H:=d.l1;refine Pa 2 Z J J J J Z Z Z (Cj Z Z) (Pa 3 Z J J J J Z Z Z (Cj Z Z) (Pa 4 Z J J J J Z Z Z (Hs Z Z Z (r:=((j-1:Nat):Int)) U U) (E1 0 Z J J J J Z Z Z (Cj Z Z) H (E1 1 Z J J J J Z Z Z (Cj Z Z) H (E1 5 Z J J J J Z Z Z (Cj Z Z) H (E1 6 Z J J J J Z Z Z (Cj Z Z) H (E1 7 Z J J J J Z Z Z (Hs Z Z Z (r:=((j-1:Nat):Int)) U U) H (E1 8 Z J J J J Z Z Z (Aj Z (z:=6) (j:=(j-1)) (r:=(j-1)*6) J Z Z U U c U) H (E1 9 Z J J J J Z Z Z (Bp Z Z (vs:=e.cells) J (by simp[Vl.cells]) (λ_ n=>(λk u p=>(n.rv 0 (·.rd)).at (AU o k u p)))) H (E1 10 Z J J J J Z Z Z (Cj Z Z) H (E1 11 Z J J J J Z Z Z (Cj Z Z) H (E1 12 Z J J J J Z Z Z (Aj Z (z:=6) (j:=j) (r:=j*6) J Z Z Z U c U) H (E1 13 Z J J J J Z Z Z (Bp Z Z (vs:=f.cells) J (by simp[Vl.cells]) (λ_ n=>(λk u p=>(n.rv 0 (·.rd)).at (AU l k u p)))) H ?_)))))))))))));refine E1 14 Z J J J J Z Z Z (Aj Z (z:=6) (j:=j) (r:=j*6) J Z Z Z U c U) H (C6 [15] J O (Am (Bi Z Z Z (CV 0 H Z Z Z Z (vs:=[I e.id,I e.st,I e.sz,I e.q,I e.r,I e.mp]) Z (by simp[Value.oneCell']) J U (by simp only[Aeg,AeB];omega) (out:=Bb (Z_.set (j) e)) (EI (e2:=e) l 0 O (by simp[Vl.cells]))) ?_)));rintro w H;refine Ar (λh=>absurd h (by decide)) (C6 [16] J O (Am (CD Z Z Z Z (Aj Z (z:=6) (j:=(j-1)) (r:=(j-1)*6) J Z Z U U c U) (Ar (λh=>absurd h (by decide)) (C6 [17] J O (Am (Bi Z Z Z (CV 0 H Z Z Z Z (vs:=[I f.id,I f.st,I f.sz,I f.q,I f.r,I f.mp]) Z (by simp[Value.oneCell']) J U (by simp only[Aeg,AeB];omega) (out:=Bb ((Z_.set j e).set (j-1) f)) (EI (e2:=f) (by rw[AfV U];exact o) 0 O (by simp[Vl.cells]))) ?_)))))));rintro w H;refine Ar (λh=>absurd h (by decide)) (KZ J (gn (Z1 7 [] [((j-1:Nat):Int)] Z U (gf ?_))));intro _ m;refine ⟨⟨j-1,(Z_.set j e).set (j-1) f⟩,m.cz,⟨H,?_⟩,?_⟩
    ·exact ⟨by omega,(Ug o l U).trans hp,Uf hs o l U a2⟩
    (dsimp only;omega)
   have g:¬f.id<e.id:=λq=>h3 ((Q4 f.id e.id).2 q);refine Zc 2 Z (gx (Z1 8 [] [(i:Int)+1] Z U (gf ?_)));intro _ m;refine ⟨⟨i+1,Z_⟩,m.cz,⟨H,?_⟩,?_⟩
   ·refine ⟨⟨by omega,.inl U⟩,hp,?_⟩;first
      | exact IC hs (.inl U)
      | exact IC hs (.inr ⟨e,f,o,l,g⟩)
   (dsimp only;omega)
  refine B0 13 [] Z J (BI (λw d=>?_));have H:=d.l1;refine gn (Zc 4 Z (gx (Z1 8 [] [(i:Int)+1] Z U (gf ?_))));intro _ m;refine ⟨⟨i+1,Z_⟩,m.cz,⟨H,?_⟩,?_⟩
  ·refine ⟨⟨by omega,.inl U⟩,hp,?_⟩;first
     | exact IC hs (.inl U)
     | exact IC hs (.inr ⟨e,f,o,l,g⟩)
  (dsimp only;omega)
 refine Zc 2 Z (gx (Zc 1 Z (Zf Z ?_)))
 exact ⟨_,⟨Z_,⟨hp,WN hp U hs⟩,Z,Z⟩,H⟩
end
theorem Acv(a:0<=t)(b:t<=12):Cn prog 172 [.int .u64 t] [] (λv Γ=>∃l:Int,v=I l/\Γ=[]):=by
 intro z R w H;refine (Go.Proofs.Any.bits_Len (P:=prog) (ρ:=IX) {Ka with} t w a U).mono ?_;rintro e c ⟨rfl,rfl⟩;exact ⟨_,⟨_,Z,Z⟩,H⟩
def C9(vs:List Vl):List Vl:=vs.filter λe=>decide (e.st=1)
theorem liv_len(vs:List Vl):(C9 vs).length<=vs.length:=AfT _ _
theorem Pb{vs:List Vl}{e:Vl}(h:vs[i]?=some e):C9 (vs.take (i+1))=C9 (vs.take i)++if e.st=1 then [e] else []:=by
 rw[AeN,h];unfold C9;rw[AfN];by_cases q:e.st=1<;>simp[q]
theorem Acw(X:List Vl)(d:X.length<=12):Cn prog 171 [u,I 0,I (X.length:Int),I t,.func (.func 125) #[] #[]] [grow 77 6 u X.length (Bb X)] (λv Γ=>∃Y_:List Vl,(Y_.Perm X/\Y_.Pairwise (λa b=>a.id<=b.id))/\v=.tuple #[]/\Γ=[grow 77 6 u X.length (Bb Y_)]):=by
 intro z R w H;refine Ae func171 Z ntmps171 Z (Zc 11 Z (GI 2 (DF (Z1 16 [0] [(X.length:Int)] Z U (Af Z (λc=>?_) (λc=>?_))))))
 ·refine Zc 6 Z (Aq Z (call206 _) (Acu X d) H ?_);rintro _ w _ ⟨Y_,e,rfl,rfl⟩ H;refine Zc 3 Z (Zr Z ?_);exact ⟨_,⟨Y_,e,Z,Z⟩,H⟩
 (exfalso;omega)
theorem Aak(X:List Vl)(e:X.length<=12):Cn prog 124 [u,.func (.func 125) #[] #[]] [grow 77 6 u X.length (Bb X)] (λv Γ=>∃Y_:List Vl,(Y_.Perm X/\Y_.Pairwise (λa b=>a.id<=b.id))/\v=.tuple #[]/\Γ=[grow 77 6 u X.length (Bb Y_)]):=by
 intro z R w H;have c:=H.sy 0 (·.slc);refine Ae func124 Z ntmps124 Z (Zc 3 Z (Ab Z (Ed Z (sz:=6) J Z c) (Zc 7 Z (Ab Z (Ur Z J Z (r:=(X.length:Int)) (by simp[IntKind.wrap,IntKind.bits,IntKind.signed];omega)) (Aq Z (call172 _) (Acv U U) H ?_)))));rintro _ w _ ⟨d,rfl,rfl⟩ H;refine Zc 1 Z (Aq Z (call171 _) (Acw X e) H ?_);rintro _ w _ ⟨Y_,f,rfl,rfl⟩ H;refine Zc 1 Z (Zf Z ?_);exact ⟨_,⟨Y_,f,Z,Z⟩,H⟩
set_option maxHeartbeats 4000000 in
theorem Q5 {vs:List Vl} (hv:vs.length=8):Cn prog 75 [Y n] [voA n m t l vs] (λv Γ=>∃Y_:List Vl,(Y_.Perm (C9 vs)/\Y_.Pairwise (λa b=>a.id<=b.id))/\Γ=[grow 77 6 v (C9 vs).length (Bb Y_),voA n m t l vs]):=by
 intro z R w H;refine Ae func75 Z ntmps75 Z (Zc 12 Z ?_);obtain ⟨vv,p,H⟩:=H.vo;have y:=H.sy 1 (·.slc);obtain ⟨g,o,rfl⟩:=y;replace H:=(H.nilg 77 6).l4;refine Z2 11 [1,2,1,0] H Z ?_;refine AB (σ:=Nat×Value) (λ⟨i,u⟩=>[(12,I (i:Int)),(3,u),(2,.slice none 0 0),(10,.slice g vs.length o),(11,I (vs.length:Int))])
   (λ⟨i,u⟩ w=>Sep z (grow 77 6 u ((C9 (vs.take i)).length) (Bb (C9 (vs.take i)))::blk n [Y m,I t,.slice g vs.length o,p] 85::grow 77 6 (.slice g vs.length o) vs.length (Bb vs)::Cx p l::R) w/\(i<=vs.length)) (λ⟨i,u⟩=>vs.length-i) ⟨0,.slice none 0 0⟩
   (λ_ f=>(f.co Z (by go_num) f.cz)) ⟨(by simpa [C9,Bb] using H),AeO _⟩ ?_
 clear H;rintro ⟨i,u⟩ w ⟨c,hI⟩;dsimp only at hI c ⊢;have H:=c.l4;have su:=H.sy 0 (·.slc);have hi:=hI;clear hI;refine Z0 6 [0] Z (Af Z (λh1=>?_) (λh1=>?_))
 ·refine Zc 5 Z ?_;obtain ⟨e,s⟩:∃e,vs[i]?=some e:=⟨_,Aed U⟩;have h:=(H.rv 2 (·.rd)).at (AU s 0 _ Z)
  have a4:=liv_len (vs.take i);have a2:=List.length_take_le i vs;refine Zc 1 Z (Ab Z (Aj Z (z:=6) (j:=i) (r:=i*6) J Z Z Z U h U) (Ab Z (Bp Z Z (vs:=e.cells) J (by simp[Vl.cells]) (Ay (λk u hk=>(H.rv 2 (·.rd)).at (AU s k u hk)))) (Za 0 [] H Z ?_)));intro b1 w H;refine Z4 10 [0,1,0,0,0] H Z ?_;intro w H;refine Af Z (λh2=>?_) (λh2=>?_)
  ·refine Z2 3 [0,6] H Z (AR Z (AP H Z J Ch Z (by decide) (by decide) (out:=[I e.id,I e.st,I e.sz,I e.q,I e.r,I e.mp]) J) ?_);rintro _ w ⟨b2,rfl,H⟩;refine AR Z (A0 2 H Z Z J Ch Z Z (H.rv 0 (·.rd U U O Z)) (by simp[Value.oneCell']) U) ?_;rintro v3 w c;have c:Sep z (blk b2 [I e.id,I e.st,I e.sz,I e.q,I e.r,I e.mp] 77::blk b1 [I e.id,I e.st,I e.sz,I e.q,I e.r,I e.mp] 77::grow 77 6 v3 ((C9 (vs.take i)).length+1) (Bb (C9 (vs.take i))++[I e.id,I e.st,I e.sz,I e.q,I e.r,I e.mp])::blk n [Y m,I t,.slice g vs.length o,p] 85::grow 77 6 (.slice g vs.length o) vs.length (Bb vs)::Cx p l::R) w:=c
   have a1:(Bb (C9 (vs.take i))++[I e.id,I e.st,I e.sz,I e.q,I e.r,I e.mp]:List Value)=Bb (C9 (vs.take i)++[e]):=by rw[JF];rfl
   rw[a1] at c;have H:=c.l6;refine Z1 8 [] [(i:Int)+1] Z U ?_;replace H:=H.f1.d.d;refine gf ?_;intro _ f;refine ⟨⟨i+1,v3⟩,f.cz,⟨(by rw[Pb s,if_pos (by assumption),Aee];exact H),?_⟩,?_⟩
   ·show i+1<=vs.length;omega
   (dsimp only;omega)
  refine Z1 7 [] [(i:Int)+1] Z U ?_;replace H:=H.d;refine gf ?_;intro _ f;refine ⟨⟨i+1,u⟩,f.cz,⟨(by rw[Pb s,if_neg (by assumption),AeV];exact H),?_⟩,?_⟩
  ·show i+1<=vs.length;omega
  (dsimp only;omega)
 refine Zc 2 Z (gx (Zc 3 Z ?_));obtain rfl:i=vs.length:=by omega
 rw[Ae7] at H;rw[Ae7] at su;refine Zc 2 Z (Aq Z (call124 _) (Aak (C9 vs) (by have:=liv_len vs;omega)) H ?_);rintro _ w _ ⟨Y_,⟨x,a0⟩,rfl,rfl⟩ H;refine Zc 9 Z (Zr Z ?_);exact ⟨_,⟨Y_,⟨x,a0⟩,Z⟩,((H.pick 4 [1,2,3,0] Z).toVo).pick 2 [1,0] Z⟩
def Wv.cells(x:Wv):List Value:=[.int .i64 x.id,.int .i64 x.sz,.int .i64 x.q,x.u]
def Bq(W:List Wv):List Value:=W.flatMap Wv.cells
theorem HX(A B:List Wv):Bq (A++B)=Bq A++Bq B:=Af1
theorem Aal(W:List Wv):(Bq W).length=W.length*4:=by
 induction W with
 | nil=>rfl
 | cons x t ih=>simp only[Bq,AeG,Aee,Aeg] at ih ⊢;rw[ih];simp[Wv.cells];omega
theorem Bx:∀{W:List Wv} {j:Nat} {x:Wv},W[j]?=some x->∀k u,(Wv.cells x)[k]?=some u->(Bq W)[j*4+k]?=some u
 | y::t,0,x,h,k,u,hk=>by
  simp at h;subst h;have hl:k<(Wv.cells y).length:=(Aeb.1 hk).1;show (Wv.cells y++Bq t)[0*4+k]?=_;rw[Nat.zero_mul,AfM,Aem hl];exact hk
 | y::t,j+1,x,h,k,u,hk=>by
  have ih:=Bx (W:=t) (j:=j) (x:=x) (by simpa using h) k u hk;show (Wv.cells y++Bq t)[(j+1)*4+k]?=_;rw[Aes (by simp[Wv.cells];omega)];rw[<-ih];congr 1;simp[Wv.cells];omega
def wdA(pw:Nat)(wn:Int)(W:List Wv):Ai:=λh=>∃u:Value,True/\seps [blk pw [u,.int .i64 wn] 31,grow 40 4 u W.length (Bq W)] h
theorem Sep.wd{w:World}(H:Sep z (wdA n t W::Γ) w):∃u:Value,Sep z (YtemljpjnhjnncaaGreatDoor.blk n [u,I t] 31::YtemljpjnhjnncaaGreatDoor.grow 40 4 u W.length (Bq W)::Γ) w:=by
 obtain ⟨u,_,H⟩:=H.into (p:=λ_:Value=>True) (As:=λu=>[YtemljpjnhjnncaaGreatDoor.blk n [u,I t] 31,YtemljpjnhjnncaaGreatDoor.grow 40 4 u W.length (Bq W)]) (λ_ q=>q);exact ⟨u,H⟩
theorem Sep.toWd{w:World}(H:Sep z (YtemljpjnhjnncaaGreatDoor.blk n [u,I t] 31::YtemljpjnhjnncaaGreatDoor.grow 40 4 u W.length (Bq W)::Γ) w):Sep z (wdA n t W::Γ) w:=H.made 2 (λh q=>⟨u,trivial,q⟩)
theorem HY(id:Int)(a0:W.length<=64):Cn prog 49 [Y n,I id] [wdA n t W] (λv Γ=>(∃(j:Nat) (x:Wv),(W[j]?=some x/\x.id=id)/\v=I (j:Int)/\Γ=[wdA n t W])\/((∀x∈W,x.id≠id)/\v=I (-1)/\Γ=[wdA n t W])):=by
 intro z R w H;obtain ⟨uw,H⟩:=H.wd;have d:=H.sy 1 (·.slc);obtain ⟨o,m,rfl⟩:=d;have s:=H.sy 1 (·.rd.slcapZ);refine Ae func49 Z ntmps49 Z (Zc 12 Z ?_);refine AB (σ:=Nat) (λi=>[(5,I (i:Int)),(0,Y n),(1,I id)])
   (λi w=>Sep z (blk n [.slice o W.length m,I t] 31::grow 40 4 (.slice o W.length m) W.length (Bq W)::R) w/\(i<=W.length/\∀(j:Nat) (x:Wv),j<i->W[j]?=some x->x.id≠id)) (λi=>W.length-i) 0
   fr_z ⟨H,⟨AeO _,λj e h=>by omega⟩⟩ ?_
 clear H;rintro i w ⟨H',u⟩;have H:=H'.l2;obtain ⟨hi,c⟩:=u;refine Z2 12 [0,0,0,0] H Z (Af Z (λp=>?_) (λp=>?_))
 ·refine Zc 5 Z ?_;obtain ⟨x,f⟩:∃x,W[i]?=some x:=⟨_,Aed U⟩;have a:=(H.rv 1 (·.rd)).at (Bx f 0 _ Z)
  refine Z2 6 [0,0,0] H Z (Ab Z (Aj Z (z:=4) (j:=i) (r:=i*4) J Z Z Z U a U) (Ab Z (Bm Z (k:=0) (r:=i*4) J Z a Z) (Ab Z (Ax Z Z J (Ay a)) (Z0 4 [0] Z (Af Z (λy=>?_) (λy=>?_))))))
  ·refine Zc 7 Z (Zr Z ?_);exact ⟨_,.inl ⟨i,x,⟨f,by assumption⟩,Z,Z⟩,(H.pick 2 [0,1] Z).toWd⟩
  refine Z1 8 [] [(i:Int)+1] Z U (gf ?_);intro _ hF;refine ⟨(i+1),hF.cz,⟨H,?_⟩,?_⟩
  ·refine ⟨by omega,λj g l b=>?_⟩;rcases Aeq j i with q|q
   ·exact c j g q b
   obtain rfl:j=i:=by omega
   rw[f] at b;cases b;omega
  omega
 refine Zc 2 Z (gx (Zc 8 Z (Zr Z ?_)));exact ⟨_,.inr ⟨λg b=>(by obtain ⟨j,l⟩:=AeY.1 b;exact c j g (by have:=(Aeb.1 l).1;omega) l),Z,Z⟩,(H.pick 2 [0,1] Z).toWd⟩
theorem Mi{a:Int}(l:W.length<=64)(h:∀x∈W,1<=x.sz/\x.sz<=1048576)(a2: -9223372036854775808<=p/\p<=9223372036854775807)(a3: -9223372036854775808<=a/\a<=9223372036854775807):Cn prog 67 [Y n,I s,I p,I a,.bool b] [wdA n t W] (λv Γ=>((∀x∈W,x.id≠s)/\v=.tuple #[I 0,I 31]/\Γ=[wdA n t W])\/(∃(j:Nat) (x:Wv),(W[j]?=some x/\x.id=s)/\v=.tuple #[I (if Bn x.sz b p a=0 then (j:Int) else 0),I (Bn x.sz b p a)]/\Γ=[wdA n t W])):=by
 intro z R w H;refine Ae func67 Z ntmps67 Z (Zc 10 Z (Aq Z (call49 _) (HY s l) H ?_));rintro _ w _ (⟨j,x,⟨f,c⟩,rfl,rfl⟩|⟨m,rfl,rfl⟩) u
 ·have H:=u.l1;refine Z0 10 [0] Z (Af Z (λh1=>U) (λh1=>?_))
  refine Zc 8 Z (FO 20 Z (λh2=>?_) (λh2=>?_))
  ·refine Zc 17 Z (Zr Z ?_);have e:Bn x.sz b p a=1:=by unfold Bn;rw[if_neg (λq=>by first|omega|(obtain ⟨o,_⟩:=q;simp_all))]
   exact ⟨_,.inr ⟨j,x,⟨f,c⟩,by rw[e];rfl,Z⟩,H.pick 1 [0] Z⟩
  refine Z0 4 [0] Z (Al 24 Z (λh3=>?_) (λh3=>?_))
  ·refine Zc 13 Z (Zr Z ?_);have e:Bn x.sz b p a=1:=by unfold Bn;rw[if_neg (λq=>by first|omega|(obtain ⟨o,_⟩:=q;simp_all))]
   exact ⟨_,.inr ⟨j,x,⟨f,c⟩,by rw[e];rfl,Z⟩,H.pick 1 [0] Z⟩
  refine Z0 5 [0] Z (Af Z (λh4=>?_) (λh4=>?_))
  ·refine Zc 7 Z (Zr Z ?_);have e:Bn x.sz b p a=1:=by unfold Bn;rw[if_neg (λq=>by first|omega|(obtain ⟨o,_⟩:=q;simp_all))]
   exact ⟨_,.inr ⟨j,x,⟨f,c⟩,by rw[e];rfl,Z⟩,H.pick 1 [0] Z⟩
  refine Zc 4 Z ?_;obtain ⟨uw,H⟩:=H.wd;have i:=H.sy 1 (·.slc);obtain ⟨aw,cw,rfl⟩:=i;have a0:=(Aeb.1 f).1;have d:=(H.rv 1 (·.rd)).at (Bx f 0 _ Z);have g:=(H.rv 1 (·.rd)).at (Bx f 1 _ Z);have y:=h x (Aec f);refine Z0 4 [0] Z (Al 30 Z (λh5=>?_) (λh5=>?_))
  ·refine Zc 35 Z (Zr Z ?_);have e:Bn x.sz b p a=34:=by unfold Bn;rw[if_pos ⟨by first|assumption|simp_all,by omega,by omega⟩,if_neg U]
   exact ⟨_,.inr ⟨j,x,⟨f,c⟩,by rw[e];rfl,Z⟩,(H.pick 2 [0,1] Z).toWd⟩
  refine Z2 6 [0,0,0] H Z (Ab Z (Aj Z (z:=4) (j:=j) (r:=j*4) J Z Z Z U d U) (Ab Z (Bm Z (k:=1) (r:=j*4+1) J Z d Z) (Ab Z (Ax Z Z J (Ay g)) (Z0 3 [0] Z (Al 42 Z (λh6=>?_) (λh6=>?_))))))
  ·refine Zc 23 Z (Zr Z ?_);have e:Bn x.sz b p a=34:=by unfold Bn;rw[if_pos ⟨by first|assumption|simp_all,by omega,by omega⟩,if_neg U]
   exact ⟨_,.inr ⟨j,x,⟨f,c⟩,by rw[e];rfl,Z⟩,(H.pick 2 [0,1] Z).toWd⟩
  refine Z2 6 [0,0,0] H Z (Ab Z (Aj Z (z:=4) (j:=j) (r:=j*4) J Z Z Z U d U) (Ab Z (Bm Z (k:=1) (r:=j*4+1) J Z d Z) (Ab Z (Ax Z Z J (Ay g)) (Z1 6 [0] [x.sz-p] Z U (Af Z (λh7=>?_) (λh7=>?_))))))
  ·refine Zc 7 Z (Zr Z ?_);have e:Bn x.sz b p a=34:=by unfold Bn;rw[if_pos ⟨by first|assumption|simp_all,by omega,by omega⟩,if_neg U]
   exact ⟨_,.inr ⟨j,x,⟨f,c⟩,by rw[e];rfl,Z⟩,(H.pick 2 [0,1] Z).toWd⟩
  refine Zc 10 Z (Zr Z ?_);have e:Bn x.sz b p a=0:=by unfold Bn;rw[if_pos ⟨by first|assumption|simp_all,by omega,by omega⟩,if_pos U]
  exact ⟨_,.inr ⟨j,x,⟨f,c⟩,by rw[e];rfl,Z⟩,(H.pick 2 [0,1] Z).toWd⟩
 have H:=u.l1;refine Z0 18 [3] Z (Zr Z ?_);exact ⟨_,.inl ⟨m,Z,Z⟩,H.pick 1 [0] Z⟩
set_option maxHeartbeats 6000000 in
theorem Q6 (b7:W.length<=64) (A:Ai) (a8:∀x∈W,InB A x.u x.V) (a0:∀x∈W,x.V.length<=1048576):Cn prog 9 [Y n] [wdA n t W,A] (λv Γ=>∃(b:Nat) (W2:List Wv) (A2:Ai),(W2.map Wv.core=W.map Wv.core/\Ink A A2/\∀x∈W2,InB A2 x.u x.V)/\v=Y b/\Γ=[wdA n t W,wdA b t W2,A2]):=by
 intro z R w H;replace H:=H.l2;refine Ae func9 Z ntmps9 Z (Zc 6 Z ?_);obtain ⟨uw,H⟩:=H.wd;replace H:=H.l3;have a5:=H.sy 1 (·.slc);obtain ⟨s,o,rfl⟩:=a5;have b3:=H.sy 1 (·.rd.slcapZ);refine Za 6 [1,0,0] H Z ?_;intro p w H;refine Zc 5 Z ?_;replace H:=(H.nilg 40 4).l5;refine Zc 5 Z ?_;refine AB (σ:=Nat×List Wv×Value×Ai) (λ⟨i,W2,u2,AA⟩=>[(4,I (i:Int)),(0,Y n),(2,.pointer none),(3,Y p)])
   (λ⟨i,W2,u2,AA⟩ w=>Sep z (grow 40 4 u2 W2.length (Bq W2)::blk p [u2,I t] 31::blk n [.slice s W.length o,I t] 31::grow 40 4 (.slice s W.length o) W.length (Bq W)::AA::R) w/\(i<=W.length/\W2.map Wv.core=(W.take i).map Wv.core/\Ink A AA/\∀x∈W2,InB AA x.u x.V)) (λ⟨i,W2,u2,AA⟩=>W.length-i) ⟨0,[],.slice none 0 0,A⟩
   fr_z ⟨(by simpa [Bq] using H),⟨AeO _,by simp,Ink.refl A,by simp⟩⟩ ?_
 clear H;rintro ⟨i,W2,u2,AA⟩ w ⟨e,hI⟩;dsimp only at hI e ⊢;have H:=e.l5;obtain ⟨hi,g,hK,a4⟩:=hI;have b6:W2.length=i:=by have:=congrArg List.length g;simp only[Aef,Aex] at this;omega
 have a2:∀x∈W,InB AA x.u x.V:=λx f=>hK _ _ (a8 x f);refine Z2 12 [0,2,0,0] H Z (Af Z (λh1=>?_) (λh1=>?_))
 ·refine Zc 5 Z ?_;obtain ⟨⟨xi,xs,xq,xu,a⟩,f⟩:∃x:Wv,W[i]?=some x:=⟨_,Aed U⟩;have a1:InB AA xu a:=a2 _ (Aec f)
  have a6:=H.sy 4 (λq=>(a1 _ q).slc);have l:=(H.rv 3 (·.rd)).at (Bx f 0 _ Z);refine Z2 6 [0,2,0] H Z (Ab Z (Aj Z (z:=4) (j:=i) (r:=i*4) J Z Z Z U l U) (Ab Z (Bp Z Z (vs:=[I xi,I xs,I xq,xu]) J O (Ay (λk u hk=>(H.rv 3 (·.rd)).at (Bx f k u hk)))) (Za 0 [] H Z ?_)));intro b2 w H;refine Az Z Z (Ak 0 H Z Z Z Z (vs:=[I xi,I xs,I xq,xu]) Z (Ad Z (Ad Z (Ad Z (Ad a6.one Aw)))) J O (out:=[I xi,I xs,I xq,xu]) Z) ?_;rintro w H;replace H:=H.l6;refine Zc 8 Z ?_;have b0:a.length<=1048576:=a0 _ (Aec f);refine Z2 4 [3,0,0] H Z ?_;replace H:=(H.nilg 90 2).l7;refine AR Z (A0 0 H Z Z J A4 Z Z (H.rv 6 (a1 _)) (Gx) U) ?_;rintro c w e;have a9:([]++BY a:List Value)=BY a:=by simp
  rw[a9] at e;rw[show (0+a.length:Nat)=a.length from by omega] at e;have H:=e.l7;have m:=H.sy 0 (·.slc);refine Z0 7 [3] Z (Az Z Z (Nw 1 H Z Z Z Z m.cells m.one J) ?_);rintro w H;replace H:=H.l7;refine Zc 2 Z ?_;replace H:=H.f1.f3;refine Bh (Sep z (blk p [u2,I t] 31::blk b2 [I xi,I xs,I xq,c] 40::R)) 11 Z J (AZ H λw e=>?_);have H:=e.l7;refine Bu [0,1,2,3,4] [0,0] J (λ_ f=>(AO (f.blk 0 Z) AM)) (by exact H.pick 7 [0,1] Z) Z J Z Z (BJ 5 J Z Z J J J Z Z Z (BU Z Z (vs:=[I xi,I xs,I xq,c]) J (λ_ f=>(f.blk 1 Z).part 0 4 _ Z)) (H.pick 7 [0,1] Z) (AE [6] J O (Am (Ca Z Z Z Z (AP H Z J BQ Z (by decide) (by decide) (out:=[I xi,I xs,I xq,c]) J) ?_))));rintro _ w ⟨b4,rfl,H⟩;replace H:=H.l8;refine Ar (λ_=>(H.pick 8 [1,2] Z)) (AE [7] J O (Am (Ca Z Z Z Z (A0 4 H Z Z J BQ Z Z (H.rv 0 (·.rd U U O Z)) (Ad Z (Ad Z (Ad Z (Ad m.one Aw)))) U) ?_)));rintro v5 w e;have e:Sep z (blk b4 [I xi,I xs,I xq,c] 40::blk p [u2,I t] 31::blk b2 [I xi,I xs,I xq,c] 40::grow 90 2 c a.length (BY a)::grow 40 4 v5 (W2.length+1) (Bq W2++[I xi,I xs,I xq,c])::blk n [.slice s W.length o,I t] 31::grow 40 4 (.slice s W.length o) W.length (Bq W)::AA::R) w:=e;have a7:(Bq W2++[I xi,I xs,I xq,c]:List Value)=Bq (W2++[(⟨xi,xs,xq,c,a⟩:Wv)]):=(by rw[HX];rfl);rw[a7] at e;rw[show (W2.length+1:Nat)=(W2++[(⟨xi,xs,xq,c,a⟩:Wv)]).length from by simp] at e;have H:=e.l8;have a3:=H.sy 4 (·.slc);refine Ar (λ_=>(H.pick 8 [1,2] Z)) (Bu [8,9] [0] J (λ_ _=>AM) (by exact H.pick 8 [1,2] Z) Z J Z Z (AE [10] J O (Am (Bi Z Z Z (Lp 1 H Z Z Z Z a3.cells a3.one J) ?_))));rintro w H;replace H:=H.l8;refine Ar (λh=>absurd Z h) (Bj J (gn (Zc 2 Z ?_)));have e:=(H.pick 8 [3,7,0,1,2,4,5,6] Z).made 2 (A:=both (grow 90 2 c a.length (BY a)) AA) (λh q=>q);clear H;have H:Sep z (both (grow 90 2 c a.length (BY a)) AA::blk b4 [I xi,I xs,I xq,c] 40::blk p [v5,I t] 31::blk b2 [I xi,I xs,I xq,c] 40::grow 40 4 v5 ((W2++[(⟨xi,xs,xq,c,a⟩:Wv)]).length) (Bq (W2++[(⟨xi,xs,xq,c,a⟩:Wv)]))::blk n [.slice s W.length o,I t] 31::grow 40 4 (.slice s W.length o) W.length (Bq W)::R) w:=e;clear e;refine Z1 5 [] [(i:Int)+1] Z U ?_;replace H:=H.f3.d.f1.d.f4.f4.f3.f4;refine gf ?_;intro _ hF;refine ⟨⟨i+1,W2++[⟨xi,xs,xq,c,a⟩],v5,both (grow 90 2 c a.length (BY a)) AA⟩,hF.cz,⟨H,?_⟩,?_⟩
  ·exact ⟨by show i+1<=W.length;omega,by rw[AeH,g,AeN,f];simp[Wv.core],hK.trans (Ink.both _ AA),λy hy=>by rcases Aep.1 hy with q|q;exact InB.old (a4 y q);simp at q;subst q;exact InB.grow⟩
  (dsimp only;omega)
 refine Zc 2 Z (gx (Zc 9 Z (Zr Z ?_)));obtain rfl:i=W.length:=by omega
 rw[Ae7] at g;have H9:=(H.pick 5 [1,0,2,3,4] Z).toWd;exact ⟨_,⟨p,W2,AA,⟨g,hK,a4⟩,Z,Z⟩,((H9.pick 4 [1,2,0,3] Z).toWd)⟩
theorem InB.nilB :InB A (.slice none 0 0) []:=λh _=>rdH.nil 2 h
theorem Q7(h:∀x∈W,x.u.oneCell'=true):∀c∈Bq W,c.oneCell'=true:=λc a=>by
 obtain ⟨x,b,a⟩:=Agg.1 a;simp only[Wv.cells,Aen,List.not_mem_nil,or_false] at a;rcases a with rfl|rfl|rfl|rfl
 ·rfl
 ·rfl
 ·rfl
 exact h x b
theorem wdC_drop:∀(L:List Wv) (p:Nat),(Bq L).drop (p*4)=Bq (L.drop p)
 | L,0=>by simp
 | [],p+1=>by simp[Bq]
 | x::L,p+1=>by
  have e1:Bq (x::L)=I x.id::I x.sz::I x.q::x.u::Bq L:=rfl;rw[e1,show (p+1)*4=p*4+4 by omega];simp only[Ae3];exact wdC_drop L p
theorem Pd:∀(L:List Wv) (p:Nat),(Bq L).take (p*4)=Bq (L.take p)
 | L,0=>by simp[Bq]
 | [],p+1=>by simp[Bq]
 | x::L,p+1=>by
  have e1:Bq (x::L)=I x.id::I x.sz::I x.q::x.u::Bq L:=rfl;rw[e1,show (p+1)*4=p*4+4 by omega];simp only[Ae5,Pd L p];rfl
theorem rdH.cutW{a:Option Addr}{c p:Nat}{L:List Wv}(r:rdH 4 (.slice a n c) n (Bq L) h)(b:p+m<=n)(d:n<=c):rdH 4 (.slice (YtemljpjnhjnncaaGreatDoor.cutZ 4 a c p) m (c-p)) m (Bq ((L.drop p).take m)) h:=by
 have:=r.cutZ U b d;rwa[wdC_drop,Pd] at this
set_option maxHeartbeats 4000000 in
theorem Q8 (e:Nat) (a:Int) (W:List Wv) (a3:0<=a/\a<=1073741824) (a2:W.length<=64) (A:Ai) (xs xq:Int) (r:Value) (b:List Bk) (i:InB A r b) (s:b.length<=1048576):Cn prog 50 [Y e,.agg #[I t,I xs,I xq,r]] [wdA e a W,A] (λv Γ=>(8<=W.length/\v=.tuple #[I 0,I 32]/\Γ=[wdA e a W,A])\/((W.length<8/\1073741824<=a)/\v=.tuple #[I 0,I 15]/\Γ=[wdA e a W,A])\/((W.length<8/\a<1073741824)/\∃(u2:Value) (A2:Ai),(Ink A A2/\InB A2 u2 b)/\v=.tuple #[I a,I 0]/\Γ=[wdA e (a+1) (W++[⟨a,xs,xq,u2,b⟩]),A2])):=by
 intro z R w H;replace H:=H.l2;obtain ⟨uw,H⟩:=H.wd;replace H:=H.l3;have l:=H.sy 1 (·.slc);obtain ⟨k,j,rfl⟩:=l;refine Ae func50 Z ntmps50 Z (Za 2 [] H Z ?_);intro n w H;refine Z2 15 [0,1,0,0] H Z (Af Z (λu=>?_) (λu=>?_))
 ·refine Zc 7 Z (Zr Z ?_);exact ⟨_,.inl ⟨by omega,Z,Z⟩,(H.pick 4 [1,2,3] Z).toWd⟩
 refine Z2 12 [1,1,0,0] H Z (Af Z (λh2=>?_) (λh2=>?_))
 ·refine Zc 7 Z (Zr Z ?_);exact ⟨_,.inr (.inl ⟨⟨by omega,by omega⟩,Z,Z⟩),(H.pick 4 [1,2,3] Z).toWd⟩
 refine Z4 22 [1,1,0,0,0,3,0,0] H Z ?_;intro w H;replace H:=(H.nilg 90 2).l5;refine AR Z (A0 0 H Z Z J A4 Z Z (H.rv 4 (i _)) (Gx) U) ?_;rintro d w c;have p:([]++BY b:List Value)=BY b:=by simp
 rw[p] at c;rw[show (0+b.length:Nat)=b.length from by omega] at c;have H:=c.l5;have f:=H.sy 0 (·.slc);refine Z0 7 [3] Z (Az Z Z (Nw 1 H Z Z Z Z f.cells f.one J) ?_);rintro w H;replace H:=H.l5;refine Zc 3 Z ?_;have c:=(H.pick 5 [0,4,1,2,3] Z).made 2 (A:=both (grow 90 2 d b.length (BY b)) A) (λh q=>q);clear H;have H:Sep z (both (grow 90 2 d b.length (BY b)) A::blk n [I a,I xs,I xq,d] 40::blk e [.slice k W.length j,I a] 31::grow 40 4 (.slice k W.length j) W.length (Bq W)::R) w:=c;clear c;replace H:=H.f1.f2;refine Bh (Sep z (blk e [.slice k W.length j,I a] 31::blk n [I a,I xs,I xq,d] 40::R)) 11 Z J (AZ H λw c=>?_);have H:=c.l4;refine Bu [0,1,2,3,4] [0,0] J (λ_ m=>(AO (m.blk 0 Z) AM)) (by exact H.pick 4 [0,1] Z) Z J Z Z (BJ 5 J Z Z J J J Z Z Z (BU Z Z (vs:=[I a,I xs,I xq,d]) J (λ_ m=>(m.blk 1 Z).part 0 4 _ Z)) (H.pick 4 [0,1] Z) (AE [6] J O (Am (Ca Z Z Z Z (AP H Z J BQ Z (by decide) (by decide) (out:=[I a,I xs,I xq,d]) J) ?_))));rintro _ w ⟨x,rfl,H⟩;replace H:=H.l5;refine Ar (λ_=>(H.pick 5 [1,2] Z)) (AE [7] J O (Am (Ca Z Z Z Z (A0 4 H Z Z J BQ Z Z (H.rv 0 (·.rd U U O Z)) (Ad Z (Ad Z (Ad Z (Ad f.one Aw)))) U) ?_)));rintro y w c;have c:Sep z (blk x [I a,I xs,I xq,d] 40::blk e [.slice k W.length j,I a] 31::blk n [I a,I xs,I xq,d] 40::both (grow 90 2 d b.length (BY b)) A::grow 40 4 y (W.length+1) (Bq W++[I a,I xs,I xq,d])::R) w:=c;have o:(Bq W++[I a,I xs,I xq,d]:List Value)=Bq (W++[(⟨a,xs,xq,d,b⟩:Wv)]):=(by rw[HX];rfl);rw[o] at c;rw[show (W.length+1:Nat)=(W++[(⟨a,xs,xq,d,b⟩:Wv)]).length from by simp] at c;have H:=c.l5;have g:=H.sy 4 (·.slc);refine Ar (λ_=>(H.pick 5 [1,2] Z)) (Bu [8,9] [0] J (λ_ _=>AM) (by exact H.pick 5 [1,2] Z) Z J Z Z (AE [10] J O (Am (Bi Z Z Z (Lp 1 H Z Z Z Z g.cells g.one J) ?_))));rintro w H;replace H:=H.l5;refine Ar (λh=>absurd Z h) (Bj J (gn (Z5 22 [1,1,0,1,1,0,2,0] [a+1] H Z U ?_)));intro w H;refine Zr Z ?_;exact ⟨_,.inr (.inr ⟨⟨by omega,by omega⟩,_,_,⟨Ink.both _ A,InB.grow⟩,Z,Z⟩),(H.pick 5 [1,4,3] Z).toWd⟩
theorem Uh(k:0<=t/\t<=1073741824)(j:W.length<=64)(b a:Int):Cn prog 24 [Y n,I b,I a] [wdA n t W,A] (λv Γ=>(¬((1<=b/\b<=1048576)/\0<=a/\a<=1048576)/\v=.tuple #[I 0,I 1]/\Γ=[wdA n t W,A])\/(((1<=b/\b<=1048576)/\0<=a/\a<=1048576)/\((8<=W.length/\v=.tuple #[I 0,I 32]/\Γ=[wdA n t W,A])\/((W.length<8/\1073741824<=t)/\v=.tuple #[I 0,I 15]/\Γ=[wdA n t W,A])\/((W.length<8/\t<1073741824)/\∃(u2:Value) (A2:Ai),(Ink A A2/\InB A2 u2 [])/\v=.tuple #[I t,I 0]/\Γ=[wdA n (t+1) (W++[⟨t,b,a,u2,[]⟩]),A2])))):=by
 intro z R w H;refine Ae func24 Z ntmps24 Z (Z0 12 [0] Z (Al 10 Z (λl=>?_) (λl=>?_)))
 ·refine Zc 21 Z (Zr Z ?_);exact ⟨_,.inl ⟨by omega,Z,Z⟩,H.pick 2 [0,1] Z⟩
 refine Z0 4 [0] Z (Al 14 Z (λm=>?_) (λm=>?_))
 ·refine Zc 17 Z (Zr Z ?_);exact ⟨_,.inl ⟨by omega,Z,Z⟩,H.pick 2 [0,1] Z⟩
 refine Z0 4 [0] Z (Al 18 Z (λo=>?_) (λo=>?_))
 ·refine Zc 13 Z (Zr Z ?_);exact ⟨_,.inl ⟨by omega,Z,Z⟩,H.pick 2 [0,1] Z⟩
 refine Z0 5 [0] Z (Af Z (λp=>?_) (λp=>?_))
 ·refine Zc 7 Z (Zr Z ?_);exact ⟨_,.inl ⟨by omega,Z,Z⟩,H.pick 2 [0,1] Z⟩
 refine Zc 8 Z (Aq Z (call50 _) (Q8 n t W k j A b a (.slice none 0 0) [] InB.nilB O) H ?_);rintro _ w _ (⟨f,rfl,rfl⟩|⟨⟨g,c⟩,rfl,rfl⟩|⟨⟨d,e⟩,u2,A2,h,rfl,rfl⟩) i
 ·have H:=i.l2;refine Zc 7 Z (Zr Z ?_);exact ⟨_,.inr ⟨by omega,.inl ⟨f,Z,Z⟩⟩,H.pick 2 [0,1] Z⟩
 ·have H:=i.l2;refine Zc 7 Z (Zr Z ?_);exact ⟨_,.inr ⟨by omega,.inr (.inl ⟨⟨g,c⟩,Z,Z⟩)⟩,H.pick 2 [0,1] Z⟩
 have H:=i.l2;refine Zc 7 Z (Zr Z ?_);exact ⟨_,.inr ⟨by omega,.inr (.inr ⟨⟨d,e⟩,u2,A2,h,Z,Z⟩)⟩,H.pick 2 [0,1] Z⟩
theorem Aam(a4:0<=t/\t<=1073741824)(id:Int)(o:W.length<=64)(a2:∀x∈W,InB A x.u x.V)(f:∀x∈W,x.V.length<=1048576):Cn prog 16 [Y n,I id] [wdA n t W,A] (λv Γ=>((∀x∈W,x.id≠id)/\v=.tuple #[I 0,I 31]/\Γ=[wdA n t W,A])\/(∃(j:Nat) (x:Wv),(W[j]?=some x/\x.id=id)/\((8<=W.length/\v=.tuple #[I 0,I 32]/\Γ=[wdA n t W,A])\/((W.length<8/\1073741824<=t)/\v=.tuple #[I 0,I 15]/\Γ=[wdA n t W,A])\/((W.length<8/\t<1073741824)/\∃(u2:Value) (A2:Ai),(Ink A A2/\InB A2 u2 x.V)/\v=.tuple #[I t,I 0]/\Γ=[wdA n (t+1) (W++[⟨t,x.sz,x.q,u2,x.V⟩]),A2])))):=by
 intro z R w H;refine Ae func16 Z ntmps16 Z (Zc 10 Z (Aq Z (call49 _) (HY id o) H ?_));rintro _ w _ (⟨j,x,⟨b,a⟩,rfl,rfl⟩|⟨a5,rfl,rfl⟩) d
 ·have H:=d.l2;refine Z0 10 [0] Z (Af Z (λh1=>U) (λh1=>?_))
  refine Zc 3 Z ?_;obtain ⟨uw,H⟩:=H.wd;have a0:=H.sy 1 (·.slc);obtain ⟨aw,cw,rfl⟩:=a0;obtain ⟨xi,xs,xq,s,xV⟩:=x;have i:InB A s xV:=a2 _ (Aec b);have p:xV.length<=1048576:=f _ (Aec b);have c:=(H.rv 1 (·.rd)).at (Bx b 0 _ Z);have a6:=(Aeb.1 b).1;refine Z2 7 [0,0,0] H Z (Ab Z (Aj Z (z:=4) (j:=j) (r:=j*4) J Z Z Z U c U) (Ab Z (Bp Z Z (vs:=[I xi,I xs,I xq,s]) J O (Ay (λk u hk=>(H.rv 1 (·.rd)).at (Bx b k u hk)))) ?_));replace H:=((H.pick 3 [0,1,2] Z).toWd).l2;refine Aq Z (call50 _) (Q8 n t W a4 o A xs xq s xV i p) H ?_;rintro _ w _ (⟨h,rfl,rfl⟩|⟨⟨e,l⟩,rfl,rfl⟩|⟨⟨m,g⟩,u2,A2,y,rfl,rfl⟩) d
  ·have H:=d.l2;refine Zc 7 Z (Zr Z ?_);exact ⟨_,.inr ⟨j,_,⟨b,a⟩,.inl ⟨h,Z,Z⟩⟩,H.pick 2 [0,1] Z⟩
  ·have H:=d.l2;refine Zc 7 Z (Zr Z ?_);exact ⟨_,.inr ⟨j,_,⟨b,a⟩,.inr (.inl ⟨⟨e,l⟩,Z,Z⟩)⟩,H.pick 2 [0,1] Z⟩
  have H:=d.l2;refine Zc 7 Z (Zr Z ?_);exact ⟨_,.inr ⟨j,_,⟨b,a⟩,.inr (.inr ⟨⟨m,g⟩,u2,A2,y,Z,Z⟩)⟩,H.pick 2 [0,1] Z⟩
 have H:=d.l2;refine Z0 18 [3] Z (Zr Z ?_);exact ⟨_,.inl ⟨a5,Z,Z⟩,H.pick 2 [0,1] Z⟩
set_option maxHeartbeats 4000000 in
theorem Acx (id:Int) (i:W.length<=64) (b:∀x∈W,x.u.oneCell'=true):Cn prog 30 [Y n,I id] [wdA n t W] (λv Γ=>((∀x∈W,x.id≠id)/\v=I 31/\Γ=[wdA n t W])\/(∃(j:Nat) (x:Wv),(W[j]?=some x/\x.id=id)/\v=I 0/\Γ=[wdA n t (W.take j++W.drop (j+1))])):=by
 intro z R w H;refine Ae func30 Z ntmps30 Z (Zc 9 Z (Aq Z (call49 _) (HY id i) H ?_));rintro _ w _ (⟨j,x,⟨o,d⟩,rfl,rfl⟩|⟨k,rfl,rfl⟩) a
 ·have H:=a.l1;refine Z0 10 [0] Z (Af Z (λs=>U) (λs=>?_))
  refine Zc 3 Z ?_;obtain ⟨uw,H⟩:=H.wd;have f:=H.sy 1 (·.slc);obtain ⟨r,e,rfl⟩:=f;have a0:=H.sy 1 (·.rd.slcapZ);have a2:=(Aeb.1 o).1;refine Z2 12 [0,0,0] H Z (Ab Z (FV (z:=4) (p:=0) (q:=j) (l':=j) (c':=e) Z J Z (.inl ⟨Z,Z⟩) (.inr ⟨_,_,_,Z,Z,Z⟩) U U Z Z) ?_);replace H:=(H.nilg 40 4).l3;refine AR Z (A0 0 H Z Z J BQ Z Z (H.rv 2 (·.rd.cutW U U)) (Q7 (λy g=>b y (Afu (Afg g)))) U) ?_;rintro v1 w a;have m:([]++Bq ((W.drop 0).take j):List Value)=Bq (W.take j):=by simp
  rw[m] at a;rw[show (0+j:Nat)=j from by omega] at a;have H:=a.l3;refine Z3 12 [0,1,0] [((j+1:Nat):Int)] H Z U (Ab Z (FV (z:=4) (p:=(j+1)) (q:=W.length) (l':=W.length-(j+1)) (c':=e-(j+1)) Z J Z (.inr ⟨_,_,_,Z,Z,U⟩) (.inl ⟨Z,Z⟩) U U Z Z) (AR Z (A0 0 H Z Z J BQ Z Z (H.rv 2 (·.rd.cutW U U)) (Q7 (λy g=>b y (Afu (Afg g)))) U) ?_));rintro v2 w a;have a:Sep z (grow 40 4 v2 (j+(W.length-(j+1))) (Bq (W.take j)++Bq ((W.drop (j+1)).take (W.length-(j+1))))::blk n [.slice r W.length e,I t] 31::grow 40 4 (.slice r W.length e) W.length (Bq W)::R) w:=a;have h:(Bq (W.take j)++Bq ((W.drop (j+1)).take (W.length-(j+1))):List Value)=Bq (W.take j++W.drop (j+1)):=(by rw[HX,Aej (l:=W.drop (j+1)) (by rw[AeM];omega)]);rw[h] at a;rw[show (j+(W.length-(j+1)):Nat)=(W.take j++W.drop (j+1)).length from by simp only[Aee,Aex,AeM];omega] at a;have H:=a.l3;have c:=H.sy 0 (·.slc);refine Z0 9 [0] Z (Az Z Z (Lp 1 H Z Z Z Z c.cells c.one J) ?_);rintro w H;refine Zc 8 Z (Zr Z ?_);exact ⟨_,.inr ⟨j,x,⟨o,d⟩,Z,Z⟩,(H.pick 3 [1,0] Z).toWd⟩
 have H:=a.l1;refine Z0 17 [3] Z (Zr Z ?_);exact ⟨_,.inl ⟨k,Z,Z⟩,H.pick 1 [0] Z⟩
def HZ(V:List Bk)(size:Int):Prop:=∃b,V[V.length-1]?=some b/\size<=b.1
theorem Ia{x x2:Wv}(h:W[i]?=some x)(k:Nat)(g:k+V.length<=4)(c:x.cells.take k++V++x.cells.drop (k+V.length)=x2.cells):(Bq W).take (i*4+k)++V++(Bq W).drop (i*4+k+V.length)=Bq (W.set i x2):=by
 obtain ⟨a,rfl⟩:=Aeb.1 h;have e1:W=W.take i++W[i]::W.drop (i+1):=by rw[<-AeZ a,AeL]
 have b:W.set i x2=W.take i++x2::W.drop (i+1):=by rw[Afa,if_pos a]
 have f:(Bq (W.take i)).length=i*4:=by rw[Aal,Aex,AeE U]
 have d:Bq W=Bq (W.take i)++(W[i].cells++Bq (W.drop (i+1))):=by
  have:=congrArg Bq e1;rw[HX] at this;exact this.trans (congrArg (Bq (W.take i)++ ·) Z)
 have e:W[i].cells.length=4:=rfl;rw[d,b,HX];rw[show i*4+k=(Bq (W.take i)).length+k by omega,Ahi,show (Bq (W.take i)).length+k+V.length=(Bq (W.take i)).length+(k+V.length) by omega,Ahj,Aet U,AeT U];have:Bq (x2::W.drop (i+1))=x2.cells++Bq (W.drop (i+1)):=by simp[Bq]
 rw[this,<-c];simp only[Aeh]
set_option maxHeartbeats 4000000 in
theorem Ui (id a:Int) (a4:W.length<=64) (a3:∀x∈W,InB A x.u x.V) (o:∀x∈W,x.V.length<=1048576):Cn prog 32 [Y n,I id,I a] [wdA n t W,A] (λv Γ=>((∀x∈W,x.id≠id)/\v=I 31/\Γ=[wdA n t W,A])\/(∃(j:Nat) (x:Wv),(W[j]?=some x/\x.id=id)/\((¬(1<=a/\a<=1048576)/\v=I 1/\Γ=[wdA n t W,A])\/(((1<=a/\a<=1048576)/\HZ x.V a)/\v=I 33/\Γ=[wdA n t W,A])\/(((1<=a/\a<=1048576)/\¬HZ x.V a)/\v=I 0/\Γ=[wdA n t (W.set j {x with sz:=a}),A])))):=by
 intro z R w H;refine Ae func32 Z ntmps32 Z (Zc 9 Z (Aq Z (call49 _) (HY id a4) H ?_));rintro _ w _ (⟨j,x,⟨f,e⟩,rfl,rfl⟩|⟨a5,rfl,rfl⟩) H'
 ·have H:=H'.l2;refine Z0 10 [0] Z (Af Z (λh1=>U) (λh1=>?_))
  refine Z0 8 [0] Z (Al 16 Z (λh2=>?_) (λh2=>?_))
  ·refine Zc 12 Z (Zr Z ?_);exact ⟨_,.inr ⟨j,_,⟨f,e⟩,.inl ⟨by omega,Z,Z⟩⟩,H.pick 2 [0,1] Z⟩
  refine Z0 5 [0] Z (Af Z (λh3=>?_) (λh3=>?_))
  ·refine Zc 6 Z (Zr Z ?_);exact ⟨_,.inr ⟨j,_,⟨f,e⟩,.inl ⟨by omega,Z,Z⟩⟩,H.pick 2 [0,1] Z⟩
  refine Zc 3 Z ?_;obtain ⟨uw,H⟩:=H.wd;have a0:=H.sy 1 (·.slc);obtain ⟨aw,cw,rfl⟩:=a0;obtain ⟨xi,xs,xq,xu,d⟩:=x;have h:InB A xu d:=a3 _ (Aec f);have a2:=H.sy 2 (λq=>(h _ q).slc);have a6:d.length<=1048576:=o _ (Aec f);have c:=(H.rv 1 (·.rd)).at (Bx f 0 _ Z);have a1:=(H.rv 1 (·.rd)).at (Bx f 1 _ Z);have i:=(H.rv 1 (·.rd)).at (Bx f 3 _ Z);have a8:=(Aeb.1 f).1;refine Z2 6 [0,0,0] H Z (Ab Z (Aj Z (z:=4) (j:=j) (r:=j*4) J Z Z Z U c U) (Ab Z (Bm Z (k:=3) (r:=j*4+3) J Z c Z) (Ab Z (Ax Z Z J (Ay i)) (Zc 5 Z ?_))));obtain ⟨l,m,rfl⟩:=a2;refine Z0 5 [0] Z (Al 31 Z (λh4=>?_) (λh4=>?_))
  ·obtain ⟨b,p⟩:∃b,d[d.length-1]?=some b:=⟨_,Aed U⟩;have g:=(H.rv 2 (h _)).at (CN p).1
   refine Z1 4 [] [((d.length-1:Nat):Int)] Z U (Ab Z (Aj Z (z:=2) (j:=(d.length-1)) (r:=(d.length-1)*2) J Z Z U U g U) (Ab Z (Bm Z (k:=0) (r:=(d.length-1)*2) J Z g Z) (Ab Z (Ax Z Z J (Ay g)) (Z0 5 [0] Z (Af Z (λh5=>?_) (λh5=>?_))))))
   ·have s:HZ d a:=⟨b,p,by omega⟩
    refine Zc 6 Z (Zr Z ?_);exact ⟨_,.inr ⟨j,_,⟨f,e⟩,.inr (.inl ⟨⟨by omega,s⟩,Z,Z⟩)⟩,(H.pick 3 [0,1,2] Z).toWd⟩
   have s:¬HZ d a:=λ⟨b9,y,q⟩=>by rw[p] at y;cases y;omega
   refine Z2 10 [0,0,0] H Z (Ab Z (Aj Z (z:=4) (j:=j) (r:=j*4) J Z Z Z U c U) (Ab Z (Bm Z (k:=1) (r:=j*4+1) J Z c Z) (Az Z Z (CV 1 H Z Z Z Z (vs:=[I a]) Z (Ad Z Aw) J U (by simp only[Aeg,AeB];omega) (out:=Bq (W.set j ⟨xi,a,xq,.slice l d.length m,d⟩)) (Ia (x2:=⟨xi,a,xq,.slice l d.length m,d⟩) f 1 O (by simp[Wv.cells]))) ?_)));rintro w H;refine Zc 8 Z (Zr Z ?_);exact ⟨_,.inr ⟨j,_,⟨f,e⟩,.inr (.inr ⟨⟨by omega,s⟩,Z,Z⟩)⟩,Sep.toWd (W:=W.set j ⟨xi,a,xq,.slice l d.length m,d⟩) (by rw[AeU];exact H.pick 3 [0,1,2] Z)⟩
  have s:¬HZ d a:=λ⟨b,p,_⟩=>by have:=(Aeb.1 p).1;omega
  refine Z2 23 [0,0,0] H Z (Ab Z (Aj Z (z:=4) (j:=j) (r:=j*4) J Z Z Z U c U) (Ab Z (Bm Z (k:=1) (r:=j*4+1) J Z c Z) (Az Z Z (CV 1 H Z Z Z Z (vs:=[I a]) Z (Ad Z Aw) J U (by simp only[Aeg,AeB];omega) (out:=Bq (W.set j ⟨xi,a,xq,.slice l d.length m,d⟩)) (Ia (x2:=⟨xi,a,xq,.slice l d.length m,d⟩) f 1 O (by simp[Wv.cells]))) ?_)));rintro w H;refine Zc 8 Z (Zr Z ?_);exact ⟨_,.inr ⟨j,_,⟨f,e⟩,.inr (.inr ⟨⟨by omega,s⟩,Z,Z⟩)⟩,Sep.toWd (W:=W.set j ⟨xi,a,xq,.slice l d.length m,d⟩) (by rw[AeU];exact H.pick 3 [0,1,2] Z)⟩
 have H:=H'.l2;refine Z0 17 [3] Z (Zr Z ?_);exact ⟨_,.inl ⟨a5,Z,Z⟩,H.pick 2 [0,1] Z⟩
theorem Acy{C:World->Prop}{o:Oper}{ds:List Deferred}{y:Operand}{yt:TypeId}{l m:List UInt8}(c:o.op=.binOp .add T x y yt)(d:ev L x=some (Ck l))(e:ev L y=some (Ck m))(g:l.length+m.length<=9223372036854775807):Au P C n ds L o (Ck (l++m)):=λa b w _=>by
 simp only[execOp,c,b.ev d,b.ev e,Ck];have f:∀w:World,(Op.stringOp .add ⟨l.toArray⟩ ⟨m.toArray⟩).run P w=.ok (.string ⟨(l++m).toArray⟩) w:=λw=>by
  rw[run_string_add_sum w _ _ (by simp[ByteArray.size];omega),ByteArray.mk_append_mk]
 simp[go_sem,f]
theorem WO(at_:Int)(k:Nat)(V:List Bk):(C8 at_ k V).length<=V.length:=by
 induction k with
 | zero=>exact Aei _
 | succ k ih=>exact Agr (JE _ _) ih
theorem Uj{V:List Bk}(at_:Int)(k:Nat)(h:∀j,(BT j V).length=64):(rdB V at_ k).length=64*k:=by
 induction k with
 | zero=>rfl
 | succ k ih=>simp only[rdB,Aee,ih,h];omega
set_option maxHeartbeats 6000000 in
theorem WP (id at_ d:Int) (a9:W.length<=64) (A:Ai) (a8:∀x∈W,InB A x.u x.V) (s:∀x∈W,x.V.length<=1048576) (j:Nat) (x:Wv) (g:W[j]?=some x) (f:x.id=id) (hu:∀(k:Nat) (y:Wv),W[k]?=some y->y.id=x.id->k=j) (b6:0<=at_/\at_<=1073741824) (hd:0<=d/\d<=64):Cn prog 70 [Y n,I id,I at_,I d] [wdA n t W,A] (λv Γ=>∃(k:Nat) (u2:Value) (A2:Ai),((k:Int)=d/\Ink A A2/\InB A2 u2 (C8 at_ k x.V))/\v=.tuple #[]/\Γ=[wdA n t (W.set j ⟨x.id,x.sz,x.q,u2,C8 at_ k x.V⟩),A2]):=by
 intro z R w H;refine Ae func70 Z ntmps70 Z (Zc 4 Z (Aq Z (call49 _) (HY id a9) H ?_));rintro _ w _ (⟨j9,x9,⟨a2,l⟩,rfl,rfl⟩|⟨b0,rfl,rfl⟩) c
 ·have H:=c.l2;obtain rfl:j=j9:=(hu j9 x9 a2 (l.trans f.symm)).symm;refine Zc 4 Z ?_;obtain ⟨uw,H⟩:=H.wd;have a1:=H.sy 1 (·.slc)
  obtain ⟨p,o,rfl⟩:=a1;obtain ⟨xi,xs,xq,xu,a⟩:=x;have a5:InB A xu a:=a8 _ (Aec g);have b2:a.length<=1048576:=s _ (Aec g);have a4:=(Aeb.1 g).1;have a3:W.set j ⟨xi,xs,xq,xu,C8 at_ 0 a⟩=W:=by obtain ⟨hl,e9⟩:=Aeb.1 g;show W.set j ⟨xi,xs,xq,xu,a⟩=W;rw[<-e9];exact Af6 hl
  refine Zc 5 Z ?_;refine AB (σ:=Nat×Value×Ai) (λ⟨k,u2,AA⟩=>[(9,I (k:Int)),(0,Y n),(2,I at_),(3,I d),(8,I (j:Int))])
    (λ⟨k,u2,AA⟩ w=>Sep z (blk n [.slice p W.length o,I t] 31::grow 40 4 (.slice p W.length o) W.length (Bq (W.set j ⟨xi,xs,xq,u2,C8 at_ k a⟩))::AA::R) w/\((k:Int)<=d/\Ink A AA/\InB AA u2 (C8 at_ k a))) (λ⟨k,u2,AA⟩=>d.toNat-k) ⟨0,xu,A⟩
    fr_z ⟨(by rw[a3];exact H),⟨by show ((0:Nat):Int)<=d;omega,Ink.refl A,a5⟩⟩ ?_
  clear H;rintro ⟨k,u2,AA⟩ w ⟨c,hI⟩;dsimp only at hI c ⊢;have H:=c.l3;obtain ⟨b1,hK,i⟩:=hI;refine Z0 6 [0] Z (Al 15 Z (λh1=>?_) (λh1=>?_))
  ·refine Z0 6 [0] Z (Af Z (λh2=>?_) (λh2=>?_))
   ·refine Zc 4 Z ?_;have m:(W.set j ⟨xi,xs,xq,u2,C8 at_ k a⟩)[j]?=some ⟨xi,xs,xq,u2,C8 at_ k a⟩:=Aff a4
    have b:=(H.rv 1 (·.rd)).at (Bx m 0 _ Z);have b3:=WO at_ k a;refine Bh (Sep z (blk n [.slice p W.length o,I t] 31::grow 40 4 (.slice p W.length o) W.length (Bq (W.set j ⟨xi,xs,xq,u2,C8 at_ k a⟩))::R)) 18 Z J (AZ H λw c=>?_);have H:=c.l3;refine Bu [0,1,2,3,4,5,6,7,8,9] [0,0,0,0] J (λ_ g=>(AO (g.blk 0 Z) AM)) (by exact H.pick 3 [0,1] Z) Z J Z Z (BJ 10 J Z Z J J J Z Z Z (Aj Z (z:=4) (j:=j) (r:=j*4) J Z Z Z U b U) (H.pick 3 [0,1] Z) (BJ 11 J Z Z J J J Z Z Z (Bp Z Z (vs:=[I xi,I xs,I xq,u2]) J O (λ_ a7=>(λk' u hk=>(a7.rv 1 (·.rd)).at (Bx m k' u hk)))) (H.pick 3 [0,1] Z) (Bu [12,13] [] J (λ_ _=>AM) (by exact H.pick 3 [0,1] Z) Z J Z Z (BJ 14 J Z Z J J J Z Z Z (C3 Z Z Z (r:=at_+(k:Int)) U U) (H.pick 3 [0,1] Z) (AE [15] J O (Am (Bo Z Z Z Z Z Z (λw=>call119 _ w) (QT (at_+(k:Int)) AA i U) H.f2 Z ?_)))))));rintro _ w _ ⟨e,rfl,rfl⟩ H;have a0:=H.sy 0 (·.rd.slc);refine Ar (λ_=>(H.pick 4 [2,3] Z)) (BJ 16 J Z Z J J J Z Z Z (Aj Z (z:=4) (j:=j) (r:=j*4) J Z Z Z U b U) (H.pick 4 [2,3] Z) (AE [17] J O (Am (Bi Z Z Z (CV 3 H Z Z Z Z (vs:=[I xi,I xs,I xq,e]) Z (Ad Z (Ad Z (Ad Z (Ad a0.one Aw)))) J U (by simp only[Aeg,AeB];omega) (out:=Bq ((W.set j ⟨xi,xs,xq,u2,C8 at_ k a⟩).set j ⟨xi,xs,xq,e,C8 at_ (k+1) a⟩)) (Ia (x2:=⟨xi,xs,xq,e,C8 at_ (k+1) a⟩) m 0 O (by simp[Wv.cells]))) ?_))));rintro w H;refine Ar (λh=>absurd Z h) (Bj J (gn (Zc 2 Z ?_)));rw[AgE] at H;have c:=(H.pick 4 [0,1,2,3] Z).made 2 (A:=both (grow 90 2 e ((C8 at_ (k+1) a).length) (BY (C8 at_ (k+1) a))) AA) (λh q=>q);clear H;have H:Sep z (both (grow 90 2 e ((C8 at_ (k+1) a).length) (BY (C8 at_ (k+1) a))) AA::blk n [.slice p W.length o,I t] 31::grow 40 4 (.slice p W.length o) W.length (Bq (W.set j ⟨xi,xs,xq,e,C8 at_ (k+1) a⟩))::R) w:=c;clear c;refine Z1 5 [] [(k:Int)+1] Z U ?_;replace H:=H.f2.f2;refine gf ?_;intro _ hF;refine ⟨⟨k+1,e,both (grow 90 2 e ((C8 at_ (k+1) a).length) (BY (C8 at_ (k+1) a))) AA⟩,hF.cz,⟨H,?_⟩,?_⟩
    ·exact ⟨by show ((k+1:Nat):Int)<=d;omega,hK.trans (Ink.both _ AA),InB.grow⟩
    (dsimp only;omega)
   refine Zc 2 Z (gx (Zc 1 Z (Zf Z ?_)));have a6:(k:Int)=d:=by omega
   exact ⟨_,⟨k,u2,AA,⟨a6,hK,i⟩,Z,Z⟩,Sep.toWd (W:=(W.set j ⟨xi,xs,xq,u2,C8 at_ k a⟩)) (by rw[AeU];exact H.pick 3 [0,1,2] Z)⟩
  (exfalso;omega)
 exact absurd f (b0 _ (Aec g))
set_option maxHeartbeats 6000000 in
theorem Aan (id at_ a:Int) (a7:W.length<=64) (A:Ai) (a3:∀x∈W,InB A x.u x.V) (e:∀x∈W,x.V.length<=1048576) (f:∀x∈W,1<=x.sz/\x.sz<=1048576) (i:∀x∈W,∀j,(BT j x.V).length=64) (h: -9223372036854775808<=at_/\at_<=9223372036854775807) (a8: -9223372036854775808<=a/\a<=9223372036854775807):Cn prog 28 [Y n,I id,I at_,I a] [wdA n t W,A] (λv Γ=>((∀x∈W,x.id≠id)/\v=.tuple #[Ck [],I 31]/\Γ=[wdA n t W,A])\/(∃(j:Nat) (x:Wv),(W[j]?=some x/\x.id=id)/\((Bn x.sz true at_ a≠0/\v=.tuple #[Ck [],I (Bn x.sz true at_ a)]/\Γ=[wdA n t W,A])\/(Bn x.sz true at_ a=0/\v=.tuple #[Ck (rdB x.V at_ a.toNat),I 0]/\Γ=[wdA n t W,A])))):=by
 intro z R w H;refine Ae func28 Z ntmps28 Z (Zc 12 Z (Aq Z (call67 _) (Mi a7 f h a8) H ?_));rintro _ w _ (⟨a9,rfl,rfl⟩|⟨j,x,⟨b,c⟩,rfl,rfl⟩) y
 ·have H:=y.l2;refine Z0 23 [3] Z (Zr Z ?_);exact ⟨_,.inl ⟨a9,Z,Z⟩,H.pick 2 [0,1] Z⟩
 have H:=y.l2;refine Z0 14 [0] Z (Af Z (λh1=>?_) (λh1=>?_))
 ·refine Zc 8 Z (Zr Z ?_);exact ⟨_,.inr ⟨j,x,⟨b,c⟩,.inl ⟨by assumption,Z,Z⟩⟩,H.pick 2 [0,1] Z⟩
 refine Zc 9 Z ?_;have hE:Bn x.sz true at_ a=0:=Afd λq=>by contradiction
 refine AD 10 (v:=I (j:Int)) Z (congrArg I (if_pos hE)) ?_;have a1:=FY hE;have b0:=f x (Aec b);obtain ⟨uw,H⟩:=H.wd;have a0:=H.sy 1 (·.slc);obtain ⟨aw,cw,rfl⟩:=a0;obtain ⟨xi,xs,xq,xu,s⟩:=x;have o:InB A xu s:=a3 _ (Aec b);have d:=(H.rv 1 (·.rd)).at (Bx b 0 _ Z);have b2:=(Aeb.1 b).1;have p:=i _ (Aec b);refine Zc 5 Z ?_;refine AB (σ:=Nat) (λk=>[(13,I (k:Int)),(12,Ck (rdB s at_ k)),(0,Y n),(2,I at_),(3,I a),(8,Ck []),(9,I 0),(10,I (j:Int))])
   (λk w=>Sep z (blk n [.slice aw W.length cw,I t] 31::grow 40 4 (.slice aw W.length cw) W.length (Bq W)::A::R) w/\((k:Int)<=a)) (λk=>a.toNat-k) 0
   (λ_ g=>(g.co Z (by go_num) g.cz)) ⟨H,U⟩ ?_
 clear H;rintro k w ⟨y,hI⟩;have H:=y.l3;have b5:=hI;clear hI;refine Z0 8 [0] Z (Af Z (λh2=>?_) (λh2=>?_))
 ·refine Zc 4 Z ?_;have a6:=Uj at_ k p
  have a5:=p (at_+(k:Int));refine Z2 7 [0,0,0] H Z (Ab Z (Aj Z (z:=4) (j:=j) (r:=j*4) J Z Z Z U d U) (Ab Z (Bp Z Z (vs:=[I xi,I xs,I xq,xu]) J O (Ay (λk u hk=>(H.rv 1 (·.rd)).at (Bx b k u hk)))) (Z1 3 [] [at_+(k:Int)] Z U (z_E_ Z (call14 _) (O0 o) H.f2 ?_))));intro w H;refine Ab Z (Acy (l:=rdB s at_ k) (m:=BT (at_+(k:Int)) s) Z Z Z (by dsimp only at a5 a6;omega)) (Z1 9 [] [(k:Int)+1] Z U ?_);replace H:=H.f2.f2;refine gf ?_;intro _ g;refine ⟨(k+1),(g.co Z (by go_num) g.cz),⟨H,?_⟩,?_⟩
  ·show ((k+1:Nat):Int)<=a;omega
  omega
 refine Zc 2 Z (gx (Zc 10 Z (Zr Z ?_)));obtain rfl:k=a.toNat:=by omega
 exact ⟨_,.inr ⟨j,_,⟨b,c⟩,.inr ⟨hE,Z,Z⟩⟩,(H.pick 3 [0,1,2] Z).toWd⟩
theorem WQ:Cn prog 21 [] [] (λv Γ=>∃b:Nat,v=Y b/\Γ=[wdA b 1 []]):=by
 intro z R w H;refine Ae func21 Z ntmps21 Z (Za 8 [] H Z ?_);intro c w H;refine Zc 4 Z (Zr Z ?_);have a:=H.nilg 40 4;exact ⟨_,⟨c,Z,Z⟩,Sep.toWd (W:=[]) (a.pick 2 [1,0] Z)⟩
theorem WR(n a:Value)(c:∀h,A h->rdH 6 n 8 (Bb (List.replicate 8 v0)) h):Cn prog 116 [.agg #[I 1,n,a]] [A,Cx a ([])] (λv Γ=>v=.bool true/\Γ=[A,Cx a []]):=by
 intro z R w H;obtain ⟨p,o,rfl⟩:=H.sy 0 (λq=>(c _ q).slc);refine Ae func116 Z ntmps116 Z (Za 2 [] H Z ?_);intro g w H;refine Z2 18 [1,0,0] H Z ?_;refine AB (σ:=Nat) (λi=>[(10,I (i:Int)),(1,Y g),(8,.slice p 8 o),(9,I 8)])
   (λi w=>Sep z (blk g [I 1,.slice p 8 o,a] 83::A::Cx a ([])::R) w/\(i<=8)) (λi=>8-i) 0
   fr_z ⟨H,AeO _⟩ ?_
 clear H;rintro i w ⟨y,e⟩;have H:=y.l3;have hi:=e;clear e;refine Z0 6 [0] Z (Af Z (λs=>?_) (λs=>?_))
 ·refine Zc 5 Z ?_;have l:(List.replicate 8 v0)[i]?=some v0:=by rw[List.getElem?_replicate,if_pos U]
  have b:=(H.rv 1 (c _)).at (AU l 0 _ Z);refine Zc 1 Z (Ab Z (Aj Z (z:=6) (j:=i) (r:=i*6) J Z Z Z U b U) (Ab Z (Bp Z Z (vs:=v0.cells) J (by simp[Vl.cells]) (Ay (λk u hk=>(H.rv 1 (c _)).at (AU l k u hk)))) (Za 0 [] H Z ?_)));intro b2 w H;refine Z4 7 [0,0,6] H Z ?_;intro w H;refine Ab Z (Bc Z Z (out:=[I 0,I 0,I 0,I 0,I 0,I 0]) J) (Ab Z (Ub (cs:=[(0:Int),0,0,0,0,0]) (es:=[(0:Int),0,0,0,0,0]) (m:=6) Z J Z Z J J Z Z) (Zc 2 Z (Af Z (λf=>?_) (λf=>?_))))
  ·refine Z1 8 [] [(i:Int)+1] Z U ?_;replace H:=H.d;refine gf ?_;intro _ t;refine ⟨(i+1),t.cz,⟨H,?_⟩,?_⟩
   ·omega
   omega
  exact absurd Z f
 refine Zc 2 Z (gx (Zc 8 Z (Zr Z ?_)));exact ⟨_,⟨Z,Z⟩,H.pick 3 [1,2] Z⟩
set_option maxHeartbeats 2000000 in
theorem Aao (n:Nat) {G:StG} (mb:Nat) (y:Fine D G mb) (hn:((0:Nat):Int)<G.x.pages) (c:G.M 0=⟨1,Dq 1 [] (List.replicate 8 v0)⟩):Cn prog 63 [Y m] [plB m i j g n b,stoA i r D G none] (λv Γ=>∃u:Nat,v=.tuple #[Y u,I 0]/\Γ=[voA u m 1 [] (List.replicate 8 v0),plB m i j g n b,stoA i r D G none]):=by
 intro z R w H;replace H:=H.l2;refine Ae func63 Z ntmps63 Z (Z2 23 [0,0,0,0] H Z (Aq Z (call85 _) (K7 i r D G none 0 hn y.clean.f1 ⟨1,Dq 1 [] (List.replicate 8 v0)⟩ c.symm) H.f1 ?_));rintro _ w _ (⟨s,rfl,rfl⟩|⟨t,rv,rfl,rfl⟩) k
 ·exact absurd (congrArg Pg.kind s) (by show (1:Int)≠0;decide)
 have H:=k.l3;obtain ⟨f,a,rest,rfl,c1,c2,c3,H⟩:=H.ungrow 0 Z U;replace H:=H.l3;refine Za 3 [] H Z ?_;intro b1 w H;refine Z4 18 [0,4,1,0,0] H Z ?_;intro w H;refine Aq Z (call115 _) (T8 f 0 a (Dq 1 [] (List.replicate 8 v0)) (blk f ((Dq 1 [] (List.replicate 8 v0)).map u8++rest) 5) (λh q=>q.rd U U (by rw[Aee,Aef,Km O O];omega) (by rw[Aeu,AeP,AeF (by rw[Aef,Km O O])])) 1 [] (List.replicate 8 v0) O O U O (λe he=>by rw[(Af3.1 he).2];exact v0_fit) Z) H.f1 ?_;rintro _ w _ ⟨d,cs,l,rfl,rfl⟩ H;replace H:=H.l6;have k:=H.mono 1 (B:=Cx cs []) Z (λh q=>⟨q,λ_=>l Z⟩);clear H;have H:Sep z (grow 77 6 d 8 (Bb (List.replicate 8 v0))::Cx cs ([])::blk f ((Dq 1 [] (List.replicate 8 v0)).map u8++rest) 5::blk b1 [I 1,.slice (some ⟨f,0,none⟩) 240 a] 104::stoA i r D G none::plB m i j g n b::R) w:=k;clear k;have p:=H.sy 0 (·.slc);have o:=H.sy 1 (·.1.slc);refine Za 3 [] H Z ?_;intro b2 w H;refine Az Z Z (Ak 0 H Z Z Z Z (vs:=[I 1,d,cs]) Z (Ad Z (Ad p.one (Ad o.one Aw))) J O (out:=[I 1,d,cs]) Z) ?_;rintro w H;replace H:=H.l7;refine Z2 15 [0,4,0,4,0,3] H Z (z_E_ Z (call116 _) (WR d cs (λh q=>q.rd)) H.f2.f2 ?_);intro w H;refine Z2 11 [2,3] H Z (Ab Z (Bc Z Z (out:=[Y m,I 1,d,cs]) J) (Za 0 [] H Z ?_));intro b3 w H;refine Zc 5 Z (Zr Z ?_);exact ⟨_,⟨_,Z,Z⟩,(H.pick 8 [0,1,2,7,6] Z).toVo (vs:=(List.replicate 8 v0))⟩
section
variable{Tb:Ai}
theorem Mj(N:Nat)(e: -9223372036854775808<=t/\t<=9223372036854775807)(hN:0<N/\N<=1099511627776):Cn prog 8 [I t,I (N:Int)] [] (λv Γ=>v=I (pkI t N:Int)/\Γ=[]):=by
 intro z R w H;refine Ae func8 Z ntmps8 Z (Z0 12 [0] Z (Af Z (λd=>?_) (λd=>?_)))
 ·refine Z1 3 [] [t+1] Z U (Ab Z (PO Z Z (r:= -(t+1)) U U) (Zc 7 Z (Ab Z (Na Z Z Z U) ?_)))
  have c:=AhE (N:Int) (show 0<= -(t+1) by omega);refine Zc 4 Z (Zr Z ?_);have b:(-(t+1)).tmod (N:Int)=(pkI t N:Int):=by unfold pkI;rw[if_pos U];omega
  exact ⟨_,⟨congrArg I b,Z⟩,H⟩
 refine Zc 6 Z (Ab Z (Na Z Z Z U) ?_);have c:=AhE (N:Int) (show 0<=t by omega);refine Zc 4 Z (Zr Z ?_);have b:t.tmod (N:Int)=(pkI t N:Int):=by unfold pkI;rw[if_neg U];omega
 exact ⟨_,⟨congrArg I b,Z⟩,H⟩
set_option maxHeartbeats 2000000 in
theorem Aap (n:Nat) (y:16<=n/\n<=1024) (Tb:Ai) (hT:Hl Tb) {a:StG} (bs:List UInt8) (j:bs.length=256) (q:bs=AJ (Cc 1 [] (List.replicate 8 v0) (List.replicate 8 v0).length)) (hO:OInv D a.x a.B (λb=>b=a.rs)) (u:Clean D) (r:a.x.gen<=((5:Nat):Int)/\a.x.epoch<=((5:Nat):Int)) (f:a.x.pages=n) (hM:a.M=Ej (λ_=>noPg) (some (gF n (bs.take 240) (manyN n),1+manyN n))):Cn prog 20 [Y i] [diskA i D,Tb] (λv Γ=>∃s pp:Nat,v=Y s/\Γ=[voA s pp 1 [] (List.replicate 8 v0),trA Tb pp 6 n (FI n) none]):=by
 intro z R w H;refine Ae func20 Z ntmps20 Z (Zc 8 Z (Aq Z (call52 _) (TI hO u r U) H ?_));rintro _ w _ ⟨ps,D3,b,h,c,a0,rfl,rfl⟩ H;have l:pgMap (ov b) a.B=a.M:=by rw[h];rfl
 obtain ⟨d,g⟩:=TX (n:=n) j (l.trans hM);refine Z0 24 [4] Z (Aq Z (call62 _) (Zm 6 n (C1 (manyN n+1)) c y f (bs.take 240) d g (λk=>RV k) (λp hp=>by unfold C1;rw[if_pos U])) H ?_);rintro _ w _ ⟨pp,pc,bn,m,pa,rfl,rfl⟩ H;refine Z0 24 [4] Z (Aq Z (call63 _) (Aao n 6 c (by show (0:Int)<a.x.pages;omega) (d.trans (by rw[q];rfl))) H.f1 ?_);rintro _ w _ ⟨s,rfl,rfl⟩ H;refine Z0 24 [4] Z (Zr Z ?_);have H8:=(H.pick 8 [1,2,3,4,5,6,7,0] Z).toPo (X:=⟨ps,i,pc,bn,m,pa,D3,(Qy a.x (pgMap (ov b) a.B)),Dp,[],0,BX,Tb⟩) (mb:=6) (n:=n) (M0:=pgMap (ov b) a.B) (C0:=C1 (manyN n+1)) (t:=none) ⟨y,c,f,⟨hT,Z⟩,λp _=>rfl,g,λk=>RV k,λp hp=>(by unfold C1;rw[if_pos U]),λ_=>⟨Z,Z⟩,λ_ e=>(by cases e)⟩ Z;have H9:=Sep.toTr0 (o:=FI n) H8 (ZP n);exact ⟨_,⟨_,_,Z,Z⟩,H9.pick 2 [1,0] Z⟩
set_option maxHeartbeats 2000000 in
theorem Pe (n:Nat) (j:16<=n/\n<=1024) (Tb:Ai) (m:Hl Tb):Cn prog 5 [I (n:Int)] [Tb] (λv Γ=>∃i pd c pp h:Nat,v=.tuple #[Y i,.bool true]/\Γ=[blk i [Y pd,Y c,Y h] 36,voA c pp 1 [] (List.replicate 8 v0),trA Tb pp 6 n (FI n) none,wdA h 1 []]):=by
 intro z R w H;refine Ae func5 Z ntmps5 Z (Zc 8 Z (Aq Z (call18 _) (Abo 1200) H ?_));rintro _ w _ (⟨g,rfl,rfl⟩|⟨_,pd,rfl,rfl⟩) o
 ·exact absurd U g
 have H:=o.l2;refine Z0 19 [4] Z (Aq Z (call19 _) (R7 1200 n j (Aca U)) H ?_);rintro _ w _ ⟨D2,G2,bs,a,f,k,e,b,l,d,p,rfl,rfl⟩ H;refine Z0 10 [4] Z (Aq Z (call20 _) (Aap n j Tb m bs a f k e b d p) H ?_);rintro _ w _ ⟨c,pp,rfl,rfl⟩ H;refine Zc 7 Z (Aq Z (call21 _) (WQ) H ?_);rintro _ w _ ⟨h,rfl,rfl⟩ H;refine Za 1 [] H Z ?_;intro q w H;refine Zc 7 Z (Zr Z ?_);exact ⟨_,⟨_,_,_,_,_,Z,Z⟩,H.pick 4 [0,2,3,1] Z⟩
end
def mV(cc:Int)(od:Bool):Nat:=if od=true then pkI cc 11*64+7 else pkI cc 11*64
theorem Se(cc:Int)(od:Bool):mV cc od<711:=by
 have:=OU cc (show 0<11 by omega);unfold mV;split<;>omega
def Q9(W:List Wv)(ci:Int):Int:=if 0<W.length/\0<=ci/\ci<100 then ((W[(ci%(W.length:Int)).toNat]?).map Wv.id).getD ci else ci
def KpW(W W2:List Wv)(id:Int):Prop:=∀y∈W,y.id≠id->y.core∈W2.map Wv.core
def KpE(W W2:List Wv)(id kd:Int):Prop:=KpW W W2 id/\(pkI kd 10=2->W2.map Wv.core=W.map Wv.core)
theorem KpW.eq{W2:List Wv}{id:Int}(h:W2.map Wv.core=W.map Wv.core):KpW W W2 id:=λy a _=>h▸Aek.2 ⟨y,a,Z⟩
theorem KpE.eq{W W2:List Wv}{id kd:Int}(h:W2.map Wv.core=W.map Wv.core):KpE W W2 id kd:=⟨.eq h,λ_=>h⟩
theorem KpW.app{W2 X:List Wv}{id:Int}(h:W2.map Wv.core=W.map Wv.core):KpW W (W2++X) id:=λy a _=>by
 rw[AeH,h];exact Agm _ (Aek.2 ⟨y,a,Z⟩)
theorem KpW.set{W:List Wv}{id:Int}{j:Nat}{x x2:Wv}(f:W[j]?=some x)(c:x.id=id):KpW W (W.set j x2) id:=λy g b=>by
 obtain ⟨a,d⟩:=AeY.1 g;have e:j≠a:=λq=>by subst q;rw[f] at d;cases d;exact b c
 exact Aek.2 ⟨y,Aec (by rw[AfV e];exact d),Z⟩
theorem KpW.del{id:Int}{x:Wv}(c:W[j]?=some x)(b:x.id=id):KpW W (W.take j++W.drop (j+1)) id:=λy d a=>by
 refine Aek.2 ⟨y,?_,Z⟩;have f:=(Aeb.1 c).1;have e:W=W.take j++x::W.drop (j+1):=by
  have:=AeL j W;rw[AeZ f,show W[j]=x from (Aeb.1 c).2] at this;exact this.symm
 rw[e] at d;rcases Aep.1 d with q|q
 ·exact Agm _ q
 rcases Aen.1 q with rfl|q
 ·exact absurd b a
 exact AgC _ q
theorem KpW.tr{Wc W2:List Wv}{id:Int}(h:Wc.map Wv.core=W.map Wv.core)(k:KpW Wc W2 id):KpW W W2 id:=λy c a=>by
 have:y.core∈Wc.map Wv.core:=h▸Aek.2 ⟨y,c,Z⟩;obtain ⟨z,b,e⟩:=Aek.1 this;have:=k z b (by have:=congrArg Prod.fst e;simp only[Wv.core] at this;omega);rwa[e] at this
theorem Pf{d cs cq:Int}{od:Bool}(x: -9223372036854775808<=d/\d<=9223372036854775807)(l: -9223372036854775808<=q/\q<=9223372036854775807):Cn prog 11 [.agg #[I t,I s,I p,I q,I d,I cs,I cq,.bool c,.bool od]] [] (λv Γ=>∃(b:Nat) (bs:List UInt8),bs.length=mV q od/\v=.slice (some ⟨b,0,none⟩) bs.length bs.length/\Γ=[blk b (bs.map u8) 5]):=by
 intro z R w H;have o:=OU q (show 0<11 by omega);refine Ae func11 Z ntmps11 Z (Za 2 [] H Z ?_);intro h w H;refine Z2 7 [3,0,0] H Z (z_E_ Z (call8 _) (Mj 11 l U) H ?_);intro w H;refine Z1 4 [] [((pkI q 11*64:Nat):Int)] Z U (Xm (λa w=>∃(m:Nat),Fr 35 [] [(3,I (m:Int)),(0,.agg #[I t,I s,I p,I q,I d,I cs,I cq,.bool c,.bool od]),(1,Y h),(2,.slice none 0 0),(6,.pointer (some ⟨h,3,none⟩)),(7,I q),(8,I (pkI q 11:Int)),(9,I ((pkI q 11*64:Nat):Int))] a/\Sep z (blk h [I t,I s,I p,I q,I d,I cs,I cq,.bool c,.bool od] 28::R) w/\(m=mV q od)) ?_ ?_)
 ·refine Z2 6 [8,0,0] H Z (Ep Z (λr=>?_) (λr=>?_))
  ·refine Z1 5 [] [((pkI q 11*64+7:Nat):Int)] Z U ?_;exact gf λ_ e=>⟨(pkI q 11*64+7),e.cz,H,(by unfold mV;first|rw[if_pos (by assumption)]|rw[if_pos (by simp_all)])⟩
  refine Zc 1 Z ?_;exact gf λ_ e=>⟨(pkI q 11*64),e.cz,H,(by unfold mV;first|rw[if_neg (by assumption)]|rw[if_neg (by simp_all)])⟩
 rintro a w ⟨m,e,H,f⟩;revert a;have hm:=f;clear f;have y:=Se q od;refine Zc 3 Z (AR Z (Em (k:=m) H Z J CK Z Z Z U) ?_);rintro _ w ⟨j,rfl,H⟩;refine Zc 10 Z ?_;refine AB (σ:=Nat×List UInt8) (λ⟨i,bs⟩=>[(5,I (i:Int)),(1,Y h),(2,.slice none 0 0),(3,I (m:Int)),(4,.slice (some ⟨j,0,none⟩) m m)])
   (λ⟨i,bs⟩ w=>Sep z (blk j (bs.map u8) 5::blk h [I t,I s,I p,I q,I d,I cs,I cq,.bool c,.bool od] 28::R) w/\(i<=m/\bs.length=m)) (λ⟨i,bs⟩=>m-i) ⟨0,List.replicate m 0⟩
   fr_z ⟨(by simpa [u8] using H),⟨AeO _,by simp⟩⟩ ?_
 clear H;rintro ⟨i,bs⟩ w ⟨n,f⟩;dsimp only at f n ⊢;have H:=n.l2;obtain ⟨hi,g⟩:=f;refine Z0 8 [0] Z (Af Z (λu=>?_) (λu=>?_))
 ·refine Z3 12 [4,1,0] [(i:Int)/64,(i:Int)/64*3] H Z U (Ab Z (SE Z Z Z) (Z1 2 [] [(i:Int)%2] Z U (Ab Z (SE Z Z Z) (Ab Z (Rm Z J Z) (Z1 1 [1,i,i] [] Z U (Az Z Z (Ak 0 H Z Z Z Z (vs:=[u8 (GC (IntKind.i64.wrap (IntKind.i64.wrap (d+(i:Int)/64*3)+(i:Int)%2)))]) Z (Ad Z Aw) J (by simp only[Aef,Aeg,AeB];omega) (out:=(bs.set i (GC (IntKind.i64.wrap (IntKind.i64.wrap (d+(i:Int)/64*3)+(i:Int)%2)))).map u8) (Acc U)) ?_))))));rintro w H;refine Z1 8 [] [(i:Int)+1] Z U (gf ?_);intro _ e;refine ⟨⟨i+1,bs.set i (GC (IntKind.i64.wrap (IntKind.i64.wrap (d+(i:Int)/64*3)+(i:Int)%2)))⟩,e.cz,⟨H,?_⟩,?_⟩
  ·exact ⟨by show i+1<=m;omega,by show (bs.set i _).length=m;rw[AeU];exact g⟩
  (dsimp only;omega)
 refine Zc 2 Z (gx (Zc 9 Z (Zr Z ?_)));exact ⟨_,⟨j,bs,by omega,by rw[g],Z⟩,H.pick 2 [0] Z⟩
theorem Ph(vs:List Vl)(b:∀h,A h->rdH 6 u vs.length (Bb vs) h)(hv:vs.length=8):Cn prog 118 [.agg #[I t,u,y]] [A,Cx y ([])] (λv Γ=>∃g:Bool,((∀e∈vs,e.st≠0)->g=true)/\v=.bool g/\Γ=[A,Cx y []]):=by
 intro z R w H;obtain ⟨x,s,rfl⟩:=H.sy 0 (λq=>(b _ q).slc);refine Ae func118 Z ntmps118 Z (Za 2 [] H Z ?_);intro d w H;refine Zc 10 Z ?_;refine AB (σ:=Nat) (λi=>[(3,I (i:Int)),(1,Y d)])
   (λi w=>Sep z (blk d [I t,.slice x vs.length s,y] 83::A::Cx y ([])::R) w/\(i<=vs.length)) (λi=>vs.length-i) 0
   fr_z ⟨H,AeO _⟩ ?_
 clear H;rintro i w ⟨p,c⟩;have H:=p.l3;have hi:=c;clear c;refine Z2 10 [1,0,0,0] H Z (Af Z (λl=>?_) (λl=>?_))
 ·refine Zc 5 Z ?_;obtain ⟨e,f⟩:∃e,vs[i]?=some e:=⟨_,Aed U⟩;have a:=(H.rv 1 (b _)).at (AU f 1 _ Z)
  refine Z2 4 [1,0,0] H Z (Ab Z (Aj Z (z:=6) (j:=i) (r:=i*6) J Z Z Z U a U) (Ab Z (Bm Z (k:=1) (r:=i*6+1) J Z a Z) (Ab Z (Ax Z Z J (Ay a)) (Z0 3 [0] Z (Af Z (λm=>?_) (λm=>?_))))))
  ·refine Zc 6 Z (Zr Z ?_);exact ⟨_,⟨false,λq=>absurd (by assumption) (q e (Aec f)),Z,Z⟩,H.pick 3 [1,2] Z⟩
  refine Z1 8 [] [(i:Int)+1] Z U (gf ?_);intro _ n;refine ⟨(i+1),n.cz,⟨H,?_⟩,?_⟩
  ·omega
  omega
 refine Zc 2 Z (gx (Zc 8 Z (Zr Z ?_)));exact ⟨_,⟨true,λ_=>rfl,Z,Z⟩,H.pick 3 [1,2] Z⟩
theorem Aaq{vs:List Vl}(d:vs.length=8):Cn prog 66 [Y n,I s,I p] [blk n [Y m,Y i,Y j] 36,voA i g t ([]) vs] (λv Γ=>∃k:Bool,((s=20/\p<25)\/(s=32/\∀x∈vs,x.st≠0)->k=true)/\v=.bool k/\Γ=[blk n [Y m,Y i,Y j] 36,voA i g t [] vs]):=by
 intro z R w H;refine Ae func66 Z ntmps66 Z (Z0 10 [0] Z (Al 9 Z (λl=>?_) (λl=>?_)))
 ·refine Z0 4 [0] Z (Al 13 Z (λo=>?_) (λo=>?_))
  ·refine Zc 15 Z (Zr Z ?_);exact ⟨_,⟨_,(by rintro (⟨c,a⟩|⟨c,a⟩)<;>first|rfl|(exfalso;omega)|exact b a|simp_all),Z,Z⟩,H.pick 2 [0,1] Z⟩
  refine Z0 3 [0] Z (Al 16 Z (λy=>?_) (λy=>?_))
  ·refine Z2 4 [1,0,0] H Z (Aq Z (call77 _) (Ll d O) H.f1 ?_);rintro _ w _ ⟨u,cs,rfl,rfl⟩ H
   refine Aq Z (call118 _) (Ph vs (λh q=>q.rd) d) H ?_;rintro _ w _ ⟨r,b,rfl,rfl⟩ H;refine Zc 6 Z (Zr Z ?_);exact ⟨_,⟨_,(by rintro (⟨c,a⟩|⟨c,a⟩)<;>first|rfl|(exfalso;omega)|exact b a|simp_all),Z,Z⟩,H.pick 4 [3,2] Z⟩
  refine Zc 12 Z (Zr Z ?_);exact ⟨_,⟨_,(by rintro (⟨c,a⟩|⟨c,a⟩)<;>first|rfl|(exfalso;omega)|exact b a|simp_all),Z,Z⟩,H.pick 2 [0,1] Z⟩
 refine Z0 7 [0] Z (Al 16 Z (λh4=>?_) (λh4=>?_))
 ·refine Z2 4 [1,0,0] H Z (Aq Z (call77 _) (Ll d O) H.f1 ?_);rintro _ w _ ⟨u,cs,rfl,rfl⟩ H
  refine Aq Z (call118 _) (Ph vs (λh q=>q.rd) d) H ?_;rintro _ w _ ⟨r,b,rfl,rfl⟩ H;refine Zc 6 Z (Zr Z ?_);exact ⟨_,⟨_,(by rintro (⟨c,a⟩|⟨c,a⟩)<;>first|rfl|(exfalso;omega)|exact b a|simp_all),Z,Z⟩,H.pick 4 [3,2] Z⟩
 refine Zc 12 Z (Zr Z ?_);exact ⟨_,⟨_,(by rintro (⟨c,a⟩|⟨c,a⟩)<;>first|rfl|(exfalso;omega)|exact b a|simp_all),Z,Z⟩,H.pick 2 [0,1] Z⟩
theorem Ado{cc cf cs cq:Int}{o:Int}(a0:W.length<=64):Cn prog 17 [Y n,.agg #[I t,I s,I p,I cc,I cf,I cs,I cq,.bool b,.bool c]] [blk n [Y m,Y e,Y g] 36,wdA g o W] (λv Γ=>∃i:Int,((0<W.length/\0<=s/\s<100->∃x∈W,x.id=i)/\i=Q9 W s)/\v=I i/\Γ=[blk n [Y m,Y e,Y g] 36,wdA g o W]):=by
 intro z R w H;replace H:=H.l2;replace H:=H.f1;obtain ⟨uw,H⟩:=H.wd;replace H:=H.l3;have h:=H.sy 1 (·.slc);obtain ⟨aw,cw,rfl⟩:=h;refine Ae func17 Z ntmps17 Z (Za 2 [] H Z ?_);intro b1 w H;refine Z2 16 [2,3,0,0,1,0,0] H Z (Al 14 Z (λu=>?_) (λu=>?_))
 ·refine Z2 5 [1,0,0,0] H Z (Al 19 Z (λh2=>?_) (λh2=>?_))
  ·refine Z2 6 [1,0,0,0] H Z (Af Z (λh3=>?_) (λh3=>?_))
   ·refine Zc 1 Z ?_;have l:=Agk s (show (W.length:Int)≠0 by omega)
    have a1:=Af4 s (show (0:Int)<W.length by omega);obtain ⟨j,hj⟩:∃j:Nat,(j:Int)=s%(W.length:Int):=⟨_,Int.toNat_of_nonneg l⟩;obtain ⟨x,f⟩:∃x,W[j]?=some x:=⟨_,Aed U⟩;have a:=(H.rv 2 (·.rd)).at (Bx f 0 _ Z);refine Bv (Sep z _) J J H.drew (G4 18 [2,3,0,0,1,0,1,0,0,2,3,0,0,1,0] [s%(W.length:Int)] Z J U (AL Z Z Z (Aj Z (z:=4) (j:=j) (r:=j*4) J Z Z U U a U) (AL Z Z Z (Bm Z (k:=0) (r:=j*4) J Z a Z) (AL Z Z Z (Ax Z Z J (λ_ hs=>(hs.rv 2 (·.rd)).at (Bx f 0 _ Z))) (B0 1 [] Z J (BI (λw d=>?_)))))));have H:=d.l4;refine gn (Zc 2 Z (Zr Z ?_));have d:=(H.pick 4 [1,2,3] Z).toWd;exact ⟨_,⟨_,⟨(λ_=>⟨x,Aec f,Z⟩),(by unfold Q9;rw[if_pos ⟨by omega,by omega,by omega⟩,<-hj,Ae4,f];rfl)⟩,Z,Z⟩,d.pick 2 [1,0] Z⟩
   refine Z2 10 [1,0,0] H Z (Zr Z ?_);have d:=(H.pick 4 [1,2,3] Z).toWd;exact ⟨_,⟨_,⟨(λq=>by first|(exfalso;omega)|simp_all),(by unfold Q9;rw[if_neg U])⟩,Z,Z⟩,d.pick 2 [1,0] Z⟩
  refine Z2 17 [1,0,0] H Z (Zr Z ?_);have d:=(H.pick 4 [1,2,3] Z).toWd;exact ⟨_,⟨_,⟨(λq=>by first|(exfalso;omega)|simp_all),(by unfold Q9;rw[if_neg U])⟩,Z,Z⟩,d.pick 2 [1,0] Z⟩
 refine Z2 22 [1,0,0] H Z (Zr Z ?_);have d:=(H.pick 4 [1,2,3] Z).toWd;exact ⟨_,⟨_,⟨(λq=>by first|(exfalso;omega)|simp_all),(by unfold Q9;rw[if_neg U])⟩,Z,Z⟩,d.pick 2 [1,0] Z⟩
theorem Fm{vs:List Vl}(y:vs.length=8){f e:Int}:Cn prog 26 [Y n,I s,I p,Y g,I q,I f,I e] [blk n [Y m,Y i,Y j] 36,voA i r t ([]) vs] (λv Γ=>(p=0/\v=.bool (decide (f=0/\s=q))/\Γ=[blk n [Y m,Y i,Y g] 36,voA i r t [] vs])\/(p≠0/\∃h:Bool,(s=0/\(p=f\/(f=0/\((p=20/\e<25)\/(p=32/\∀x∈vs,x.st≠0))))->h=true)/\v=.bool h/\Γ=[blk n [Y m,Y i,Y j] 36,voA i r t [] vs])):=by
 intro z R w H;refine Ae func26 Z ntmps26 Z (Z0 12 [0] Z (Af Z (λk=>?_) (λk=>?_)))
 ·refine Z4 14 [2,0,0] H Z ?_;intro w H;refine Al 24 Z (λl=>?_) (λl=>?_)
  ·refine Z0 8 [0] Z (Zr Z ?_);exact ⟨_,.inl ⟨by assumption,congrArg Value.bool (by rw[Aew];simp_all),Z⟩,H.pick 2 [0,1] Z⟩
  refine Zc 8 Z (Zr Z ?_);exact ⟨_,.inl ⟨by assumption,congrArg Value.bool (by rw[Aew];simp_all),Z⟩,H.pick 2 [0,1] Z⟩
 refine Zc 7 Z (Aq Z (call66 _) (Aaq y) H ?_);rintro _ w _ ⟨rb,a,rfl,rfl⟩ H;refine Z0 8 [0] Z (Al 35 Z (λo=>?_) (λo=>?_))
 ·refine Z0 4 [0] Z (Al 39 Z (λh4=>?_) (λh4=>?_))
  ·refine Zc 11 Z (Zr Z ?_);exact ⟨_,.inr ⟨by assumption,_,(by rintro ⟨d,b|⟨b,c⟩⟩<;>first|rfl|(exfalso;omega)|exact a c|simp_all),Z,Z⟩,H.pick 2 [0,1] Z⟩
  refine Z0 3 [0] Z (Al 42 Z (λu=>?_) (λu=>?_))
  ·refine Zc 8 Z (Zr Z ?_);exact ⟨_,.inr ⟨by assumption,_,(by rintro ⟨d,b|⟨b,c⟩⟩<;>first|rfl|(exfalso;omega)|exact a c|simp_all),Z,Z⟩,H.pick 2 [0,1] Z⟩
  refine Zc 8 Z (Zr Z ?_);exact ⟨_,.inr ⟨by assumption,_,(by rintro ⟨d,b|⟨b,c⟩⟩<;>first|rfl|(exfalso;omega)|exact a c|simp_all),Z,Z⟩,H.pick 2 [0,1] Z⟩
 refine Zc 15 Z (Zr Z ?_);exact ⟨_,.inr ⟨by assumption,_,(by rintro ⟨d,b|⟨b,c⟩⟩<;>first|rfl|(exfalso;omega)|exact a c|simp_all),Z,Z⟩,H.pick 2 [0,1] Z⟩
section
variable{Tb:Ai}
theorem trA.d64{mb n:Nat}{o:TB}(a:trA Tb i mb n o none h):∀p b,o.N p=some (.dt b)->b.length=240:=by
 obtain ⟨M0,c,_⟩:=a;exact λp b e=>(c.m _ _ e).2.2
def usedP(P:List Pl):Nat:=P.countP λp=>decide (p.1.st≠0)
structure LvI(n:Nat)(o:TB)(nx:Int)(P:List Pl)(W:List Wv)(A:Ai):Prop where
 inv:VInv n o nx P
 rel:VRel o.N P W
 nxe:nx=1+(usedP P:Int)
 bag:∀x∈W,InB A x.u x.V
 d:∀p b,o.N p=some (.dt b)->b.length=240
 k:TrK n o none
variable{n:Nat}{o o2:TB}{nx:Int}{P:List Pl}{W:List Wv}{A A2:Ai}
theorem LvI.hv(h:LvI n o nx P W A):(P.map Prod.fst).length=8:=by rw[Aef];exact h.inv.len
theorem LvI.nx9(h:LvI n o nx P W A):1<=nx/\nx<=9:=by
 have a:=h.nxe;have b:usedP P<=P.length:=List.countP_le_length;have:=h.inv.len;have:=h.inv.nb;omega
theorem LvI.w8(h:LvI n o nx P W A):W.length<=8:=by have:=h.rel.len;have:=h.inv.len;omega
theorem LvI.ok(h:LvI n o nx P W A){p:Pl}(hi:P[i]?=some p)(hs:p.1.st=1):PlOk o.N nx p:=by
 rcases h.inv.all p (Aec hi) with rfl|q
 ·cases hs
 exact q
theorem LvI.pl(h:LvI n o nx P W A){p:Pl}(q:PlOk o.N nx p):p.2.length<=639:=by
 have:=JD h.k.i U (show ∀e∈p.2,∃b,Dk o none e.2=some (.dt b) from q.root.data) q.nd;have:=h.inv.n;omega
theorem LvI.w(h:LvI n o nx P W A){x:Wv}(k:x∈W):(1<=x.sz/\x.sz<=1048576)/\(0<=x.q/\x.q<=1048576)/\x.V.length<=639/\(∀j,(BT j x.V).length=64)/\1<=x.id/\x.id<nx:=by
 obtain ⟨j,m⟩:=AeY.1 k;obtain ⟨i,p,hi,hs,e⟩:=h.rel.back m;have q:=h.ok hi hs;have r:=h.pl q;simp only[Wv.core,CH,Afx] at e;obtain ⟨e1,e2,g,c⟩:=e;refine ⟨by rw[e2];exact q.sz,by rw[g];exact q.q,by rw[c,Kk];exact r,λj=>?_,by rw[e1];exact q.id⟩;rw[c];have a:=q.root.data;generalize p.2=L at a;unfold AW
 induction L with
 | nil=>rfl
 | cons e t ih=>
  rw[AeJ,BT];split
  ·obtain ⟨b,f⟩:=a e O
   have:=h.d _ _ f;rw[f];show (List.take 64 b).length=64;rw[Aex];omega
  exact ih λe l=>a e (by simp[l])
theorem LvI.both(h:LvI n o nx P W A){e:Vl}{L:List E}{x:Wv}(hi:P[i]?=some (e,L))(hs:e.st=1)(b:W[j]?=some x)(c:x.id=e.id):x.sz=e.sz/\x.q=e.q/\x.V=AW o.N L:=by
 obtain ⟨k,x2,a,e2⟩:=h.rel.at hi hs;simp only[Wv.core,CH,Afx] at e2;obtain ⟨e1,d,g,f⟩:=e2;have:=h.rel.uniq b a U;subst this;rw[b] at a;cases a;exact ⟨d,g,f⟩
theorem LvI.at(h:LvI n o nx P W A){id:Int}{i:Nat}{e:Vl}{L:List E}(hi:P[i]?=some (e,L))(hs:e.st=1)(b:e.id=id):∃(j:Nat) (x:Wv),W[j]?=some x/\x.id=id:=by
 obtain ⟨c,x2,a,e2⟩:=h.rel.at hi hs;simp only[Wv.core,CH,Afx] at e2;exact ⟨c,x2,a,by omega⟩
theorem LvI.back(h:LvI n o nx P W A){id:Int}{j:Nat}{x:Wv}(b:W[j]?=some x)(a:x.id=id):∃e∈P.map Prod.fst,e.st=1/\e.id=id:=by
 obtain ⟨i,p,hi,hs,e⟩:=h.rel.back b;simp only[Wv.core,CH,Afx] at e;exact ⟨p.1,Aek.2 ⟨p,Aec hi,Z⟩,hs,by omega⟩
theorem Dl(P:List Pl)(i:Nat)(e:Vl)(L:List E):(P.set i (e,L)).map Prod.fst=(P.map Prod.fst).set i e:=by rw[Ahy]
theorem Pi{P:List Pl}{p p2:Pl}(hi:P[i]?=some p)(b:p2.1.st≠0):(usedP P:Int)+(if p.1.st=0 then 1 else 0)=usedP (P.set i p2):=by
 obtain ⟨a,rfl⟩:=Aeb.1 hi;unfold usedP;rw[List.countP_set a];have c:decide (p2.1.st≠0)=true:=decide_eq_true b;have d:decide (P[i].1.st≠0)=true->0<P.countP λp=>decide (p.1.st≠0):=λq=>List.countP_pos_iff.2 ⟨P[i],AfO a,q⟩;simp only[c,if_true];by_cases e:P[i].1.st=0
 ·rw[if_pos e,if_neg (by simp[e])];omega
 rw[if_neg e,if_pos (by simp[e])];have:=d (by simp[e]);omega
theorem Ja{P:List Pl}{p p2:Pl}(hi:P[i]?=some p)(b:p.1.st=1)(a:p2.1.st≠0):(usedP (P.set i p2):Int)=usedP P:=by
 have:=Pi hi a;rw[if_neg U] at this;omega
theorem Ra{W:List Wv}{x2:Wv}(h:∀x∈W,InB A x.u x.V)(b:Ink A A2)(a:InB A2 x2.u x2.V):∀x∈W.set j x2,InB A2 x.u x.V:=λx c=>by
 rcases Aht c with q|rfl
 ·exact b _ _ (h x q)
 exact a
theorem LvI.ea(h:LvI n o nx P W A){k:Nat}{e e2:Vl}{L L2:List E}{x:Wv}(hi:P[i]?=some (e,L))(hs:e.st=1)(v:W[j]?=some x)(d:x.id=e.id)(c:EaJ n ⟨o.N,o.C,A8 e.r.toNat++CZ (P.eraseIdx i)⟩ nx e (CZ (P.eraseIdx i)) k o2 e2 L2)
  {u2:Value}(hk:Ink A A2)(hb:InB A2 u2 (AW o2.N L2))(hd:∀p b,o2.N p=some (.dt b)->b.length=240)(K:TrK n o2 none):LvI n o2 nx (P.set i (e2,L2)) (W.set j ⟨x.id,x.sz,x.q,u2,AW o2.N L2⟩) A2:=by
 have q:=h.ok hi hs;have hq:=h.both hi hs v d;have w:=c.fld;have f:=q.id;dsimp only at f;have s:∀p∈P,p.1.st=1->p.1.id≠e.id->AW o2.N p.2=AW o.N p.2:=λp hp l m=>by
  obtain ⟨a,g⟩:=AeY.1 hp;have t:a≠i:=λq=>by subst q;rw[hi] at g;cases g;exact m Z
  have u:=h.ok g l;by_cases e0:p.1.r.toNat=0
  ·rcases u.root with ⟨_,y⟩|⟨z,_⟩
   ·rw[y];rfl
   exact absurd e0 z
  exact (c.kv _ (Mf (Hd g t) e0) _ u.root).2
 refine ⟨h.inv.upd hi ⟨Afm _,h.inv.nb.2⟩ c.kv.kp c.ok (.inl w.1) (by rw[c.lw.r]),h.rel.upd h.inv hi v (show e.id≠0 by omega) hs (show e2.st=1 by omega) d ?_ w.1 s,?_,Ra h.bag hk hb,hd,K⟩
 ·simp only[Wv.core,CH,Afx]
  exact ⟨by omega,by omega,by omega,trivial⟩
 have:=Ja (p2:=(e2,L2)) hi hs (show e2.st≠0 by omega);have h0:=h.nxe;omega
theorem LvI.left(h:LvI n o nx P W A)(b:nx<=8):¬∀e∈P.map Prod.fst,e≠v0:=λa=>by
 have c:=h.nxe;have d:usedP P=P.length:=List.countP_eq_length.2 λp hp=>by
  rcases h.inv.all p hp with rfl|q
  ·exact absurd Z (a _ (Aek.2 ⟨_,hp,Z⟩))
  have:=q.st;simp only[decide_eq_true_eq];omega
 have:=h.inv.len;omega
def WrE(W W2:List Wv)(id at_:Int)(m fr:Nat):Prop:=∀x∈W,x.id=id->Bn x.sz (decide (((m%64:Nat):Int)=0)) at_ ((m/64:Nat):Int)=0->
 ∃(j k:Nat) (u2:Value) (V2:List Bk) (bs:List UInt8),W[j]?=some x/\WTr at_ x.q bs x.V k V2/\W2=W.set j ⟨x.id,x.sz,x.q,u2,V2⟩/\(k=m/64\/(k<m/64/\(Ez at_ x.q k V2\/fr<=11+12*k)))
theorem WrE.no{W W2:List Wv}{id:Int}(h:∀x∈W,x.id≠id):WrE W W2 id t m i:=λx a e=>absurd e (h x a)
theorem LvI.eq(h:LvI n o nx P W A){x y:Wv}(c:W[j]?=some x)(d:y∈W)(e:y.id=x.id):y=x:=by
 obtain ⟨a,b⟩:=AeY.1 d;have:=h.rel.uniq c b e;subst this;rw[c] at b;exact (Agb b).symm
theorem WrE.bad(h:LvI n o nx P W A){W2:List Wv}{id:Int}{x:Wv}(c:W[j]?=some x)(a:x.id=id)(b:Bn x.sz (decide (((m%64:Nat):Int)=0)) t ((m/64:Nat):Int)≠0):WrE W W2 id t m i:=λy d e q=>by
 have:=h.eq c d (e.trans a.symm);subst this;exact absurd q b
theorem WrE.did(h:LvI n o nx P W A){id:Int}{k c2:Nat}{x:Wv}{bs:List UInt8}{vf:Nat->List Bk}{a:List Bk}(d:W[j]?=some x)(b:x.id=id)(hq:x.q=q)(g:vf 0=x.V)(l:vf k=a)(p:∀j,j<k->¬Ez t q j (vf j)/\∀V3,PutAt (t+(j:Int)) (DM bs j) (vf j) V3->V3=vf (j+1))
  (f:m<=c2+12*k)(c:(s=0/\(k:Int)=((bs.length/64:Nat):Int))\/((k:Int)<((bs.length/64:Nat):Int)/\((s=30/\Ez t q k a)\/(s=20/\¬Ez t q k a/\c2<=11))))(u2:Value):WrE W (W.set j ⟨x.id,x.sz,x.q,u2,a⟩) id t bs.length m:=λy i e _=>by
 have:=h.eq d i (e.trans b.symm);subst this;subst hq;refine ⟨j,k,u2,a,bs,d,⟨vf,g,l,p⟩,Z,?_⟩;rcases c with r|⟨u,r|r⟩
 ·exact .inl U
 ·exact .inr ⟨by omega,.inl r.2⟩
 exact .inr ⟨by omega,.inr (by have:=r.2.2;omega)⟩
theorem LvI.ink(h:LvI n o nx P W A)(a:Ink A A2):LvI n o nx P W A2:=⟨h.inv,h.rel,h.nxe,λx b=>a _ _ (h.bag x b),h.d,h.k⟩
end
section
variable{Tb:Ai}
theorem Uk(h:n<B.length/64):(DM B n).length=64:=by unfold DM;rw[Aex,AeM];omega
theorem Pj(h:j<B.length/64)(a:B.length<=711){hp:Hp}(q:blk n (B.map u8) T hp):rdH 1 (.slice (some ⟨n,j*64,none⟩) ((j+1)*64-j*64) (B.length-j*64)) (DM B j).length ((DM B j).map u8) hp:=by
 have e1:=Uk h;have e2:(j+1)*64-j*64=64:=by omega
 rw[e1,e2];exact q.rd U U (by rw[Aef];omega) (by unfold DM;rw[Afp,AfU])
theorem PutAt.le{k:Int}{d:List UInt8}{V a:List Bk}(h:PutAt k d V a):a.length<=V.length+1:=by
 obtain ⟨i,_,_,rfl⟩:=h;have:=JE k V;simp only[Aee,Aex,Aeg,AeM];omega
section
variable{at_ q er m:Int}{vf:Nat->List Bk}{V:List Bk}{k i c:Nat}
theorem Acz(c:i<=k)(b:¬(i:Int)<m){X:Prop}(a:(er=0/\(k:Int)=m)\/((k:Int)<m/\X)):(k:Int)=(i:Int)/\er=0:=by
 rcases a with h|h
 ·omega
 omega
theorem lw_quo(e:∀j,j<k->¬Ez at_ q j (vf j))(hq:Ez at_ q i (vf i))(f:i<=k)(a:vf k=V)(d:(er=0/\(k:Int)=m)\/((k:Int)<m/\((er=30/\Ez at_ q k V)\/(er=20/\¬Ez at_ q k V/\c<=11))))(g:(i:Int)<m):(k:Int)=(i:Int)/\er=30:=by
 have b:k=i:=by
  rcases Aeq i k with h|h
  ·exact absurd hq (e i h)
  omega
 subst b;rw[a] at hq;rcases d with h|⟨_,h|h⟩
 ·omega
 ·exact ⟨Z,h.1⟩
 exact absurd hq h.2.1
theorem Pk(hq:¬Ez at_ q i (vf i))(d:(i:Int)=(k:Int))(a:vf k=V)(b:(er=0/\(k:Int)=m)\/((k:Int)<m/\((er=30/\Ez at_ q k V)\/(er=20/\¬Ez at_ q k V/\c<=11))))(e:(i:Int)<m):er=20/\c<=11:=by
 obtain rfl:i=k:=by omega
 rw[a] at hq;rcases b with h|⟨_,h|h⟩
 ·omega
 ·exact absurd h.2 hq
 exact ⟨h.1,h.2.2⟩
end
set_option maxHeartbeats 8000000 in
theorem Ul {pd pv pw pp mb:Nat} (P:List Pl) (o:TB) (W:List Wv) (A:Ai) (y:LvI n o t P W A) (f9:mb+20<=1000000000) (id:Int) {kd ci ca cc cf cs cq:Int} {sy od:Bool} (c1: -9223372036854775808<=ca/\ca<=9223372036854775807) (e4: -9223372036854775808<=cc/\cc<=9223372036854775807) (e3: -9223372036854775808<=cf/\cf<=9223372036854775807) {fr:Int} (e8:fr=(cnt (AV n o.C) 0 1024:Int)):Cn prog 27 [Y g,I id,.agg #[I kd,I ci,I ca,I cc,I cf,I cs,I cq,.bool sy,.bool od],I fr] [blk g [Y pd,Y pv,Y pw] 36,voA pv pp t ([]) (P.map Prod.fst),trA Tb pp mb n o none,wdA pw t W,A] (λv Γ=>∃(p2:Nat) (nx2:Int) (P2:List Pl) (c3:List Vl) (o2:TB) (W2:List Wv) (A2:Ai) (m2:Nat),(LvI n o2 nx2 P2 W2 A2/\c3=P2.map Prod.fst/\m2<=mb+16/\nx2=t/\WrE W W2 id ca (mV cc od) (cnt (AV n o.C) 0 1024)/\KpW W W2 id/\Ink A A2)/\v=.bool true/\Γ=[blk g [Y pd,Y pv,Y p2] 36,voA pv pp nx2 [] c3,trA Tb pp m2 n o2 none,wdA p2 nx2 W2,A2]):=by
 intro z R w H;replace H:=H.l5;have d2:W.length<=64:=by have:=y.w8;omega
 have d6:=λx c=>(y.w (x:=x) c).1
 have d1:=y.bag;refine Ae func27 Z ntmps27 Z (Za 2 [] H Z ?_);intro b1 w H;refine Z2 6 [0,9] H Z (Aq Z (call11 _) (Pf e3 e4) H ?_);rintro _ w _ ⟨db,bs,a8,rfl,rfl⟩ H;replace H:=H.l7;have f0:=Se cc od;have e7:bs.length/64<=11:=by omega
 refine Zc 4 Z ?_;replace H:=H.f1.f2;refine Bh (Sep z (blk g [Y pd,Y pv,Y pw] 36::blk b1 [I kd,I ci,I ca,I cc,I cf,I cs,I cq,.bool sy,.bool od] 28::R)) 20 Z J (AZ H λw f=>?_);have H:=f.l7;refine Bu [0,1,2,3,4,5,6,7] [2,0,2,1] J (λ_ c=>(AO (c.blk 0 Z) (AO (c.blk 1 Z) AM))) (by exact H.pick 7 [0,1] Z) Z J Z Z (BJ 8 J Z Z J J J Z Z Z (Fs Z (z:=1) J Z) (H.pick 7 [0,1] Z) (BJ 9 J Z Z J J J Z Z Z (Ln Z Z Z (r:=((bs.length/64:Nat):Int)) U U U U) (H.pick 7 [0,1] Z) (Bu [10] [] J (λ_ _=>AM) (by exact H.pick 7 [0,1] Z) Z J Z Z (BJ 11 J Z Z J J J Z Z Z (Fs Z (z:=1) J Z) (H.pick 7 [0,1] Z) (BJ 12 J Z Z J J J Z Z Z (Lo Z Z Z (r:=((bs.length%64:Nat):Int)) U U U) (H.pick 7 [0,1] Z) (Bu [13] [] J (λ_ _=>AM) (by exact H.pick 7 [0,1] Z) Z J Z Z (AE [14] J O (Am (Bo Z Z Z Z Z Z (λw=>call67 _ w) (Mi d2 d6 c1 U) H.f5 Z ?_)))))))));rintro _ w _ (⟨b8,rfl,rfl⟩|⟨j,x,⟨c,a⟩,rfl,rfl⟩) f
 ·have H:=f.l7;refine Ar (λ_=>(H.pick 7 [1,2] Z)) (Bu [15,16,17,18] [] J (λ_ _=>AM) (by exact H.pick 7 [1,2] Z) Z J Z Z (AE [19] J O (Am (CD Z Z Z Z (Bl Z Z) (Ar (λh=>absurd Z h) (Bj J (gn (Zc 2 Z ?_))))))));replace H:=H.f2.f2;refine Bh (Sep z (blk g [Y pd,Y pv,Y pw] 36::blk b1 [I kd,I ci,I ca,I cc,I cf,I cs,I cq,.bool sy,.bool od] 28::R)) 16 Z J (AZ H λw f=>?_)
  have H:=f.l7;refine Bu [0,1,2,3,4,5,6,7,8,9] [1,0,2,1,7,1] J (λ_ c=>(AO (c.blk 0 Z) (AO (c.blk 1 Z) AM))) (by exact H.pick 7 [0,1] Z) Z J Z Z (AE [10] J O (Am (Bo Z Z Z Z Z Z (λw=>call10 _ w) (Ko P Z y.inv U id ca c1 db bs U sy) H.f3.f5.f5 Z ?_)));rintro _ w _ (⟨c6,rfl,rfl⟩|⟨i,e,L,⟨hi,hs,a3⟩,(⟨_,rfl,rfl⟩|⟨_,k,o2,e2,L2,m2,er,_,rfl,rfl⟩)⟩) f
  ·have H:=f.l7;refine Ar (λ_=>(H.pick 7 [3,4] Z)) (Bu [11,12,13,14] [] J (λ_ _=>AM) (by exact H.pick 7 [3,4] Z) Z J Z Z (AE [15] J O (Am (CD Z Z Z Z (Bl Z Z) (Ar (λh=>absurd Z h) (Bj J (gn (Z0 22 [3,3,3] Z (Zr Z ?_)))))))));exact ⟨_,⟨_,_,P,_,o,W,A,mb,⟨y,Z,by omega,Z,WrE.no b8,.eq Z,Ink.refl _⟩,Z,Z⟩,H.pick 7 [3,0,1,5,6] Z⟩
  ·exact (by obtain ⟨j9,x9,q1,q2⟩:=y.at hi hs a3;exact absurd q2 (b8 x9 (Aec q1)))
  exact (by obtain ⟨j9,x9,q1,q2⟩:=y.at hi hs a3;exact absurd q2 (b8 x9 (Aec q1)))
 have H:=f.l7;refine Ar (λ_=>(H.pick 7 [1,2] Z)) (Bu [15,16,17,18] [] J (λ_ _=>AM) (by exact H.pick 7 [1,2] Z) Z J Z Z (AE [19] J O (Am (CD Z Z Z Z (Bl Z Z) (Ar (λh=>absurd Z h) (Bj J (gn (Zc 2 Z ?_))))))));replace H:=H.f2.f2;refine Bh (Sep z (blk g [Y pd,Y pv,Y pw] 36::blk b1 [I kd,I ci,I ca,I cc,I cf,I cs,I cq,.bool sy,.bool od] 28::R)) 16 Z J (AZ H λw f=>?_);have H:=f.l7;refine Bu [0,1,2,3,4,5,6,7,8,9] [1,0,2,1,7,1] J (λ_ c=>(AO (c.blk 0 Z) (AO (c.blk 1 Z) AM))) (by exact H.pick 7 [0,1] Z) Z J Z Z (AE [10] J O (Am (Bo Z Z Z Z Z Z (λw=>call10 _ w) (Ko P Z y.inv U id ca c1 db bs U sy) H.f3.f5.f5 Z ?_)));rintro _ w _ (⟨c6,rfl,rfl⟩|⟨i,e,L,⟨hi,hs,a3⟩,(⟨hE,rfl,rfl⟩|⟨hE,k,o2,e2,L2,m2,er,⟨⟨b4,vf,d9,a0,a5⟩,a2,g1⟩,rfl,rfl⟩)⟩) f
 ·exact (by obtain ⟨e9,b3,q1,q2⟩:=y.back c a;exact absurd ⟨q1,q2⟩ (c6 e9 b3))
 ·have H:=f.l7;have a7:=y.both hi hs c (a.trans a3.symm)
  refine Ar (λ_=>(H.pick 7 [3,4] Z)) (Bu [11,12,13,14] [] J (λ_ _=>AM) (by exact H.pick 7 [3,4] Z) Z J Z Z (AE [15] J O (Am (CD Z Z Z Z (Bl Z Z) (Ar (λh=>absurd Z h) (Bj J (gn (Zc 3 Z (AD 11 (v:=I (Bn e.sz (decide (((bs.length%64:Nat):Int)=0)) ca ((bs.length/64:Nat):Int))) Z (congrArg I (by rw[a7.1])) (Z0 5 [0] Z (Af Z (λh1=>?_) (λh1=>?_))))))))))))
  ·refine Z0 6 [0] Z (Al 56 Z (λh2=>?_) (λh2=>?_))
   ·refine Z0 7 [3] Z (Zr Z ?_);exact ⟨_,⟨_,_,P,_,o,W,A,mb,⟨y,Z,by omega,Z,a8▸WrE.bad y c a (by rw[a7.1];exact hE),.eq Z,Ink.refl _⟩,Z,Z⟩,H.pick 7 [3,0,1,5,6] Z⟩
   exact absurd Z h2
  exact absurd hE h1
 have H:=f.l7;have a7:=y.both hi hs c (a.trans a3.symm);refine Ar (λ_=>(H.pick 7 [3,4] Z)) (Bu [11,12,13,14] [] J (λ_ _=>AM) (by exact H.pick 7 [3,4] Z) Z J Z Z (AE [15] J O (Am (CD Z Z Z Z (Bl Z Z) (Ar (λh=>absurd Z h) (Bj J (gn (Zc 3 Z (AD 11 (v:=I 0) Z (congrArg I (by rw[a7.1];exact hE)) (Z0 10 [4] Z (AD 10 (v:=I (j:Int)) Z (congrArg I (if_pos (by rw[a7.1];exact hE))) ?_)))))))))));replace H:=H.f5;obtain ⟨uw,H⟩:=H.wd;replace H:=H.l8;have d7:=H.sy 1 (·.slc);obtain ⟨aw,cw,rfl⟩:=d7;obtain ⟨xi,xs,xq,xu,xV⟩:=x;have b6:∀p b,o2.N p=some (.dt b)->b.length=240:=H.says 3 Z (λh q=>trA.d64 q);have K2:=H.says 3 Z (λh q=>trA.k q);have d5:=(y.w (Aec c)).2.2.1;have d0:InB A xu xV:=d1 _ (Aec c);have d4:=(Aeb.1 c).1;obtain ⟨e5,b0,c2⟩:=a7;dsimp only at e5 b0 c2 d5;have a6:cnt (AV n o.C) 0 1024<=cnt (AV n o2.C) 0 1024+12*k:=b4.fr;have a1:vf 0=xV:=by rw[d9,c2]
 have d8:W.set j ⟨xi,xs,xq,xu,vf 0⟩=W:=by obtain ⟨hl,e9⟩:=Aeb.1 c;rw[a1];show W.set j ⟨xi,xs,xq,xu,xV⟩=W;rw[<-e9];exact Af6 hl
 have g0:(k:Int)<=((bs.length/64:Nat):Int):=by rcases a2 with q|q<;>omega
 have d3:=FY hE;have c5:=(y.ok hi hs).sz;dsimp only at c5;refine Zc 5 Z ?_;refine AB (σ:=Nat×Value×Ai) (λ⟨s,u2,AA⟩=>[(14,I (s:Int)),(0,Y g),(3,I fr),(6,Y b1),(9,.slice (some ⟨db,0,none⟩) bs.length bs.length),(10,I (j:Int)),(12,I (k:Int)),(13,I er)])
   (λ⟨s,u2,AA⟩ w=>Sep z (blk pw [.slice aw W.length cw,I t] 31::grow 40 4 (.slice aw W.length cw) W.length (Bq (W.set j ⟨xi,xs,xq,u2,vf s⟩))::voA pv pp t ([]) ((P.map Prod.fst).set i e2)::trA Tb pp m2 n o2 none::blk db (bs.map u8) 5::blk g [Y pd,Y pv,Y pw] 36::blk b1 [I kd,I ci,I ca,I cc,I cf,I cs,I cq,.bool sy,.bool od] 28::AA::R) w/\(s<=k/\(vf s).length<=639+s/\Ink A AA/\InB AA u2 (vf s))) (λ⟨s,u2,AA⟩=>k-s) ⟨0,xu,A⟩
   fr_z ⟨(by rw[d8];exact H),⟨AeO _,by rw[a1];omega,Ink.refl A,by rw[a1];exact d0⟩⟩ ?_
 clear H;rintro ⟨s,u2,AA⟩ w ⟨f,hI⟩;dsimp only at hI f ⊢;have H:=f.l8;obtain ⟨c7,g3,hK,m⟩:=hI;refine Z1 10 [0] [((bs.length/64:Nat):Int)] Z U (Af Z (λh3=>?_) (λh3=>?_))
 ·refine Zc 5 Z ?_;have e1:=H.sy 7 (λq=>(m _ q).slc)
  obtain ⟨au,cu,rfl⟩:=e1;have b5:(W.set j ⟨xi,xs,xq,.slice au (vf s).length cu,vf s⟩)[j]?=some ⟨xi,xs,xq,.slice au (vf s).length cu,vf s⟩:=Aff d4;have a4:=(H.rv 1 (·.rd)).at (Bx b5 0 _ Z);refine Z2 9 [2,5,0,0,0,0] H Z (Ab Z (Aj Z (z:=4) (j:=j) (r:=j*4) J Z Z Z U a4 U) (Ab Z (Bp Z Z (vs:=[I xi,I xs,I xq,.slice au (vf s).length cu]) J O (Ay (λk' u hk=>(H.rv 1 (·.rd)).at (Bx b5 k' u hk)))) (Za 0 [] H Z ?_)));intro b2 w H;refine Z5 10 [0,0,4,2,7,0] [ca+(s:Int)] H Z U ?_;intro w H;refine z_E_ Z (call68 _) (Acd AA m) H.f8 ?_;intro w H;refine Zc 7 Z (Ab Z (AF Z Z) (Zc 1 Z (Al 85 Z (λh4=>?_) (λh4=>?_))))
  ·refine Z2 9 [3,1,0,2,1,0,0] H Z (Af Z (λh5=>?_) (λh5=>?_))
   ·obtain ⟨e0,b3⟩:=lw_quo (λq hq=>(a5 q hq).1) (i:=s) ⟨by assumption,by omega⟩ c7 a0 a2 U;refine Z0 5 [0] Z (Al 95 Z (λh6=>?_) (λh6=>?_))
    ·refine Z0 8 [0] Z (Zr Z ?_);obtain rfl:s=k:=by omega
     rw[a0] at H m;have hF:=y.ea hi hs c (a.trans a3.symm) b4 hK m b6 K2;have f:=Sep.toWd (W:=W.set j ⟨xi,xs,xq,.slice au (AW o2.N L2).length cu,AW o2.N L2⟩) (by rw[AeU];exact H.pick 9 [2,3,7,4,5,0] Z);exact ⟨_,⟨_,_,_,_,o2,_,AA,m2,⟨hF,(Dl P i e2 L2).symm,by omega,Z,a8▸WrE.did y c a b0 a1 a0 a5 a6 a2 _,.set c a,hK⟩,congrArg Value.bool (decide_eq_true U),Z⟩,f.pick 5 [1,2,3,0,4] Z⟩
    exact absurd b3 h6
   refine Z0 10 [0] Z (Af Z (λh7=>?_) (λh7=>?_))
   ·have c0:=Pk (i:=s) (λq9=>by have q1:=q9.1;have q2:=q9.2;first|exact q1 (by assumption)|exact absurd q1 (by assumption)|simp_all|omega) U a0 a2 U
    refine Z0 5 [0] Z (Al 105 Z (λh8=>?_) (λh8=>?_))
    ·refine Z1 10 [0] [12*(s:Int),25+12*(s:Int)] Z U (Zr Z ?_);obtain rfl:s=k:=by omega
     rw[a0] at H m;have hF:=y.ea hi hs c (a.trans a3.symm) b4 hK m b6 K2;have f:=Sep.toWd (W:=W.set j ⟨xi,xs,xq,.slice au (AW o2.N L2).length cu,AW o2.N L2⟩) (by rw[AeU];exact H.pick 9 [2,3,7,4,5,0] Z);exact ⟨_,⟨_,_,_,_,o2,_,AA,m2,⟨hF,(Dl P i e2 L2).symm,by omega,Z,a8▸WrE.did y c a b0 a1 a0 a5 a6 a2 _,.set c a,hK⟩,congrArg Value.bool (decide_eq_true U),Z⟩,f.pick 5 [1,2,3,0,4] Z⟩
    exact absurd c0.1 h8
   refine Zc 2 Z ?_;replace H:=H.f6.f2.f8.f5.f5.f8;refine Bh (Sep z (blk g [Y pd,Y pv,Y pw] 36::blk pw [.slice aw W.length cw,I t] 31::grow 40 4 (.slice aw W.length cw) W.length (Bq (W.set j ⟨xi,xs,xq,.slice au (vf s).length cu,vf s⟩))::blk b1 [I kd,I ci,I ca,I cc,I cf,I cs,I cq,.bool sy,.bool od] 28::blk b2 [I xi,I xs,I xq,.slice au ((vf s).length) cu] 40::blk db (bs.map u8) 5::R)) 24 Z J (AZ H λw f=>?_);have H:=f.l9;refine Bu [0,1,2,3,4,5,6,7] [2,0,0,1] J (λ_ c=>(AO (c.blk 0 Z) (AO (c.blk 1 Z) AM))) (by exact H.pick 9 [0,1,2,3,4,5] Z) Z J Z Z (BJ 8 J Z Z J J J Z Z Z (BU Z Z (vs:=[I xi,I xs,I xq,.slice au ((vf s).length) cu]) J (λ_ c=>(c.blk 4 Z).part 0 4 _ Z)) (H.pick 9 [0,1,2,3,4,5] Z) (Bu [9,10,11] [2,0] J (λ_ c=>(AO (c.blk 3 Z) AM)) (by exact H.pick 9 [0,1,2,3,4,5] Z) Z J Z Z (BJ 12 J Z Z J J J Z Z Z (C3 Z Z Z (r:=ca+(s:Int)) U U) (H.pick 9 [0,1,2,3,4,5] Z) (Bu [13,14] [] J (λ_ _=>AM) (by exact H.pick 9 [0,1,2,3,4,5] Z) Z J Z Z (BJ 15 J Z Z J J J Z Z Z (Ht Z Z Z (r:=((s*64:Nat):Int)) U U) (H.pick 9 [0,1,2,3,4,5] Z) (Bu [16] [] J (λ_ _=>AM) (by exact H.pick 9 [0,1,2,3,4,5] Z) Z J Z Z (BJ 17 J Z Z J J J Z Z Z (C3 Z Z Z (r:=(s:Int)+1) U U) (H.pick 9 [0,1,2,3,4,5] Z) (BJ 18 J Z Z J J J Z Z Z (Ht Z Z Z (r:=(((s+1)*64:Nat):Int)) U U) (H.pick 9 [0,1,2,3,4,5] Z) (BJ 19 J Z Z J J J Z Z Z (BL Z (z:=1) (p:=(s*64)) (q:=((s+1)*64)) (o':=(s*64)) (l':=((s+1)*64)-(s*64)) (c':=bs.length-(s*64)) J Z (.inr ⟨_,_,_,Z,Z,Z⟩) (.inr ⟨_,_,_,Z,Z,Z⟩) U U U U U U) (H.pick 9 [0,1,2,3,4,5] Z) (BJ 20 J Z Z J J J Z Z Z (Cg (l:=DM bs s) Z J J Z (λ_ b7=>b7.rv 5 (λq=>Pj U U q))) (H.pick 9 [0,1,2,3,4,5] Z) (AE [21] J O (Am (Bo Z Z Z Z Z Z (λw=>call69 _ w) (T3 (ca+(s:Int)) (vf s) AA m (DM bs s) U) H.f6 Z ?_)))))))))))));rintro _ w _ ⟨u3,V2,a9,rfl,rfl⟩ H;replace H:=H.l10;have c9:=PutAt.le a9;obtain rfl:V2=vf (s+1):=(a5 s U).2 V2 a9;have b9:=H.sy 0 (·.rd.slc);refine Ar (λ_=>(H.pick 10 [2,3,4,5,6,7] Z)) (BJ 22 J Z Z J J J Z Z Z (Aj Z (z:=4) (j:=j) (r:=j*4) J Z Z Z U a4 U) (H.pick 10 [2,3,4,5,6,7] Z) (AE [23] J O (Am (Bi Z Z Z (CV 4 H Z Z Z Z (vs:=[I xi,I xs,I xq,u3]) Z (Ad Z (Ad Z (Ad Z (Ad b9.one Aw)))) J U (by simp only[Aeg,AeB];omega) (out:=Bq ((W.set j ⟨xi,xs,xq,.slice au (vf s).length cu,vf s⟩).set j ⟨xi,xs,xq,u3,vf (s+1)⟩)) (Ia (x2:=⟨xi,xs,xq,u3,vf (s+1)⟩) b5 0 O (by simp[Wv.cells]))) ?_))));rintro w H;replace H:=H.l10;refine Ar (λh=>absurd Z h) (Bj J (gn (Zc 2 Z ?_)));rw[AgE] at H;have f:=(H.pick 10 [0,1,2,3,4,5,6,7,8,9] Z).made 2 (A:=both (grow 90 2 u3 ((vf (s+1)).length) (BY (vf (s+1)))) AA) (λh q=>q);clear H;have H:Sep z (both (grow 90 2 u3 ((vf (s+1)).length) (BY (vf (s+1)))) AA::blk g [Y pd,Y pv,Y pw] 36::blk pw [.slice aw W.length cw,I t] 31::grow 40 4 (.slice aw W.length cw) W.length (Bq (W.set j ⟨xi,xs,xq,u3,vf (s+1)⟩))::blk b1 [I kd,I ci,I ca,I cc,I cf,I cs,I cq,.bool sy,.bool od] 28::blk b2 [I xi,I xs,I xq,.slice au ((vf s).length) cu] 40::blk db (bs.map u8) 5::voA pv pp t ([]) ((P.map Prod.fst).set i e2)::trA Tb pp m2 n o2 none::R) w:=f;clear f;refine Z1 5 [] [(s:Int)+1] Z U ?_;replace H:=H.f5.d.f4.f2.f5.f7.f7.f7.f7;refine gf ?_;intro _ hF;refine ⟨⟨s+1,u3,both (grow 90 2 u3 ((vf (s+1)).length) (BY (vf (s+1)))) AA⟩,hF.cz,⟨H,?_⟩,?_⟩
   ·exact ⟨by show s+1<=k;omega,by show (vf (s+1)).length<=_;omega,hK.trans (Ink.both _ AA),InB.grow⟩
   (dsimp only;omega)
  refine Z0 20 [0] Z (Af Z (λh9=>?_) (λh9=>?_))
  ·have c0:=Pk (i:=s) (λq9=>by have q1:=q9.1;first|exact q1 (by assumption)|exact absurd q1 (by assumption)|simp_all|omega) U a0 a2 U
   refine Z0 5 [0] Z (Al 105 Z (λc4=>?_) (λc4=>?_))
   ·refine Z1 10 [0] [12*(s:Int),25+12*(s:Int)] Z U (Zr Z ?_);obtain rfl:s=k:=by omega
    rw[a0] at H m;have hF:=y.ea hi hs c (a.trans a3.symm) b4 hK m b6 K2;have f:=Sep.toWd (W:=W.set j ⟨xi,xs,xq,.slice au (AW o2.N L2).length cu,AW o2.N L2⟩) (by rw[AeU];exact H.pick 9 [2,3,7,4,5,0] Z);exact ⟨_,⟨_,_,_,_,o2,_,AA,m2,⟨hF,(Dl P i e2 L2).symm,by omega,Z,a8▸WrE.did y c a b0 a1 a0 a5 a6 a2 _,.set c a,hK⟩,congrArg Value.bool (decide_eq_true U),Z⟩,f.pick 5 [1,2,3,0,4] Z⟩
   exact absurd c0.1 c4
  refine Zc 2 Z ?_;replace H:=H.f6.f2.f8.f5.f5.f8;refine Bh (Sep z (blk g [Y pd,Y pv,Y pw] 36::blk pw [.slice aw W.length cw,I t] 31::grow 40 4 (.slice aw W.length cw) W.length (Bq (W.set j ⟨xi,xs,xq,.slice au (vf s).length cu,vf s⟩))::blk b1 [I kd,I ci,I ca,I cc,I cf,I cs,I cq,.bool sy,.bool od] 28::blk b2 [I xi,I xs,I xq,.slice au ((vf s).length) cu] 40::blk db (bs.map u8) 5::R)) 24 Z J (AZ H λw f=>?_);have H:=f.l9;refine Bu [0,1,2,3,4,5,6,7] [2,0,0,1] J (λ_ c=>(AO (c.blk 0 Z) (AO (c.blk 1 Z) AM))) (by exact H.pick 9 [0,1,2,3,4,5] Z) Z J Z Z (BJ 8 J Z Z J J J Z Z Z (BU Z Z (vs:=[I xi,I xs,I xq,.slice au ((vf s).length) cu]) J (λ_ c=>(c.blk 4 Z).part 0 4 _ Z)) (H.pick 9 [0,1,2,3,4,5] Z) (Bu [9,10,11] [2,0] J (λ_ c=>(AO (c.blk 3 Z) AM)) (by exact H.pick 9 [0,1,2,3,4,5] Z) Z J Z Z (BJ 12 J Z Z J J J Z Z Z (C3 Z Z Z (r:=ca+(s:Int)) U U) (H.pick 9 [0,1,2,3,4,5] Z) (Bu [13,14] [] J (λ_ _=>AM) (by exact H.pick 9 [0,1,2,3,4,5] Z) Z J Z Z (BJ 15 J Z Z J J J Z Z Z (Ht Z Z Z (r:=((s*64:Nat):Int)) U U) (H.pick 9 [0,1,2,3,4,5] Z) (Bu [16] [] J (λ_ _=>AM) (by exact H.pick 9 [0,1,2,3,4,5] Z) Z J Z Z (BJ 17 J Z Z J J J Z Z Z (C3 Z Z Z (r:=(s:Int)+1) U U) (H.pick 9 [0,1,2,3,4,5] Z) (BJ 18 J Z Z J J J Z Z Z (Ht Z Z Z (r:=(((s+1)*64:Nat):Int)) U U) (H.pick 9 [0,1,2,3,4,5] Z) (BJ 19 J Z Z J J J Z Z Z (BL Z (z:=1) (p:=(s*64)) (q:=((s+1)*64)) (o':=(s*64)) (l':=((s+1)*64)-(s*64)) (c':=bs.length-(s*64)) J Z (.inr ⟨_,_,_,Z,Z,Z⟩) (.inr ⟨_,_,_,Z,Z,Z⟩) U U U U U U) (H.pick 9 [0,1,2,3,4,5] Z) (BJ 20 J Z Z J J J Z Z Z (Cg (l:=DM bs s) Z J J Z (λ_ b7=>b7.rv 5 (λq=>Pj U U q))) (H.pick 9 [0,1,2,3,4,5] Z) (AE [21] J O (Am (Bo Z Z Z Z Z Z (λw=>call69 _ w) (T3 (ca+(s:Int)) (vf s) AA m (DM bs s) U) H.f6 Z ?_)))))))))))));rintro _ w _ ⟨u3,V2,a9,rfl,rfl⟩ H;replace H:=H.l10;have c9:=PutAt.le a9;obtain rfl:V2=vf (s+1):=(a5 s U).2 V2 a9;have b9:=H.sy 0 (·.rd.slc);refine Ar (λ_=>(H.pick 10 [2,3,4,5,6,7] Z)) (BJ 22 J Z Z J J J Z Z Z (Aj Z (z:=4) (j:=j) (r:=j*4) J Z Z Z U a4 U) (H.pick 10 [2,3,4,5,6,7] Z) (AE [23] J O (Am (Bi Z Z Z (CV 4 H Z Z Z Z (vs:=[I xi,I xs,I xq,u3]) Z (Ad Z (Ad Z (Ad Z (Ad b9.one Aw)))) J U (by simp only[Aeg,AeB];omega) (out:=Bq ((W.set j ⟨xi,xs,xq,.slice au (vf s).length cu,vf s⟩).set j ⟨xi,xs,xq,u3,vf (s+1)⟩)) (Ia (x2:=⟨xi,xs,xq,u3,vf (s+1)⟩) b5 0 O (by simp[Wv.cells]))) ?_))));rintro w H;replace H:=H.l10;refine Ar (λh=>absurd Z h) (Bj J (gn (Zc 2 Z ?_)));rw[AgE] at H;have f:=(H.pick 10 [0,1,2,3,4,5,6,7,8,9] Z).made 2 (A:=both (grow 90 2 u3 ((vf (s+1)).length) (BY (vf (s+1)))) AA) (λh q=>q);clear H;have H:Sep z (both (grow 90 2 u3 ((vf (s+1)).length) (BY (vf (s+1)))) AA::blk g [Y pd,Y pv,Y pw] 36::blk pw [.slice aw W.length cw,I t] 31::grow 40 4 (.slice aw W.length cw) W.length (Bq (W.set j ⟨xi,xs,xq,u3,vf (s+1)⟩))::blk b1 [I kd,I ci,I ca,I cc,I cf,I cs,I cq,.bool sy,.bool od] 28::blk b2 [I xi,I xs,I xq,.slice au ((vf s).length) cu] 40::blk db (bs.map u8) 5::voA pv pp t ([]) ((P.map Prod.fst).set i e2)::trA Tb pp m2 n o2 none::R) w:=f;clear f;refine Z1 5 [] [(s:Int)+1] Z U ?_;replace H:=H.f5.d.f4.f2.f5.f7.f7.f7.f7;refine gf ?_;intro _ hF;refine ⟨⟨s+1,u3,both (grow 90 2 u3 ((vf (s+1)).length) (BY (vf (s+1)))) AA⟩,hF.cz,⟨H,?_⟩,?_⟩
  ·exact ⟨by show s+1<=k;omega,by show (vf (s+1)).length<=_;omega,hK.trans (Ink.both _ AA),InB.grow⟩
  (dsimp only;omega)
 obtain ⟨e0,b3⟩:=Acz c7 U a2;refine Zc 2 Z (gx (Z0 7 [0] Z (Al 137 Z (λc8=>?_) (λc8=>?_))))
 ·refine Z1 10 [0] [((bs.length/64:Nat):Int)] Z U (Zr Z ?_);obtain rfl:s=k:=by omega
  rw[a0] at H m;have hF:=y.ea hi hs c (a.trans a3.symm) b4 hK m b6 K2;have f:=Sep.toWd (W:=W.set j ⟨xi,xs,xq,u2,AW o2.N L2⟩) (by rw[AeU];exact H.pick 8 [0,1,5,2,3,7] Z);exact ⟨_,⟨_,_,_,_,o2,_,AA,m2,⟨hF,(Dl P i e2 L2).symm,by omega,Z,a8▸WrE.did y c a b0 a1 a0 a5 a6 a2 _,.set c a,hK⟩,congrArg Value.bool (decide_eq_true U),Z⟩,f.pick 5 [1,2,3,0,4] Z⟩
 exact absurd b3 c8
end
section
variable{Tb:Ai}
set_option maxHeartbeats 8000000 in
theorem Um {pw pp mb:Nat} (P:List Pl) (o:TB) (W:List Wv) (A:Ai) (f:LvI n o t P W A) (c3:mb+20<=1000000000) (id:Int) {ci ca cc cf cs cq:Int} {od:Bool} (a2: -9223372036854775808<=ca/\ca<=9223372036854775807) (a4: -9223372036854775808<=cc/\cc<=9223372036854775807) {fr:Int} (c2:fr=(cnt (AV n o.C) 0 1024:Int)):Cn prog 29 [Y m,I id,.agg #[I s,I ci,I ca,I cc,I cf,I cs,I cq,.bool c,.bool od],I fr] [blk m [Y g,Y r,Y pw] 36,voA r pp t ([]) (P.map Prod.fst),trA Tb pp mb n o none,wdA pw t W,A] (λv Γ=>∃(p2:Nat) (nx2:Int) (P2:List Pl) (b3:List Vl) (o2:TB) (W2:List Wv) (A2:Ai) (m2:Nat),(LvI n o2 nx2 P2 W2 A2/\b3=P2.map Prod.fst/\m2<=mb+16/\KpW W W2 id/\Ink A A2)/\v=.bool true/\Γ=[blk m [Y g,Y r,Y p2] 36,voA r pp nx2 [] b3,trA Tb pp m2 n o2 none,wdA p2 nx2 W2,A2]):=by
 intro z R w H;replace H:=H.l5;have a9:W.length<=64:=by have:=f.w8;omega
 have b5:=λx d=>(f.w (x:=x) d).1;have b2:∀x∈W,x.V.length<=1048576:=λx d=>by have:=(f.w d).2.2.1;omega
 have b7:=f.bag;refine Ae func29 Z ntmps29 Z (Za 2 [] H Z ?_);intro b1 w H;refine Zc 4 Z ?_;replace H:=H.f1;refine Bh (Sep z (blk m [Y g,Y r,Y pw] 36::blk b1 [I s,I ci,I ca,I cc,I cf,I cs,I cq,.bool c,.bool od] 28::R)) 15 Z J (AZ H λw u=>?_);have H:=u.l6;refine Bu [0,1,2,3,4,5,6,7,8] [2,0,2,1,3,1] J (λ_ d=>(AO (d.blk 0 Z) (AO (d.blk 1 Z) AM))) (by exact H.pick 6 [0,1] Z) Z J Z Z (AE [9] J O (Am (Bo Z Z Z Z Z Z (λw=>call67 _ w) (Mi a9 b5 a2 a4) H.f4 Z ?_)));rintro _ w _ (⟨b0,rfl,rfl⟩|⟨j,x,⟨d,a⟩,rfl,rfl⟩) u
 ·have H:=u.l6;refine Ar (λ_=>(H.pick 6 [1,2] Z)) (Bu [10,11,12,13] [] J (λ_ _=>AM) (by exact H.pick 6 [1,2] Z) Z J Z Z (AE [14] J O (Am (CD Z Z Z Z (Bl Z Z) (Ar (λh=>absurd Z h) (Bj J (gn (Zc 2 Z ?_))))))));replace H:=H.f2.f2;refine Bh (Sep z (blk m [Y g,Y r,Y pw] 36::blk b1 [I s,I ci,I ca,I cc,I cf,I cs,I cq,.bool c,.bool od] 28::R)) 15 Z J (AZ H λw u=>?_)
  have H:=u.l6;refine Bu [0,1,2,3,4,5,6,7,8] [1,0,2,1,3,1] J (λ_ d=>(AO (d.blk 0 Z) (AO (d.blk 1 Z) AM))) (by exact H.pick 6 [0,1] Z) Z J Z Z (AE [9] J O (Am (Bo Z Z Z Z Z Z (λw=>call12 _ w) (Kq P Z f.inv U id ca cc a2 a4) H.f4.f4 Z ?_)));rintro _ w _ (⟨a6,rfl,rfl⟩|⟨i,e,L,⟨hi,hs,l⟩,(⟨_,rfl,rfl⟩|⟨_,k,o2,e2,L2,m2,er,_,rfl,rfl⟩)⟩) u
  ·have H:=u.l6;refine Ar (λ_=>(H.pick 6 [2,3] Z)) (Bu [10,11,12,13] [] J (λ_ _=>AM) (by exact H.pick 6 [2,3] Z) Z J Z Z (AE [14] J O (Am (CD Z Z Z Z (Bl Z Z) (Ar (λh=>absurd Z h) (Bj J (gn (Z0 22 [3,3,3] Z (Zr Z ?_)))))))));exact ⟨_,⟨_,_,P,_,o,W,A,mb,⟨f,Z,by omega,.eq Z,Ink.refl _⟩,Z,Z⟩,H.pick 6 [2,0,1,4,5] Z⟩
  ·exact (by obtain ⟨j9,x9,q1,q2⟩:=f.at hi hs l;exact absurd q2 (b0 x9 (Aec q1)))
  exact (by obtain ⟨j9,x9,q1,q2⟩:=f.at hi hs l;exact absurd q2 (b0 x9 (Aec q1)))
 have H:=u.l6;refine Ar (λ_=>(H.pick 6 [1,2] Z)) (Bu [10,11,12,13] [] J (λ_ _=>AM) (by exact H.pick 6 [1,2] Z) Z J Z Z (AE [14] J O (Am (CD Z Z Z Z (Bl Z Z) (Ar (λh=>absurd Z h) (Bj J (gn (Zc 2 Z ?_))))))));replace H:=H.f2.f2;refine Bh (Sep z (blk m [Y g,Y r,Y pw] 36::blk b1 [I s,I ci,I ca,I cc,I cf,I cs,I cq,.bool c,.bool od] 28::R)) 15 Z J (AZ H λw u=>?_);have H:=u.l6;refine Bu [0,1,2,3,4,5,6,7,8] [1,0,2,1,3,1] J (λ_ d=>(AO (d.blk 0 Z) (AO (d.blk 1 Z) AM))) (by exact H.pick 6 [0,1] Z) Z J Z Z (AE [9] J O (Am (Bo Z Z Z Z Z Z (λw=>call12 _ w) (Kq P Z f.inv U id ca cc a2 a4) H.f4.f4 Z ?_)));rintro _ w _ (⟨a6,rfl,rfl⟩|⟨i,e,L,⟨hi,hs,l⟩,(⟨hE,rfl,rfl⟩|⟨hE,k,o2,e2,L2,m2,er,⟨⟨a5,a8⟩,c0,c5⟩,rfl,rfl⟩)⟩) u
 ·exact (by obtain ⟨e9,b9,q1,q2⟩:=f.back d a;exact absurd ⟨q1,q2⟩ (a6 e9 b9))
 ·have H:=u.l6;have a0:=f.both hi hs d (a.trans l.symm)
  refine Ar (λ_=>(H.pick 6 [2,3] Z)) (Bu [10,11,12,13] [] J (λ_ _=>AM) (by exact H.pick 6 [2,3] Z) Z J Z Z (AE [14] J O (Am (CD Z Z Z Z (Bl Z Z) (Ar (λh=>absurd Z h) (Bj J (gn (Zc 3 Z (AD 10 (v:=I (Bn e.sz true ca cc)) Z (congrArg I (by rw[a0.1])) (Z0 5 [0] Z (Af Z (λh1=>?_) (λh1=>?_))))))))))))
  ·refine Z0 6 [0] Z (Al 44 Z (λh2=>?_) (λh2=>?_))
   ·refine Z0 7 [3] Z (Zr Z ?_);exact ⟨_,⟨_,_,P,_,o,W,A,mb,⟨f,Z,by omega,.eq Z,Ink.refl _⟩,Z,Z⟩,H.pick 6 [2,0,1,4,5] Z⟩
   first|exact absurd hE h2|exact absurd rfl h2
  first|exact absurd hE h1|exact absurd rfl h1
 have H:=u.l6;have a0:=f.both hi hs d (a.trans l.symm);refine Ar (λ_=>(H.pick 6 [2,3] Z)) (Bu [10,11,12,13] [] J (λ_ _=>AM) (by exact H.pick 6 [2,3] Z) Z J Z Z (AE [14] J O (Am (CD Z Z Z Z (Bl Z Z) (Ar (λh=>absurd Z h) (Bj J (gn (Zc 3 Z (AD 10 (v:=I 0) Z (congrArg I (by rw[a0.1];exact hE)) (Z0 9 [4] Z ?_))))))))));have a7:∀p b,o2.N p=some (.dt b)->b.length=240:=H.says 1 Z (λh q=>trA.d64 q);have K2:=H.says 1 Z (λh q=>trA.k q);have c1:cnt (AV n o.C) 0 1024<=cnt (AV n o2.C) 0 1024+12*k:=a5.fr;have c4:(k:Int)<=cc:=by rcases c0 with q|q<;>omega
 have b8:=FY hE;have b4:=(f.ok hi hs).sz;dsimp only at b4;replace H:=H.f3.f3;refine Bh (Sep z (blk m [Y g,Y r,Y pw] 36::blk b1 [I s,I ci,I ca,I cc,I cf,I cs,I cq,.bool c,.bool od] 28::R)) 9 Z J (AZ H λw u=>?_);have H:=u.l6;refine Bu [0,1,2,3,4,5,6,7] [2,0,2,1] J (λ_ d=>(AO (d.blk 0 Z) (AO (d.blk 1 Z) AM))) (by exact H.pick 6 [0,1] Z) Z J Z Z (AE [8] J O (Am (Bo Z Z Z Z Z Z (λw=>call70 _ w) (WP id ca (k:Int) a9 A b7 b2 j x d a (λk9 y9 b6 e9=>f.rel.uniq d b6 e9) U U) H.f5.f5 Z ?_)));rintro _ w _ ⟨k2,u2,A2,⟨c6,a1,y⟩,rfl,rfl⟩ H;replace H:=H.l6;refine Ar (λh=>absurd Z h) (Bj J (gn (Z0 8 [0] Z (Af Z (λh3=>?_) (λh3=>?_)))))
 ·refine Z2 10 [3,3,0,0] H Z (Zr Z ?_);obtain rfl:k2=k:=by omega
  have a3:C8 ca k2 x.V=AW o2.N L2:=by rw[a8,a0.2.2]
  rw[a3] at H y;have hF:=f.ea hi hs d (a.trans l.symm) a5 a1 y a7 K2;exact ⟨_,⟨_,_,_,_,o2,_,A2,m2,⟨hF,(Dl P i e2 L2).symm,by omega,.set d a,a1⟩,congrArg Value.bool (decide_eq_true U),Z⟩,H.pick 6 [2,4,5,0,1] Z⟩
 refine Z0 7 [0] Z (Al 65 Z (λh4=>?_) (λh4=>?_))
 ·refine Z2 6 [3,3,0,0] H Z (Al 71 Z (λh5=>?_) (λh5=>?_))
  ·refine Z1 10 [0] [12*(k:Int),25+12*(k:Int)] Z U (Zr Z ?_);obtain rfl:k2=k:=by omega
   have a3:C8 ca k2 x.V=AW o2.N L2:=by rw[a8,a0.2.2]
   rw[a3] at H y;have hF:=f.ea hi hs d (a.trans l.symm) a5 a1 y a7 K2;exact ⟨_,⟨_,_,_,_,o2,_,A2,m2,⟨hF,(Dl P i e2 L2).symm,by omega,.set d a,a1⟩,congrArg Value.bool (decide_eq_true U),Z⟩,H.pick 6 [2,4,5,0,1] Z⟩
  (exfalso;omega)
 (exfalso;omega)
end
section
variable{n:Nat}{o:TB}{nx:Int}{P:List Pl}{W:List Wv}{A:Ai}
def Jb(e:Vl):Int×Int×Int×Int:=(e.id,e.sz,e.q,e.mp)
def M3(x:Wv):Int×Int×Int×Int:=(x.id,x.sz,x.q,(x.V.length:Int))
theorem LvI.list(h:LvI n o nx P W A){Y_:List Vl}(hp:Y_.Perm (C9 (P.map Prod.fst)))(hs:Y_.Pairwise λa b=>a.id<=b.id):Y_.map Jb=W.map M3/\∀y∈Y_,y.st=1:=by
 have e1:(C9 (P.map Prod.fst)).map Jb=(Dz o.N P).map λc=>(c.1,c.2.1,c.2.2.1,(c.2.2.2.length:Int)):=by
  unfold C9 Dz;rw[Agj,Afn,Afn];refine AfC λp hp=>?_;obtain ⟨g,e⟩:=Afb.1 hp;have e:p.1.st=1:=by simpa using e
  obtain ⟨i,hi⟩:=AeY.1 g;have q:=h.ok hi e;simp only[Function.comp,Jb,CH,Kk,q.mp]
 have e2:(W.map Wv.core).map (λc=>(c.1,c.2.1,c.2.2.1,(c.2.2.2.length:Int)))=W.map M3:=by
  rw[Afn];rfl
 have d:(Y_.map Jb).Perm (W.map M3):=by
  rw[<-e2];exact ((hp.map Jb).trans (e1▸Ahd _)).trans (h.rel.p.map _)
 have m:(W.map M3).Pairwise λa b=>a.1<=b.1:=by
  rw[AfJ];exact h.rel.s.imp λq=>by simp only[M3];omega
 have r:(Y_.map Jb).Pairwise λa b=>a.1<=b.1:=by
  rw[AfJ];exact hs
 refine ⟨List.Perm.eq_of_pairwise (λa b k v g e=>?_) r m d,λy u=>?_⟩
 ·have k:=d.mem_iff.1 k
  obtain ⟨x,t,rfl⟩:=Aek.1 k;obtain ⟨x2,f,rfl⟩:=Aek.1 v;obtain ⟨i,hi⟩:=AeY.1 t;obtain ⟨j,l⟩:=AeY.1 f;simp only[M3] at g e;have:=h.rel.uniq hi l U;subst this;rw[hi] at l;cases l;rfl
 have:=hp.mem_iff.1 u;simpa using (Afb.1 this).2
theorem LvI.liv_len(h:LvI n o nx P W A){Y_:List Vl}(hp:Y_.Perm (C9 (P.map Prod.fst)))(hs:Y_.Pairwise λa b=>a.id<=b.id):(C9 (P.map Prod.fst)).length=W.length:=by
 have:=congrArg List.length (h.list hp hs).1;rw[Aef,Aef] at this;rw[<-hp.length_eq,this]
theorem LvI.list_at(h:LvI n o nx P W A){Y_:List Vl}(hp:Y_.Perm (C9 (P.map Prod.fst)))(hs:Y_.Pairwise λa b=>a.id<=b.id){x:Wv}(g:W[i]?=some x):∃e,Y_[i]?=some e/\e.id=x.id/\e.st=1/\e.sz=x.sz/\e.q=x.q/\e.mp=(x.V.length:Int):=by
 obtain ⟨d,f⟩:=h.list hp hs;have c:(Y_.map Jb)[i]?=some (M3 x):=by rw[d,Aeo,g];rfl
 rw[Aeo] at c
 cases hy:Y_[i]? with
 | none=>rw[hy] at c;cases c
 | some e=>
  rw[hy] at c;simp only[AeR,Ael,Jb,M3,Afx] at c;exact ⟨e,Z,c.1,f e (Aec hy),c.2.1,c.2.2.1,c.2.2.2⟩
set_option maxHeartbeats 6000000 in
theorem WS {p l pp n:Nat} {nx:Int} (P:List Pl) (o:TB) (W:List Wv) (A:Ai) (f:LvI n o nx P W A):Cn prog 34 [Y m] [blk m [Y g,Y p,Y l] 36,voA p pp nx ([]) (P.map Prod.fst),wdA l nx W,A] (λv Γ=>v=.bool true/\Γ=[blk m [Y g,Y p,Y l] 36,voA p pp nx [] (P.map Prod.fst),wdA l nx W,A]):=by
 intro z R w H
 have a2:=f.bag;refine Ae func34 Z ntmps34 Z (Z2 11 [1,0,0] H Z (Aq Z (call75 _) (Q5 f.hv) H.f1 ?_));rintro lv w _ ⟨Y_,⟨y,s⟩,rfl⟩ H;have b5:=f.liv_len y s;have a3:=H.sy 0 (·.slc);obtain ⟨al,cl,rfl⟩:=a3;refine Zc 5 Z ?_;replace H:=H.f3;obtain ⟨uw,H⟩:=H.wd;have a0:=H.sy 1 (·.slc);obtain ⟨aw,cw,rfl⟩:=a0;have b3:=H.sy 1 (·.rd.slcapZ);refine Z2 14 [2,4,0,0,0,0,0] H Z (Af Z (λh1=>U) (λh1=>?_));refine Zc 9 Z ?_;refine AB (σ:=Nat) (λi=>[(4,I (i:Int)),(0,Y m),(3,.slice al ((C9 (P.map Prod.fst)).length) cl)])
   (λi w=>Sep z (blk l [.slice aw W.length cw,I nx] 31::grow 40 4 (.slice aw W.length cw) W.length (Bq W)::grow 77 6 (.slice al ((C9 (P.map Prod.fst)).length) cl) ((C9 (P.map Prod.fst)).length) (Bb Y_)::voA p pp nx ([]) (P.map Prod.fst)::blk m [Y g,Y p,Y l] 36::A::R) w/\(i<=W.length)) (λi=>W.length-i) 0
   fr_z ⟨H,AeO _⟩ ?_
 clear H;rintro i w ⟨t,hI⟩;have H:=t.l6;clear hI;refine Z0 9 [0] Z (Af Z (λh2=>?_) (λh2=>?_))
 ·refine Zc 5 Z ?_;obtain ⟨x,b⟩:∃x,W[i]?=some x:=⟨_,Aed U⟩;have h:=(H.rv 1 (·.rd)).at (Bx b 0 _ Z)
  obtain ⟨e,c,q1,q2,q3,q4,q5⟩:=f.list_at y s b;obtain ⟨xi,xs,xq,xu,xV⟩:=x;dsimp only at q1 q3 q4 q5;have a1:InB A xu xV:=a2 _ (Aec b);have a4:=H.sy 5 (λq=>(a1 _ q).slc);obtain ⟨ax,cx,rfl⟩:=a4;have a:=(H.rv 2 (·.rd)).at (AU c 0 _ Z);refine Z2 9 [2,4,0,0,0,0] H Z (Ab Z (Aj Z (z:=4) (j:=i) (r:=i*4) J Z Z Z U h U) (Ab Z (Bp Z Z (vs:=[I xi,I xs,I xq,.slice ax xV.length cx]) J O (Ay (λk' u hk=>(H.rv 1 (·.rd)).at (Bx b k' u hk)))) (Za 0 [] H Z ?_)));intro b1 w H;refine Z4 4 [0] H Z ?_;intro w H;refine Bv (Sep z _) J J H.drew (B0 2 [] Z J (AL Z Z Z (Aj Z (z:=6) (j:=i) (r:=i*6) J Z Z Z U a U) (AL Z Z Z (Bm Z (k:=0) (r:=i*6) J Z a Z) (AL Z Z Z (Ax Z Z J (λ_ hs=>(hs.rv 3 (·.rd)).at (AU c 0 _ Z))) (DZ 4 [0,0] (λ_ b=>(AO (b.blk 0 Z) AM)) Z J Z (Cd 46 Z (λh3=>U) (λh3=>?_)))))));refine B0 2 [] Z J (AL Z Z Z (Aj Z (z:=6) (j:=i) (r:=i*6) J Z Z Z U a U) (AL Z Z Z (Bm Z (k:=1) (r:=i*6+1) J Z a Z) (AL Z Z Z (Ax Z Z J (λ_ hs=>(hs.rv 3 (·.rd)).at (AU c 1 _ Z))) (B0 3 [] Z J (Cd 54 Z (λh4=>U) (λh4=>?_))))));refine B0 2 [] Z J (AL Z Z Z (Aj Z (z:=6) (j:=i) (r:=i*6) J Z Z Z U a U) (AL Z Z Z (Bm Z (k:=2) (r:=i*6+2) J Z a Z) (AL Z Z Z (Ax Z Z J (λ_ hs=>(hs.rv 3 (·.rd)).at (AU c 2 _ Z))) (DZ 5 [1,0] (λ_ b=>(AO (b.blk 0 Z) AM)) Z J Z (Cd 64 Z (λh5=>U) (λh5=>?_))))));refine B0 2 [] Z J (AL Z Z Z (Aj Z (z:=6) (j:=i) (r:=i*6) J Z Z Z U a U) (AL Z Z Z (Bm Z (k:=3) (r:=i*6+3) J Z a Z) (AL Z Z Z (Ax Z Z J (λ_ hs=>(hs.rv 3 (·.rd)).at (AU c 3 _ Z))) (DZ 5 [2,0] (λ_ b=>(AO (b.blk 0 Z) AM)) Z J Z (Cd 74 Z (λh6=>U) (λh6=>?_))))));refine B0 2 [] Z J (AL Z Z Z (Aj Z (z:=6) (j:=i) (r:=i*6) J Z Z Z U a U) (AL Z Z Z (Bm Z (k:=5) (r:=i*6+5) J Z a Z) (AL Z Z Z (Ax Z Z J (λ_ hs=>(hs.rv 3 (·.rd)).at (AU c 5 _ Z))) (GF 5 [3,0,0,0] [] Z J (BI (λw t=>?_))))));have H:=t.l7;refine gn (Zc 1 Z (Af Z (λh7=>U) (λh7=>?_)));refine Z1 8 [] [(i:Int)+1] Z U ?_;replace H:=H.d;refine gf ?_;intro _ hF;refine ⟨(i+1),hF.cz,⟨H,?_⟩,?_⟩
  ·omega
  omega
 refine Zc 2 Z (gx (Zc 8 Z (Zr Z ?_)));have t:=Sep.toWd (W:=W) (H.pick 6 [0,1,4,3,5] Z);exact ⟨_,⟨Z,Z⟩,t.pick 4 [1,2,0,3] Z⟩
end
section
variable{Tb:Ai}
variable{n:Nat}{o:TB}{nx:Int}{P:List Pl}{W:List Wv}{A:Ai}
theorem Pm:∀{V:List Bk} {b:Bk},(V.Pairwise λa b=>a.1<b.1)->b∈V->BT b.1 V=b.2
 | x::t,b,hs,hb=>by
  rw[List.pairwise_cons] at hs;rw[BT];rcases Aen.1 hb with rfl|q
  ·rw[if_pos Z]
  rw[if_neg (by have:=hs.1 b q;omega)];exact Pm hs.2 q
theorem LvI.w_at(h:LvI n o nx P W A){x:Wv}(d:x∈W){k:Nat}{b:Bk}(a:x.V[k]?=some b):BT b.1 x.V=b.2/\0<=b.1/\b.1<x.sz:=by
 obtain ⟨j,f⟩:=AeY.1 d;obtain ⟨i,p,hi,hs,e⟩:=h.rel.back f;have q:=h.ok hi hs;have a:=Aec a;simp only[Wv.core,CH,Afx] at e;obtain ⟨_,e2,_,g⟩:=e;rw[g] at a ⊢;have hs:=q.root.srt;refine ⟨Pm ?_ a,?_⟩
 ·unfold AW;rw[AfJ];exact hs.1
 obtain ⟨y,c,rfl⟩:=Aek.1 a;have l:=hs.2 y c;have m:=q.key y c;dsimp only;exact ⟨by omega,by omega⟩
theorem JH(V:List Bk)(at_:Int):rdB V at_ (1:Int).toNat=BT at_ V:=by
 show rdB V at_ 0++BT (at_+((0:Nat):Int)) V=_;simp[rdB]
set_option maxHeartbeats 8000000 in
theorem Adp {pw pp mb n:Nat} {nx:Int} (P:List Pl) (o:TB) (W:List Wv) (A:Ai) (hL:LvI n o nx P W A) (b4:mb<=1000000000):Cn prog 38 [Y g,Y pw] [voA g pp nx ([]) (P.map Prod.fst),trA Tb pp mb n o none,wdA pw nx W,A] (λv Γ=>v=.bool true/\Γ=[voA g pp nx [] (P.map Prod.fst),trA Tb pp mb n o none,wdA pw nx W,A]):=by
 intro z R w H
 have c0:=hL.bag;have hv:=hL.hv;refine Ae func38 Z ntmps38 Z (Zc 8 Z (Aq Z (call75 _) (Q5 hL.hv) H ?_));rintro lv w _ ⟨Y_,⟨b8,b7⟩,rfl⟩ H;have e2:=hL.liv_len b8 b7;have c2:=H.sy 0 (·.slc);obtain ⟨al,cl,rfl⟩:=c2;refine Zc 5 Z ?_;replace H:=H.f3;obtain ⟨uw,H⟩:=H.wd;have b9:=H.sy 1 (·.slc);obtain ⟨aw,cw,rfl⟩:=b9;have e0:=H.sy 1 (·.rd.slcapZ);refine AN (Sep z (blk pw [.slice aw W.length cw,I nx] 31::R)) 18 Z J (AZ H λw f=>?_);have H:=f.l6;refine AT [0,1,2,3,4,5,6,7] [0,0,0,0] [] (by exact H.pick 6 [0] Z) Z J Z (AD 23 (v:=.bool false) Z (congrArg Value.bool (decide_eq_false U)) (AT [8,9,12,13,14,15] [1,0,0] [] (by exact H.pick 6 [0] Z) Z J Z (AC [10] J O (Am (Bo Z Z Z Z Z Z (λw=>call77 _ w) (Ll hv O) H.f3 Z ?_)))));rintro _ w _ ⟨cv,cs,rfl,rfl⟩ H;refine Av (H.pick 8 [3] Z) (BN 11 Z J J J Z Z Z (OH (v:=I nx) Z Z J) (H.pick 8 [3] Z) (AT [16,17] [0] [] (by exact H.pick 8 [3] Z) Z J Z (a_done J (gn (Zc 1 Z (Af Z (λh1=>?_) (λh1=>?_)))))))
 ·exact absurd Z h1
 refine Zc 9 Z ?_;refine AB (σ:=Nat) (λi=>[(6,I (i:Int)),(0,Y g),(1,Y pw),(5,.slice al ((C9 (P.map Prod.fst)).length) cl)])
   (λi w=>Sep z (grow 77 6 cv ((P.map Prod.fst).length) (Bb (P.map Prod.fst))::Cx cs ([])::voA g pp nx ([]) (P.map Prod.fst)::blk pw [.slice aw W.length cw,I nx] 31::grow 40 4 (.slice aw W.length cw) W.length (Bq W)::grow 77 6 (.slice al ((C9 (P.map Prod.fst)).length) cl) ((C9 (P.map Prod.fst)).length) (Bb Y_)::trA Tb pp mb n o none::A::R) w/\(i<=W.length)) (λi=>W.length-i) 0
   fr_z ⟨H,AeO _⟩ ?_
 clear H;rintro i w ⟨f,hI⟩;have H:=f.l8;clear hI;refine Z0 9 [0] Z (Af Z (λh2=>?_) (λh2=>?_))
 ·refine Zc 5 Z ?_;obtain ⟨x,c⟩:∃x,W[i]?=some x:=⟨_,Aed U⟩;have b5:=(H.rv 4 (·.rd)).at (Bx c 0 _ Z)
  obtain ⟨e,he,q1,q2,q3,q4,q5⟩:=hL.list_at b8 b7 c;obtain ⟨xi,xs,xq,xu,xV⟩:=x;dsimp only at q1 q3 q4 q5;have a1:InB A xu xV:=c0 _ (Aec c);have c5:=H.sy 7 (λq=>(a1 _ q).slc);obtain ⟨ax,cx,rfl⟩:=c5;have y:=(H.rv 5 (·.rd)).at (AU he 0 _ Z);have c4:=hL.w (Aec c);dsimp only at c4;have a8:=λk b hb=>hL.w_at (Aec c) (k:=k) (b:=b) hb;dsimp only at a8;refine Z2 6 [0,3,0] H Z (Ab Z (Aj Z (z:=4) (j:=i) (r:=i*4) J Z Z Z U b5 U) (Ab Z (Bp Z Z (vs:=[I xi,I xs,I xq,.slice ax xV.length cx]) J O (Ay (λk' u hk=>(H.rv 4 (·.rd)).at (Bx c k' u hk)))) (Za 0 [] H Z ?_)));intro b1 w H;refine Z4 5 [0] H Z ?_;intro w H;refine Bv (Sep z _) J J H.drew (B0 2 [] Z J (AL Z Z Z (Aj Z (z:=6) (j:=i) (r:=i*6) J Z Z Z U y U) (AL Z Z Z (Bm Z (k:=0) (r:=i*6) J Z y Z) (AL Z Z Z (Ax Z Z J (λ_ hs=>(hs.rv 6 (·.rd)).at (AU he 0 _ Z))) (DZ 4 [0,0] (λ_ c=>(AO (c.blk 0 Z) AM)) Z J Z (Cd 55 Z (λh3=>U) (λh3=>?_)))))));refine B0 2 [] Z J (AL Z Z Z (Aj Z (z:=6) (j:=i) (r:=i*6) J Z Z Z U y U) (AL Z Z Z (Bm Z (k:=2) (r:=i*6+2) J Z y Z) (AL Z Z Z (Ax Z Z J (λ_ hs=>(hs.rv 6 (·.rd)).at (AU he 2 _ Z))) (DZ 5 [1,0] (λ_ c=>(AO (c.blk 0 Z) AM)) Z J Z (Cd 65 Z (λh4=>U) (λh4=>?_))))));refine B0 2 [] Z J (AL Z Z Z (Aj Z (z:=6) (j:=i) (r:=i*6) J Z Z Z U y U) (AL Z Z Z (Bm Z (k:=3) (r:=i*6+3) J Z y Z) (AL Z Z Z (Ax Z Z J (λ_ hs=>(hs.rv 6 (·.rd)).at (AU he 3 _ Z))) (DZ 5 [2,0] (λ_ c=>(AO (c.blk 0 Z) AM)) Z J Z (Cd 75 Z (λh5=>U) (λh5=>?_))))));refine B0 2 [] Z J (AL Z Z Z (Aj Z (z:=6) (j:=i) (r:=i*6) J Z Z Z U y U) (AL Z Z Z (Bm Z (k:=5) (r:=i*6+5) J Z y Z) (AL Z Z Z (Ax Z Z J (λ_ hs=>(hs.rv 6 (·.rd)).at (AU he 5 _ Z))) (GF 5 [3,0,0,0] [] Z J (BI (λw f=>?_))))));have H:=f.l9;refine gn (Zc 1 Z (Af Z (λh6=>U) (λh6=>?_)));refine Zc 9 Z ?_;refine AB (σ:=Nat) (λt=>[(8,I (t:Int)),(0,Y g),(1,Y pw),(5,.slice al ((C9 (P.map Prod.fst)).length) cl),(6,I (i:Int)),(7,Y b1)])
    (λt w=>Sep z (blk b1 [I xi,I xs,I xq,.slice ax xV.length cx] 40::grow 77 6 cv ((P.map Prod.fst).length) (Bb (P.map Prod.fst))::Cx cs ([])::voA g pp nx ([]) (P.map Prod.fst)::blk pw [.slice aw W.length cw,I nx] 31::grow 40 4 (.slice aw W.length cw) W.length (Bq W)::grow 77 6 (.slice al ((C9 (P.map Prod.fst)).length) cl) ((C9 (P.map Prod.fst)).length) (Bb Y_)::trA Tb pp mb n o none::A::R) w/\((t:Int)<=xs)) (λt=>xs.toNat-t) 0
    fr_z ⟨H,U⟩ ?_
  clear H;rintro t w ⟨f,hI⟩;have H:=f.l9;have ht:=hI;clear hI;refine Z2 8 [1,0,0,0] H Z (Al 90 Z (λh7=>?_) (λh7=>?_))
  ·refine Z0 5 [0] Z (Af Z (λh8=>?_) (λh8=>?_))
   ·refine Z2 10 [0,0,0] H Z (Aq Z (call13 _) (FZ P Z hL.inv b4 xi (t:Int) 1 U U) H.f7.f4 ?_);rintro _ w _ (⟨a6,rfl,rfl⟩|⟨i9,e9,L9,⟨a3,a4,a0⟩,(⟨a2,rfl,rfl⟩|⟨a2,c6,rfl,rfl⟩)⟩) f
    ·exact (by obtain ⟨e9,a9,q1,q2⟩:=hL.back c Z;exact absurd ⟨q1,q2⟩ (a6 e9 a9))
    ·exact (by have p:=hL.both a3 a4 c a0.symm;have a7:=p.1;dsimp only at a7;exact absurd (by unfold Bn;rw[if_pos ⟨Z,by omega,by omega⟩,if_pos U]) a2)
    have H:=f.l10;have p:=(hL.both a3 a4 c a0.symm).2.2;dsimp only at p;rw[<-p,JH] at H;refine Zc 8 Z ?_;replace H:=H.f3;refine AN (Sep z (blk b1 [I xi,I xs,I xq,.slice ax xV.length cx] 40::grow 5 1 c6 ((BT (t:Int) xV).length) ((BT (t:Int) xV).map u8)::R)) 10 Z J (AZ H λw f=>?_);have H:=f.l10;refine AT [0,1,2,3] [4] [] (by exact H.pick 10 [0,1] Z) Z J Z (BN 4 Z J J J Z Z Z (Cg (l:=BT (t:Int) xV) Z J J Z (λ_ hs=>hs.rv 1 (·.rd))) (H.pick 10 [0,1] Z) (AT [5,6] [0,4] [] (by exact H.pick 10 [0,1] Z) Z J Z (AC [7] J O (Am (Bo Z Z Z Z Z Z (λw=>call14 _ w) (O0 a1) H.f9 Z ?_)))));rintro _ w _ ⟨rfl,rfl⟩ H;refine Av (H.pick 10 [1,2] Z) (BN 8 Z J J J Z Z Z (IJ (l:=BT (t:Int) xV) (m:=BT (t:Int) xV) Z J Z Z) (H.pick 10 [1,2] Z) (AT [9] [] [] (by exact H.pick 10 [1,2] Z) Z J Z (a_done J (gn (Zc 1 Z (Af Z (λh9=>?_) (λh9=>?_)))))))
    ·first|exact absurd rfl h9|exact absurd a5.1 h9
    refine Z1 8 [] [(t:Int)+1] Z U ?_;replace H:=H.f2.d.f3.f8.f8.f8.f6.f8.f8.f8;refine gf ?_;intro _ hF;refine ⟨(t+1),hF.cz,⟨H,?_⟩,?_⟩
    ·omega
    omega
   refine Zc 2 Z (gx (Zc 8 Z ?_));refine AB (σ:=Nat) (λs=>[(11,I (s:Int)),(0,Y g),(1,Y pw),(5,.slice al ((C9 (P.map Prod.fst)).length) cl),(6,I (i:Int)),(7,Y b1),(8,I (t:Int))])
     (λs w=>Sep z (blk b1 [I xi,I xs,I xq,.slice ax xV.length cx] 40::grow 77 6 cv ((P.map Prod.fst).length) (Bb (P.map Prod.fst))::Cx cs ([])::voA g pp nx ([]) (P.map Prod.fst)::blk pw [.slice aw W.length cw,I nx] 31::grow 40 4 (.slice aw W.length cw) W.length (Bq W)::grow 77 6 (.slice al ((C9 (P.map Prod.fst)).length) cl) ((C9 (P.map Prod.fst)).length) (Bb Y_)::trA Tb pp mb n o none::A::R) w/\(s<=xV.length)) (λs=>xV.length-s) 0
     fr_z ⟨H,AeO _⟩ ?_
   clear H;rintro s w ⟨f,hI⟩;have H:=f.l9;clear hI;refine Z2 10 [3,0,0,0] H Z (Af Z (λc3=>?_) (λc3=>?_))
   ·refine Zc 5 Z ?_;obtain ⟨b,hb⟩:∃b,xV[s]?=some b:=⟨_,Aed U⟩;have a5:=a8 s b hb
    have a:=(H.rv 8 (a1 _)).at (CN hb).1;replace H:=H.f8.f1;refine Bh (Sep z (blk b1 [I xi,I xs,I xq,.slice ax xV.length cx] 40::A::R)) 15 Z J (AZ H λw f=>?_);have H:=f.l9;refine Bu [0,1,2,3,4,5] [0,0,3,0] J (λ_ c=>(AO (c.blk 0 Z) AM)) (by exact H.pick 9 [0,1] Z) Z J Z Z (BJ 6 J Z Z J J J Z Z Z (Aj Z (z:=2) (j:=s) (r:=s*2) J Z Z Z U a U) (H.pick 9 [0,1] Z) (BJ 7 J Z Z J J J Z Z Z (Bm Z (k:=0) (r:=s*2) J Z a Z) (H.pick 9 [0,1] Z) (BJ 8 J Z Z J J J Z Z Z (Ax Z Z J (λ_ hs=>(hs.rv 1 (a1 _)).at (CN hb).1)) (H.pick 9 [0,1] Z) (AE [9] J O (Am (Bo Z Z Z Z Z Z (λw=>call13 _ w) (FZ P Z hL.inv b4 xi b.1 1 U U) H.f8.f5 Z ?_))))));rintro _ w _ (⟨a6,rfl,rfl⟩|⟨i9,e9,L9,⟨a3,a4,a0⟩,(⟨a2,rfl,rfl⟩|⟨a2,d6,rfl,rfl⟩)⟩) f
    ·exact (by obtain ⟨e9,a9,q1,q2⟩:=hL.back c Z;exact absurd ⟨q1,q2⟩ (a6 e9 a9))
    ·exact (by have p:=hL.both a3 a4 c a0.symm;have a7:=p.1;dsimp only at a7;exact absurd (by unfold Bn;rw[if_pos ⟨Z,by omega,by omega⟩,if_pos U]) a2)
    have H:=f.l10;have p:=(hL.both a3 a4 c a0.symm).2.2;dsimp only at p;rw[<-p,JH] at H;refine Ar (λ_=>(H.pick 10 [3,4] Z)) (Bu [10,11,12,13] [] J (λ_ _=>AM) (by exact H.pick 10 [3,4] Z) Z J Z Z (AE [14] J O (Am (CD Z Z Z Z (Bl Z Z) (Ar (λh=>absurd Z h) (Bj J (gn (Zc 2 Z (Bv (Sep z _) J J H.drew (GF 4 [4] [] Z J (AL Z Z Z (Cg (l:=BT b.1 xV) Z J J Z (λ_ hs=>hs.rv 0 (·.rd))) (DZ 3 [3,0] (λ_ c=>(AO (c.blk 3 Z) AM)) Z J Z (AL Z Z Z (Aj Z (z:=2) (j:=s) (r:=s*2) J Z Z Z U a U) ?_)))))))))))));refine AL Z Z Z (Bm Z (k:=1) (r:=s*2+1) J Z a Z) (AL Z Z Z (Ax Z Z J (λ_ hs=>(hs.rv 4 (a1 _)).at (CN hb).2)) (AL Z Z Z (IJ (l:=BT b.1 xV) (m:=b.2) Z J Z Z) (B0 1 [] Z J (BI (λw f=>?_)))));have H:=f.l10;refine gn (Zc 1 Z (Af Z (λb6=>?_) (λb6=>?_)))
    ·first|exact absurd rfl b6|exact absurd a5.1 b6
    refine Z1 8 [] [(s:Int)+1] Z U ?_;replace H:=H.d.f3.f2.f8.f8.f8.f5.f8.f8.f8;refine gf ?_;intro _ hF;refine ⟨(s+1),hF.cz,⟨H,?_⟩,?_⟩
    ·omega
    omega
   refine Zc 2 Z (gx (Z1 8 [] [(i:Int)+1] Z U ?_));replace H:=H.d;refine gf ?_;intro _ hF;refine ⟨(i+1),hF.cz,⟨H,?_⟩,?_⟩
   ·omega
   omega
  refine Zc 8 Z (gx (Zc 8 Z ?_));refine AB (σ:=Nat) (λs=>[(11,I (s:Int)),(0,Y g),(1,Y pw),(5,.slice al ((C9 (P.map Prod.fst)).length) cl),(6,I (i:Int)),(7,Y b1),(8,I (t:Int))])
    (λs w=>Sep z (blk b1 [I xi,I xs,I xq,.slice ax xV.length cx] 40::grow 77 6 cv ((P.map Prod.fst).length) (Bb (P.map Prod.fst))::Cx cs ([])::voA g pp nx ([]) (P.map Prod.fst)::blk pw [.slice aw W.length cw,I nx] 31::grow 40 4 (.slice aw W.length cw) W.length (Bq W)::grow 77 6 (.slice al ((C9 (P.map Prod.fst)).length) cl) ((C9 (P.map Prod.fst)).length) (Bb Y_)::trA Tb pp mb n o none::A::R) w/\(s<=xV.length)) (λs=>xV.length-s) 0
    fr_z ⟨H,AeO _⟩ ?_
  clear H;rintro s w ⟨f,hI⟩;have H:=f.l9;clear hI;refine Z2 10 [3,0,0,0] H Z (Af Z (λc1=>?_) (λc1=>?_))
  ·refine Zc 5 Z ?_;obtain ⟨b,hb⟩:∃b,xV[s]?=some b:=⟨_,Aed U⟩;have a5:=a8 s b hb
   have a:=(H.rv 8 (a1 _)).at (CN hb).1;replace H:=H.f8.f1;refine Bh (Sep z (blk b1 [I xi,I xs,I xq,.slice ax xV.length cx] 40::A::R)) 15 Z J (AZ H λw f=>?_);have H:=f.l9;refine Bu [0,1,2,3,4,5] [0,0,3,0] J (λ_ c=>(AO (c.blk 0 Z) AM)) (by exact H.pick 9 [0,1] Z) Z J Z Z (BJ 6 J Z Z J J J Z Z Z (Aj Z (z:=2) (j:=s) (r:=s*2) J Z Z Z U a U) (H.pick 9 [0,1] Z) (BJ 7 J Z Z J J J Z Z Z (Bm Z (k:=0) (r:=s*2) J Z a Z) (H.pick 9 [0,1] Z) (BJ 8 J Z Z J J J Z Z Z (Ax Z Z J (λ_ hs=>(hs.rv 1 (a1 _)).at (CN hb).1)) (H.pick 9 [0,1] Z) (AE [9] J O (Am (Bo Z Z Z Z Z Z (λw=>call13 _ w) (FZ P Z hL.inv b4 xi b.1 1 U U) H.f8.f5 Z ?_))))));rintro _ w _ (⟨a6,rfl,rfl⟩|⟨i9,e9,L9,⟨a3,a4,a0⟩,(⟨a2,rfl,rfl⟩|⟨a2,d8,rfl,rfl⟩)⟩) f
   ·exact (by obtain ⟨e9,a9,q1,q2⟩:=hL.back c Z;exact absurd ⟨q1,q2⟩ (a6 e9 a9))
   ·exact (by have p:=hL.both a3 a4 c a0.symm;have a7:=p.1;dsimp only at a7;exact absurd (by unfold Bn;rw[if_pos ⟨Z,by omega,by omega⟩,if_pos U]) a2)
   have H:=f.l10;have p:=(hL.both a3 a4 c a0.symm).2.2;dsimp only at p;rw[<-p,JH] at H;refine Ar (λ_=>(H.pick 10 [3,4] Z)) (Bu [10,11,12,13] [] J (λ_ _=>AM) (by exact H.pick 10 [3,4] Z) Z J Z Z (AE [14] J O (Am (CD Z Z Z Z (Bl Z Z) (Ar (λh=>absurd Z h) (Bj J (gn (Zc 2 Z (Bv (Sep z _) J J H.drew (GF 4 [4] [] Z J (AL Z Z Z (Cg (l:=BT b.1 xV) Z J J Z (λ_ hs=>hs.rv 0 (·.rd))) (DZ 3 [3,0] (λ_ c=>(AO (c.blk 3 Z) AM)) Z J Z (AL Z Z Z (Aj Z (z:=2) (j:=s) (r:=s*2) J Z Z Z U a U) ?_)))))))))))));refine AL Z Z Z (Bm Z (k:=1) (r:=s*2+1) J Z a Z) (AL Z Z Z (Ax Z Z J (λ_ hs=>(hs.rv 4 (a1 _)).at (CN hb).2)) (AL Z Z Z (IJ (l:=BT b.1 xV) (m:=b.2) Z J Z Z) (B0 1 [] Z J (BI (λw f=>?_)))));have H:=f.l10;refine gn (Zc 1 Z (Af Z (λb3=>?_) (λb3=>?_)))
   ·first|exact absurd rfl b3|exact absurd a5.1 b3
   refine Z1 8 [] [(s:Int)+1] Z U ?_;replace H:=H.d.f3.f2.f8.f8.f8.f5.f8.f8.f8;refine gf ?_;intro _ hF;refine ⟨(s+1),hF.cz,⟨H,?_⟩,?_⟩
   ·omega
   omega
  refine Zc 2 Z (gx (Z1 8 [] [(i:Int)+1] Z U ?_));replace H:=H.d;refine gf ?_;intro _ hF;refine ⟨(i+1),hF.cz,⟨H,?_⟩,?_⟩
  ·omega
  omega
 refine Zc 2 Z (gx (Zc 8 Z (Zr Z ?_)));have f:=Sep.toWd (W:=W) (H.pick 8 [3,4,2,6,7] Z);exact ⟨_,⟨Z,Z⟩,f.pick 4 [1,2,0,3] Z⟩
end
end Go.Proofs.YtemljpjnhjnncaaGreatDoor
