/-
  Steps to: Law VolumesPlay: volumes are maps; room is refused only where there is none. No condition.
-/
import Derived.Test.YtnifkcmmanmbbaaGreatDoorPart4
set_option maxRecDepth 100000
set_option linter.unusedSimpArgs false
set_option linter.unusedVariables false
open Go.Proofs.Tryz
namespace Go.Proofs.YtnifkcmmanmbbaaGreatDoor
open Go.RowKit
section
structure Vl where
 id:Int
 st:Int
 sz:Int
 q:Int
 r:Int
 mp:Int
deriving DecidableEq
def Vl.cells(v:Vl):List Value:=[.int .i64 v.id,.int .i64 v.st,.int .i64 v.sz,.int .i64 v.q,.int .i64 v.r,.int .i64 v.mp]
def Bb(vs:List Vl):List Value:=vs.flatMap Vl.cells
theorem ZN(vs:List Vl):(Bb vs).length=vs.length*6:=by
 induction vs with
 | nil=>rfl
 | cons e es ih=>simp only[Bb,AeB,Ad9] at ih ⊢;rw[ih];simp[Vl.cells];omega
theorem JD(A B:List Vl):Bb (A++B)=Bb A++Bb B:=by simp[Bb]
theorem QM(vs:List Vl):∀c∈Bb vs,c.oneCell'=true:=λc b=>by
 simp only[Bb,Af9] at b;obtain ⟨e,_,a⟩:=b;simp[Vl.cells] at a;rcases a with rfl|rfl|rfl|rfl|rfl|rfl<;>rfl
theorem AT:∀{vs:List Vl} {j:Nat} {e:Vl},vs[j]?=some e->∀k u,(Vl.cells e)[k]?=some u->(Bb vs)[j*6+k]?=some u
 | x::es,0,e,h,k,u,hk=>by
  simp at h;subst h;have hl:=(Ad6.1 hk).1;simp only[Bb,AeB];rw[Aeg U];simpa using hk
 | x::es,j+1,e,h,k,u,hk=>by
  have:=AT (vs:=es) (j:=j) (by simpa using h) k u hk;simp only[Bb,AeB] at this ⊢;rw[Aen (by simp[Vl.cells];omega)];rw[show (j+1)*6+k-(Vl.cells x).length=j*6+k from by simp[Vl.cells];omega];exact this
structure Vl.Fit(v:Vl):Prop where
 id:0<=v.id/\v.id<=1073741824
 st:0<=v.st/\v.st<=2
 sz:0<=v.sz/\v.sz<=1048576
 q:0<=v.q/\v.q<=1048576
 r:0<=v.r/\v.r<=1023
 mp:0<=v.mp/\v.mp<=1048576
def v0:Vl:=⟨0,0,0,0,0,0⟩
theorem v0_fit:v0.Fit:=by constructor<;>decide
def FI(v:Vl):List UInt8:=Ah 4 v.id++Ah 1 v.st++Ah 4 v.sz++Ah 4 v.q++Ah 2 v.r++Ah 4 v.mp
theorem ZO(v:Vl):(FI v).length=19:=by simp[FI,Ai]
theorem ZP(vs:List Vl):(vs.flatMap FI).length=19*vs.length:=by
 induction vs with
 | nil=>rfl
 | cons e es ih=>rw[AeB,Ad9,ih,ZO,Aeb];omega
theorem QN(sk:List Int):(sk.flatMap (Ah 2)).length=2*sk.length:=by
 induction sk with
 | nil=>rfl
 | cons e es ih=>rw[AeB,Ad9,ih,Ai,Aeb];omega
def Ex(nx:Int)(sk:List Int)(i:Nat):List UInt8:=Ah 4 nx++Ah 1 (sk.length:Int)++(sk.take i).flatMap (Ah 2)
theorem IA(nx:Int)(sk:List Int){i:Nat}(h:i<=sk.length):(Ex nx sk i).length=5+2*i:=by
 simp only[Ex,Ad9,Ai,QN,Aes];omega
theorem TQ(nx:Int){sk:List Int}{i:Nat}{x:Int}(h:sk[i]?=some x):Ex nx sk (i+1)=Ex nx sk i++Ah 2 x:=by
 simp only[Ex,AeH,h,AfV,Option.toList,AeB,Ahw,AeQ,Aec]
def Cc(nx:Int)(sk:List Int)(vs:List Vl)(i:Nat):List UInt8:=Ex nx sk sk.length++List.replicate (16-2*sk.length) 0++(vs.take i).flatMap FI
theorem Ey(nx:Int){sk:List Int}(hs:sk.length<=8){vs:List Vl}{i:Nat}(h:i<=vs.length):(Cc nx sk vs i).length=21+19*i:=by
 simp only[Cc,Ad9,IA nx sk (Aed _),Afd,ZP,Aes];omega
theorem TR(nx:Int)(sk:List Int){vs:List Vl}{i:Nat}{v:Vl}(h:vs[i]?=some v):Cc nx sk vs (i+1)=Cc nx sk vs i++Ah 4 v.id++Ah 1 v.st++Ah 4 v.sz++Ah 4 v.q++Ah 2 v.r++Ah 4 v.mp:=by
 simp only[Cc,AeH,h,AfV,Option.toList,AeB,Ahw,AeQ,Aec,FI]
theorem TU(nx:Int){sk:List Int}(hs:sk.length<=8)(vs:List Vl):AJ (Ex nx sk sk.length)=AJ (Cc nx sk vs 0):=by
 have h:=IA nx sk (Aed _);simp only[Cc,Afz,Ahw,AeQ,AJ,Aec,Ad9,Afd,h];rw[Af1];congr 2;omega
def Dp(nx:Int)(sk:List Int)(vs:List Vl):List UInt8:=((AJ (Cc nx sk vs vs.length)).drop 0).take 240
variable{nx:Int}{sk:List Int}{vs:List Vl}
theorem Ki(hs:sk.length<=8)(a:vs.length=8):(Dp nx sk vs).length=240:=by
 have:=AR (l:=Cc nx sk vs vs.length) (by rw[Ey nx hs (Aed _),a];omega);unfold Dp;rw[Aes,Aep,this];rfl
theorem GX(hs:sk.length<=8)(h:vs.length=8)(a b c:List UInt8){p k:Nat}(e:Cc nx sk vs vs.length=a++b++c)(hp:p=a.length)(f:k=b.length):((Dp nx sk vs).drop p).take k=b:=by
 have d:=Ey (i:=vs.length) nx hs (Aed _);have g:a.length+b.length+c.length=173:=by rw[e] at d;simp only[Ad9] at d;omega
 unfold Dp AJ;rw[Aep,AfQ,Aey,Aez U,e,Aec (a++b)];exact G7 a b _ hp f
theorem Lf{α:Type}(f:α->List UInt8){l:List α}{i:Nat}{x:α}(h:l[i]?=some x):l.flatMap f=(l.take i).flatMap f++f x++(l.drop (i+1)).flatMap f:=by
 obtain ⟨hi,rfl⟩:=Ad6.1 h;have e:l=l.take i++l[i]::l.drop (i+1):=by rw[<-AeX hi,AeI]
 have e2:l.flatMap f=(l.take i++l[i]::l.drop (i+1)).flatMap f:=congrArg (λm=>List.flatMap f m) e;rw[e2,AfV,AeB,Aec]
theorem Wo(hs:sk.length<=8)(a:vs.length=8)(h:0<=nx/\nx<=1073741824):AW (((Dp nx sk vs).drop 0).take 4)=nx:=by
 rw[GX (p:=0) hs a [] (Ah 4 nx) (Ah 1 (sk.length:Int)++(sk.take sk.length).flatMap (Ah 2)++List.replicate (16-2*sk.length) 0++(vs.take vs.length).flatMap FI) (by simp[Cc,Ex]) Z (Ai 4 _).symm];exact BT h.1 U U
theorem Wp(hs:sk.length<=8)(a:vs.length=8):AW (((Dp nx sk vs).drop 4).take 1)=(sk.length:Int):=by
 rw[GX hs a (Ah 4 nx) (Ah 1 (sk.length:Int)) ((sk.take sk.length).flatMap (Ah 2)++List.replicate (16-2*sk.length) 0++(vs.take vs.length).flatMap FI) (by simp[Cc,Ex]) (Ai 4 _).symm (Ai 1 _).symm];exact BT U U U
theorem Aca(hs:sk.length<=8)(b:vs.length=8){i:Nat}{x:Int}(h:sk[i]?=some x)(a:0<=x/\x<=1023):AW (((Dp nx sk vs).drop (5+2*i)).take 2)=x:=by
 have hi:=(Ad6.1 h).1;rw[GX hs b (Ah 4 nx++Ah 1 (sk.length:Int)++(sk.take i).flatMap (Ah 2)) (Ah 2 x) ((sk.drop (i+1)).flatMap (Ah 2)++List.replicate (16-2*sk.length) 0++(vs.take vs.length).flatMap FI) (by simp only[Cc,Ex,Ae2];rw[Lf (Ah 2) h];simp only[Aec]) (by simp only[Ad9,Ai,QN,Aes];omega) (Ai 2 _).symm];exact BT a.1 U U
theorem ZQ(hs:sk.length<=8)(a:vs.length=8){i:Nat}(h:i<8-sk.length):AW (((Dp nx sk vs).drop (5+2*sk.length+2*i)).take 2)=0:=by
 have e:List.replicate (16-2*sk.length) (0:UInt8)=List.replicate (2*i) 0++Ah 2 0++List.replicate (16-2*sk.length-2*i-2) 0:=by
  rw[show Ah 2 0=List.replicate 2 (0:UInt8) by decide,Af1,Af1];congr 1;omega
 rw[GX hs a (Ex nx sk sk.length++List.replicate (2*i) 0) (Ah 2 0) (List.replicate (16-2*sk.length-2*i-2) 0++(vs.take vs.length).flatMap FI) (by simp only[Cc];rw[e];simp only[Aec]) (by simp only[Ad9,IA nx sk (Aed _),Afd]) (Ai 2 _).symm];decide
theorem HU(hs:sk.length<=8)(f:vs.length=8){i:Nat}{v:Vl}(h:vs[i]?=some v)(a b c:List UInt8){p k:Nat}(e:FI v=a++b++c)(hp:p=21+19*i+a.length)(d:k=b.length):((Dp nx sk vs).drop p).take k=b:=by
 have hi:=(Ad6.1 h).1;refine GX hs f (Cc nx sk vs i++a) b (c++(vs.drop (i+1)).flatMap FI) ?_ (by rw[Ad9,Ey nx hs (Nat.le_of_lt hi),hp]) d;simp only[Cc,Ae2];rw[Lf FI h,e];simp only[Aec]
theorem Acb(hs:sk.length<=8)(a:vs.length=8){i:Nat}{v:Vl}(h:vs[i]?=some v)(f:v.Fit):AW (((Dp nx sk vs).drop (21+19*i)).take 4)=v.id:=by
 rw[HU hs a h [] (Ah 4 v.id) (Ah 1 v.st++Ah 4 v.sz++Ah 4 v.q++Ah 2 v.r++Ah 4 v.mp) (by simp[FI]) O (Ai 4 _).symm];have:=f.id;exact BT this.1 U U
theorem Acc(hs:sk.length<=8)(a:vs.length=8){i:Nat}{v:Vl}(h:vs[i]?=some v)(f:v.Fit):AW (((Dp nx sk vs).drop (21+19*i+4)).take 1)=v.st:=by
 rw[HU hs a h (Ah 4 v.id) (Ah 1 v.st) (Ah 4 v.sz++Ah 4 v.q++Ah 2 v.r++Ah 4 v.mp) (by simp[FI]) (by simp[Ai]) (Ai 1 _).symm];have:=f.st;exact BT this.1 U U
theorem Acd(hs:sk.length<=8)(a:vs.length=8){i:Nat}{v:Vl}(h:vs[i]?=some v)(f:v.Fit):AW (((Dp nx sk vs).drop (21+19*i+5)).take 4)=v.sz:=by
 rw[HU hs a h (Ah 4 v.id++Ah 1 v.st) (Ah 4 v.sz) (Ah 4 v.q++Ah 2 v.r++Ah 4 v.mp) (by simp[FI]) (by simp[Ai]) (Ai 4 _).symm];have:=f.sz;exact BT this.1 U U
theorem Add(hs:sk.length<=8)(a:vs.length=8){i:Nat}{v:Vl}(h:vs[i]?=some v)(f:v.Fit):AW (((Dp nx sk vs).drop (21+19*i+9)).take 4)=v.q:=by
 rw[HU hs a h (Ah 4 v.id++Ah 1 v.st++Ah 4 v.sz) (Ah 4 v.q) (Ah 2 v.r++Ah 4 v.mp) (by simp[FI]) (by simp[Ai]) (Ai 4 _).symm];have:=f.q;exact BT this.1 U U
theorem Ade(hs:sk.length<=8)(a:vs.length=8){i:Nat}{v:Vl}(h:vs[i]?=some v)(f:v.Fit):AW (((Dp nx sk vs).drop (21+19*i+13)).take 2)=v.r:=by
 rw[HU hs a h (Ah 4 v.id++Ah 1 v.st++Ah 4 v.sz++Ah 4 v.q) (Ah 2 v.r) (Ah 4 v.mp) (by simp[FI]) (by simp[Ai]) (Ai 2 _).symm];have:=f.r;exact BT this.1 U U
theorem Ace(hs:sk.length<=8)(a:vs.length=8){i:Nat}{v:Vl}(h:vs[i]?=some v)(f:v.Fit):AW (((Dp nx sk vs).drop (21+19*i+15)).take 4)=v.mp:=by
 rw[HU hs a h (Ah 4 v.id++Ah 1 v.st++Ah 4 v.sz++Ah 4 v.q++Ah 2 v.r) (Ah 4 v.mp) [] (by simp[FI]) (by simp[Ai]) (Ai 4 _).symm];have:=f.mp;exact BT this.1 U U
theorem OX(hs:sk.length<=8)(a:vs.length=8):rz (((Dp nx sk vs).drop 173).take 67)=0:=by
 have b:=Ey (i:=vs.length) nx hs (vs:=vs) (Aed _);rw[a] at b;unfold Dp AJ;rw[Aep,AfQ,Aey,a,show (173:Nat)=(Cc nx sk vs 8).length by rw[b],AfM Z];refine LK.2 (λx c=>?_);have:=Afa c;exact (AfX.1 this).2
end
theorem ZR{vs:List Vl}{i:Nat}{e:Vl}(h:vs[i]?=some e):Bb (vs.take i)++e.cells=Bb (vs.take (i+1)):=by
 rw[AeH,h,JD];simp[Bb]
theorem TV(e:Vl)(a:e.Fit):Cn prog 88 [.agg #[I e.id,I e.st,I e.sz,I e.q,I e.r,I e.mp]] [] (λv Γ=>v=.bool true/\Γ=[]):=by
 intro z R w H;replace H:=H.l0;have j:=a.id;have k:=a.st;have i:=a.sz;have l:=a.q;have m:=a.r;have h:=a.mp;refine Ae func88 Z ntmps88 Z (Za 2 [] H Z ?_);intro n w H;refine Z2 7 [0,0,0] H Z (z_E_ Z (call86 _) (CX _ _) H ?_);intro w H;refine Zc 1 Z (Al 6 Z (λb=>?_) (λb=>?_))
 ·refine Z2 2 [1,0,0] H Z (z_E_ Z (call86 _) (CX _ _) H ?_);intro w H;refine Zc 2 Z (Al 11 Z (λd=>?_) (λd=>?_))
  ·refine Z2 2 [2,0,0] H Z (z_E_ Z (call86 _) (CX _ _) H ?_);intro w H;refine Zc 2 Z (Al 16 Z (λc=>?_) (λc=>?_))
   ·refine Z2 2 [3,0,0] H Z (z_E_ Z (call86 _) (CX _ _) H ?_);intro w H;refine Zc 2 Z (Al 21 Z (λf=>?_) (λf=>?_))
    ·refine Z2 2 [4,0,0] H Z (z_E_ Z (call86 _) (CX _ _) H ?_);intro w H;refine Zc 2 Z (Al 26 Z (λg=>?_) (λg=>?_))
     ·refine Z2 2 [5,0,0] H Z (z_E_ Z (call86 _) (CX _ _) H ?_);intro w H;refine Zc 5 Z (Zr Z ?_);exact ⟨_,⟨congrArg Value.bool (by first|rfl|exact decide_eq_true U),Z⟩,H.perm 1 [] Z Z⟩
     (exfalso;omega)
    (exfalso;omega)
   (exfalso;omega)
  (exfalso;omega)
 (exfalso;omega)
set_option maxHeartbeats 2000000 in
theorem I4 (nx:Int) (sk:List Int) (vs:List Vl) (A B:Af) (vv sv:Value) (hA:∀h,A h->rdH 6 vv vs.length (Bb vs) h) (hB:∀h,B h->rdH 1 sv sk.length (sk.map I) h) (hs:sk.length<=8) (hv:vs.length=8) (a4:0<=nx/\nx<=1073741824) (a1:∀x∈sk,0<=x/\x<=1023) (hf:∀e∈vs,e.Fit):Cn prog 40 [.agg #[I nx,vv,sv]] [A,B] (λv Γ=>∃pw:Nat,v=.tuple #[.slice (some ⟨pw,0,none⟩) 240 240,I 0]/\Γ=[blk pw (A4 (AJ (Cc nx sk vs vs.length)) ((21+19*8:Nat):Int)) 154,A,B]):=by
 intro z R w H;replace H:=H.l2;obtain ⟨l,c,rfl⟩:=H.sy 0 (λq=>(hA _ q).slc);obtain ⟨g,m,rfl⟩:=H.sy 1 (λq=>(hB _ q).slc);refine Ae func40 Z ntmps40 Z (Za 2 [] H Z ?_);intro f w H;refine Z2 9 [0,0,0] H Z (z_E_ Z (call86 _) (CX _ _) H ?_);intro w H;replace H:=H.l3;refine Ab Z (AE Z Z) (Zc 1 Z (Al 13 Z (λh1=>U) (λh1=>?_)));refine Z2 6 [2,0,0,0] H Z (Al 19 Z (λh2=>U) (λh2=>?_));refine Z2 7 [1,0,0,0] H Z (Ag Z (λh3=>U) (λh3=>?_));refine Zc 4 Z (AQ Z (Cb (P:=prog) H Z (zs:=(A4 (AJ []) 0)) J) ?_);rintro _ w ⟨b,rfl,H⟩;replace H:=H.l4;refine Z2 6 [0,1,0] H Z (z_E_ Z (call87 _) (CE _ 0 4 nx _ (AR (by first|omega|(simp[Ai]<;>omega))) U) H ?_);intro w H;replace H:=H.l4;rw[show Br (AJ []) (Ah 4 nx) 0=AJ (Ah 4 nx) from BD Z (by first|omega|(simp[Ai]<;>omega))] at H;have H:Sep z (blk b (A4 (AJ (Ah 4 nx)) 4) 154::blk f [I nx,.slice l vs.length c,.slice g sk.length m] 70::A::B::R) w:=H;refine Z2 7 [2,1,0] H Z (z_E_ Z (call87 _) (CE _ 4 1 (sk.length:Int) _ (AR (by first|omega|(simp[Ai]<;>omega))) U) H ?_);intro w H;replace H:=H.l4;rw[show Br (AJ (Ah 4 nx)) (Ah 1 (sk.length:Int)) 4=AJ (Ah 4 nx++Ah 1 (sk.length:Int)) from BD (by first|omega|(simp[Ai]<;>omega)) (by first|omega|(simp[Ai]<;>omega))] at H;have H:Sep z (blk b (A4 (AJ (Ah 4 nx++Ah 1 (sk.length:Int))) 5) 154::blk f [I nx,.slice l vs.length c,.slice g sk.length m] 70::A::B::R) w:=H;refine Z2 12 [2,1,0] H Z ?_;refine AD (σ:=Nat) (λi=>[(35,I (i:Int)),(1,Y f),(4,Y b),(33,.slice g sk.length m),(34,I (sk.length:Int))])
   (λi w=>Sep z (blk b (A4 (AJ (Ex nx sk i)) ((5+2*i:Nat):Int)) 154::blk f [I nx,.slice l vs.length c,.slice g sk.length m] 70::A::B::R) w/\(i<=sk.length)) (λi=>sk.length-i) 0
   fr_z ⟨(by simpa [Ex] using H),AeJ _⟩ ?_
 clear H;rintro i w ⟨H',t⟩;have H:=H'.l4;have o:=t;clear t;have n:=IA nx sk o;refine Z0 6 [0] Z (Ag Z (λh4=>?_) (λh4=>?_))
 ·refine Zc 5 Z ?_;obtain ⟨x,hx⟩:∃x,sk[i]?=some x:=⟨_,Ad7 U⟩;have a5:=a1 x (Ad8 hx)
  have s:=(H.rd 3 Z hB).at (j:=i) (u:=I x) (by simp[hx]);refine Zc 1 Z (Ab Z (Aj Z (z:=1) (j:=i) (r:=i) J Z Z Z U s U) (Ab Z (Ax Z Z J (Ay s)) (Zc 7 Z (z_E_ Z (call86 _) (CX _ _) H ?_))));intro w H;replace H:=H.l4;refine Ab Z (AE Z Z) (Zc 2 Z (Ag Z (λh5=>U) (λh5=>?_)));refine Zc 4 Z (z_E_ Z (call87 _) (CE _ (5+2*i) 2 x _ (AR (by first|omega|(simp[Ai,n]<;>omega))) U) H ?_);intro w H;replace H:=H.l4;rw[show ((5+2*i+2:Nat):Int)=(((5+2*(i+1):Nat):Int):Int) from by omega] at H;rw[show Br (AJ (Ex nx sk i)) (Ah 2 x) (5+2*i)=AJ (Ex nx sk i++Ah 2 x) from BD (by first|omega|(simp[Ai,n]<;>omega)) (by first|omega|(simp[Ai,n]<;>omega))] at H;have H:Sep z (blk b (A4 (AJ (Ex nx sk i++Ah 2 x)) ((5+2*(i+1):Nat):Int)) 154::blk f [I nx,.slice l vs.length c,.slice g sk.length m] 70::A::B::R) w:=H;refine Z1 7 [] [(i:Int)+1] Z U (gf ?_);intro _ hF;refine ⟨(i+1),hF.cz,⟨(by rw[TQ nx hx];exact H),?_⟩,?_⟩
  ·omega
  omega
 obtain rfl:i=sk.length:=by omega
 refine Zc 2 Z (gx (Z0 5 [256] Z (Az Z Z (Ak 0 H Z Z Z Z (vs:=[I 21]) Z (Ad Z Aw) J (by rw[Fh _ (AR (by first|omega|(simp[Ai,n]<;>omega)))];simp) (out:=(A4 (AJ (Ex nx sk sk.length)) 21)) (Jl _ _ (AR (by first|omega|(simp[Ai,n]<;>omega))))) ?_)));rintro w H;replace H:=H.l4;rw[TU nx hs vs] at H;refine Z2 12 [1,1,0] H Z ?_;refine AD (σ:=Nat) (λi=>[(49,I (i:Int)),(4,Y b),(47,.slice l vs.length c),(48,I (vs.length:Int))])
   (λi w=>Sep z (blk b (A4 (AJ (Cc nx sk vs i)) ((21+19*i:Nat):Int)) 154::blk f [I nx,.slice l vs.length c,.slice g sk.length m] 70::A::B::R) w/\(i<=vs.length)) (λi=>vs.length-i) 0
   fr_z ⟨H,AeJ _⟩ ?_
 clear H;rintro i w ⟨H',t⟩;have H:=H'.l4;have o:=t;clear t;have a:=Ey nx hs o;refine Z0 6 [0] Z (Ag Z (λh6=>?_) (λh6=>?_))
 ·refine Zc 5 Z ?_;obtain ⟨e,y⟩:∃e,vs[i]?=some e:=⟨_,Ad7 U⟩;have a2:=hf e (Ad8 y)
  have a0:=(H.rd 2 Z hA).at (AT y 0 _ Z);refine Zc 1 Z (Ab Z (Aj Z (z:=6) (j:=i) (r:=i*6) J Z Z Z U a0 U) (Ab Z (Bq Z Z (vs:=e.cells) J (by simp[Vl.cells]) (Ay (λk u hk=>(H.rd 2 Z hA).at (AT y k u hk)))) (Za 0 [] H Z ?_)));intro p w H;refine Z4 7 [0,0,6] H Z ?_;intro w H;refine z_E_ Z (call88 _) (TV _ a2) H ?_;intro w H;refine Z2 10 [0,0,0] H Z (z_E_ Z (call87 _) (CE _ (21+19*i) 4 e.id _ (AR (by first|omega|(simp[Ai,a]<;>omega))) U) H.f1 ?_);intro w H;replace H:=H.l5;rw[show Br (AJ (Cc nx sk vs i)) (Ah 4 e.id) (21+19*i)=AJ (Cc nx sk vs i++Ah 4 e.id) from BD (by first|omega|(simp[Ai,a]<;>omega)) (by first|omega|(simp[Ai,a]<;>omega))] at H;have H:Sep z (blk b (A4 (AJ (Cc nx sk vs i++Ah 4 e.id)) ((21+19*i+4:Nat):Int)) 154::blk p [I e.id,I e.st,I e.sz,I e.q,I e.r,I e.mp] 76::blk f [I nx,.slice l vs.length c,.slice g sk.length m] 70::A::B::R) w:=H;refine Z2 6 [1,1,0] H Z (z_E_ Z (call87 _) (CE _ (21+19*i+4) 1 e.st _ (AR (by first|omega|(simp[Ai,a]<;>omega))) U) H ?_);intro w H;replace H:=H.l5;rw[show Br (AJ (Cc nx sk vs i++Ah 4 e.id)) (Ah 1 e.st) (21+19*i+4)=AJ (Cc nx sk vs i++Ah 4 e.id++Ah 1 e.st) from BD (by first|omega|(simp[Ai,a]<;>omega)) (by first|omega|(simp[Ai,a]<;>omega))] at H;have H:Sep z (blk b (A4 (AJ (Cc nx sk vs i++Ah 4 e.id++Ah 1 e.st)) ((21+19*i+5:Nat):Int)) 154::blk p [I e.id,I e.st,I e.sz,I e.q,I e.r,I e.mp] 76::blk f [I nx,.slice l vs.length c,.slice g sk.length m] 70::A::B::R) w:=H;refine Z2 6 [2,1,0] H Z (z_E_ Z (call87 _) (CE _ (21+19*i+5) 4 e.sz _ (AR (by first|omega|(simp[Ai,a]<;>omega))) U) H ?_);intro w H;replace H:=H.l5;rw[show Br (AJ (Cc nx sk vs i++Ah 4 e.id++Ah 1 e.st)) (Ah 4 e.sz) (21+19*i+5)=AJ (Cc nx sk vs i++Ah 4 e.id++Ah 1 e.st++Ah 4 e.sz) from BD (by first|omega|(simp[Ai,a]<;>omega)) (by first|omega|(simp[Ai,a]<;>omega))] at H;have H:Sep z (blk b (A4 (AJ (Cc nx sk vs i++Ah 4 e.id++Ah 1 e.st++Ah 4 e.sz)) ((21+19*i+9:Nat):Int)) 154::blk p [I e.id,I e.st,I e.sz,I e.q,I e.r,I e.mp] 76::blk f [I nx,.slice l vs.length c,.slice g sk.length m] 70::A::B::R) w:=H;refine Z2 6 [3,1,0] H Z (z_E_ Z (call87 _) (CE _ (21+19*i+9) 4 e.q _ (AR (by first|omega|(simp[Ai,a]<;>omega))) U) H ?_);intro w H;replace H:=H.l5;rw[show Br (AJ (Cc nx sk vs i++Ah 4 e.id++Ah 1 e.st++Ah 4 e.sz)) (Ah 4 e.q) (21+19*i+9)=AJ (Cc nx sk vs i++Ah 4 e.id++Ah 1 e.st++Ah 4 e.sz++Ah 4 e.q) from BD (by first|omega|(simp[Ai,a]<;>omega)) (by first|omega|(simp[Ai,a]<;>omega))] at H;have H:Sep z (blk b (A4 (AJ (Cc nx sk vs i++Ah 4 e.id++Ah 1 e.st++Ah 4 e.sz++Ah 4 e.q)) ((21+19*i+13:Nat):Int)) 154::blk p [I e.id,I e.st,I e.sz,I e.q,I e.r,I e.mp] 76::blk f [I nx,.slice l vs.length c,.slice g sk.length m] 70::A::B::R) w:=H;refine Z2 6 [4,1,0] H Z (z_E_ Z (call87 _) (CE _ (21+19*i+13) 2 e.r _ (AR (by first|omega|(simp[Ai,a]<;>omega))) U) H ?_);intro w H;replace H:=H.l5;rw[show Br (AJ (Cc nx sk vs i++Ah 4 e.id++Ah 1 e.st++Ah 4 e.sz++Ah 4 e.q)) (Ah 2 e.r) (21+19*i+13)=AJ (Cc nx sk vs i++Ah 4 e.id++Ah 1 e.st++Ah 4 e.sz++Ah 4 e.q++Ah 2 e.r) from BD (by first|omega|(simp[Ai,a]<;>omega)) (by first|omega|(simp[Ai,a]<;>omega))] at H;have H:Sep z (blk b (A4 (AJ (Cc nx sk vs i++Ah 4 e.id++Ah 1 e.st++Ah 4 e.sz++Ah 4 e.q++Ah 2 e.r)) ((21+19*i+15:Nat):Int)) 154::blk p [I e.id,I e.st,I e.sz,I e.q,I e.r,I e.mp] 76::blk f [I nx,.slice l vs.length c,.slice g sk.length m] 70::A::B::R) w:=H;refine Z2 5 [5,1,0] H Z (z_E_ Z (call87 _) (CE _ (21+19*i+15) 4 e.mp _ (AR (by first|omega|(simp[Ai,a]<;>omega))) U) H ?_);intro w H;replace H:=H.l5;rw[show ((21+19*i+19:Nat):Int)=(((21+19*(i+1):Nat):Int):Int) from by omega] at H;rw[show Br (AJ (Cc nx sk vs i++Ah 4 e.id++Ah 1 e.st++Ah 4 e.sz++Ah 4 e.q++Ah 2 e.r)) (Ah 4 e.mp) (21+19*i+15)=AJ (Cc nx sk vs i++Ah 4 e.id++Ah 1 e.st++Ah 4 e.sz++Ah 4 e.q++Ah 2 e.r++Ah 4 e.mp) from BD (by first|omega|(simp[Ai,a]<;>omega)) (by first|omega|(simp[Ai,a]<;>omega))] at H;have H:Sep z (blk b (A4 (AJ (Cc nx sk vs i++Ah 4 e.id++Ah 1 e.st++Ah 4 e.sz++Ah 4 e.q++Ah 2 e.r++Ah 4 e.mp)) ((21+19*(i+1):Nat):Int)) 154::blk p [I e.id,I e.st,I e.sz,I e.q,I e.r,I e.mp] 76::blk f [I nx,.slice l vs.length c,.slice g sk.length m] 70::A::B::R) w:=H;refine Z1 7 [] [(i:Int)+1] Z U ?_;replace H:=H.f1.d;refine gf ?_;intro _ hF;refine ⟨(i+1),hF.cz,⟨(by rw[TR nx sk y];exact H),?_⟩,?_⟩
  ·omega
  omega
 obtain rfl:i=vs.length:=by omega
 refine Zc 2 Z (gx (Zc 4 Z (z_E_ Z (call89 _) (LN _ _ _ (AR (by first|omega|(simp[Ai,a]<;>omega)))) H ?_)));intro w H;refine Zc 5 Z (Zr Z ?_);rw[show 21+19*vs.length=21+19*8 by rw[hv]] at H;exact ⟨_,⟨b,Z,Z⟩,H.perm 4 [0,2,3] Z Z⟩
set_option maxHeartbeats 4000000 in
theorem TW (b o c:Nat) (bd:List UInt8) (A:Af) (k:∀h,A h->rdH 1 (.slice (some ⟨b,o,none⟩) 240 c) 240 (bd.map u8) h) (nx:Int) (sk:List Int) (vs:List Vl) (hs:sk.length<=8) (g:vs.length=8) (a0:0<=nx/\nx<=1073741824) (a4:∀x∈sk,0<=x/\x<=1023) (hf:∀e∈vs,e.Fit) (a:bd=Dp nx sk vs):Cn prog 103 [.slice (some ⟨b,o,none⟩) 240 c] [A] (λv Γ=>∃v1 v2:Value,(sk=[]->v2=.slice none 0 0)/\v=.tuple #[.agg #[I nx,v1,v2],.bool true]/\Γ=[grow 76 6 v1 vs.length (Bb vs),grow 3 1 v2 sk.length (sk.map I),A]):=by
 intro z R w H;replace H:=H.l1;have c3:=H.sy 0 (λq=>(k _ q).cap);have g0:AW ((bd.drop 0).take 4)=nx:=by rw[a];exact Wo hs g a0
 have g1:AW ((bd.drop 4).take 1)=(sk.length:Int):=by rw[a];exact Wp hs g
 refine Ae func103 Z ntmps103 Z (Za 2 [] H Z ?_);intro p w H;refine Za 6 [] H Z ?_;intro s w H;refine Za 18 [0,4] H Z ?_;intro n w H;refine Z4 5 [0] H Z ?_;intro w H;refine z_E_ Z (call150 _) (Cz 4 _ b o 240 (c) ((bd.drop 0).take 240) _ (λh q=>by have:=(k h q).cut (lo:=0) (m:=240) (c':=c) U U U;exact this) U U ((bd.drop 0).take 4) (by rw[Aey,Aez U]) (o+4) 236 (c-4) U U U) H.f3.f1 ?_;intro w H;replace H:=H.l4;refine AC 17 (v:=I nx) Z (congrArg I g0) (Za 1 [] H Z ?_);intro l w H;refine Z4 5 [0] H Z ?_;intro w H;refine z_E_ Z (call150 _) (Cz 1 _ b (o+4) 236 ((c-4)) ((bd.drop 4).take 236) _ (λh q=>by have:=(k h q).cut (lo:=4) (m:=236) (c':=(c-4)) U U U;exact this) U U ((bd.drop 4).take 1) (by rw[Aey,Aez U]) (o+5) 235 (c-5) U U U) H.f2.f2 ?_;intro w H;replace H:=H.l5;refine AC 19 (v:=I (sk.length:Int)) Z (congrArg I g1) (Z0 10 [0] Z (Ag Z (λh1=>U) (λh1=>?_)));refine Zc 4 Z ?_;replace H:=(H.nilg 3 1).l6;refine Zc 6 Z ?_;refine AD (σ:=Nat×Value) (λ⟨i,v⟩=>[(24,I (i:Int)),(2,Y p),(3,.bool false),(4,Y s),(5,Y n),(6,Y l),(7,I (sk.length:Int)),(23,I (sk.length:Int))])
   (λ⟨i,v⟩ w=>Sep z (grow 3 1 v i ((sk.take i).map I)::blk n [.slice (some ⟨b,(o+(5+2*i)),none⟩) (240-(5+2*i)) (c-(5+2*i))] 243::A::blk l [I nx,.slice none 0 0,v] 70::blk s [I 0,.slice none 0 0,.slice none 0 0] 70::blk p [I 0,.slice none 0 0,.slice none 0 0] 70::R) w/\(i<=sk.length/\(i=0->v=.slice none 0 0))) (λ⟨i,v⟩=>sk.length-i) ⟨0,.slice none 0 0⟩
   fr_z ⟨H,⟨AeJ _,λ_=>rfl⟩⟩ ?_
 clear H;rintro ⟨i,v⟩ w ⟨f,t⟩;dsimp only at t f ⊢;have H:=f.l6;have sv:=H.sy 0 (·.slc);obtain ⟨a8,b6⟩:=t;refine Z0 6 [0] Z (Ag Z (λh2=>?_) (λh2=>?_))
 ·refine Zc 4 Z ?_;obtain ⟨x,hx⟩:∃x,sk[i]?=some x:=⟨_,Ad7 U⟩;have c0:=a4 x (Ad8 hx)
  have gx:AW ((bd.drop (5+2*i)).take 2)=x:=by rw[a];exact Aca hs g hx c0
  replace H:=H.f3;refine Bl (Sep z (blk l [I nx,.slice none 0 0,v] 70::R)) 7 Z J (A5 H λw f=>?_);have H:=f.l6;refine Bw [0,1] [2,0] J (λ_ hx=>(AS (hx.blk 0 Z) AN)) (by exact H.pick 6 [0] Z) Z J Z Z (AF [2] J O (An (Bo Z Z Z Z Z Z (λw=>call150 _ w) (Cz 2 _ b (o+(5+2*i)) (240-(5+2*i)) ((c-(5+2*i))) ((bd.drop (5+2*i)).take (240-(5+2*i))) _ (λh q=>by have:=(k h q).cut (lo:=(5+2*i)) (m:=(240-(5+2*i))) (c':=(c-(5+2*i))) U U U;exact this) U U ((bd.drop (5+2*i)).take 2) (by rw[Aey,Aez U]) (o+(5+2*(i+1))) (240-(5+2*(i+1))) (c-(5+2*(i+1))) U U U) H.f3.f3 Z ?_)));rintro _ w _ ⟨rfl,rfl⟩ H;replace H:=H.l6;refine AC 28 (v:=I x) Z (congrArg I gx) (Au (λ_=>(H.pick 6 [2] Z)) (AF [3] J O (An (Ca Z Z Z Z (AM H Z J Bz Z (by decide) (by decide) (out:=[I x]) J) ?_))));rintro _ w ⟨b5,rfl,H⟩;replace H:=H.l7;refine Au (λ_=>(H.pick 7 [3] Z)) (AF [4] J O (An (Ca Z Z Z Z (AY 4 H Z Z J Bz Z Z (H.rv 0 (·.rd U U O Z)) (by simp[Value.oneCell']) U) ?_)));rintro v6 w f;have f:Sep z (blk b5 [I x] 3::blk n [.slice (some ⟨b,(o+(5+2*(i+1))),none⟩) (240-(5+2*(i+1))) (c-(5+2*(i+1)))] 243::A::blk l [I nx,.slice none 0 0,v] 70::grow 3 1 v6 (i+1) ((sk.take i).map I++[I x])::blk s [I 0,.slice none 0 0,.slice none 0 0] 70::blk p [I 0,.slice none 0 0,.slice none 0 0] 70::R) w:=f;have b8:((sk.take i).map I++[I x]:List Value)=(sk.take (i+1)).map I:=(D5 hx);rw[b8] at f;have H:=f.l7;have a3:=H.sy 4 (·.slc);refine Au (λ_=>(H.pick 7 [3] Z)) (Bw [5] [2] J (λ_ _=>AN) (by exact H.pick 7 [3] Z) Z J Z Z (AF [6] J O (An (Bg Z Z Z (JP 3 H Z Z Z Z a3.cells a3.one J) ?_))));rintro w H;replace H:=H.l7;refine Au (λh=>absurd Z h) (Bn J (gn (Z1 6 [] [(i:Int)+1] Z U ?_)));replace H:=H.d.f5.f5.f4.f4.f4.f5;refine gf ?_;intro _ hF;refine ⟨⟨i+1,v6⟩,hF.cz,⟨H,?_⟩,?_⟩
  ·exact ⟨by dsimp only;omega,λq=>absurd q (by dsimp only;omega)⟩
  (dsimp only;omega)
 obtain rfl:i=sk.length:=by omega
 refine Zc 2 Z (gx (Z1 11 [] [8-(sk.length:Int)] Z U ?_));refine AD (σ:=Nat) (λi=>[(35,I (i:Int)),(2,Y p),(4,Y s),(5,Y n),(6,Y l),(34,I (8-(sk.length:Int)))])
   (λi w=>Sep z (grow 3 1 v sk.length ((sk.take sk.length).map I)::blk n [.slice (some ⟨b,(o+(5+2*sk.length+2*i)),none⟩) (240-(5+2*sk.length+2*i)) (c-(5+2*sk.length+2*i))] 243::A::blk l [I nx,.slice none 0 0,v] 70::blk s [I 0,.slice none 0 0,.slice none 0 0] 70::blk p [I 0,.slice none 0 0,.slice none 0 0] 70::R) w/\(i<=8-sk.length)) (λi=>8-sk.length-i) 0
   fr_z ⟨H,AeJ _⟩ ?_
 clear H;rintro i w ⟨f,t⟩;have H:=f.l6;have a8:=t;clear t;refine Z0 6 [0] Z (Ag Z (λh3=>?_) (λh3=>?_))
 ·refine Zc 6 Z (z_E_ Z (call150 _) (Cz 2 _ b (o+(5+2*sk.length+2*i)) (240-(5+2*sk.length+2*i)) ((c-(5+2*sk.length+2*i))) ((bd.drop (5+2*sk.length+2*i)).take (240-(5+2*sk.length+2*i))) _ (λh q=>by have:=(k h q).cut (lo:=(5+2*sk.length+2*i)) (m:=(240-(5+2*sk.length+2*i))) (c':=(c-(5+2*sk.length+2*i))) U U U;exact this) U U ((bd.drop (5+2*sk.length+2*i)).take 2) (by rw[Aey,Aez U]) (o+(5+2*sk.length+2*(i+1))) (240-(5+2*sk.length+2*(i+1))) (c-(5+2*sk.length+2*(i+1))) U U U) H.f2.f2 ?_);intro w H;replace H:=H.l6;refine AC 37 (v:=I 0) Z (congrArg I (by rw[a];exact ZQ hs g U)) (Z1 11 [4] [(i:Int)+1] Z U ?_);replace H:=H.f5.f5.f5.f4.f4.f5;refine gf ?_;intro _ hF;refine ⟨(i+1),hF.cz,⟨H,?_⟩,?_⟩
  ·omega
  omega
 obtain rfl:i=8-sk.length:=by omega
 have b0:5+2*sk.length+2*(8-sk.length)=21:=by omega
 rw[b0] at H;refine Zc 2 Z (gx (Zc 4 Z ?_));have H:Sep z (grow 3 1 v sk.length ((sk.take sk.length).map I)::blk n [.slice (some ⟨b,(o+21),none⟩) 219 (c-21)] 243::A::blk l [I nx,.slice none 0 0,v] 70::blk s [I 0,.slice none 0 0,.slice none 0 0] 70::blk p [I 0,.slice none 0 0,.slice none 0 0] 70::R) w:=H;replace H:=(H.nilg 76 6).l7;refine Zc 5 Z ?_;refine AD (σ:=Nat×Value) (λ⟨i,u⟩=>[(41,I (i:Int)),(2,Y p),(4,Y s),(5,Y n),(6,Y l)])
   (λ⟨i,u⟩ w=>Sep z (grow 76 6 u i (Bb (vs.take i))::grow 3 1 v sk.length ((sk.take sk.length).map I)::blk n [.slice (some ⟨b,(o+(21+19*i)),none⟩) (240-(21+19*i)) (c-(21+19*i))] 243::A::blk l [I nx,u,v] 70::blk s [I 0,.slice none 0 0,.slice none 0 0] 70::blk p [I 0,.slice none 0 0,.slice none 0 0] 70::R) w/\(i<=vs.length)) (λ⟨i,u⟩=>vs.length-i) ⟨0,.slice none 0 0⟩
   fr_z ⟨H,AeJ _⟩ ?_
 clear H;rintro ⟨i,u⟩ w ⟨f,t⟩;dsimp only at t f ⊢;have H:=f.l7;have su:=H.sy 0 (·.slc);have sv:=H.sy 1 (·.slc);have a8:=t;refine Z0 6 [0] Z (Ag Z (λh4=>?_) (λh4=>?_))
 ·refine Zc 4 Z ?_;obtain ⟨e,y⟩:∃e,vs[i]?=some e:=⟨_,Ad7 U⟩;have j:=hf e (Ad8 y)
  have a2:AW ((bd.drop (21+19*i)).take 4)=e.id:=by rw[a];exact Acb hs g y j
  have a1:AW ((bd.drop (21+19*i+4)).take 1)=e.st:=by rw[a];exact Acc hs g y j
  have a5:AW ((bd.drop (21+19*i+5)).take 4)=e.sz:=by rw[a];exact Acd hs g y j
  have b9:AW ((bd.drop (21+19*i+9)).take 4)=e.q:=by rw[a];exact Add hs g y j
  have c1:AW ((bd.drop (21+19*i+13)).take 2)=e.r:=by rw[a];exact Ade hs g y j
  have a7:AW ((bd.drop (21+19*i+15)).take 4)=e.mp:=by rw[a];exact Ace hs g y j
  replace H:=H.f4;refine Bl (Sep z (blk l [I nx,u,v] 70::R)) 13 Z J (A5 H λw f=>?_);have H:=f.l7;refine Bw [0,1] [1,0] J (λ_ hx=>(AS (hx.blk 0 Z) AN)) (by exact H.pick 7 [0] Z) Z J Z Z (AF [2] J O (An (Bo Z Z Z Z Z Z (λw=>call150 _ w) (Cz 4 _ b (o+(21+19*i)) (240-(21+19*i)) ((c-(21+19*i))) ((bd.drop (21+19*i)).take (240-(21+19*i))) _ (λh q=>by have:=(k h q).cut (lo:=(21+19*i)) (m:=(240-(21+19*i))) (c':=(c-(21+19*i))) U U U;exact this) U U ((bd.drop (21+19*i)).take 4) (by rw[Aey,Aez U]) (o+(21+19*i+4)) (240-(21+19*i+4)) (c-(21+19*i+4)) U U U) H.f4.f4 Z ?_)));rintro _ w _ ⟨rfl,rfl⟩ H;replace H:=H.l7;refine AC 45 (v:=I e.id) Z (congrArg I a2) (Au (λ_=>(H.pick 7 [2] Z)) (AF [3] J O (An (Bo Z Z Z Z Z Z (λw=>call150 _ w) (Cz 1 _ b (o+(21+19*i+4)) (240-(21+19*i+4)) ((c-(21+19*i+4))) ((bd.drop (21+19*i+4)).take (240-(21+19*i+4))) _ (λh q=>by have:=(k h q).cut (lo:=(21+19*i+4)) (m:=(240-(21+19*i+4))) (c':=(c-(21+19*i+4))) U U U;exact this) U U ((bd.drop (21+19*i+4)).take 1) (by rw[Aey,Aez U]) (o+(21+19*i+5)) (240-(21+19*i+5)) (c-(21+19*i+5)) U U U) H Z ?_))));rintro _ w _ ⟨rfl,rfl⟩ H;replace H:=H.l7;refine AC 46 (v:=I e.st) Z (congrArg I a1) (Au (λ_=>(H.pick 7 [2] Z)) (AF [4] J O (An (Bo Z Z Z Z Z Z (λw=>call150 _ w) (Cz 4 _ b (o+(21+19*i+5)) (240-(21+19*i+5)) ((c-(21+19*i+5))) ((bd.drop (21+19*i+5)).take (240-(21+19*i+5))) _ (λh q=>by have:=(k h q).cut (lo:=(21+19*i+5)) (m:=(240-(21+19*i+5))) (c':=(c-(21+19*i+5))) U U U;exact this) U U ((bd.drop (21+19*i+5)).take 4) (by rw[Aey,Aez U]) (o+(21+19*i+9)) (240-(21+19*i+9)) (c-(21+19*i+9)) U U U) H Z ?_))));rintro _ w _ ⟨rfl,rfl⟩ H;replace H:=H.l7;refine AC 47 (v:=I e.sz) Z (congrArg I a5) (Au (λ_=>(H.pick 7 [2] Z)) (AF [5] J O (An (Bo Z Z Z Z Z Z (λw=>call150 _ w) (Cz 4 _ b (o+(21+19*i+9)) (240-(21+19*i+9)) ((c-(21+19*i+9))) ((bd.drop (21+19*i+9)).take (240-(21+19*i+9))) _ (λh q=>by have:=(k h q).cut (lo:=(21+19*i+9)) (m:=(240-(21+19*i+9))) (c':=(c-(21+19*i+9))) U U U;exact this) U U ((bd.drop (21+19*i+9)).take 4) (by rw[Aey,Aez U]) (o+(21+19*i+13)) (240-(21+19*i+13)) (c-(21+19*i+13)) U U U) H Z ?_))));rintro _ w _ ⟨rfl,rfl⟩ H;replace H:=H.l7;refine AC 48 (v:=I e.q) Z (congrArg I b9) (Au (λ_=>(H.pick 7 [2] Z)) (AF [6] J O (An (Bo Z Z Z Z Z Z (λw=>call150 _ w) (Cz 2 _ b (o+(21+19*i+13)) (240-(21+19*i+13)) ((c-(21+19*i+13))) ((bd.drop (21+19*i+13)).take (240-(21+19*i+13))) _ (λh q=>by have:=(k h q).cut (lo:=(21+19*i+13)) (m:=(240-(21+19*i+13))) (c':=(c-(21+19*i+13))) U U U;exact this) U U ((bd.drop (21+19*i+13)).take 2) (by rw[Aey,Aez U]) (o+(21+19*i+15)) (240-(21+19*i+15)) (c-(21+19*i+15)) U U U) H Z ?_))));rintro _ w _ ⟨rfl,rfl⟩ H;replace H:=H.l7;refine AC 49 (v:=I e.r) Z (congrArg I c1) (Au (λ_=>(H.pick 7 [2] Z)) (AF [7] J O (An (Bo Z Z Z Z Z Z (λw=>call150 _ w) (Cz 4 _ b (o+(21+19*i+15)) (240-(21+19*i+15)) ((c-(21+19*i+15))) ((bd.drop (21+19*i+15)).take (240-(21+19*i+15))) _ (λh q=>by have:=(k h q).cut (lo:=(21+19*i+15)) (m:=(240-(21+19*i+15))) (c':=(c-(21+19*i+15))) U U U;exact this) U U ((bd.drop (21+19*i+15)).take 4) (by rw[Aey,Aez U]) (o+(21+19*(i+1))) (240-(21+19*(i+1))) (c-(21+19*(i+1))) U U U) H Z ?_))));rintro _ w _ ⟨rfl,rfl⟩ H;replace H:=H.l7;refine AC 50 (v:=I e.mp) Z (congrArg I a7) (Au (λ_=>(H.pick 7 [2] Z)) (BS 8 J Z Z J J J Z Z Z (Bc Z Z (out:=[I e.id,I e.st,I e.sz,I e.q,I e.r,I e.mp]) J) (H.pick 7 [2] Z) (AF [9] J O (An (Ca Z Z Z Z (AM H Z J Cg Z (by decide) (by decide) (out:=[I e.id,I e.st,I e.sz,I e.q,I e.r,I e.mp]) J) ?_)))));rintro _ w ⟨b7,rfl,H⟩;replace H:=H.l8;refine Au (λ_=>(H.pick 8 [3] Z)) (AF [10] J O (An (Ca Z Z Z Z (AY 4 H Z Z J Cg Z Z (H.rv 0 (·.rd U U O Z)) (λc hc=>QM [e] c (by simpa [Bb,Vl.cells] using hc)) U) ?_)));rintro v8 w f;have f:Sep z (blk b7 [I e.id,I e.st,I e.sz,I e.q,I e.r,I e.mp] 76::blk n [.slice (some ⟨b,(o+(21+19*(i+1))),none⟩) (240-(21+19*(i+1))) (c-(21+19*(i+1)))] 243::A::blk l [I nx,u,v] 70::grow 76 6 v8 (i+1) (Bb (vs.take i)++[I e.id,I e.st,I e.sz,I e.q,I e.r,I e.mp])::grow 3 1 v sk.length ((sk.take sk.length).map I)::blk s [I 0,.slice none 0 0,.slice none 0 0] 70::blk p [I 0,.slice none 0 0,.slice none 0 0] 70::R) w:=f;have a9:(Bb (vs.take i)++[I e.id,I e.st,I e.sz,I e.q,I e.r,I e.mp]:List Value)=Bb (vs.take (i+1)):=(ZR y);rw[a9] at f;have H:=f.l8;have a6:=H.sy 4 (·.slc);refine Au (λ_=>(H.pick 8 [3] Z)) (Bw [11] [1] J (λ_ _=>AN) (by exact H.pick 8 [3] Z) Z J Z Z (AF [12] J O (An (Bg Z Z Z (Ll 3 H Z Z Z Z a6.cells a6.one J) ?_))));rintro w H;replace H:=H.l8;refine Au (λh=>absurd Z h) (Bn J (gn (Z1 6 [] [(i:Int)+1] Z U ?_)));replace H:=H.d.f6.f6.f4.f4.f4.f6.f6;refine gf ?_;intro _ hF;refine ⟨⟨i+1,v8⟩,hF.cz,⟨H,?_⟩,?_⟩
  ·dsimp only;omega
  (dsimp only;omega)
 obtain rfl:i=vs.length:=by omega
 refine Zc 2 Z (gx (Zc 4 Z ?_));rw[show vs.take vs.length=vs from Ae2,show sk.take sk.length=sk from Ae2] at H;refine Z2 2 [4,3] H Z (Aq Z (call40 _) (I4 nx sk vs _ _ _ _ (λh q=>q.rd) (λh q=>q.rd) hs g a0 a4 hf) H ?_);rintro _ w _ ⟨pw,rfl,rfl⟩ H;refine Z0 12 [4] Z (z_E_ Z (call151 _) (KO _ b (o+(21+19*vs.length)) (240-(21+19*vs.length)) ((c-(21+19*vs.length))) ((bd.drop (21+19*vs.length)).take (240-(21+19*vs.length))) _ (λh q=>by have:=(k h q).cut (lo:=(21+19*vs.length)) (m:=(240-(21+19*vs.length))) (c':=(c-(21+19*vs.length))) U U U;exact this) (.inr ⟨by omega,by rw[a,show 21+19*vs.length=173 by omega,show 240-173=67 from Z];exact OX hs g,by omega⟩)) H.f4.f4 ?_);intro w H;replace H:=H.l8;refine Ab Z (AE Z Z) (Zc 3 Z (Ag Z (λh5=>?_) (λh5=>?_)))
 ·exact absurd (by rw[a,show 21+19*vs.length=173 by omega,show 240-173=67 from Z];exact OX hs g) h5
 refine Z2 5 [5,3] H Z (Az Z Z (Ak 7 H Z Z Z Z (vs:=[I nx,u,v]) Z (Ad Z (Ad su.one (Ad sv.one Aw))) J O (out:=[I nx,u,v]) Z) ?_);rintro w H;replace H:=H.l8;refine Zc 4 Z (Zl [7,3] H Z ?_);exact ⟨_,⟨u,v,λq=>b6 (by rw[q];rfl),Z,Z⟩,H.perm 8 [3,4,1] Z Z⟩
set_option maxHeartbeats 2000000 in
theorem RQ (pd dn n:Nat) (s l:Int) (hn:16<=n/\n<=1024) (u:(CA n s l 2).Ok (dn:Int)):Cn prog 10 [Y pd,I (n:Int),I s,I l] [diskA pd (Ct dn)] (λv Γ=>∃(o:Dsk) (c:StG) (bs:List UInt8),bs.length=256/\bs=AJ (Cc 1 [] (List.replicate 8 v0) (List.replicate 8 v0).length)/\OInv o c.x c.B (λgot=>got=c.rs)/\Clean o/\(c.x.gen<=((5:Nat):Int)/\c.x.epoch<=((5:Nat):Int))/\o.n=dn/\c.x.pages=n/\c.M=Ej (λ_=>noPg) (some (gF n (bs.take 240) (manyN n),1+manyN n))/\v=I 0/\Γ=[diskA pd o]):=by
 intro z R w H;replace H:=H.l1;have b2:=OC hn.1;have b0:=OB hn.2;refine Ae func10 Z ntmps10 Z (Zc 12 Z (z_E_ Z (call37 _) (VJ _ dn _ _ _ u) H ?_));intro w H;refine Z0 15 [4] Z (Aq Z (call38 _) (Tw _ _ _ _ _ _ (YV u) (VH _ _ _ _) (show (2:Int)<=(2:Nat)/\(1:Int)<=(2:Nat) by omega) U) H ?_);rintro _ w _ ⟨ps,D0,a8,a0,a3,a2,rfl,rfl⟩ H;replace H:=H.l1;subst a0;have a:Sep z (stoA ps pd D0 (Qn (CA n s l 2) (λ_=>noPg)) none::R) w:=H;clear H;have H:=a.l1;refine Z0 21 [4] Z (z_E_ Z (call39 _) (Qo _ _ _ _) H ?_);intro w H;refine Z0 14 [4] Z (AQ Z (Y5 (k:=8) (out:=Xo) H Z J Cg Z Z U J) ?_);rintro _ w ⟨b1,rfl,H⟩;replace H:=H.l2;refine Zc 1 Z ?_;replace H:=(H.nilg 3 1).l3;refine Aq Z (call40 _) (I4 1 [] (List.replicate 8 v0) _ _ _ _ (λh q=>q.rd U U (by simp[Xo]) (by rfl)) (λh q=>q.rd) O O U O (λe he=>by rw[(AfX.1 he).2];exact v0_fit)) H.f1 ?_;rintro _ w _ ⟨pw,rfl,rfl⟩ H;replace H:=H.l4;obtain ⟨bs,g⟩:∃bs,bs=AJ (Cc 1 [] (List.replicate 8 v0) (List.replicate 8 v0).length):=⟨_,Z⟩;have j:bs.length=256:=by rw[g];exact AR (by rw[Ey 1 O (Aed _),Afd];omega)
 rw[<-g] at H;refine Z0 23 [4] Z (Aq Z (call41 _) (Gu _ _ _ _ _ _ 0 (by show (0:Int)<(n:Int);omega) ⟨1,bs.take 240⟩ ⟨by show (1:Int)<=1/\(1:Int)<=5;omega,by show (bs.take 240).length=240;rw[Aes];omega⟩ _ _ (λh q=>q.rd U U (VR j) (Y6 j))) H.f3 ?_);rintro _ w _ (⟨b,rfl,rfl⟩|⟨_,rfl,rfl⟩) a
 ·(exfalso;have:=b.2;omega)
 have H:=a.l4;rw[Y8 n] at H;refine Z0 15 [4] Z (Aq Z (call42 _) (Tm _ U) H ?_);rintro _ w _ ⟨pc,bn,m,rfl,rfl⟩ H;refine Z0 20 [4] Z (z_E_ Z (call43 _) (Ga _ U) H ?_);intro w H;refine Z1 12 [] [(manyN n:Int)+1] Z U ?_;refine AD (σ:=Nat×List IE×Nat) (λ⟨i,p,clk⟩=>[(70,I (i:Int)),(8,I 0),(10,Y ps),(15,Y pc),(16,I (manyN n:Int)),(69,I ((manyN n:Int)+1))])
   (λ⟨i,p,clk⟩ w=>Sep z (coB pc bn n m::Cf bn (C1 i) n::AH m p clk::stoA ps pd D0 (Qn (CA n s l 2) (λ_=>noPg)) (some (gF n (bs.take 240) 0,1+0))::blk pw (A4 bs ((21+19*8:Nat):Int)) 154::blk b1 Xo 76::grow 3 1 (.slice none 0 0) 0 []::R) w/\(i<=manyN n+1/\WasOk (C1 i) (λ_=>0) n p clk)) (λ⟨i,p,clk⟩=>manyN n+1-i) ⟨0,[],0⟩
   fr_z ⟨(by rw[Qu];exact H),⟨by omega,by rw[Qu];exact WasOk.nil _ _ _⟩⟩ ?_
 clear H;rintro ⟨i,p,clk⟩ w ⟨a,y⟩;dsimp only at y a ⊢;have H:=a.l7;obtain ⟨a1,W⟩:=y;have t:C1 i i=0:=by simp[C1]
 refine Z0 6 [0] Z (Ag Z (λh1=>?_) (λh1=>?_))
 ·refine Zc 13 Z (Aq Z (call44 _) (IW _ _ _ _ _ (λ_=>0) _ _ i 1 _ U U (by rw[t];rfl) U (by rw[t];omega) W) H ?_);rintro _ w _ ⟨l2,r,W2,rfl,rfl⟩ H;refine Z1 7 [] [(i:Int)+1] Z U (gf ?_);intro _ hF;refine ⟨⟨i+1,l2,r⟩,hF.cz,⟨(by rw[<-Qt];exact H),?_⟩,?_⟩
  ·dsimp only;exact ⟨by omega,by rw[<-Qt];exact W2⟩
  (dsimp only;omega)
 obtain rfl:i=manyN n+1:=by omega
 refine Zc 2 Z (gx (Zc 10 Z ?_));refine AD (σ:=Nat) (λi=>[(78,I (i:Int)),(10,Y ps),(15,Y pc),(77,I (manyN n:Int))])
   (λi w=>Sep z (coB pc bn n m::Cf bn (C1 (manyN n+1)) n::AH m p clk::stoA ps pd D0 (Qn (CA n s l 2) (λ_=>noPg)) (some (gF n (bs.take 240) i,1+i))::blk pw (A4 bs ((21+19*8:Nat):Int)) 154::blk b1 Xo 76::grow 3 1 (.slice none 0 0) 0 []::R) w/\(i<=manyN n)) (λi=>manyN n-i) 0
   fr_z ⟨H,by omega⟩ ?_
 clear H;rintro i w ⟨a,y⟩;have H:=a.l7;have a1:=y;clear y;refine Z0 6 [0] Z (Ag Z (λh2=>?_) (λh2=>?_))
 ·refine Z1 17 [] [((1+i:Nat):Int)] Z U (Aq Z (call45 _) (Qj _ _ _ _ _ i U U (RK _)) H ?_);rintro _ w _ ⟨pq,rfl,rfl⟩ H;refine Zc 1 Z (Aq Z (call41 _) (Gu _ _ _ _ _ _ (1+i) (by show ((1+i:Nat):Int)<(n:Int);omega) (DA (C1 (manyN n+1)) n i) (Fb _ _ _) _ _ (λh q=>q.rd U U (OA (Fb _ _ _).2) (Qr (Fb _ _ _).2))) H.f4 ?_);rintro _ w _ (⟨b,rfl,rfl⟩|⟨_,rfl,rfl⟩) a
  ·(exfalso;have:=b.2;omega)
  have H:=a.l8;rw[Y7] at H;refine Z1 17 [4] [(i:Int)+1] Z U ?_;replace H:=H.f1.d.f6.f6.f6.f3.f6.f6.f6;refine gf ?_;intro _ hF;refine ⟨(i+1),hF.cz,⟨H,?_⟩,?_⟩
  ·omega
  omega
 obtain rfl:i=manyN n:=by omega
 refine Zc 2 Z (gx (Zc 6 Z (Aq Z (call46 _) (Ox _ _ _ _ _ _ 3 a3 U) H.f3 ?_)));rintro _ w _ ⟨o,c,f,a5,⟨a7,a9⟩,a6,rfl,rfl⟩ H;refine Z0 15 [4] Z (Aq Z (call47 _) (sync_s _ _ _ _ 5 f) H ?_);rintro _ w _ ⟨rfl,a4,rfl⟩ H;refine Zc 4 Z (Zr Z ?_);have H2:=H.pick 7 [0] Z;obtain ⟨hO,a⟩:=H2.flDisk (by have:=f.q;omega);exact ⟨_,⟨o.fl,c,bs,j,g,hO,a4.clean,⟨f.gen,f.epoch⟩,a5.trans (a2.trans (VI _ _ _ _)),(a6.elim (λe=>by rw[e];rfl) (λe=>by rw[e];rfl)),a7,Z,Z⟩,a⟩
section
section
variable{P:Program}{ops:List Oper}{N R:Act->World->Prop}{X:Nat->Act->World->Prop}{n d i:Nat}{ds:List Deferred}{L:List (Nat×Value)}{w z:World}{k:Kd}{rest:List Oper}{o:Oper}{Γ pre R':List Af}{post:Value->List Af->Prop}{f:FuncId}{vs us:List Value}{x:Operand}{args:List Operand}{tys:Array TypeId}
theorem Kj{a:Act}(c:Fr n ds L a)(g:o.op=.call {callee:=.value x,args:=args.toArray,argTypes:=tys})(e:ev L x=some (.func (.func f) #[] us.toArray))(b:evs L args=some vs)(d:∀w,(callFunc f (vs++us).toArray).run P w=.ok (.enter f (vs++us).toArray) w):(execOp a.eval o).run P w=.ok (.enter f (vs++us).toArray) w:=by
 have e1:=c.evs b;have e2:=c.ev e;unfold execOp;simp only[g,resolve,e2,Deferred.ofValue,invoke];simp only[go_sem,AeR,e1,AeQ];simpa using d w
theorem AdN(h:IJ ops L n o=some d)(u:o.op=.call {callee:=.value x,args:=args.toArray,argTypes:=tys})(s:ev L x=some (.func (.func f) #[] us.toArray))(b:evs L args=some vs)(r:∀w,(callFunc f (vs++us).toArray).run P w=.ok (.enter f (vs++us).toArray) w)(t:Cn P f (vs++us) pre post)(H:Sep z (pre++R') w)
  (K:∀v g Γ',post v Γ'->Sep z (Γ'++R') g->∀a',Fr n ds ((d,v)::L) a'->BR P N X R (.o ops rest k) a' g):∀a,Fr n ds L a->BR P N X R (.o ops (o::rest) k) a w:=by
 intro a i;obtain ⟨l,y,j⟩:=Ef h;show wpList P ops.toArray _ (o::rest) a w;unfold wpList;rw[if_pos (wantL_ok i l)];left;unfold Oper.wp;rw[Kj i u s b r,AgF];exact Ago (t.use H) λe g q=>by
  cases e with
  | returned v=>obtain ⟨Γ',m,p⟩:=q;simp only[y];exact K v g Γ' m p _ (i.put d v j)
  | panicked c=>exact q.elim
  | outgrown=>exact q.elim
theorem Acf{K:Act->World->Prop}(hi:ops[i]?=some o)(k:BL ops L o.guard=true)(y:o.dst=some d)(j:Nat.blt d n=true)(u:o.op=.call {callee:=.value x,args:=args.toArray,argTypes:=tys})(s:ev L x=some (.func (.func f) #[] us.toArray))(b:evs L args=some vs)(r:∀w,(callFunc f (vs++us).toArray).run P w=.ok (.enter f (vs++us).toArray) w)(t:Cn P f (vs++us) pre post)(H:Sep z Γ w)(e:Γ=pre++R')
  (m:∀v g Γ',post v Γ'->Sep z (Γ'++R') g->∀a',Fr n ds ((d,v)::L) a'->K a' g):∀a,Fr n ds L a->wpOp P ops.toArray (Qp N X R) i K a w:=by
 intro a h;unfold wpOp;rw[Ae9,hi];simp only;rw[if_pos (wantL_ok h k)];left;unfold Oper.wp;rw[Kj h u s b r,AgF];exact Ago (t.use (e▸H)) λe g q=>by
  cases e with
  | returned v=>obtain ⟨Γ',l,p⟩:=q;simp only[y];exact m v g Γ' l p _ (h.put d v j)
  | panicked c=>exact q.elim
  | outgrown=>exact q.elim
end
def Cx(sv:Value)(sk:List Int):Af:=λh=>grow 3 1 sv sk.length (sk.map (Value.int .i64)) h/\(sk=[]->sv=.slice none 0 0)
def voA(pv pp:Nat)(nx:Int)(sk:List Int)(vs:List Vl):Af:=λh=>∃u:Value×Value,True/\seps [blk pv [.pointer (some ⟨pp,0,none⟩),.int .i64 nx,u.1,u.2] 100,grow 76 6 u.1 vs.length (Bb vs),Cx u.2 sk] h
theorem Sep.vo{z w:World}{Γ:List Af}{a pp:Nat}{nx:Int}{sk:List Int}{vs:List Vl}(H:Sep z (voA a pp nx sk vs::Γ) w):∃b c:Value,Sep z (YtnifkcmmanmbbaaGreatDoor.blk a [Y pp,I nx,b,c] 100::YtnifkcmmanmbbaaGreatDoor.grow 76 6 b vs.length (Bb vs)::Cx c sk::Γ) w:=by
 obtain ⟨u,_,H⟩:=H.into (p:=λ_:Value×Value=>True) (As:=λu=>[YtnifkcmmanmbbaaGreatDoor.blk a [Y pp,I nx,u.1,u.2] 100,YtnifkcmmanmbbaaGreatDoor.grow 76 6 u.1 vs.length (Bb vs),Cx u.2 sk]) (λ_ q=>q);exact ⟨u.1,u.2,H⟩
theorem Sep.toVo{z w:World}{Γ:List Af}{c pp:Nat}{nx:Int}{sk:List Int}{vs:List Vl}{a b:Value}(H:Sep z (YtnifkcmmanmbbaaGreatDoor.blk c [Y pp,I nx,a,b] 100::YtnifkcmmanmbbaaGreatDoor.grow 76 6 a vs.length (Bb vs)::Cx b sk::Γ) w):Sep z (voA c pp nx sk vs::Γ) w:=H.made 3 (λh q=>⟨(a,b),trivial,q⟩)
theorem Wq(b a f:Nat)(vs:List Vl)(A:Af)(g:∀h,A h->rdH 6 (.slice (some ⟨b,a,none⟩) vs.length f) vs.length (Bb vs) h)(l:0<vs.length/\vs.length<=1073741824):Cn prog 128 [.slice (some ⟨b,a,none⟩) vs.length f] [A] (λv Γ=>∃e:Value,v=e/\Γ=[grow 76 6 e vs.length (Bb vs),A]):=by
 intro z R w H;replace H:=H.l1;refine Ae func128 Z ntmps128 Z (Zc 9 Z (Ab Z (Ii Z J Z Z) (Zc 7 Z (AQ Z (EX H Z J Cg) ?_))));rintro _ w ⟨i,rfl,H⟩;replace H:=H.l2;refine Zc 1 Z ?_;replace H:=(H.mono 0 (B:=grow 76 6 (.slice (some ⟨i,0,none⟩) 0 0) 0 []) Z (λh q=>q.grow U U O Z)).l2;refine AQ Z (AY 0 H Z Z J Cg Z Z (H.rd 1 Z g) (QM _) U) ?_;rintro k w d;have c:([]++Bb vs:List Value)=Bb vs:=by simp
 rw[c] at d;rw[show (0+vs.length:Nat)=vs.length from by omega] at d;have H:=d.l2;refine Zc 4 Z (Zr Z ?_);exact ⟨_,⟨_,Z,Z⟩,H⟩
theorem TX(b a f:Nat)(sk:List Int)(A:Af)(g:∀h,A h->rdH 1 (.slice (some ⟨b,a,none⟩) sk.length f) sk.length (sk.map I) h)(l:0<sk.length/\sk.length<=1073741824):Cn prog 129 [.slice (some ⟨b,a,none⟩) sk.length f] [A] (λv Γ=>∃e:Value,v=e/\Γ=[grow 3 1 e sk.length (sk.map I),A]):=by
 intro z R w H;replace H:=H.l1;refine Ae func129 Z ntmps129 Z (Zc 9 Z (Ab Z (Ii Z J Z Z) (Zc 7 Z (AQ Z (EX H Z J Bz) ?_))));rintro _ w ⟨i,rfl,H⟩;replace H:=H.l2;refine Zc 1 Z ?_;replace H:=(H.mono 0 (B:=grow 3 1 (.slice (some ⟨i,0,none⟩) 0 0) 0 []) Z (λh q=>q.grow U U O Z)).l2;refine AQ Z (AY 0 H Z Z J Bz Z Z (H.rd 1 Z g) (GS _) U) ?_;rintro k w d;have c:([]++sk.map I:List Value)=sk.map I:=by simp
 rw[c] at d;rw[show (0+sk.length:Nat)=sk.length from by omega] at d;have H:=d.l2;refine Zc 4 Z (Zr Z ?_);exact ⟨_,⟨_,Z,Z⟩,H⟩
theorem RR:Cn prog 129 [.slice none 0 0] [] (λv Γ=>v=.slice none 0 0/\Γ=[]):=by
 intro z R w H;replace H:=H.l0;refine Ae func129 Z ntmps129 Z (Zc 9 Z (Ab Z (Uo Z J Z Z) (Zc 9 Z (Zr Z ?_))));exact ⟨_,⟨Z,Z⟩,H⟩
theorem rdH.addr{sz n c:Nat}{a:Option Addr}{xs:List Value}{h:Hp}(r:rdH sz (.slice a n c) n xs h)(l:0<n*sz):∃b p,a=some ⟨b,p,none⟩:=by
 obtain ⟨d,c',e,i,k,j,g⟩:=r;cases e;obtain ⟨u,f⟩:∃u,xs[0]?=some u:=⟨_,Ad7 U⟩;obtain ⟨b,p,e,_⟩:=g 0 u f;exact ⟨b,p,e⟩
theorem RS(e:Value)(vs:List Vl)(A:Af)(d:∀h,A h->rdH 6 e vs.length (Bb vs) h)(g:0<vs.length/\vs.length<=1073741824):Cn prog 128 [e] [A] (λv Γ=>∃f:Value,v=f/\Γ=[grow 76 6 f vs.length (Bb vs),A]):=by
 intro z R w H;obtain ⟨i,c,rfl⟩:=H.sy 0 (λq=>(d _ q).slc);obtain ⟨b,a,rfl⟩:=H.sy 0 (λq=>(d _ q).addr U);exact Wq b a c vs A d g z R w H
theorem ZS(f:Value)(sk:List Int)(hs:sk.length<=1073741824):Cn prog 129 [f] [Cx f sk] (λv Γ=>∃g:Value,v=g/\Γ=[Cx g sk,Cx f sk]):=by
 intro z R w H;by_cases h0:sk=[]
 ·subst h0
  have e:=H.sy 0 (·.2 Z);subst e;refine Ret.mono (RR z (Cx (.slice none 0 0) []::R) w H) ?_;rintro v j ⟨Γ',⟨rfl,rfl⟩,d⟩;exact ⟨_,⟨_,Z,Z⟩,(d.nilg 3 1).mono 0 (B:=Cx (.slice none 0 0) []) Z (λh q=>⟨q,λ_=>rfl⟩)⟩
 have i:0<sk.length:=Ag7.2 h0;obtain ⟨k,c,rfl⟩:=H.sy 0 (·.1.slc);obtain ⟨b,a,rfl⟩:=H.sy 0 (·.1.rd.addr U);refine Ret.mono (TX b a c sk _ (λh q=>q.rd) ⟨i,hs⟩ z R w (H.mono 0 (B:=grow 3 1 (.slice (some ⟨b,a,none⟩) sk.length c) sk.length (sk.map I)) Z (λh q=>q.1))) ?_;rintro v j ⟨Γ',⟨l,rfl,rfl⟩,d⟩;exact ⟨_,⟨_,Z,Z⟩,(d.mono 0 (B:=Cx v sk) Z (λh q=>⟨q,λe=>absurd e h0⟩)).mono 1 (B:=Cx (.slice (some ⟨b,a,none⟩) sk.length c) sk) Z (λh q=>⟨q,λe=>absurd e h0⟩)⟩
end
theorem MS(nx:Int)(sk:List Int)(vs:List Vl)(b a:Value)(A:Af)(j:∀h,A h->rdH 6 b vs.length (Bb vs) h)(m:vs.length=8)(hs:sk.length<=8):Cn prog 75 [.agg #[I nx,b,a]] [A,Cx a sk] (λv Γ=>∃e d:Value,v=.agg #[I nx,e,d]/\Γ=[grow 76 6 e vs.length (Bb vs),Cx d sk,A,Cx a sk]):=by
 intro z R w H;replace H:=H.l2;refine Ae func75 Z ntmps75 Z (Za 2 [] H Z ?_);intro k w H;refine Za 0 [] H Z ?_;intro l w H;refine Zc 3 Z ?_;replace H:=H.f1;refine Bl (Sep z (blk k [I nx,b,a] 70::R)) 10 Z J (A5 H λw g=>?_);have H:=g.l4;refine Bw [0,1,2,3,5,6] [0,0,1,0,2,0] J (λ_ i=>(AS (i.blk 0 Z) AN)) (by exact H.pick 4 [0] Z) Z J Z Z (AF [4] J O (An (Bo Z Z Z Z Z Z (λw=>call128 _ w) (RS b vs A j U) H.f2 Z ?_)));rintro e w _ ⟨_,rfl,rfl⟩ H;replace H:=H.l5;have c:=H.sy 0 (·.slc);refine Au (λ_=>(H.pick 5 [2] Z)) (AF [7] J O (An (Bo Z Z Z Z Z Z (λw=>call129 _ w) (ZS a sk U) H.f4 Z ?_)));rintro d w _ ⟨_,rfl,rfl⟩ H;replace H:=H.l6;have f:=H.sy 0 (·.1.slc);refine Au (λ_=>(H.pick 6 [4] Z)) ?_;obtain ⟨a1,c1,rfl⟩:=c;obtain ⟨a2,c2,rfl⟩:=f;refine BS 8 J Z Z J J J Z Z Z (Bc Z Z (out:=[I nx,.slice a1 vs.length c1,.slice a2 sk.length c2]) J) (H.pick 6 [4] Z) (AF [9] J O (An (Bg Z Z Z (Ak 5 H Z Z Z Z (vs:=[I nx,.slice a1 vs.length c1,.slice a2 sk.length c2]) Z (by simp[u8,u32,Value.oneCell']) J O (out:=[I nx,.slice a1 vs.length c1,.slice a2 sk.length c2]) Z) ?_)));rintro w H;replace H:=H.l6;refine Au (λh=>absurd Z h) (Bn J (gn (Zc 2 Z (Zl [5,3] H Z ?_))));exact ⟨_,⟨_,_,Z,Z⟩,H.pick 6 [2,0,3,1] Z⟩
section
abbrev Pl:=Vl×List E
def pl0:Pl:=(v0,[])
structure PlOk(N:Hm)(nx:Int)(p:Pl):Prop where
 id:1<=p.1.id/\p.1.id<nx
 st:p.1.st=1\/p.1.st=2
 sz:1<=p.1.sz/\p.1.sz<=1048576
 q:0<=p.1.q/\p.1.q<=1048576
 r:0<=p.1.r/\p.1.r<=1023
 root:Root N p.1.r.toNat p.2
 nd:(vals p.2).Nodup
 mp:p.1.mp=(p.2.length:Int)
 key:∀e∈p.2,e.1<p.1.sz
def C7(P:List Pl):List Nat:=P.flatMap λp=>Ba p.1.r.toNat
structure VInv(n:Nat)(o:TB)(nx:Int)(P:List Pl):Prop where
 n:n<=639
 len:P.length=8
 nb:1<=nx/\nx<=1073741824
 all:∀p∈P,p=pl0\/PlOk o.N nx p
 ids:P.Pairwise λa b=>a.1.id=b.1.id->a.1.id=0
 r:o.R.Perm (C7 P)
theorem QO(P:List Pl):(C7 P).length<=P.length:=by
 induction P with
 | nil=>simp[C7]
 | cons p t ih=>
  have:(Ba p.1.r.toNat).length<=1:=by unfold Ba;split<;>simp
  simp only[C7,AeB,Ad9,Aeb] at ih ⊢;omega
theorem QP{P:List Pl}{i:Nat}(h:i<P.length)(p:Pl):(C7 (P.set i p)).Perm (Ba p.1.r.toNat++C7 (P.eraseIdx i)):=by
 have e:P.set i p=P.take i++p::P.drop (i+1):=by rw[Ae5,if_pos h]
 rw[e,List.eraseIdx_eq_take_drop_succ];simp only[C7,AfV,AeB];rw[<-Aec,<-Aec];exact Afr _ AfZ
theorem I5{P:List Pl}{i:Nat}{p:Pl}(h:P[i]?=some p):(C7 P).Perm (Ba p.1.r.toNat++C7 (P.eraseIdx i)):=by
 obtain ⟨a,rfl⟩:=Ad6.1 h;have:=QP a P[i];rwa[Age] at this
theorem L7{P:List Pl}{p:Pl}(h:p∈P)(a:p.1.r.toNat≠0):p.1.r.toNat∈C7 P:=
 Af9.2 ⟨p,h,by unfold Ba;rw[if_neg a];simp⟩
variable{n:Nat}{o:TB}{nx:Int}{P:List Pl}
theorem VInv.lw(h:VInv n o nx P){i:Nat}{p:Pl}(hi:P[i]?=some p)(hp:PlOk o.N nx p):LwI n ⟨o.N,o.C,Ba p.1.r.toNat++C7 (P.eraseIdx i)⟩ p.1.r.toNat p.2 (C7 (P.eraseIdx i)):=
 ⟨h.n,by have:=QO (P.eraseIdx i);have:=List.length_eraseIdx_le P i;have:=h.len;omega,hp.root,hp.nd,Z⟩
theorem TY{N N2:Hm}{L:List E}(h:Root N 0 L):Root N2 0 L:=by
 rcases h with ⟨_,e⟩|⟨e,_⟩
 ·exact .inl ⟨Z,e⟩
 exact absurd Z e
theorem PlOk.kp{N N2:Hm}{nx2:Int}{p:Pl}(h:PlOk N nx p)(a:p.1.r.toNat≠0->Root N p.1.r.toNat p.2->Root N2 p.1.r.toNat p.2)(b:nx<=nx2):PlOk N2 nx2 p:=
 ⟨⟨h.id.1,by have:=h.id.2;omega⟩,h.st,h.sz,h.q,h.r,by
  by_cases e:p.1.r.toNat=0
  ·have:=h.root;rw[e] at this ⊢;exact TY this
  exact a e h.root,h.nd,h.mp,h.key⟩
theorem Hd{α:Type}{l:List α}{i j:Nat}{x:α}(h:l[j]?=some x)(a:j≠i):x∈l.eraseIdx i:=by
 rw[Ag4];exact ⟨j,a,h⟩
theorem VInv.upd(h:VInv n o nx P){i:Nat}{p p2:Pl}(hi:P[i]?=some p){o2:TB}{nx2:Int}(g:nx<=nx2/\nx2<=1073741824)(w:Kp o.N o2.N (C7 (P.eraseIdx i)))(hp:PlOk o2.N nx2 p2)
  (s:p2.1.id=p.1.id\/∀q∈P,q.1.id≠p2.1.id)(z:o2.R.Perm (Ba p2.1.r.toNat++C7 (P.eraseIdx i))):VInv n o2 nx2 (P.set i p2):=by
 have u:=(Ad6.1 hi).1;have m:∀j q,P[j]?=some q->j≠i->q=pl0\/PlOk o2.N nx2 q:=λj q d t=>by
  rcases h.all q (Ad8 d) with e|e
  ·exact .inl e
  exact .inr (e.kp (λx hr=>w _ (L7 (Hd d t) x) _ hr) g.1)
 refine ⟨h.n,by rw[AeP];exact h.len,⟨by have:=h.nb;omega,g.2⟩,λq hq=>?_,?_,z.trans (QP u p2).symm⟩
 ·obtain ⟨j,d⟩:=AeW.1 hq
  rw[Afi] at d;split at d
  ·rename_i e
   first
    | (cases d;exact .inr hp)
    | (split at d<;>cases d;exact .inr hp)
  exact m j q d U
 have c:=h.ids;rw[Afp] at c ⊢;intro a b k l f;rw[AeP] at k l;rw[AgS,AgS];have y:∀j (d:j<P.length),P[j]?=some P[j]:=λj d=>Ad7 d;have v:P[i]=p:=by have:=y i u;rw[hi] at this;exact (Af4 this).symm
 by_cases e1:i=a
 ·subst e1
  rw[if_pos Z,if_neg U];rcases s with e|e
  ·rw[e];have:=c i b k l f;rw[v] at this;exact this
  intro q;exact absurd q.symm (e _ (AfJ l))
 rw[if_neg e1];by_cases e2:i=b
 ·subst e2
  rw[if_pos Z];rcases s with e|e
  ·rw[e];have:=c a i k l f;rw[v] at this;exact this
  intro q;exact absurd q (e _ (AfJ k))
 rw[if_neg e2];exact c a b k l f
theorem VInv.fit(h:VInv n o nx P)(K:TrK n o none):∀e∈P.map Prod.fst,Vl.Fit e:=λe c=>by
 obtain ⟨p,hp,rfl⟩:=Aeh.1 c;rcases h.all p hp with rfl|a
 ·exact v0_fit
 have m:=h.n;have:=JB K.i U (show ∀e∈p.2,∃b,Dk o none e.2=some (.dt b) from a.root.data) a.nd;have d:=h.nb;obtain ⟨j,f,l,q,g,_,_,k,_⟩:=a;exact ⟨by omega,by omega,by omega,by omega,by omega,by omega⟩

structure Wv where
 id:Int
 sz:Int
 q:Int
 u:Value
 V:List Bk
abbrev OY:=Int×Int×Int×List Bk
def Wv.core(x:Wv):OY:=(x.id,x.sz,x.q,x.V)
def CF(N:Hm)(p:Pl):OY:=(p.1.id,p.1.sz,p.1.q,AZ N p.2)
def Dx(p:Pl):Bool:=decide (p.1.st=1)
def Dy(N:Hm)(P:List Pl):List OY:=(P.filter Dx).map (CF N)
structure VRel(N:Hm)(P:List Pl)(W:List Wv):Prop where
 p:(Dy N P).Perm (W.map Wv.core)
 s:W.Pairwise λa b=>a.id<b.id
theorem L8{α:Type}{f:α->Int}{l:List α}{i:Nat}{a a2:α}(h:l[i]?=some a)(c:∀j b,l[j]?=some b->f b=f a->j=i):l.set i a2=l.map λb=>if f b=f a then a2 else b:=by
 apply Afk;intro j;rw[Afi,Aej];by_cases e:i=j
 ·subst e
  rw[if_pos Z,if_pos (Ad6.1 h).1,h];simp
 rw[if_neg e]
 cases hj:l[j]? with
 | none=>rfl
 | some b=>
  rw[AeN,if_neg (λq=>e (c j b hj q).symm)]
theorem OZ{α:Type}{f:α->Int}{l:List α}{i:Nat}{a:α}(h:l[i]?=some a)(g:∀j b,l[j]?=some b->f b=f a->j=i):l.take i++l.drop (i+1)=l.filter λb=>decide (f b≠f a):=by
 have k:=(Ad6.1 h).1;have e:l=l.take i++a::l.drop (i+1):=by
  have:=AeI i l;rw[AeX k,show l[i]=a from by have:=Ad7 k;rw[h] at this;exact (Af4 this).symm] at this;exact this.symm
 conv=>rhs;rw[e]
 rw[AfI,Ahx,if_neg O];congr 1
 ·refine (Agn.2 λb d=>?_).symm
  obtain ⟨j,c⟩:=AeW.1 d;have m:=c;rw[AeS] at c;split at c
  ·simp only[decide_eq_true_eq];intro q;have:=g j b c q;omega
  cases c
 refine (Agn.2 λb d=>?_).symm;obtain ⟨j,c⟩:=AeW.1 d;rw[Aff] at c;simp only[decide_eq_true_eq];intro q;have:=g _ b c q;omega
variable{W:List Wv}{N N2:Hm}
theorem VInv.uniq(h:VInv n o nx P){i j:Nat}{p q:Pl}(hi:P[i]?=some p)(c:P[j]?=some q)(e:q.1.id=p.1.id)(d:p.1.id≠0):j=i:=by
 have a:=h.ids;rw[Afp] at a;obtain ⟨a1,rfl⟩:=Ad6.1 hi;obtain ⟨b,rfl⟩:=Ad6.1 c;rcases AfD i j with q|q|q
 ·exact absurd (a i j a1 b q e.symm) d
 ·exact q.symm
 exact absurd (a j i b a1 q e) U
theorem VRel.uniq(h:VRel N P W){i j:Nat}{x y:Wv}(hi:W[i]?=some x)(c:W[j]?=some y)(e:y.id=x.id):j=i:=by
 have a:=h.s;rw[Afp] at a;obtain ⟨a1,rfl⟩:=Ad6.1 hi;obtain ⟨b,rfl⟩:=Ad6.1 c;rcases AfD i j with q|q|q
 ·have:=a i j a1 b q;omega
 ·exact q.symm
 have:=a j i b a1 q;omega
theorem VRel.at(h:VRel N P W){i:Nat}{p:Pl}(hi:P[i]?=some p)(hs:p.1.st=1):∃(j:Nat) (x:Wv),W[j]?=some x/\x.core=CF N p:=by
 have:CF N p∈Dy N P:=Aeh.2 ⟨p,Ae6.2 ⟨Ad8 hi,by simp[Dx,hs]⟩,Z⟩;obtain ⟨x,a,e⟩:=Aeh.1 (h.p.mem_iff.1 this);obtain ⟨j,b⟩:=AeW.1 a;exact ⟨j,x,b,e⟩
theorem VRel.back(h:VRel N P W){j:Nat}{x:Wv}(a:W[j]?=some x):∃(i:Nat) (p:Pl),P[i]?=some p/\p.1.st=1/\x.core=CF N p:=by
 have:x.core∈W.map Wv.core:=Aeh.2 ⟨x,Ad8 a,Z⟩;obtain ⟨p,hp,e⟩:=Aeh.1 (h.p.mem_iff.2 this);obtain ⟨b,c⟩:=Ae6.1 hp;obtain ⟨i,hi⟩:=AeW.1 b;exact ⟨i,p,hi,by simpa [Dx] using c,e.symm⟩
theorem MT(h:∀p∈P,p.1.st=1->AZ N2 p.2=AZ N p.2):Dy N2 P=Dy N P:=by
 unfold Dy;refine Afw λp hp=>?_;obtain ⟨b,a⟩:=Ae6.1 hp;unfold CF;rw[h p b (by simpa [Dx] using a)]
theorem VRel.upd(h:VRel N P W)(w:VInv n o nx P){i j:Nat}{p p2:Pl}{x x2:Wv}(hi:P[i]?=some p)(l:W[j]?=some x)(v:p.1.id≠0)(hs:p.1.st=1)(m:p2.1.st=1)(e:x.id=p.1.id)(e2:x2.core=CF N2 p2)(a3:p2.1.id=p.1.id)
  (hN:∀q∈P,q.1.st=1->q.1.id≠p.1.id->AZ N2 q.2=AZ N q.2):VRel N2 (P.set i p2) (W.set j x2):=by
 have a1:x2.id=x.id:=by have:=congrArg Prod.fst e2;simp only[Wv.core,CF] at this;omega
 have eP:=L8 (f:=λb:Pl=>b.1.id) (a2:=p2) hi (λk b d q=>w.uniq hi d q v);have z:=L8 (f:=Wv.id) (a2:=x2) l (λk b d q=>h.uniq l d q);refine ⟨?_,?_⟩
 ·have e1:Dy N2 (P.set i p2)=(Dy N P).map λc=>if c.1=p.1.id then CF N2 p2 else c:=by
   rw[eP];unfold Dy;rw[Agc,Afh,Afh];have ef:P.filter (Dx∘λb=>if b.1.id=p.1.id then p2 else b)=P.filter Dx:=by
    refine Ahl λb g=>?_;simp only[Function.comp];split
    ·rename_i q
     obtain ⟨k,d⟩:=AeW.1 g;have:=w.uniq hi d q v;subst this;rw[hi] at d;cases d;simp[Dx,hs,m]
    rfl
   rw[ef];refine Afw λb g=>?_;obtain ⟨b1,b2⟩:=Ae6.1 g;simp only[Function.comp];split
   ·rename_i q;rw[if_pos (by simpa [CF] using q)]
   rename_i q;rw[if_neg (by simpa [CF] using q)];unfold CF;rw[hN b b1 (by simpa [Dx] using b2) q]
  have e3:(W.set j x2).map Wv.core=(W.map Wv.core).map λc=>if c.1=p.1.id then CF N2 p2 else c:=by
   rw[z,Afh,Afh];refine Afw λb g=>?_;simp only[Function.comp];split
   ·rename_i q;rw[if_pos (by simp only[Wv.core];omega),e2]
   rename_i q;rw[if_neg (by simp only[Wv.core];omega)]
  rw[e1,e3];exact h.p.map _
 have t:=h.s;rw[Afp] at t ⊢;intro a b u g r;rw[AeP] at u g;have:=t a b u g r;have a0:=(Ad6.1 l).1;have y:W[j]=x:=(Ad6.1 l).2;rw[AgS,AgS];split<;>split
 ·omega
 ·rename_i q _;subst q;rw[y] at this;omega
 ·rename_i _ q;subst q;rw[y] at this;omega
 exact this
theorem VRel.del(h:VRel N P W)(w:VInv n o nx P){i j:Nat}{p p2:Pl}{x:Wv}(hi:P[i]?=some p)(l:W[j]?=some x)(u:p.1.id≠0)(d:p2.1.st≠1)(e:x.id=p.1.id)
  (hN:∀q∈P,q.1.st=1->AZ N2 q.2=AZ N q.2):VRel N2 (P.set i p2) (W.take j++W.drop (j+1)):=by
 have v:=L8 (f:=λb:Pl=>b.1.id) (a2:=p2) hi (λk b a q=>w.uniq hi a q u);have m:=OZ (f:=Wv.id) l (λk b a q=>h.uniq l a q);refine ⟨?_,?_⟩
 ·have e1:Dy N2 (P.set i p2)=(Dy N P).filter λc=>decide (c.1≠p.1.id):=by
   rw[v,<-MT hN];unfold Dy;rw[Agc,Agc,Afh,List.filter_filter];have t:P.filter (Dx∘λb=>if b.1.id=p.1.id then p2 else b)=P.filter λb=>((λc:OY=>decide (c.1≠p.1.id))∘CF N2) b&&Dx b:=by
    refine Ahl λb r=>?_;simp only[Function.comp,CF];split
    ·rename_i q;simp[Dx,q,d]
    rename_i q;simp[q]
   rw[t];refine Afw λb r=>?_;obtain ⟨_,g⟩:=Ae6.1 r;simp only[Function.comp,CF,Aex,decide_eq_true_eq] at g ⊢;rw[if_neg (of_decide_eq_true g.1)]
  have y:(W.take j++W.drop (j+1)).map Wv.core=(W.map Wv.core).filter λc=>decide (c.1≠p.1.id):=by
   rw[m,Agc];congr 1;refine Ahl λb _=>?_;simp only[Function.comp,Wv.core,e];exact decide_eq_decide.2 Ahp
  rw[e1,y];exact h.p.filter _
 rw[m];exact h.s.filter _
theorem VRel.new(h:VRel N P W){i:Nat}{p p2:Pl}{x2:Wv}(hi:P[i]?=some p)(hs:p.1.st≠1)(c:p2.1.st=1)(e2:x2.core=CF N2 p2)(d:∀x∈W,x.id<x2.id)
  (hN:∀q∈P,q.1.st=1->AZ N2 q.2=AZ N q.2):VRel N2 (P.set i p2) (W++[x2]):=by
 have g:=(Ad6.1 hi).1;have e:P.set i p2=P.take i++p2::P.drop (i+1):=by rw[Ae5,if_pos g]
 have k:P=P.take i++p::P.drop (i+1):=by
  have:=AeI i P;rw[AeX g,show P[i]=p from (Ad6.1 hi).2] at this;exact this.symm
 refine ⟨?_,?_⟩
 ·have hp:=h.p
  rw[<-MT hN] at hp;have e1:Dy N2 P=Dy N2 (P.take i)++Dy N2 (P.drop (i+1)):=by
   conv=>lhs;rw[k]
   unfold Dy;rw[AfI,Ahx,if_neg (by simp[Dx,hs]),AeD]
  have l:Dy N2 (P.set i p2)=Dy N2 (P.take i)++CF N2 p2::Dy N2 (P.drop (i+1)):=by
   rw[e];unfold Dy;rw[AfI,Ahx,if_pos (by simp[Dx,c]),AeD,AeE]
  rw[l,AeD,AeE,e2];rw[e1] at hp;refine Afb.trans ((Afe _ hp).trans ?_);exact (List.perm_append_singleton _ _).symm
 rw[List.pairwise_append];exact ⟨h.s,by simp,λa j b f=>by simp at f;subst f;exact d a j⟩
theorem VRel.len(h:VRel N P W):W.length<=P.length:=by
 have:=h.p.length_eq;simp only[Dy,Aea] at this;rw[<-this];exact AfO _ _
end
section
section
variable{P:Program}{C:World->Prop}{o:Oper}{n:Nat}{ds:List Deferred}{L:List (Nat×Value)}{x y:Operand}{xt yt:TypeId}
def MU(P:Program)(t:TypeId)(m:Nat):Bool:=match P.underlying t with
 | some (.struct fs)=>decide (fs.toList.map (λf=>f.offset)=List.range m)&&fs.toList.all λf=>f.name != "_" && Gc P f.type&&(match P.underlying f.type with|some (.int _)=>true|_=>false)
 | _=>false
theorem M5{α β:Type}(l:List α)(b b':β)(f:α->β->Sem (ForInStep β))(p:α->Bool)(w:World)(h:∀a∈l,(f a b).run P w=.ok (if p a=true then .yield b else .done b') w):(forIn l b f).run P w=.ok (if l.all p=true then b else b') w:=by
 induction l with
 | nil=>simp[go_sem]
 | cons a l ih=>
  rw[List.forIn_cons,Aeq,h a O]
  cases hp:p a with
  | true=>simp only[if_true,List.all_cons,hp,Bool.true_and];exact ih λa c=>h a (by simp[c])
  | false=>simp[go_sem,hp]
theorem TZ{cs es:List Int}{m:Nat}(ho:o.op=.binOp .eql xt x y yt)(i:MU P xt m=true)(h1:cs.length=m)(h2:es.length=m)(hs:P.stoodInHeld xt=false)(hg:P.eqGuardType P.depth xt=false)(hx:ev L x=some (.agg (cs.map I).toArray))(hy:ev L y=some (.agg (es.map I).toArray)):Ar P C n ds L o (.bool (decide (cs=es))):=λa hF w _=>by
 unfold MU at i;split at i
 ·rename_i z h
  rw[Aex] at i;obtain ⟨b,j⟩:=i;have b:=of_decide_eq_true b;have s:∀d,(Op.equalIn (d+1+1) xt (.agg (cs.map I).toArray) (.agg (es.map I).toArray)).run P w=.ok (decide (cs=es)) w:=λd=>by
   rw[Op.equalIn];simp only[Aeq,run_underlying h,Aem];have hh:(program).run P w=.ok P w:=by simp[program,Sem.run]
   simp only[hh,Aem,hs,Afm,if_false];rw[Aeq,<-Array.forIn_toList,M5 (b':=⟨some false,⟨⟩⟩) (p:=λf=>decide (cs[f.offset]?=es[f.offset]?))]
   ·have e:z.toList.all (λf=>decide (cs[f.offset]?=es[f.offset]?))=decide (cs=es):=by
     rw[Aer,AfW,decide_eq_true_iff];constructor
     ·intro q
      apply Afk;intro k;rcases Ael k m with hk|hk
      ·have hm:k∈z.toList.map (λf=>f.offset):=by rw[b];exact AfL.2 hk
       obtain ⟨f,t,rfl⟩:=Aeh.1 hm;simpa using q f t
      rw[AeC U,AeC U]
     intro q f _;rw[q];simp
    rw[e];by_cases q:cs=es
    ·simp[q,go_sem]
    simp[q,go_sem]
   intro f t;have r:=(AfW.1 j) f t;simp only[Aex] at r;obtain ⟨⟨h3,h4⟩,h5⟩:=r;have a0:f.offset<m:=by
    have:f.offset∈z.toList.map (λf=>f.offset):=Aeh.2 ⟨f,t,Z⟩;rw[b] at this;exact AfL.1 this
   have hn:f.name≠"_":=by simpa using h3
   rw[if_pos hn];split at h5
   ·rename_i k2 hu
    have hp:∀l:List Int,l.length=m->(part f.type (l.map I).toArray f.offset).run P w=.ok (I (l.getD f.offset 0)) w:=λl hl=>by
     have hc:((l.map I).toArray)[f.offset]?=some (I (l.getD f.offset 0)):=by
      simp[Ad7 (show f.offset<l.length by omega),List.getD]
     simp only[part,Aeq,FL h4,Aem,if_false,Afm,hc,Aev]
    have he:∀u v:Int,(Op.equalIn (d+1) f.type (I u) (I v)).run P w=.ok (u==v) w:=λu v=>by
     rw[Op.equalIn];simp[Aeq,run_underlying hu,go_sem]
    simp only[Aeq,hp cs h1,hp es h2,he,Aem];have e3:(cs.getD f.offset 0==es.getD f.offset 0)=decide (cs[f.offset]?=es[f.offset]?):=by
     rw[Ad7 (show f.offset<cs.length by omega),Ad7 (show f.offset<es.length by omega)];simp[List.getD,Ad7 (show f.offset<cs.length by omega),Ad7 (show f.offset<es.length by omega)];rw[Aer];simp
    rw[e3];by_cases q:cs[f.offset]?=es[f.offset]?
    ·simp[q,go_sem]
    simp[q,go_sem]
   cases h5
  have g:(Op.equal xt (.agg (cs.map I).toArray) (.agg (es.map I).toArray)).run P w=.ok (decide (cs=es)) w:=s 9998;have c:(eqGuard .eql xt x y (.agg (cs.map I).toArray) (.agg (es.map I).toArray)).run P w=.ok () w:=by
   simp[eqGuard,Aeq,program,Sem.run,hg]
  simp only[execOp,ho,hF.ev hx,hF.ev hy];simp only[binOp,Aeq,c,g,Aem,Aev]
 cases i
end
theorem Adf{e:Vl}(h:[(0:Int),0,0,0,0,0]=[e.id,e.st,e.sz,e.q,e.r,e.mp]):e=v0:=by
 cases e
 simp at h;obtain ⟨g,c,a,d,b,f⟩:=h;subst g c a d b f;rfl
def Bm(sz:Int)(snd:Bool)(at_ count:Int):Int:=if snd=true/\1<=count/\count<=8 then (if 0<=at_/\at_<=sz-count then 0 else 34) else 1
theorem He(k l m:Int):Cn prog 52 [I k,I l,I m] [] (λv Γ=>v=.bool (decide (l<=k/\k<=m))/\Γ=[]):=by
 intro z R w H;replace H:=H.l0;refine Ae func52 Z ntmps52 Z (Z0 11 [0] Z (Al 10 Z (λa=>?_) (λa=>?_)))
 ·refine Z0 8 [0] Z (Zr Z ?_);exact ⟨_,⟨congrArg Value.bool (by first|(rw[Aer];simp<;>omega)|(simp<;>omega)),Z⟩,H⟩
 refine Zc 8 Z (Zr Z ?_);exact ⟨_,⟨congrArg Value.bool (by first|(rw[Aer];simp<;>omega)|(simp<;>omega)),Z⟩,H⟩
theorem QQ(a pp:Nat)(nx:Int)(sk:List Int)(vs:List Vl):Cn prog 13 [Y a] [voA a pp nx sk vs] (λv Γ=>v=Y pp/\Γ=[voA a pp nx sk vs]):=by
 intro z R w H;replace H:=H.l1;obtain ⟨d,e,H⟩:=H.vo;replace H:=H.l3;refine Ae func13 Z ntmps13 Z (Z2 15 [0,0,0] H Z (Zr Z ?_));exact ⟨_,⟨Z,Z⟩,(H.pick 3 [0,1,2] Z).toVo⟩
theorem JE(d pp:Nat)(nx:Int)(sk:List Int)(vs:List Vl)(id:Int)(hv:vs.length=8):Cn prog 66 [Y d,I id] [voA d pp nx sk vs] (λv Γ=>(∃(i:Nat) (e:Vl),(vs[i]?=some e/\e.st=1/\e.id=id)/\v=I (i:Int)/\Γ=[voA d pp nx sk vs])\/((∀e∈vs,¬(e.st=1/\e.id=id))/\v=I (-1)/\Γ=[voA d pp nx sk vs])):=by
 intro z R w H;replace H:=H.l1;obtain ⟨vv,t,H⟩:=H.vo;replace H:=H.l3;have n:=H.sy 1 (·.slc);obtain ⟨s,p,rfl⟩:=n;refine Ae func66 Z ntmps66 Z (Z2 18 [1,2,0,0] H Z ?_);refine AD (σ:=Nat) (λi=>[(12,I (i:Int)),(0,Y d),(1,I id),(11,I (vs.length:Int))])
   (λi w=>Sep z (blk d [Y pp,I nx,.slice s vs.length p,t] 100::grow 76 6 (.slice s vs.length p) vs.length (Bb vs)::Cx t sk::R) w/\(i<=vs.length/\∀(j:Nat) (e:Vl),j<i->vs[j]?=some e->¬(e.st=1/\e.id=id))) (λi=>vs.length-i) 0
   fr_z ⟨H,⟨AeJ _,λj e h=>by omega⟩⟩ ?_
 clear H;rintro i w ⟨H',y⟩;have H:=H'.l3;obtain ⟨hi,c⟩:=y;refine Z0 6 [0] Z (Ag Z (λu=>?_) (λu=>?_))
 ·refine Zc 11 Z ?_;obtain ⟨e,g⟩:∃e,vs[i]?=some e:=⟨_,Ad7 U⟩;have b:=(H.rv 1 (·.rd)).at (AT g 0 _ Z)
  have f:=(H.rv 1 (·.rd)).at (AT g 1 _ Z);refine Z2 7 [1,2,0,0] H Z (Ab Z (Aj Z (z:=6) (j:=i) (r:=i*6) J Z Z Z U b U) (Ab Z (Bj Z (k:=1) (r:=i*6+1) J Z b Z) (Ab Z (Ax Z Z J (Ay f)) (Z0 2 [0] Z (Al 25 Z (λh2=>?_) (λh2=>?_))))))
  ·refine Z2 6 [1,2,0,0] H Z (Ab Z (Aj Z (z:=6) (j:=i) (r:=i*6) J Z Z Z U b U) (Ab Z (Bj Z (k:=0) (r:=i*6) J Z b Z) (Ab Z (Ax Z Z J (Ay b)) (Z0 5 [0] Z (Ag Z (λh3=>?_) (λh3=>?_))))))
   ·refine Zc 7 Z (Zr Z ?_);exact ⟨_,.inl ⟨i,e,⟨g,by assumption,by assumption⟩,Z,Z⟩,(H.pick 3 [0,1,2] Z).toVo⟩
   refine Z1 7 [] [(i:Int)+1] Z U (gf ?_);intro _ o;refine ⟨(i+1),o.cz,⟨H,?_⟩,?_⟩
   ·refine ⟨by omega,λj l m a=>?_⟩;rcases Ael j i with q|q
    ·exact c j l q a
    obtain rfl:j=i:=by omega
    rw[g] at a;cases a;omega
   omega
  refine Z1 22 [] [(i:Int)+1] Z U (gf ?_);intro _ o;refine ⟨(i+1),o.cz,⟨H,?_⟩,?_⟩
  ·refine ⟨by omega,λj l m a=>?_⟩;rcases Ael j i with q|q
   ·exact c j l q a
   obtain rfl:j=i:=by omega
   rw[g] at a;cases a;omega
  omega
 refine Zc 2 Z (gx (Zc 8 Z (Zr Z ?_)));exact ⟨_,.inr ⟨λl a=>(by obtain ⟨j,m⟩:=AeW.1 a;exact c j l (by have:=(Ad6.1 m).1;omega) m),Z,Z⟩,(H.pick 3 [0,1,2] Z).toVo⟩
theorem Wr(o:Value)(vs:List Vl)(A:Af)(n:∀h,A h->rdH 6 o vs.length (Bb vs) h)(hv:vs.length=8):Cn prog 106 [o,.agg #[I 0,I 0,I 0,I 0,I 0,I 0]] [A] (λv Γ=>(∃i:Nat,vs[i]?=some v0/\v=I (i:Int)/\Γ=[A])\/((∀e∈vs,e≠v0)/\v=I (-1)/\Γ=[A])):=by
 intro z R w H;replace H:=H.l1;obtain ⟨am,mc,rfl⟩:=H.sy 0 (λq=>(n _ q).slc);refine Ae func106 Z ntmps106 Z (Za 2 [] H Z ?_);intro p w H;refine Zc 12 Z ?_;refine AD (σ:=Nat) (λi=>[(8,I (i:Int)),(0,.slice am vs.length mc),(3,Y p),(7,I (vs.length:Int))])
   (λi w=>Sep z (blk p [I 0,I 0,I 0,I 0,I 0,I 0] 76::A::R) w/\(i<=vs.length/\∀(j:Nat) (e:Vl),j<i->vs[j]?=some e->e≠v0)) (λi=>vs.length-i) 0
   fr_z ⟨H,⟨AeJ _,λj e h=>by omega⟩⟩ ?_
 clear H;rintro i w ⟨l,x⟩;have H:=l.l2;obtain ⟨hi,b⟩:=x;refine Z0 6 [0] Z (Ag Z (λt=>?_) (λt=>?_))
 ·refine Zc 11 Z ?_;obtain ⟨e,d⟩:∃e,vs[i]?=some e:=⟨_,Ad7 U⟩;have c:=(H.rv 1 (n _)).at (AT d 0 _ Z)
  refine Bu (Sep z _) J J H.drew (GF 3 [0,6] [] Z J (AL Z Z Z (Aj Z (z:=6) (j:=i) (r:=i*6) J Z Z Z U c U) (AL Z Z Z (Bq Z Z (vs:=e.cells) J (by simp[Vl.cells]) (λ_ hx=>(λk u s=>(hx.rv 1 (n _)).at (AT d k u s)))) (AL Z Z Z (TZ (cs:=[(0:Int),0,0,0,0,0]) (es:=[e.id,e.st,e.sz,e.q,e.r,e.mp]) (m:=6) Z J Z Z J J Z Z) (BH (λw l=>?_))))));have H:=l.l2;refine gn (Zc 1 Z (Ag Z (λh2=>?_) (λh2=>?_)))
  ·refine Zc 7 Z (Zr Z ?_);exact ⟨_,.inl ⟨i,d.trans (congrArg some (Adf (e:=e) (by assumption))),Z,Z⟩,H.pick 2 [1] Z⟩
  refine Z1 7 [] [(i:Int)+1] Z U (gf ?_);intro _ y;refine ⟨(i+1),y.cz,⟨H,?_⟩,?_⟩
  ·refine ⟨by omega,λj f g a=>?_⟩;rcases Ael j i with q|q
   ·exact b j f q a
   obtain rfl:j=i:=by omega
   have q9:f=e:=by rw[d] at a;exact (Af4 a).symm
   rw[q9];exact λq=>absurd (show [(0:Int),0,0,0,0,0]=[e.id,e.st,e.sz,e.q,e.r,e.mp] by rw[q];rfl) (by assumption)
  omega
 refine Zc 2 Z (gx (Zc 8 Z (Zr Z ?_)));exact ⟨_,.inr ⟨λf a=>(by obtain ⟨j,g⟩:=AeW.1 a;exact b j f (by have:=(Ad6.1 g).1;omega) g),Z,Z⟩,H.pick 2 [1] Z⟩
theorem QR(a pp:Nat)(nx:Int)(sk:List Int)(vs:List Vl)(g:vs.length=8):Cn prog 53 [Y a] [voA a pp nx sk vs] (λv Γ=>(∃i:Nat,(vs[i]?=some v0/\nx<1073741824)/\v=.tuple #[I (i:Int),I 0]/\Γ=[voA a pp nx sk vs])\/((∀e∈vs,e≠v0)/\v=.tuple #[I 0,I 32]/\Γ=[voA a pp nx sk vs])\/((v0∈vs/\1073741824<=nx)/\v=.tuple #[I 0,I 15]/\Γ=[voA a pp nx sk vs])):=by
 intro z R w H;replace H:=H.l1;obtain ⟨m,n,H⟩:=H.vo;replace H:=H.l3;refine Ae func53 Z ntmps53 Z (Z2 13 [1,2,0,0] H Z (Ab Z (Bc Z Z (out:=[I 0,I 0,I 0,I 0,I 0,I 0]) J) (Aq Z (call106 _) (Wr _ vs _ (λh q=>q.rd) g) H.f1 ?_)));rintro _ w _ (⟨i,d,rfl,rfl⟩|⟨b,rfl,rfl⟩) c
 ·have H:=c.l3;refine Z0 12 [0] Z (Ag Z (λf=>U) (λf=>?_))
  refine Z2 11 [1,1,1,0,0] H Z (Ag Z (λk=>?_) (λk=>?_))
  ·refine Zc 7 Z (Zr Z ?_);exact ⟨_,.inr (.inr ⟨⟨Ad8 d,by omega⟩,Z,Z⟩),(H.pick 3 [1,0,2] Z).toVo⟩
  refine Zc 11 Z (Zr Z ?_);exact ⟨_,.inl ⟨i,⟨d,by omega⟩,Z,Z⟩,(H.pick 3 [1,0,2] Z).toVo⟩
 have H:=c.l3;refine Z0 20 [3] Z (Zr Z ?_);exact ⟨_,.inr (.inl ⟨b,Z,Z⟩),(H.pick 3 [1,0,2] Z).toVo⟩
theorem O0(l pp:Nat)(nx:Int)(sk:List Int)(vs:List Vl)(id at_ a:Int)(snd:Bool)(hv:vs.length=8)(m:∀e∈vs,-1073741824<=e.sz/\e.sz<=1073741824)(a1: -9223372036854775808<=at_/\at_<=9223372036854775807)(u: -9223372036854775808<=a/\a<=9223372036854775807):Cn prog 61 [Y l,I id,I at_,I a,.bool snd] [voA l pp nx sk vs] (λv Γ=>((∀e∈vs,¬(e.st=1/\e.id=id))/\v=.tuple #[I 0,I 31]/\Γ=[voA l pp nx sk vs])\/(∃(i:Nat) (e:Vl),(vs[i]?=some e/\e.st=1/\e.id=id)/\v=.tuple #[I (if Bm e.sz snd at_ a=0 then (i:Int) else 0),I (Bm e.sz snd at_ a)]/\Γ=[voA l pp nx sk vs])):=by
 intro z R w H;replace H:=H.l1;refine Ae func61 Z ntmps61 Z (Zc 10 Z (Aq Z (call66 _) (JE _ _ _ _ _ id U) H ?_));rintro _ w _ (⟨i,e,⟨f,b,c⟩,rfl,rfl⟩|⟨o,rfl,rfl⟩) s
 ·have H:=s.l1;refine Z0 12 [0] Z (Ag Z (λx=>U) (λx=>?_))
  refine Zc 5 Z (FN 22 Z (λh2=>?_) (λh2=>?_))
  ·refine Zc 15 Z (Zr Z ?_);have d:Bm e.sz snd at_ a=1:=by unfold Bm;rw[if_neg (λq=>by first|omega|(obtain ⟨t,_⟩:=q;simp_all))]
   exact ⟨_,.inr ⟨i,e,⟨f,b,c⟩,by rw[d];rfl,Z⟩,H.pick 1 [0] Z⟩
  refine Zc 1 Z (z_E_ Z (call52 _) (He _ _ _) H ?_);intro w H;replace H:=H.l1;refine Ab Z (AE Z Z) (Zc 4 Z (Ag Z (λh3=>?_) (λh3=>?_)))
  ·refine Zc 7 Z (Zr Z ?_);have d:Bm e.sz snd at_ a=1:=by unfold Bm;rw[if_neg (λq=>by first|omega|(obtain ⟨t,_⟩:=q;simp_all))]
   exact ⟨_,.inr ⟨i,e,⟨f,b,c⟩,by rw[d];rfl,Z⟩,H.pick 1 [0] Z⟩
  refine Zc 1 Z ?_;obtain ⟨vv,sv,H⟩:=H.vo;replace H:=H.l3;have n:=H.sy 1 (·.slc);obtain ⟨am,mc,rfl⟩:=n;have a2:=(Ad6.1 f).1;have p:=m e (Ad8 f);have g:=(H.rv 1 (·.rd)).at (AT f 0 _ Z);have h:=(H.rv 1 (·.rd)).at (AT f 2 _ Z);refine Z0 4 [0] Z (Al 30 Z (λh4=>?_) (λh4=>?_))
  ·refine Zc 25 Z (Zr Z ?_);have d:Bm e.sz snd at_ a=34:=by unfold Bm;rw[if_pos ⟨by first|assumption|simp_all,by omega,by omega⟩,if_neg U]
   exact ⟨_,.inr ⟨i,e,⟨f,b,c⟩,by rw[d];rfl,Z⟩,(H.pick 3 [0,1,2] Z).toVo⟩
  refine Z2 7 [1,2,0,0] H Z (Ab Z (Aj Z (z:=6) (j:=i) (r:=i*6) J Z Z Z U g U) (Ab Z (Bj Z (k:=2) (r:=i*6+2) J Z g Z) (Ab Z (Ax Z Z J (Ay h)) (Z1 7 [0] [e.sz-a] Z U (Ag Z (λh5=>?_) (λh5=>?_))))))
  ·refine Zc 7 Z (Zr Z ?_);have d:Bm e.sz snd at_ a=34:=by unfold Bm;rw[if_pos ⟨by first|assumption|simp_all,by omega,by omega⟩,if_neg U]
   exact ⟨_,.inr ⟨i,e,⟨f,b,c⟩,by rw[d];rfl,Z⟩,(H.pick 3 [0,1,2] Z).toVo⟩
  refine Zc 11 Z (Zr Z ?_);have d:Bm e.sz snd at_ a=0:=by unfold Bm;rw[if_pos ⟨by first|assumption|simp_all,by omega,by omega⟩,if_pos U]
  exact ⟨_,.inr ⟨i,e,⟨f,b,c⟩,by rw[d];rfl,Z⟩,(H.pick 3 [0,1,2] Z).toVo⟩
 have H:=s.l1;refine Z0 20 [3] Z (Zr Z ?_);exact ⟨_,.inl ⟨o,Z,Z⟩,H.pick 1 [0] Z⟩
theorem ZT(a pp ps d c pd n:Nat)(nx:Int)(sk:List Int)(vs:List Vl)(D:Dsk)(G:StG)(e:Bool)(mb:Nat)(f:Fine D G mb):Cn prog 31 [Y a] [voA a pp nx sk vs,plB pp ps d c n e,stoA ps pd D G none] (λv Γ=>v=I 0/\Fine D.fl {G with sure:=G.rs.length} mb/\Γ=[voA a pp nx sk vs,plB pp ps d c n e,stoA ps pd D.fl {G with sure:=G.rs.length} none]):=by
 intro z R w H;replace H:=H.l3;obtain ⟨i,j,H⟩:=H.vo;replace H:=H.l5;refine Ae func31 Z ntmps31 Z (Z2 15 [0,0,0,0,0,3,0] H Z (Aq Z (call47 _) (sync_s _ _ _ _ mb f) H.f4 ?_));rintro _ w _ ⟨rfl,b,rfl⟩ H;refine Zc 4 Z (Zr Z ?_);exact ⟨_,⟨Z,b,Z⟩,(H.pick 5 [1,2,3,4,0] Z).toVo⟩
end
section
variable{Tb:Af}{z w:World}{Γ:List Af}{pp mb n:Nat}{o:TB}{t:TS}{R:List Nat}
theorem trA.perm0{Q:List Nat}{h:Hp}(hp:o.R.Perm Q)(a:trA Tb pp mb n o none h):trA Tb pp mb n ⟨o.N,o.C,Q⟩ none h:=by
 obtain ⟨M0,b,a⟩:=a;exact ⟨M0,⟨b.m,b.i.perm hp⟩,a⟩
theorem Ws(pp mb n:Nat)(o:TB)(t:TS)(R:List Nat)(x:Pg)(q:x.Ok)(d:Value)(B:Af)(p:∀h,B h->rdH 1 d 240 (x.body.map u8) h)(g:t.k<40):
  Cn prog 165 [Y pp,I 0,.agg #[I x.kind,d]] [trA Tb pp mb n o (some (t,R)),B] (λv Γ=>∃k,k<=t.k+1/\v=I 0/\Γ=[trA Tb pp mb n o (some (⟨t.N,t.C,t.F,k⟩,R)),B]):=by
 intro z R' w H;have K:=H.says 0 Z (λh a=>trA.k a);obtain ⟨⟨M0,M⟩,c,H⟩:=H.tr1;refine Ret.mono (Cn.at (write_p pp mb n M0 o.C ⟨M,t.C,t.F,t.k⟩ 0 x q d B p g ⟨.inl Z,by have:=K.hn;omega⟩ (by have:=K.one 0 (AeJ _);simp only[curC] at this;show t.C 0≠0;omega)) H 2 [0,1] Z Z) ?_;rintro v r ⟨Γ',⟨e,j,rfl,rfl⟩,l⟩;refine ⟨_,⟨e,j,Z,Z⟩,Sep.toTr1 (C:=t.C) (F:=t.F) (k:=e) (N:=t.N) l c.1 ⟨λf c' b=>?_,c.2.i⟩⟩;have:=(c.2.i.nin f c' b).1;rw[fup_ne _ _ U];exact c.2.m f c' b
theorem HV(b pp mb n:Nat)(nx:Int)(sk:List Int)(vs:List Vl)(o:TB):Cn prog 31 [Y b] [voA b pp nx sk vs,trA Tb pp mb n o none] (λv Γ=>v=I 0/\Γ=[voA b pp nx sk vs,trA Tb pp mb n o none]):=by
 intro z R' w H;obtain ⟨M0,d,H⟩:=(H.pick 2 [1,0] Z).tr0;obtain ⟨X,a,H⟩:=H.po;refine Ret.mono (Cn.at (ZT b pp X.ps X.pc X.pa X.pd n nx sk vs X.D X.G false mb a.fine) H 8 [7,0,1,2,3,4,5,6] Z Z) ?_;rintro v g ⟨Γ',⟨rfl,f,rfl⟩,c⟩;refine ⟨_,⟨Z,Z⟩,(Sep.toTr0 (o:=o) ((c.pick 8 [1,2,3,4,5,6,7,0] Z).toPo (X:= {X with D:=X.D.fl,G:= {X.G with sure:=X.G.rs.length}}) (M0:=M0) (t:=none) ⟨a.hn,f,a.pg,a.tab,a.m0,a.cp,a.c0,a.one,a.idle,λT e=>(by cases e)⟩ Z) d).pick 2 [1,0] Z⟩
end
section
variable{Tb:Af}
set_option maxHeartbeats 2000000 in
theorem T0 (y pp mb n:Nat) (nx:Int) (sk:List Int) (vs:List Vl) (o:TB) (t:TS) (r:List Nat) (nx2:Int) (b:List Int) (a:List Vl) (vv2 f:Value) (A:Af) (hA:∀h,A h->rdH 6 vv2 a.length (Bb a) h) (d:a.length=8) (c:b.length<=8) (i:0<=nx2/\nx2<=1073741824) (g:∀x∈b,0<=x/\x<=1023) (u:∀e∈a,e.Fit) (hk:t.k+1+manyN n<=40) (s:mb<=1000000000):Cn prog 120 [Y y,.agg #[I nx2,vv2,f]] [voA y pp nx sk vs,A,Cx f b,trA Tb pp mb n o (some (t,r))] (λv Γ=>v=I 0/\Γ=[voA y pp nx2 b a,A,Cx f b,trA Tb pp (mb+2) n ⟨t.N,t.C,r⟩ none]):=by
 intro z R w H;replace H:=H.l4;obtain ⟨vv,sv,H⟩:=H.vo;replace H:=H.l6;refine Ae func120 Z ntmps120 Z (Za 2 [] H Z ?_);intro b1 w H;refine Z2 10 [0,1,0] H Z (z_E_ Z (call156 _) (HR pp mb n o _) H.f6 ?_);intro w H;replace H:=H.l7;refine AC 12 (v:=.bool true) Z Z (Z2 9 [1,3] H Z (Aq Z (call40 _) (I4 nx2 b a _ _ _ _ hA (λh q=>q.1.rd) c d i g u) H.f6.f6 ?_));rintro _ w _ ⟨pw,rfl,rfl⟩ H;replace H:=H.l8;refine Z2 22 [3,0,5,0] H Z (Aq Z (call165 _) (Ws _ _ _ _ t r ⟨1,Dp nx2 b a⟩ ⟨by show (1:Int)<=1/\(1:Int)<=5;omega,Ki c d⟩ _ (blk pw (A4 (AJ (Cc nx2 b a a.length)) ((21+19*8:Nat):Int)) 154) (λh q=>HG q (AR (by rw[Ey nx2 c (Aed _),d];omega)) U U U (by rfl)) U) H.f3 ?_);rintro _ w _ ⟨k2,a1,rfl,rfl⟩ H;replace H:=H.l8;refine Z2 20 [4,0,5,0] H Z (z_E_ Z (call166 _) (V5 _ _ _ _ (⟨t.N,t.C,t.F,k2⟩:TS) r (by show k2+manyN n<=40;omega) s) H ?_);intro w H;replace H:=H.l8;refine Z2 16 [4,4,3] H Z (Aq Z (call75 _) (MS _ b a _ _ _ (λh q=>hA h q) d c) H.f3.f3 ?_);rintro _ w _ ⟨l,p,rfl,rfl⟩ H;replace H:=H.l10;have m:=H.sy 0 (·.slc);have j:=H.sy 1 (·.1.slc);refine Z0 2 [1] Z (Az Z Z (Ak 7 H Z Z Z Z (vs:=[I nx2,l,p]) Z (Ad Z (Ad m.one (Ad j.one Aw))) J O (out:=[Y pp,I nx2,l,p]) Z) ?_);rintro w H;replace H:=H.l10;refine Zc 8 Z (Zr Z ?_);exact ⟨_,⟨Z,Z⟩,(H.pick 10 [7,0,1,2,3,4] Z).toVo⟩
end
section
variable{Tb:Af}
theorem Lg(e pp:Nat)(nx:Int)(sk:List Int)(vs:List Vl)(i:vs.length=8)(hs:sk.length<=8):Cn prog 35 [Y e] [voA e pp nx sk vs] (λv Γ=>∃g f:Value,v=.agg #[I nx,g,f]/\Γ=[grow 76 6 g vs.length (Bb vs),Cx f sk,voA e pp nx sk vs]):=by
 intro z R w H;replace H:=H.l1;obtain ⟨m,l,H⟩:=H.vo;replace H:=H.l3;refine Ae func35 Z ntmps35 Z (Za 2 [] H Z ?_);intro n w H;refine Z2 8 [1,1,3] H Z (Aq Z (call75 _) (MS _ sk vs _ _ _ (λh q=>q.rd) i hs) H.f3.f3 ?_);rintro _ w _ ⟨a,b,rfl,rfl⟩ H;replace H:=H.l6;have c:=H.sy 0 (·.slc);have d:=H.sy 1 (·.1.slc);refine Az Z Z (Ak 4 H Z Z Z Z (vs:=[I nx,a,b]) Z (Ad Z (Ad c.one (Ad d.one Aw))) J O (out:=[I nx,a,b]) Z) ?_;rintro w H;replace H:=H.l6;refine Zc 3 Z (Zl [4,3] H Z ?_);exact ⟨_,⟨a,b,Z,Z⟩,((H.pick 6 [5,2,3,0,1] Z).toVo).pick 3 [1,2,0] Z⟩
set_option maxHeartbeats 2000000 in
theorem change_c (p pp mb n:Nat) (nx:Int) (vs:List Vl) (o:TB) (hv:vs.length=8) (E0:Af) (f:FuncId) (us:List Value) (m:∀a w,(callFunc f a).run prog w=.ok (.enter f a) w) (x:Int->Af->Prop) (i:Int->List Vl->TS->List Nat->Af->Prop) (a2:∀(c:Nat) (v1 v2:Value),Cn prog f (Y c::us) [blk c [I nx,v1,v2] 70,grow 76 6 v1 vs.length (Bb vs),Cx v2 [],voA p pp nx [] vs,trA Tb pp mb n o (some ((⟨o.N,o.C,AV n o.C,0⟩:TS),o.R)),E0] (λv Γ=>(∃(e:Int) (d:Af) (s:TS×List Nat),(e≠0/\x e d)/\v=I e/\Γ=[voA p pp nx [] vs,trA Tb pp mb n o (some s),d])\/(∃(nx2:Int) (b:List Vl) (t:TS) (j:List Nat) (d:Af),i nx2 b t j d/\v=I 0/\Γ=[blk c [I nx2,v1,v2] 70,grow 76 6 v1 b.length (Bb b),Cx v2 [],voA p pp nx [] vs,trA Tb pp mb n o (some (t,j)),d]))) (hG:∀nx2 b t j d,i nx2 b t j d->b.length=8/\(0<=nx2/\nx2<=1073741824)/\(∀e∈b,e.Fit)/\t.k+1+manyN n<=40) (a4:mb<=1000000000):Cn prog 67 [Y p,(.func (.func f) #[] us.toArray)] [voA p pp nx ([]) vs,trA Tb pp mb n o none,E0] (λv Γ=>(∃(e:Int) (d:Af),(e≠0/\x e d)/\v=I e/\Γ=[voA p pp nx [] vs,trA Tb pp mb n o none,d])\/(∃(nx2:Int) (b:List Vl) (t:TS) (j:List Nat) (d:Af),i nx2 b t j d/\v=I 0/\Γ=[voA p pp nx2 [] b,trA Tb pp (mb+2) n ⟨t.N,t.C,j⟩ none,d])):=by
 intro z R w H;replace H:=H.l3;refine Ae func67 Z ntmps67 Z (Zc 7 Z ?_);obtain ⟨vv,sv,H⟩:=H.vo;replace H:=H.l5;refine Z2 5 [0,0,0] H Z (z_E_ Z (call118 _) (Zq _ _ _ _) H.f3 ?_);intro w H;replace H:=H.l5;replace H:=((H.pick 5 [1,2,3,0,4] Z).toVo).l3;refine Z0 15 [4] Z (Aq Z (call35 _) (Lg _ _ _ _ _ hv O) H ?_);rintro _ w _ ⟨r,l,rfl,rfl⟩ H;replace H:=H.l5;have a0:=H.sy 0 (·.slc);have y:=H.sy 1 (·.1.slc);refine Za 0 [] H Z ?_;intro b2 w H;refine Az Z Z (Ak 0 H Z Z Z Z (vs:=[I nx,r,l]) Z (Ad Z (Ad a0.one (Ad y.one Aw))) J O (out:=[I nx,r,l]) Z) ?_;rintro w H;replace H:=H.l6;refine Zc 6 Z (AdN Z Z Z Z (m _) (a2 b2 r l) H ?_);rintro _ w _ (⟨e,d,s,⟨a5,u⟩,rfl,rfl⟩|⟨nx2,b,t,j,d,g,rfl,rfl⟩) H'
 ·have H:=H'.l3;refine Z0 9 [0] Z (Ag Z (λh1=>?_) (λh1=>?_))
  ·refine Zc 1 Z ?_;obtain ⟨b1,b3,H⟩:=H.vo;replace H:=H.l5
   refine Z2 5 [0,0,0] H Z (z_E_ Z (call119 _) (Zs _ _ _ _ _) H.f3 ?_);intro w H;replace H:=H.l5;replace H:=((H.pick 5 [1,2,3,0,4] Z).toVo).l3;refine Zc 9 Z (Zr Z ?_);exact ⟨_,.inl ⟨e,d,⟨a5,u⟩,Z,Z⟩,H.pick 3 [0,1,2] Z⟩
  (exfalso;omega)
 have H:=H'.l6;obtain ⟨a6,a1,a3,a7⟩:=hG _ _ _ _ _ g;refine Z2 16 [4,0,3] H Z (z_E_ Z (call120 _) (T0 _ _ _ _ _ _ _ _ t j _ [] b _ _ _ (λh q=>q.rd) a6 O a1 O a3 a7 a4) H.f4.f3.f3.f4 ?_);intro w H;refine Zc 4 Z (Zr Z ?_);exact ⟨_,.inr ⟨nx2,b,t,j,d,g,Z,Z⟩,H.pick 6 [0,3,5] Z⟩
end
section
variable{Tb:Af}
section
variable{P:Program}{o:Oper}{w z:World}{Γ:List Af}{n:Nat}{ds:List Deferred}{L:List (Nat×Value)}{v:Value}{x y:Operand}
theorem CV(i:Nat)(H:Sep z Γ w){t e:TypeId}{sz m c q:Nat}{l:Option Addr}{xs vs:List Value}(hi:Γ[i]?=some (grow e sz (.slice l m c) m xs))(ho:o.op=.store t x y)(hx:ev L x=some (Ie l q))(hy:ev L y=some v)(hv:v.cells=vs.toArray)(h1:∀u∈vs,u.oneCell'=true)
  (hs:(P.info? t).map (·.size)=some vs.length)(hm:0<m)(hq:q+vs.length<=m*sz){out:List Value}(d:xs.take q++vs++xs.drop (q+vs.length)=out):
  DG P n ds L o w (λs=>Sep z (Γ.set i (grow e sz (.slice l m c) m out)) s):=λa hF=>by
 have r:xs.length=m*sz:=H.says i hi (λh g=>g.len);obtain ⟨g,a1,rest,hu,h3,h4,h5,H2⟩:=H.ungrow i hi hm;cases hu;have j:i<Γ.length:=(Ad6.1 hi).1;have k:(Γ.set i (blk g (xs++rest) e))[i]?=some (blk g (xs++rest) e):=by rw[Afq j]
 have a0:m*sz+(c-m)*sz=c*sz:=by rw[<-AhD];congr 1;omega
 obtain ⟨s,hr,H3⟩:=Ak (P:=P) (n:=n) (ds:=ds) (L:=L) i H2 (p:=0+q) (vs:=vs) k ho hx hy hv h1 hs (by rw[Ad9,r,h5];omega) (out:=out++rest) (by
  rw[AfH,Aeo U,AeO U,<-d];simp only[Aec]) a hF
 refine ⟨s,hr,?_⟩;rw[AgN] at H3;have f:out.length=m*sz:=by rw[<-d];simp only[Ad9,Aes,AeG];omega
 have:=H3.mono i (B:=grow e sz (.slice (some ⟨g,0,none⟩) m c) m out) (by rw[Afq j]) (λh b=>blk.grow b h3 h4 (by rw[Ad9,f,h5];omega) (by rw[<-f,AeA];rfl));rw[AgN] at this;exact this
end
theorem EI{vs:List Vl}{i:Nat}{e e2:Vl}(h:vs[i]?=some e)(k:Nat)(us:List Value)(f:k+us.length<=6)(d:e.cells.take k++us++e.cells.drop (k+us.length)=e2.cells):(Bb vs).take (i*6+k)++us++(Bb vs).drop (i*6+k+us.length)=Bb (vs.set i e2):=by
 obtain ⟨a,rfl⟩:=Ad6.1 h;have e1:vs=vs.take i++vs[i]::vs.drop (i+1):=by rw[<-AeX a,AeI]
 have c:vs.set i e2=vs.take i++e2::vs.drop (i+1):=by rw[Ae5,if_pos a]
 have j:(Bb (vs.take i)).length=i*6:=by rw[ZN,Aes,Aez U]
 have b:Bb vs=Bb (vs.take i)++(vs[i].cells++Bb (vs.drop (i+1))):=by
  have:=congrArg Bb e1;rw[JD] at this;exact this.trans (congrArg (Bb (vs.take i)++ ·) Z)
 have g:vs[i].cells.length=6:=rfl;rw[b,c,JD];rw[show i*6+k=(Bb (vs.take i)).length+k by omega,Ahd,show (Bb (vs.take i)).length+k+us.length=(Bb (vs.take i)).length+(k+us.length) by omega,Ahe,Aeo U,AeO U];have:Bb (e2::vs.drop (i+1))=e2.cells++Bb (vs.drop (i+1)):=by simp[Bb]
 rw[this,<-d];simp only[Aec]
theorem ZU(c g:Nat)(nx:Int)(d b:Value)(vs:List Vl)(i:Nat)(e:Vl)(h:vs[i]?=some e)(o:vs.length=8):Cn prog 68 [Y c,Y g] [blk c [I nx,d,b] 70,grow 76 6 d vs.length (Bb vs),Cx b ([]),blk g [I (i:Int)] 3] (λv Γ=>v=I 0/\Γ=[blk c [I nx,d,b] 70,grow 76 6 d vs.length (Bb (vs.set i {e with st:=2})),Cx b ([]),blk g [I (i:Int)] 3]):=by
 intro z R w H;replace H:=H.l4;have f:=H.sy 1 (·.slc);obtain ⟨q,p,rfl⟩:=f;have n:=(Ad6.1 h).1;have a:=(H.rv 1 (·.rd)).at (AT h 0 _ Z);refine Ae func68 Z ntmps68 Z (Zc 6 Z (BG 7 J J (A5 H λw m=>?_)));have H:=m.l4;refine PN 5 [1,0,1] (AS (H.blk 0 Z) (AS (H.blk 3 Z) AN)) Z J Z (B9 Z Z Z (Aj Z (z:=6) (j:=i) (r:=i*6) J Z Z Z U a U) (B9 Z Z Z (Bj Z (k:=1) (r:=i*6+1) J Z a Z) (CD (gw (Az Z Z (CV 1 H Z Z Z Z (vs:=[I 2]) Z (by simp[Value.oneCell']) J U (by simp only[Aeb,Aew];omega) (out:=Bb (vs.set i {e with st:=2})) (EI (e2:= {e with st:=2}) h 1 _ O (by simp[Vl.cells,v0]))) ?_)))));rintro w H;replace H:=H.l4;refine Zc 8 Z (Zr Z ?_);exact ⟨_,⟨Z,Z⟩,H.pick 4 [0,1,2,3] Z⟩
theorem ZV(c bs h:Nat)(nx:Int)(f d:Value)(vs:List Vl)(i:Nat)(e:Vl)(l:vs[i]?=some e)(p:vs.length=8)(a:Int):Cn prog 70 [Y c,Y bs,Y h] [blk c [I nx,f,d] 70,grow 76 6 f vs.length (Bb vs),Cx d ([]),blk bs [I a] 3,blk h [I (i:Int)] 3] (λv Γ=>v=I 0/\Γ=[blk c [I nx,f,d] 70,grow 76 6 f vs.length (Bb (vs.set i {e with sz:=a})),Cx d ([]),blk bs [I a] 3,blk h [I (i:Int)] 3]):=by
 intro z R w H;replace H:=H.l5;have g:=H.sy 1 (·.slc);obtain ⟨s,q,rfl⟩:=g;have o:=(Ad6.1 l).1;have b:=(H.rv 1 (·.rd)).at (AT l 0 _ Z);refine Ae func70 Z ntmps70 Z (Zc 6 Z (BG 8 J J (A5 H λw n=>?_)));have H:=n.l5;refine PN 6 [1,0,1,2] (AS (H.blk 0 Z) (AS (H.blk 4 Z) (AS (H.blk 3 Z) AN))) Z J Z (B9 Z Z Z (Aj Z (z:=6) (j:=i) (r:=i*6) J Z Z Z U b U) (B9 Z Z Z (Bj Z (k:=2) (r:=i*6+2) J Z b Z) (CD (gw (Az Z Z (CV 1 H Z Z Z Z (vs:=[I a]) Z (by simp[Value.oneCell']) J U (by simp only[Aeb,Aew];omega) (out:=Bb (vs.set i {e with sz:=a})) (EI (e2:= {e with sz:=a}) l 2 _ O (by simp[Vl.cells,v0]))) ?_)))));rintro w H;replace H:=H.l5;refine Zc 8 Z (Zr Z ?_);exact ⟨_,⟨Z,Z⟩,H.pick 5 [0,1,2,3,4] Z⟩
theorem QS(pp mb n:Nat)(o:TB)(s:TS×List Nat):Cn prog 153 [Y pp] [trA Tb pp mb n o (some s)] (λv Γ=>v=I 0/\Γ=[trA Tb pp mb n o (some s)]):=by
 intro z R w H;replace H:=H.l1;refine Ae func153 Z ntmps153 Z (Zc 19 Z (z_E_ Z (call156 _) (HR pp mb n o _) H ?_));intro w H;replace H:=H.l1;refine AC 6 (v:=.bool true) Z Z (Zc 12 Z (Zr Z ?_));exact ⟨_,⟨Z,Z⟩,H⟩
theorem Acg(pp mb n:Nat)(o:TB)(t:TS)(a:List Nat)(p:Nat)(e:p≠0)(hp:manyN n<p/\p<n)(d:1<=t.C p)(c:a.length+n<1000):Cn prog 108 [Y pp,I (p:Int)] [trA Tb pp mb n o (some (t,a))] (λv Γ=>v=.tuple #[I (p:Int),I 0]/\Γ=[trA Tb pp mb n o (some ({t with C:=fup t.C p (t.C p+1)},p::a))]):=by
 intro z R w H;replace H:=H.l1;refine Ae func108 Z ntmps108 Z (Zc 10 Z (z_E_ Z (call153 _) (QS _ _ _ _ _) H ?_));intro w H;refine Z0 19 [4,0] Z (Ag Z (λb=>U) (λb=>?_));refine Zc 7 Z (z_E_ Z (call154 _) (Xv pp mb n o t a p hp d c) H ?_);intro w H;refine Z0 20 [4] Z (Zr Z ?_);exact ⟨_,⟨Z,Z⟩,H⟩
theorem ZW(pp mb n:Nat)(o:TB)(s:TS×List Nat):Cn prog 108 [Y pp,I 0] [trA Tb pp mb n o (some s)] (λv Γ=>v=.tuple #[I 0,I 0]/\Γ=[trA Tb pp mb n o (some s)]):=by
 intro z R w H;replace H:=H.l1;refine Ae func108 Z ntmps108 Z (Zc 10 Z (z_E_ Z (call153 _) (QS _ _ _ _ _) H ?_));intro w H;refine Z0 27 [4,3] Z (Zr Z ?_);exact ⟨_,⟨Z,Z⟩,H⟩
theorem Wt(pp mb n:Nat)(o:TB)(t:TS)(b:List Nat)(r:Int)(f:0<=r)(a:r.toNat≠0->(manyN n<r.toNat/\r.toNat<n)/\1<=t.C r.toNat)(d:b.length+n<1000):Cn prog 108 [Y pp,I r] [trA Tb pp mb n o (some (t,b))] (λv Γ=>∃C2,v=.tuple #[I r,I 0]/\Γ=[trA Tb pp mb n o (some (⟨t.N,C2,t.F,t.k⟩,Ba r.toNat++b))]):=by
 obtain ⟨p,rfl⟩:=AfS f;intro z R w H;have e:((p:Int)).toNat=p:=rfl;rw[e] at a ⊢;by_cases h0:p=0
 ·subst h0
  refine Ret.mono (ZW pp mb n o (t,b) z R w H) ?_;rintro v g ⟨Γ',⟨rfl,rfl⟩,c⟩;exact ⟨_,⟨t.C,Z,Z⟩,c⟩
 refine Ret.mono (Acg pp mb n o t b p h0 (a h0).1 (a h0).2 d z R w H) ?_;rintro v g ⟨Γ',⟨rfl,rfl⟩,c⟩;exact ⟨_,⟨_,Z,Z⟩,by rw[DP h0];exact c⟩
set_option maxHeartbeats 2000000 in
theorem Wu (a pp mb n:Nat) (o:TB) (c h d l:Nat) (nx:Int) (f g:Value) (vs:List Vl) (i:Nat) (e:Vl) (t:vs[i]?=some e) (hv:vs.length=8) (x:Vl) (u:0<=nx/\nx<1073741824) (p:0<=x.r) (k:x.r.toNat≠0->(manyN n<x.r.toNat/\x.r.toNat<n)/\1<=o.C x.r.toNat) (hb:o.R.length+n<1000):Cn prog 107 [Y c,Y h,Y d,Y l] [blk c [I nx,f,g] 70,grow 76 6 f vs.length (Bb vs),Cx g ([]),voA a pp nx ([]) vs,trA Tb pp mb n o (some ((⟨o.N,o.C,AV n o.C,0⟩:TS),o.R)),blk h [Y a] 32,blk d [I x.id,I x.st,I x.sz,I x.q,I x.r,I x.mp] 76,blk l [I (i:Int)] 3] (λv Γ=>∃C2,v=I 0/\Γ=[blk c [I (nx+1),f,g] 70,grow 76 6 f vs.length (Bb (vs.set i x)),Cx g ([]),voA a pp nx ([]) vs,trA Tb pp mb n o (some (⟨o.N,C2,AV n o.C,0⟩,Ba x.r.toNat++o.R)),blk h [Y a] 32,blk d [I x.id,I x.st,I x.sz,I x.q,I x.r,I x.mp] 76,blk l [I (i:Int)] 3]):=by
 intro z R w H;replace H:=H.l8;have m:=H.sy 1 (·.slc);obtain ⟨am,mc,rfl⟩:=m;have a3:=(Ad6.1 t).1;have b:=(H.rv 1 (·.rd)).at (AT t 0 _ Z);replace H:=H.f3;obtain ⟨y,sv,H⟩:=H.vo;replace H:=H.l10;refine Ae func107 Z ntmps107 Z (Zc 11 Z ?_);replace H:=H.f8.f1.f8;refine AO (Sep z (blk h [Y a] 32::blk a [Y pp,I nx,y,sv] 100::blk d [I x.id,I x.st,I x.sz,I x.q,I x.r,I x.mp] 76::R)) 13 Z J (A5 H λw s=>?_);have H:=s.l10;refine AU [0,1,2,3,4,5] [0,0,0,1,0,4,2,0] [] (by exact H.pick 10 [0,1,2] Z) Z J Z (AB [6] J O (An (Bo Z Z Z Z Z Z (λw=>call108 _ w) (Wt _ _ _ _ (⟨o.N,o.C,AV n o.C,0⟩:TS) o.R x.r p k hb) H.f8 Z ?_)));rintro _ w _ ⟨C2,rfl,rfl⟩ H;replace H:=H.l10;refine Av (H.pick 10 [1,2,3] Z) (AU [7,8,9,10] [4] [] (by exact H.pick 10 [1,2,3] Z) Z J Z (AB [11] J O (An (Bg Z Z Z (Adz 3 H Z Z Z Z Z Z J) ?_))));rintro w H;replace H:=H.l10;refine Av (H.pick 10 [1,2,3] Z) (AU [12] [] [] (by exact H.pick 10 [1,2,3] Z) Z J Z (a_done J (gn (Zc 2 Z (BG 7 J J (A5 H λw s=>?_))))));have H:=s.l10;refine Mr 6 [1,6,0,9,0,3,6] [] H Z J (B9 Z Z Z (Aj Z (z:=6) (j:=i) (r:=i*6) J Z Z Z U b U) (CD (gw (Az Z Z (CV 7 H Z Z Z Z (vs:=[I x.id,I x.st,I x.sz,I x.q,I x.r,I x.mp]) Z (by simp[Value.oneCell']) J U (by simp only[Aeb,Aew];omega) (out:=Bb (vs.set i x)) (EI (e2:=x) t 0 _ O (by simp[Vl.cells,v0]))) ?_))));rintro w H;replace H:=H.l10;refine Z5 21 [0,6,0,0,6] [nx+1] H Z U ?_;intro w H;refine Zr Z ?_;exact ⟨_,⟨C2,Z,Z⟩,((H.pick 10 [2,4,5,6,7,8,0,1,3,9] Z).toVo).pick 8 [1,2,3,0,4,5,6,7] Z⟩
end
section
variable{Tb:Af}
theorem Gx{vs:List Vl}{i:Nat}{x:Vl}(h:∀e∈vs,e.Fit)(a:x.Fit):∀e∈vs.set i x,e.Fit:=λe b=>by
 rcases Aho b with q|q
 ·exact h e q
 rw[q];exact a
theorem RT(j pp mb n:Nat)(nx:Int)(vs:List Vl)(o:TB)(x:vs.length=8)(d:Af)(f:FuncId)(us:List Value)(g:∀a w,(callFunc f a).run prog w=.ok (.enter f a) w)(nx2:Int)(b:List Vl)(R2:List Nat)
  (p:∀(c:Nat) (h i:Value),Cn prog f (Y c::us) [blk c [I nx,h,i] 70,grow 76 6 h vs.length (Bb vs),Cx i [],voA j pp nx [] vs,trA Tb pp mb n o (some (⟨o.N,o.C,AV n o.C,0⟩,o.R)),d] (λv Γ=>∃C2,v=I 0/\Γ=[blk c [I nx2,h,i] 70,grow 76 6 h vs.length (Bb b),Cx i [],voA j pp nx [] vs,trA Tb pp mb n o (some (⟨o.N,C2,AV n o.C,0⟩,R2)),d]))
  (s:b.length=vs.length)(m:0<=nx2/\nx2<=1073741824)(r:∀e∈b,e.Fit)(a0:manyN n<=9)(q:mb<=1000000000):
  Cn prog 67 [Y j,.func (.func f) #[] us.toArray] [voA j pp nx [] vs,trA Tb pp mb n o none,d] (λv Γ=>∃C2,v=I 0/\Γ=[voA j pp nx2 [] b,trA Tb pp (mb+2) n ⟨o.N,C2,R2⟩ none,d]):=by
 intro z R w H;refine Ret.mono (change_c j pp mb n nx vs o x d f us g (λ_ _=>False) (λl k t R0 E2=>∃C2,l=nx2/\k=b/\t=⟨o.N,C2,AV n o.C,0⟩/\R0=R2/\E2=d) (λc h i z R w H=>?_) ?_ q z R w H) ?_
 ·refine Ret.mono (p c h i z R w H) ?_
  rintro v w' ⟨Γ',⟨C2,rfl,rfl⟩,u⟩;exact ⟨_,.inr ⟨nx2,b,_,R2,d,⟨C2,Z,Z,Z,Z,Z⟩,Z,Z⟩,by rw[s];exact u⟩
 ·rintro _ _ _ _ _ ⟨C2,rfl,rfl,rfl,rfl,rfl⟩;exact ⟨by omega,m,r,by show 0+1+manyN n<=40;omega⟩
 rintro v w' ⟨Γ',(⟨e,E2,⟨_,y⟩,_⟩|⟨l,k,t,R0,E2,⟨C2,rfl,rfl,rfl,rfl,rfl⟩,rfl,rfl⟩),u⟩
 ·exact y.elim
 exact ⟨_,⟨C2,Z,Z⟩,u⟩
theorem ZX(f pp mb n:Nat)(nx:Int)(vs:List Vl)(o:TB)(k:vs.length=8)(g:0<=nx/\nx<=1073741824)(m:∀e∈vs,e.Fit)(d i:Nat)(e:Vl)(l:vs[i]?=some e)(j:manyN n<=9)(h:mb<=1000000000):Cn prog 67 [Y f,.func (.func 68) #[] #[Y d]] [voA f pp nx [] vs,trA Tb pp mb n o none,blk d [I (i:Int)] 3] (λv Γ=>∃C2,v=I 0/\Γ=[voA f pp nx [] (vs.set i {e with st:=2}),trA Tb pp (mb+2) n ⟨o.N,C2,o.R⟩ none,blk d [I (i:Int)] 3]):=by
 have b:=m e (Ad8 l);refine RT f pp mb n nx vs o k _ _ [Y d] (λa w=>call68 a w) nx _ o.R (λc t p z R w H=>?_) O g (Gx m ⟨b.id,by show (0:Int)<=2/\(2:Int)<=2;omega,b.sz,b.q,b.r,b.mp⟩) j h;refine Ret.mono (Cn.at (ZU c d nx t p vs i e l k) H 6 [0,1,2,5,3,4] Z Z) ?_;rintro v u ⟨Γ',⟨rfl,rfl⟩,s⟩;exact ⟨_,⟨o.C,Z,Z⟩,s.pick 6 [0,1,2,4,5,3] Z⟩
theorem ZY(g pp mb n:Nat)(nx:Int)(vs:List Vl)(o:TB)(p:vs.length=8)(j:0<=nx/\nx<=1073741824)(t:∀e∈vs,e.Fit)(bs d i:Nat)(e:Vl)(s:vs[i]?=some e)(b:Int)(u:1<=b/\b<=1048576)(m:manyN n<=9)(k:mb<=1000000000):Cn prog 67 [Y g,.func (.func 70) #[] #[Y bs,Y d]] [voA g pp nx [] vs,trA Tb pp mb n o none,blk bs [I b] 3,blk d [I (i:Int)] 3] (λv Γ=>∃C2,v=I 0/\Γ=[voA g pp nx [] (vs.set i {e with sz:=b}),trA Tb pp (mb+2) n ⟨o.N,C2,o.R⟩ none,blk bs [I b] 3,blk d [I (i:Int)] 3]):=by
 intro z R w H;have f:=t e (Ad8 s);have H2:=((H.pick 4 [2,3,0,1] Z).made 2 (A:=seps [blk bs [I b] 3,blk d [I (i:Int)] 3]) (λh q=>q)).pick 3 [1,2,0] Z;refine Ret.mono (RT g pp mb n nx vs o p _ _ [Y bs,Y d] (λa w=>call70 a w) nx (vs.set i {e with sz:=b}) o.R (λc x y z R w H=>?_) O j (Gx t ⟨f.id,f.st,by show 0<=b/\b<=1048576;omega,f.q,f.r,f.mp⟩) m k z R w H2) ?_
 ·have H3:=(H.pick 6 [5,0,1,2,3,4] Z).opened
  refine Ret.mono (Cn.at (ZV c bs d nx x y vs i e s p b) H3 7 [2,3,4,0,1,5,6] Z Z) ?_;rintro v w' ⟨Γ',⟨rfl,rfl⟩,l⟩;exact ⟨_,⟨o.C,Z,Z⟩,((l.pick 7 [3,4,0,1,2,5,6] Z).made 2 (λh q=>q)).pick 6 [1,2,3,4,5,0] Z⟩
 rintro v w' ⟨Γ',⟨C2,rfl,rfl⟩,l⟩;exact ⟨_,⟨C2,Z,Z⟩,((l.pick 3 [2,0,1] Z).opened).pick 4 [2,3,0,1] Z⟩
theorem ZZ(b pp mb n:Nat)(nx:Int)(vs:List Vl)(o:TB)(s:vs.length=8)(j:0<=nx/\nx<1073741824)(hf:∀e∈vs,e.Fit)(g d f i:Nat)(e:Vl)(he:vs[i]?=some e)(x:Vl)(t:x.Fit)(k:x.r.toNat≠0->(manyN n<x.r.toNat/\x.r.toNat<n)/\1<=o.C x.r.toNat)(hb:o.R.length+n<1000)(p:manyN n<=9)(l:mb<=1000000000):Cn prog 67 [Y b,.func (.func 107) #[] #[Y g,Y d,Y f]] [voA b pp nx [] vs,trA Tb pp mb n o none,blk g [Y b] 32,blk d [I x.id,I x.st,I x.sz,I x.q,I x.r,I x.mp] 76,blk f [I (i:Int)] 3] (λv Γ=>∃C2,v=I 0/\Γ=[voA b pp (nx+1) [] (vs.set i x),trA Tb pp (mb+2) n ⟨o.N,C2,Ba x.r.toNat++o.R⟩ none,blk g [Y b] 32,blk d [I x.id,I x.st,I x.sz,I x.q,I x.r,I x.mp] 76,blk f [I (i:Int)] 3]):=by
 intro z R w H;have H2:=((H.pick 5 [2,3,4,0,1] Z).made 3 (A:=seps [blk g [Y b] 32,blk d [I x.id,I x.st,I x.sz,I x.q,I x.r,I x.mp] 76,blk f [I (i:Int)] 3]) (λh q=>q)).pick 3 [1,2,0] Z;refine Ret.mono (RT b pp mb n nx vs o s _ _ [Y g,Y d,Y f] (λa w=>call107 a w) (nx+1) (vs.set i x) (Ba x.r.toNat++o.R) (λc u y z R w H=>?_) O ⟨by omega,by omega⟩ (Gx hf t) p l z R w H2) ?_
 ·have H3:=(H.pick 6 [5,0,1,2,3,4] Z).opened
  refine Ret.mono (Cn.at (Wu b pp mb n o c g d f nx u y vs i e he s x j t.r.1 k hb) H3 8 [3,4,5,6,7,0,1,2] Z Z) ?_;rintro v w' ⟨Γ',⟨C2,rfl,rfl⟩,m⟩;exact ⟨_,⟨C2,Z,Z⟩,((m.pick 8 [5,6,7,0,1,2,3,4] Z).made 3 (λh q=>q)).pick 6 [1,2,3,4,5,0] Z⟩
 rintro v w' ⟨Γ',⟨C2,rfl,rfl⟩,m⟩;exact ⟨_,⟨C2,Z,Z⟩,((m.pick 3 [2,0,1] Z).opened).pick 5 [3,4,0,1,2] Z⟩
set_option maxHeartbeats 2000000 in
theorem MV (a pp mb n:Nat) (nx:Int) (vs:List Vl) (o:TB) (m:vs.length=8) (b:0<=nx/\nx<=1073741824) (p:∀e∈vs,e.Fit) (g:manyN n<=9) (f:mb<=1000000000) (id:Int):Cn prog 27 [Y a,I id] [voA a pp nx ([]) vs,trA Tb pp mb n o none] (λv Γ=>((∀e∈vs,¬(e.st=1/\e.id=id))/\v=I 31/\Γ=[voA a pp nx [] vs,trA Tb pp mb n o none])\/(∃(i:Nat) (e:Vl) (C2:Nat->Nat),(vs[i]?=some e/\e.st=1/\e.id=id)/\v=I 0/\Γ=[voA a pp nx [] (vs.set i {e with st:=2}),trA Tb pp (mb+2) n ⟨o.N,C2,o.R⟩ none])):=by
 intro z R w H;replace H:=H.l2;refine Ae func27 Z ntmps27 Z (Zc 9 Z (Aq Z (call66 _) (JE _ _ _ _ _ id U) H ?_));rintro _ w _ (⟨i,e,⟨k,c,h⟩,rfl,rfl⟩|⟨d,rfl,rfl⟩) j
 ·have H:=j.l2;refine Za 0 [] H Z ?_;intro r w H;refine Z4 10 [0,0,0,0] H Z ?_;intro w H;refine Ag Z (λl=>U) (λl=>?_)
  refine Zc 5 Z (Ab Z (C4 Z Z Z) (Aq Z (call67 _) (ZX _ _ _ _ _ _ _ m b p _ i e k g f) H.f2.f2 ?_));rintro _ w _ ⟨C2,rfl,rfl⟩ H;refine Z0 16 [4] Z (z_E_ Z (call31 _) (HV _ _ _ _ _ _ _ _) H ?_);intro w H;refine Zc 4 Z (Zr Z ?_);exact ⟨_,.inr ⟨i,e,C2,⟨k,c,h⟩,Z,Z⟩,H.pick 3 [0,1] Z⟩
 have H:=j.l2;refine Za 0 [] H Z ?_;intro q w H;refine Z4 17 [0,0,0,3] H Z ?_;intro w H;refine Zr Z ?_;exact ⟨_,.inl ⟨d,Z,Z⟩,H.pick 3 [1,2] Z⟩
set_option maxHeartbeats 2000000 in
theorem QT (b pp mb n:Nat) (nx:Int) (vs:List Vl) (o:TB) (k:vs.length=8) (a:0<=nx/\nx<=1073741824) (y:∀e∈vs,e.Fit) (h:manyN n<=9) (f:mb<=1000000000) (i:Nat) (e:Vl) (u:vs[i]?=some e) (x:Vl) (c:x.Fit) (g:nx<1073741824) (d:x.r.toNat≠0->(manyN n<x.r.toNat/\x.r.toNat<n)/\1<=o.C x.r.toNat) (t:o.R.length+n<1000):Cn prog 54 [Y b,I (i:Int),.agg #[I x.id,I x.st,I x.sz,I x.q,I x.r,I x.mp]] [voA b pp nx ([]) vs,trA Tb pp mb n o none] (λv Γ=>∃C2:Nat->Nat,v=.tuple #[I nx,I 0]/\Γ=[voA b pp (nx+1) [] (vs.set i ⟨nx,1,x.sz,x.q,x.r,x.mp⟩),trA Tb pp (mb+2) n ⟨o.N,C2,Ba x.r.toNat++o.R⟩ none]):=by
 intro z R w H;replace H:=H.l2;obtain ⟨vv,sv,H⟩:=H.vo;replace H:=H.l4;refine Ae func54 Z ntmps54 Z (Za 2 [] H Z ?_);intro p w H;refine Za 0 [] H Z ?_;intro s w H;refine Za 0 [] H Z ?_;intro l w H;refine Z4 18 [2,0,1,1,3,0,0,0,1,0] H Z ?_;intro w H;have j:=(H.pick 7 [3,4,5,0,1,2,6] Z).toVo;clear H;have H:Sep z (voA b pp nx ([]) vs::blk l [I nx,I 1,I x.sz,I x.q,I x.r,I x.mp] 76::blk s [I (i:Int)] 3::blk p [Y b] 32::trA Tb pp mb n o none::R) w:=j;clear j;refine Z2 2 [3,0] H Z (Ab Z (C4 Z Z Z) (Aq Z (call67 _) (ZZ _ _ _ _ _ _ _ k ⟨a.1,g⟩ y _ _ _ i e u ⟨nx,1,x.sz,x.q,x.r,x.mp⟩ ⟨a,by show (0:Int)<=1/\(1:Int)<=2;omega,c.sz,c.q,c.r,c.mp⟩ d t h f) H.f2.f2.f3.f4.f4 ?_));rintro _ w _ ⟨C2,rfl,rfl⟩ H;replace H:=H.l5;refine Z2 13 [3,2,0] H Z (z_E_ Z (call31 _) (HV _ _ _ _ _ _ _ _) H ?_);intro w H;replace H:=H.l5;refine Z2 22 [4,0,3,0] H Z (Zr Z ?_);exact ⟨_,⟨C2,Z,Z⟩,H.pick 5 [0,1] Z⟩
set_option maxHeartbeats 2000000 in
theorem I6 (f pp mb n:Nat) (nx:Int) (vs:List Vl) (o:TB) (p:vs.length=8) (g:0<=nx/\nx<=1073741824) (t:∀e∈vs,e.Fit) (m:manyN n<=9) (h:mb<=1000000000) (b a:Int) (s:o.R.length+n<1000):Cn prog 18 [Y f,I b,I a] [voA f pp nx ([]) vs,trA Tb pp mb n o none] (λv Γ=>(¬((1<=b/\b<=1048576)/\0<=a/\a<=1048576)/\v=.tuple #[I 0,I 1]/\Γ=[voA f pp nx [] vs,trA Tb pp mb n o none])\/(((1<=b/\b<=1048576)/\0<=a/\a<=1048576)/\(((∀e∈vs,e≠v0)/\v=.tuple #[I 0,I 32]/\Γ=[voA f pp nx [] vs,trA Tb pp mb n o none])\/(1073741824<=nx/\v=.tuple #[I 0,I 15]/\Γ=[voA f pp nx [] vs,trA Tb pp mb n o none])\/(∃(i:Nat) (C2:Nat->Nat),(vs[i]?=some v0/\nx<1073741824)/\v=.tuple #[I nx,I 0]/\Γ=[voA f pp (nx+1) [] (vs.set i ⟨nx,1,b,a,0,0⟩),trA Tb pp (mb+2) n ⟨o.N,C2,o.R⟩ none])))):=by
 intro z R w H;replace H:=H.l2;refine Ae func18 Z ntmps18 Z (Zc 10 Z (z_E_ Z (call52 _) (He _ _ _) H ?_));intro w H;replace H:=H.l2;refine Ab Z (AE Z Z) (Zc 1 Z (Al 13 Z (λr=>?_) (λr=>?_)))
 ·refine Zc 14 Z (Zr Z ?_);exact ⟨_,.inl ⟨by omega,Z,Z⟩,H.pick 2 [0,1] Z⟩
 refine Zc 1 Z (z_E_ Z (call52 _) (He _ _ _) H ?_);intro w H;replace H:=H.l2;refine Ab Z (AE Z Z) (Zc 3 Z (Ag Z (λu=>?_) (λu=>?_)))
 ·refine Zc 7 Z (Zr Z ?_);exact ⟨_,.inl ⟨by omega,Z,Z⟩,H.pick 2 [0,1] Z⟩
 refine Zc 5 Z (Aq Z (call53 _) (QR _ _ _ _ _ p) H ?_);rintro _ w _ (⟨k,⟨j,c⟩,rfl,rfl⟩|⟨d,rfl,rfl⟩|⟨⟨j,c⟩,rfl,rfl⟩) l
 ·have H:=l.l2;refine Z0 23 [4] Z (Ab Z (Bc Z Z (out:=[I 0,I 0,I b,I a,I 0,I 0]) J) (Aq Z (call54 _) (QT _ _ _ _ _ _ _ p g t m h k v0 j ⟨0,0,b,a,0,0⟩ ⟨by show (0:Int)<=0/\(0:Int)<=1073741824;omega,by show (0:Int)<=0/\(0:Int)<=2;omega,by show 0<=b/\b<=1048576;omega,by show 0<=a/\a<=1048576;omega,by show (0:Int)<=0/\(0:Int)<=1023;omega,by show (0:Int)<=0/\(0:Int)<=1048576;omega⟩ c (λq=>absurd Z q) s) H ?_));rintro _ w _ ⟨C2,rfl,rfl⟩ H;refine Zc 7 Z (Zr Z ?_);exact ⟨_,.inr ⟨by omega,.inr (.inr ⟨k,C2,⟨j,c⟩,Z,Z⟩)⟩,H.pick 2 [0,1] Z⟩
 ·have H:=l.l2;refine Z0 23 [3] Z (Zr Z ?_);exact ⟨_,.inr ⟨by omega,.inl ⟨d,Z,Z⟩⟩,H.pick 2 [0,1] Z⟩
 have H:=l.l2;refine Z0 23 [3] Z (Zr Z ?_);exact ⟨_,.inr ⟨by omega,.inr (.inl ⟨c,Z,Z⟩)⟩,H.pick 2 [0,1] Z⟩
set_option maxHeartbeats 2000000 in
theorem Mc (h pp mb n:Nat) (nx:Int) (vs:List Vl) (o:TB) (hv:vs.length=8) (m:0<=nx/\nx<=1073741824) (hf:∀e∈vs,e.Fit) (y:manyN n<=9) (s:mb<=1000000000) (id:Int) (p:∀e∈vs,e.r.toNat≠0->(manyN n<e.r.toNat/\e.r.toNat<n)/\1<=o.C e.r.toNat) (hb:o.R.length+n<1000):Cn prog 25 [Y h,I id] [voA h pp nx ([]) vs,trA Tb pp mb n o none] (λv Γ=>((∀e∈vs,¬(e.st=1/\e.id=id))/\v=.tuple #[I 0,I 31]/\Γ=[voA h pp nx [] vs,trA Tb pp mb n o none])\/(∃(j:Nat) (e:Vl),(vs[j]?=some e/\e.st=1/\e.id=id)/\(((∀e∈vs,e≠v0)/\v=.tuple #[I 0,I 32]/\Γ=[voA h pp nx [] vs,trA Tb pp mb n o none])\/(1073741824<=nx/\v=.tuple #[I 0,I 15]/\Γ=[voA h pp nx [] vs,trA Tb pp mb n o none])\/(∃(i:Nat) (C2:Nat->Nat),(vs[i]?=some v0/\nx<1073741824)/\v=.tuple #[I nx,I 0]/\Γ=[voA h pp (nx+1) [] (vs.set i {e with id:=nx,st:=1}),trA Tb pp (mb+2) n ⟨o.N,C2,Ba e.r.toNat++o.R⟩ none])))):=by
 intro z R w H;replace H:=H.l2;refine Ae func25 Z ntmps25 Z (Zc 10 Z (Aq Z (call66 _) (JE _ _ _ _ _ id U) H ?_));rintro _ w _ (⟨i,e,⟨b,c,f⟩,rfl,rfl⟩|⟨x,rfl,rfl⟩) g
 ·have H:=g.l2;refine Z0 10 [0] Z (Ag Z (λh1=>U) (λh1=>?_))
  refine Zc 5 Z (Aq Z (call53 _) (QR _ _ _ _ _ hv) H ?_);rintro _ w _ (⟨k,⟨t,a⟩,rfl,rfl⟩|⟨d,rfl,rfl⟩|⟨⟨t,a⟩,rfl,rfl⟩) g
  ·have H:=g.l2;refine Z0 18 [4] Z ?_;obtain ⟨vv,sv,H⟩:=H.vo;replace H:=H.l4;have q:=H.sy 1 (·.slc)
   obtain ⟨am,mc,rfl⟩:=q;have a2:=(Ad6.1 b).1;have l:=(H.rv 1 (·.rd)).at (AT b 0 _ Z);refine Z2 9 [1,2,0,0] H Z (Ab Z (Aj Z (z:=6) (j:=i) (r:=i*6) J Z Z Z U l U) (Ab Z (Bq Z Z (vs:=e.cells) J (by simp[Vl.cells]) (Ay (λk u hk=>(H.rv 1 (·.rd)).at (AT b k u hk)))) ?_));replace H:=((H.pick 4 [0,1,2,3] Z).toVo).l2;refine Aq Z (call54 _) (QT _ _ _ _ _ _ _ hv m hf y s k v0 t e (hf e (Ad8 b)) a (p e (Ad8 b)) hb) H ?_;rintro _ w _ ⟨C2,rfl,rfl⟩ H;refine Zc 7 Z (Zr Z ?_);exact ⟨_,.inr ⟨i,e,⟨b,c,f⟩,.inr (.inr ⟨k,C2,⟨t,a⟩,Z,Z⟩)⟩,H.pick 2 [0,1] Z⟩
  ·have H:=g.l2;refine Z0 23 [3] Z (Zr Z ?_);exact ⟨_,.inr ⟨i,e,⟨b,c,f⟩,.inl ⟨d,Z,Z⟩⟩,H.pick 2 [0,1] Z⟩
  have H:=g.l2;refine Z0 23 [3] Z (Zr Z ?_);exact ⟨_,.inr ⟨i,e,⟨b,c,f⟩,.inr (.inl ⟨a,Z,Z⟩)⟩,H.pick 2 [0,1] Z⟩
 have H:=g.l2;refine Z0 18 [3] Z (Zr Z ?_);exact ⟨_,.inl ⟨x,Z,Z⟩,H.pick 2 [0,1] Z⟩
end
section
variable{Tb:Af}
structure OtE where
 k:Int
 d:Bool
 f:Int
def OtE.cells(e:OtE):List Value:=[.int .i64 e.k,.bool e.d,.int .i64 e.f]
end
section
variable{Tb:Af}
end
section
variable{Tb:Af}
end
section
section
variable{P:Program}{o:Oper}{w z:World}{Γ:List Af}{n:Nat}{ds:List Deferred}{L:List (Nat×Value)}{v:Value}{x y:Operand}
end

end
def Bv(a b:Int)(L:List E):List E:=L.filter λe=>decide (a<=e.1/\e.1<b)
theorem Z6(a b:Int)(X Y_:List E):Bv a b (X++Y_)=Bv a b X++Bv a b Y_:=AfI ..
theorem scF_no{a b:Int}{L:List E}(h:∀e∈L,e.1<a\/b<=e.1):Bv a b L=[]:=List.filter_eq_nil_iff.2 λe c q=>by
 have:=h e c;have:=of_decide_eq_true q;omega
theorem Z7{a b:Int}{L:List E}(h:∀e∈L,a<=e.1/\e.1<b):Bv a b L=L:=Agn.2 λe c=>decide_eq_true (h e c)
def Bp(m:Nat)(l X:List E):List E:=l++X.take (m-l.length)
theorem Z8(m:Nat)(l X Y_:List E):Bp m l (X++Y_)=Bp m (Bp m l X) Y_:=by
 unfold Bp;rw[AgR,Aec];congr 3;rw[Ad9,Aes];omega
theorem scT_full{m:Nat}{l:List E}(h:m<=l.length)(X:List E):Bp m l X=l:=by unfold Bp;rw[Nat.sub_eq_zero_of_le h];simp
theorem Z9(m:Nat)(l:List E):Bp m l []=l:=by simp[Bp]
theorem Aaa{m:Nat}{l:List E}(e:E)(h:l.length<m):Bp m l [e]=l++[e]:=by unfold Bp;rw[Aee (by simp;omega)]
theorem O3(m:Nat)(l X:List E):(Bp m l X).length<=l.length+X.length:=by unfold Bp;rw[Ad9,Aes];omega
theorem O4(a b:Int)(L:List E):(Bv a b L).length<=L.length:=AfO ..
theorem Hf(m:Nat)(l:List E)(a b:Int)(L0 L2:List E):Bp m l (Bv a b (L0++L2))=Bp m (Bp m l (Bv a b L0)) (Bv a b L2):=by rw[Z6,Z8]
theorem Fl{m:Nat}{l:List E}{a b:Int}{L0 L2:List E}(h:m<=(Bp m l (Bv a b L0)).length\/∀e∈L2,e.1<a\/b<=e.1):Bp m l (Bv a b (L0++L2))=Bp m l (Bv a b L0):=by
 rw[Hf];rcases h with h|h
 ·exact scT_full h _
 rw[scF_no h,Z9]
theorem MW{m:Nat}{l:List E}{a b:Int}{L0:List E}{e:E}(c:(Bp m l (Bv a b L0)).length<m)(d:a<=e.1/\e.1<b):Bp m l (Bv a b (L0++[e]))=Bp m l (Bv a b L0)++[e]:=by
 rw[Hf,Z7 (L:=[e]) (by simpa using d),Aaa _ c]
theorem Sq.ge{N:Hm}{h:Nat}{es:List E}{hi:Int}{L:List E}(s:Sq (λc a b L=>Tr N h c a b 4 L) es hi L)(hs:Srt es)(d:∀e∈es,e.1<hi):∀x∈L,nx es hi<=x.1:=λx f=>
 ((Sq.srt s hs d (λ_ _ _ _ q=>Tr.srt q)).2.1 x f).1
theorem Srt.drop{es:List E}(h:Srt es)(i:Nat):Srt (es.drop i):=List.Pairwise.drop h
theorem Srt.at_ge{es:List E}(h:Srt es){i:Nat}{e:E}(b:es[i]?=some e):∀x∈es.drop i,e.1<=x.1:=λx a=>by
 obtain ⟨hi,rfl⟩:=Ad6.1 b;have:=h.drop i;rw[AeX hi] at a this;rcases Aei.1 a with rfl|a
 ·exact Afg _
 exact AgM ((Srt.cons.1 this).1 x a)

def stp(N:Hm):Nat->Nat->Nat
 | 0,_=>1
 | h+1,r=>match N r with
  | some (.nd d)=>(d.es.map λe=>1+stp N h e.2).sum
  | _=>1
section
variable{Tb:Af}
end
section
variable{Tb:Af}
end
section
variable{Tb:Af}
end
section
variable{Tb:Af}
set_option maxHeartbeats 4000000 in
theorem Ach (pp mb n:Nat) (o:TB) (f c g:Int) (ra:Nat) (lo hi:Int) (m_:Nat) (L l:List E) (u:Value) (hT:Tr o.N 0 ra lo hi m_ L) (c0:l.length+L.length<=1048576):Cn prog 121 [Y pp,I (ra:Int),I f,I c,I g,u] [trA Tb pp mb n o none,grow 257 2 u l.length (EL l)] (λv Γ=>∃u2:Value,v=.tuple #[u2,I 0]/\Γ=[trA Tb pp mb n o none,grow 257 2 u2 (Bp g.toNat l (Bv f c L)).length (EL (Bp g.toNat l (Bv f c L)))]):=by
 intro z R w H;replace H:=H.l2;have K:=H.says 0 Z (λh a=>trA.k a);have hn:=K.hn;obtain ⟨es,hN,b6,a7,a0,a4,b8⟩:=hT;obtain rfl:es=L:=a4.symm;have b4:es.length<=8:=a0.len;refine Ae func121 Z ntmps121 Z (Zc 10 Z (Aq Z (call160 _) (HS pp mb n o none ra true es hN) H ?_));rintro _ w _ ⟨nk,nv,rfl,rfl⟩ H;replace H:=H.l4;have a2:=H.sy 0 (·.slc);obtain ⟨ka,kc,rfl⟩:=a2;have a8:=H.sy 1 (·.slc);obtain ⟨va,vc,rfl⟩:=a8;refine Za 3 [] H Z ?_;intro b1 w H;refine Z4 24 [0,4,1,0,0] H Z ?_;intro w H;refine AD (σ:=Nat×Value) (λ⟨i,u⟩=>[(29,I (i:Int)),(5,u),(0,Y pp),(2,I f),(3,I c),(4,I g),(14,Y b1),(28,I (((kL es).length:Nat):Int))])
   (λ⟨i,u⟩ w=>Sep z (blk b1 [.bool true,.slice ka ((kL es).length) kc,.slice va ((vL es).length) vc] 249::grow 3 1 (.slice ka ((kL es).length) kc) ((kL es).length) ((kL es).map I)::grow 3 1 (.slice va ((vL es).length) vc) ((vL es).length) ((vL es).map I)::trA Tb pp mb n o none::grow 257 2 u ((Bp g.toNat l (Bv f c (es.take i))).length) (EL (Bp g.toNat l (Bv f c (es.take i))))::R) w/\(i<=es.length)) (λ⟨i,u⟩=>es.length-i) ⟨0,u⟩
   fr_z ⟨(by simpa [Bp,Bv] using H),AeJ _⟩ ?_
 clear H;rintro ⟨i,u⟩ w ⟨s,hI⟩;dsimp only at hI s ⊢;have H:=s.l5;have su:=H.sy 4 (·.slc);have b0:=hI;clear hI;have b5:(kL es).length=es.length:=by simp
 have b9:(vL es).length=es.length:=by simp
 refine Z0 6 [0] Z (Ag Z (λh1=>?_) (λh1=>?_))
 ·refine Zc 12 Z ?_;have a9:i<es.length:=by simp only[Aea] at *;omega
  obtain ⟨e,he⟩:∃e,es[i]?=some e:=⟨_,Ad7 a9⟩;have a5:=Ad8 he;have b7:=a7 e a5;have q:=(H.rv 1 (·.rd)).at (j:=i) (u:=I e.1) (by simp[kL,he]);have a3:=(H.rv 2 (·.rd)).at (j:=i) (u:=I (e.2:Int)) (by simp[vL,he]);have a1:=a0.srt.at_ge he;have t:es.take (i+1)=es.take i++[e]:=by rw[AeH,he];rfl
  refine Zc 2 Z (Ab Z (Ed Z (sz:=2) J Z su) (Z0 3 [0] Z (Al 37 Z (λh2=>?_) (λh2=>?_))))
  ·refine Zc 20 Z (Zr Z ?_);have p:(Bp g.toNat l (Bv f c es))=(Bp g.toNat l (Bv f c (es.take i))):=by have:=Fl (m:=g.toNat) (l:=l) (a:=f) (b:=c) (L0:=es.take i) (L2:=es.drop i) (by first|exact .inl U|exact .inr (λx hx=>.inr (by have:=a1 x hx;omega)));rwa[AeI] at this
   exact ⟨_,⟨u,Z,Z⟩,by rw[p];exact H.pick 5 [3,4] Z⟩
  refine Z2 3 [1,0,0] H Z (Ab Z (Aj Z (z:=1) (j:=i) (r:=i) J Z Z Z U q U) (Ab Z (Ax Z Z J (Ay q)) (Z0 6 [0] Z (Ag Z (λh3=>?_) (λh3=>?_)))))
  ·refine Zc 8 Z (Zr Z ?_);have p:(Bp g.toNat l (Bv f c es))=(Bp g.toNat l (Bv f c (es.take i))):=by have:=Fl (m:=g.toNat) (l:=l) (a:=f) (b:=c) (L0:=es.take i) (L2:=es.drop i) (by first|exact .inl U|exact .inr (λx hx=>.inr (by have:=a1 x hx;omega)));rwa[AeI] at this
   exact ⟨_,⟨u,Z,Z⟩,by rw[p];exact H.pick 5 [3,4] Z⟩
  refine Z2 8 [0,0,0,1,0,0] H Z (Ab Z (Aj Z (z:=1) (j:=i) (r:=i) J Z Z Z U q U) (Ab Z (Ax Z Z J (Ay q)) (Z0 6 [0] Z (Ag Z (λh4=>?_) (λh4=>?_)))))
  ·refine AO (Sep z (blk b1 [.bool true,.slice ka ((kL es).length) kc,.slice va ((vL es).length) vc] 249::grow 3 1 (.slice ka ((kL es).length) kc) ((kL es).length) ((kL es).map I)::grow 3 1 (.slice va ((vL es).length) vc) ((vL es).length) ((vL es).map I)::R)) 15 Z J (A5 H λw s=>?_)
   have H:=s.l5;refine AU [0,1,2,3] [1,0,0] [] (by exact H.pick 5 [0,1,2] Z) Z J Z (BO 4 Z J J J Z Z Z (Aj Z (z:=1) (j:=i) (r:=i) J Z Z Z U q U) (H.pick 5 [0,1,2] Z) (BO 5 Z J J J Z Z Z (Ax Z Z J (λ_ y=>(y.rv 1 (·.rd)).at (j:=i) (u:=I e.1) (by simp[kL,he]))) (H.pick 5 [0,1,2] Z) (AU [6,7,8] [2,0,0] [] (by exact H.pick 5 [0,1,2] Z) Z J Z (BO 9 Z J J J Z Z Z (Aj Z (z:=1) (j:=i) (r:=i) J Z Z Z U a3 U) (H.pick 5 [0,1,2] Z) (BO 10 Z J J J Z Z Z (Ax Z Z J (λ_ y=>(y.rv 2 (·.rd)).at (j:=i) (u:=I (e.2:Int)) (by simp[vL,he]))) (H.pick 5 [0,1,2] Z) (AU [11] [] [] (by exact H.pick 5 [0,1,2] Z) Z J Z (AB [12] J O (An (Ca Z Z Z Z (AM H Z J FF Z (by decide) (by decide) (out:=[I e.1,I (e.2:Int)]) J) ?_)))))))));rintro _ w ⟨b2,rfl,H⟩;replace H:=H.l6;refine Av (H.pick 6 [1,2,3] Z) (AB [13] J O (An (Ca Z Z Z Z (AY 5 H Z Z J FF Z Z (H.rv 0 (·.rd U U O Z)) (by simp[Value.oneCell']) (by have:=O3 g.toNat l (Bv f c (es.take i));have:=O4 f c (es.take i);rw[Aes] at this;omega)) ?_)));rintro v3 w s;have s:Sep z (blk b2 [I e.1,I (e.2:Int)] 257::blk b1 [.bool true,.slice ka ((kL es).length) kc,.slice va ((vL es).length) vc] 249::grow 3 1 (.slice ka ((kL es).length) kc) ((kL es).length) ((kL es).map I)::grow 3 1 (.slice va ((vL es).length) vc) ((vL es).length) ((vL es).map I)::trA Tb pp mb n o none::grow 257 2 v3 ((Bp g.toNat l (Bv f c (es.take i))).length+1) (EL (Bp g.toNat l (Bv f c (es.take i)))++[I e.1,I (e.2:Int)])::R) w:=s;have a6:(EL (Bp g.toNat l (Bv f c (es.take i)))++[I e.1,I (e.2:Int)]:List Value)=EL (Bp g.toNat l (Bv f c (es.take (i+1)))):=(by rw[t,MW U ⟨by omega,by omega⟩,ZK];rfl);rw[a6] at s;rw[show ((Bp g.toNat l (Bv f c (es.take i))).length+1:Nat)=(Bp g.toNat l (Bv f c (es.take (i+1)))).length from (by rw[t,MW U ⟨by omega,by omega⟩,Ad9];rfl)] at s;have H:=s.l6;refine Av (H.pick 6 [1,2,3] Z) (AU [14] [] [] (by exact H.pick 6 [1,2,3] Z) Z J Z (a_done J (gn (Z1 7 [] [(i:Int)+1] Z U ?_))));replace H:=H.d;refine gf ?_;intro _ hF;refine ⟨⟨i+1,v3⟩,hF.cz,⟨H,?_⟩,?_⟩
   ·show i+1<=es.length;omega
   (dsimp only;omega)
  refine Z3 35 [0,0,0] [(i:Int)+1] H Z U (gf ?_);intro _ hF;refine ⟨⟨i+1,u⟩,hF.cz,⟨(by rw[show (Bp g.toNat l (Bv f c (es.take (i+1))))=(Bp g.toNat l (Bv f c (es.take i))) from by rw[t];exact Fl (.inr (λx hx=>by simp at hx;subst hx;omega))];exact H),?_⟩,?_⟩
  ·show i+1<=es.length;omega
  (dsimp only;omega)
 refine Zc 2 Z (gx (Zc 10 Z (Zr Z ?_)));have p:(Bp g.toNat l (Bv f c es))=(Bp g.toNat l (Bv f c (es.take i))):=by rw[show es.take i=es from Aee (by simp only[Aea] at *;omega)]
 exact ⟨_,⟨u,Z,Z⟩,by rw[p];exact H.pick 5 [3,4] Z⟩
set_option maxHeartbeats 4000000 in
theorem Aci (pp mb n:Nat) (o:TB) (f d g:Int) (h:Nat) (ih:∀(ra:Nat) (lo hi:Int) (m_:Nat) (L l:List E) (u:Value),Tr o.N h ra lo hi m_ L->l.length+L.length<=1048576->Cn prog 121 [Y pp,I (ra:Int),I f,I d,I g,u] [trA Tb pp mb n o none,grow 257 2 u l.length (EL l)] (λv Γ=>∃q:Value,v=.tuple #[q,I 0]/\Γ=[trA Tb pp mb n o none,grow 257 2 q (Bp g.toNat l (Bv f d L)).length (EL (Bp g.toNat l (Bv f d L)))])) (ra:Nat) (lo hi:Int) (m_:Nat) (L l:List E) (u:Value) (hT:Tr o.N (h+1) ra lo hi m_ L) (t:l.length+L.length<=1048576):Cn prog 121 [Y pp,I (ra:Int),I f,I d,I g,u] [trA Tb pp mb n o none,grow 257 2 u l.length (EL l)] (λv Γ=>∃q:Value,v=.tuple #[q,I 0]/\Γ=[trA Tb pp mb n o none,grow 257 2 q (Bp g.toNat l (Bv f d L)).length (EL (Bp g.toNat l (Bv f d L)))]):=by
 intro z R w H;replace H:=H.l2;have K:=H.says 0 Z (λh a=>trA.k a);have hn:=K.hn;obtain ⟨es,hN,c4,a6,a8,b0⟩:=hT;have c0:es.length<=8:=a8.len;refine Ae func121 Z ntmps121 Z (Zc 10 Z (Aq Z (call160 _) (HS pp mb n o none ra false es hN) H ?_));rintro _ w _ ⟨nk,nv,rfl,rfl⟩ H;replace H:=H.l4;have b5:=H.sy 0 (·.slc);obtain ⟨ka,kc,rfl⟩:=b5;have b8:=H.sy 1 (·.slc);obtain ⟨va,vc,rfl⟩:=b8;refine Za 3 [] H Z ?_;intro b1 w H;refine Z4 24 [0,4,1,0,0] H Z ?_;intro w H;refine AD (σ:=Nat×Value×List E×List E) (λ⟨i,u,L0,L2⟩=>[(29,I (i:Int)),(5,u),(0,Y pp),(2,I f),(3,I d),(4,I g),(14,Y b1),(28,I (((kL es).length:Nat):Int))])
   (λ⟨i,u,L0,L2⟩ w=>Sep z (blk b1 [.bool false,.slice ka ((kL es).length) kc,.slice va ((vL es).length) vc] 249::grow 3 1 (.slice ka ((kL es).length) kc) ((kL es).length) ((kL es).map I)::grow 3 1 (.slice va ((vL es).length) vc) ((vL es).length) ((vL es).map I)::trA Tb pp mb n o none::grow 257 2 u ((Bp g.toNat l (Bv f d L0)).length) (EL (Bp g.toNat l (Bv f d L0)))::R) w/\(i<=es.length/\L=L0++L2/\Sq (λc a b L=>Tr o.N h c a b 4 L) (es.drop i) hi L2)) (λ⟨i,u,L0,L2⟩=>es.length-i) ⟨0,u,[],L⟩
   fr_z ⟨(by simpa [Bp,Bv] using H),⟨AeJ _,Z,b0⟩⟩ ?_
 clear H;rintro ⟨i,u,L0,L2⟩ w ⟨H',hI⟩;dsimp only at hI H' ⊢;have H:=H'.l5;have su:=H.sy 4 (·.slc);obtain ⟨c1,m,a4⟩:=hI;have c3:(kL es).length=es.length:=by simp
 have c6:(vL es).length=es.length:=by simp
 refine Z0 6 [0] Z (Ag Z (λh1=>?_) (λh1=>?_))
 ·refine Zc 12 Z ?_;have a7:i<es.length:=by simp only[Aea] at *;omega
  obtain ⟨e,he⟩:∃e,es[i]?=some e:=⟨_,Ad7 a7⟩;have b2:=Ad8 he;have c5:=a6 e b2;have a3:=(H.rv 1 (·.rd)).at (j:=i) (u:=I e.1) (by simp[kL,he]);have a0:=(H.rv 2 (·.rd)).at (j:=i) (u:=I (e.2:Int)) (by simp[vL,he]);obtain ⟨Lc,L3,s,a2,a1⟩:=Adb he a4;have b4:=AeX a7;have a5:∀x∈L2,e.1<=x.1:=λx hx=>by have:=Sq.ge a4 (a8.srt.drop i) (λy hy=>(a6 y (Afo hy)).2) x hx;rw[b4] at this;have b9:=(Ad6.1 he).2;simp only[nx] at this;rw[b9] at this;exact this
  have b6:=a2.srt.2;refine Zc 2 Z (Ab Z (Ed Z (sz:=2) J Z su) (Z0 3 [0] Z (Al 37 Z (λh2=>?_) (λh2=>?_))))
  ·refine Zc 20 Z (Zr Z ?_);have p:(Bp g.toNat l (Bv f d L))=(Bp g.toNat l (Bv f d L0)):=by rw[m];exact Fl (by first|exact .inl U|exact .inr (λx hx=>.inr (by have:=a5 x hx;omega)))
   exact ⟨_,⟨u,Z,Z⟩,by rw[p];exact H.pick 5 [3,4] Z⟩
  refine Z2 3 [1,0,0] H Z (Ab Z (Aj Z (z:=1) (j:=i) (r:=i) J Z Z Z U a3 U) (Ab Z (Ax Z Z J (Ay a3)) (Z0 6 [0] Z (Ag Z (λh3=>?_) (λh3=>?_)))))
  ·refine Zc 8 Z (Zr Z ?_);have p:(Bp g.toNat l (Bv f d L))=(Bp g.toNat l (Bv f d L0)):=by rw[m];exact Fl (by first|exact .inl U|exact .inr (λx hx=>.inr (by have:=a5 x hx;omega)))
   exact ⟨_,⟨u,Z,Z⟩,by rw[p];exact H.pick 5 [3,4] Z⟩
  refine Z3 30 [0,0,0,0,0,0,1,0,0,0] [(i:Int)+1] H Z U (Al 84 Z (λh4=>?_) (λh4=>?_))
  ·refine Z2 20 [2,0,0] H Z (Ab Z (Aj Z (z:=1) (j:=i) (r:=i) J Z Z Z U a0 U) (Ab Z (Ax Z Z J (Ay a0)) (Zc 4 Z (Aq Z (call121 _) (ih e.2 e.1 (nx (es.drop (i+1)) hi) 4 Lc (Bp g.toNat l (Bv f d L0)) u a2 (by have:=O3 g.toNat l (Bv f d L0);have:=O4 f d L0;rw[m,s] at t;simp only[Ad9] at t;omega)) H.f4.f4 ?_))));rintro _ w _ ⟨q,rfl,rfl⟩ H;replace H:=H.l5;have H':Sep z (trA Tb pp mb n o none::grow 257 2 q ((Bp g.toNat l (Bv f d (L0++Lc))).length) (EL (Bp g.toNat l (Bv f d (L0++Lc))))::blk b1 [.bool false,.slice ka ((kL es).length) kc,.slice va ((vL es).length) vc] 249::grow 3 1 (.slice ka ((kL es).length) kc) ((kL es).length) ((kL es).map I)::grow 3 1 (.slice va ((vL es).length) vc) ((vL es).length) ((vL es).map I)::R) w:=by rw[Hf];exact H
   have H:=H'.l5;refine Z1 22 [4] [(i:Int)+1] Z U ?_;replace H:=H.f1.f1.f4.f4.f4;refine gf ?_;intro _ hF;refine ⟨⟨i+1,q,L0++Lc,L3⟩,hF.cz,⟨H,?_⟩,?_⟩
   ·exact ⟨by show i+1<=es.length;omega,by show L=L0++Lc++L3;rw[m,s,Aec],a1⟩
   (dsimp only;omega)
  refine Z3 4 [1,0,0] [(i:Int)+1] H Z U ?_;have b3:=(H.rv 1 (·.rd)).at (j:=i+1) (u:=I (nx (es.drop (i+1)) hi)) (Adc hi (by simp only[Aea] at *;omega));refine Ab Z (Aj Z (z:=1) (j:=(i+1)) (r:=(i+1)) J Z Z U (by simp only[Aea] at *;omega) a3 U) (Ab Z (Ax Z Z J (Ay b3)) (Z0 7 [0] Z (Ag Z (λh5=>?_) (λh5=>?_))))
  ·refine Z2 6 [2,0,0] H Z (Ab Z (Aj Z (z:=1) (j:=i) (r:=i) J Z Z Z U a0 U) (Ab Z (Ax Z Z J (Ay a0)) (Zc 4 Z (Aq Z (call121 _) (ih e.2 e.1 (nx (es.drop (i+1)) hi) 4 Lc (Bp g.toNat l (Bv f d L0)) u a2 (by have:=O3 g.toNat l (Bv f d L0);have:=O4 f d L0;rw[m,s] at t;simp only[Ad9] at t;omega)) H.f4.f4 ?_))));rintro _ w _ ⟨q,rfl,rfl⟩ H;replace H:=H.l5;have H':Sep z (trA Tb pp mb n o none::grow 257 2 q ((Bp g.toNat l (Bv f d (L0++Lc))).length) (EL (Bp g.toNat l (Bv f d (L0++Lc))))::blk b1 [.bool false,.slice ka ((kL es).length) kc,.slice va ((vL es).length) vc] 249::grow 3 1 (.slice ka ((kL es).length) kc) ((kL es).length) ((kL es).map I)::grow 3 1 (.slice va ((vL es).length) vc) ((vL es).length) ((vL es).map I)::R) w:=by rw[Hf];exact H
   have H:=H'.l5;refine Z1 22 [4] [(i:Int)+1] Z U ?_;replace H:=H.f1.f1.f4.f4.f4;refine gf ?_;intro _ hF;refine ⟨⟨i+1,q,L0++Lc,L3⟩,hF.cz,⟨H,?_⟩,?_⟩
   ·exact ⟨by show i+1<=es.length;omega,by show L=L0++Lc++L3;rw[m,s,Aec],a1⟩
   (dsimp only;omega)
  refine Z1 8 [] [(i:Int)+1] Z U (gf ?_);intro _ hF;refine ⟨⟨i+1,u,L0++Lc,L3⟩,hF.cz,⟨(by rw[show (Bp g.toNat l (Bv f d (L0++Lc)))=(Bp g.toNat l (Bv f d L0)) from Fl (.inr (λx hx=>by have:=b6 x hx;omega))];exact H),?_⟩,?_⟩
  ·exact ⟨by show i+1<=es.length;omega,by show L=L0++Lc++L3;rw[m,s,Aec],a1⟩
  (dsimp only;omega)
 refine Zc 2 Z (gx (Zc 10 Z (Zr Z ?_)));have p:(Bp g.toNat l (Bv f d L))=(Bp g.toNat l (Bv f d L0)):=by have:L2=[]:=(by have a9:i=es.length:=(by simp only[Aea] at *;omega);have h:=a4;rw[a9,List.drop_length] at h;exact h);rw[m,this,AeQ]
 exact ⟨_,⟨u,Z,Z⟩,by rw[p];exact H.pick 5 [3,4] Z⟩
end
section
variable{Tb:Af}
theorem Adg(pp mb n:Nat)(o:TB)(d b c:Int)(h:Nat):∀(a:Nat) (lo hi:Int) (e:Nat) (L l:List E) (u:Value),Tr o.N h a lo hi e L->l.length+L.length<=1048576->Cn prog 121 [Y pp,I (a:Int),I d,I b,I c,u] [trA Tb pp mb n o none,grow 257 2 u l.length (EL l)] (λv Γ=>∃f:Value,v=.tuple #[f,I 0]/\Γ=[trA Tb pp mb n o none,grow 257 2 f (Bp c.toNat l (Bv d b L)).length (EL (Bp c.toNat l (Bv d b L)))]):=by
 induction h with
 | zero=>exact λa lo hi e L l u=>Ach pp mb n o d b c a lo hi e L l u
 | succ h ih=>exact λa lo hi e L l u=>Aci pp mb n o d b c h ih a lo hi e L l u
theorem Acj(pp mb n:Nat)(o:TB)(i:Nat)(L:List E)(d c a:Int)(k:Root o.N i L)(j:L.length<=1048576):Cn prog 69 [Y pp,I (i:Int),I d,I c,I a] [trA Tb pp mb n o none] (λv Γ=>∃g:Value,v=.tuple #[g,I 0]/\Γ=[trA Tb pp mb n o none,grow 257 2 g (Bp a.toNat [] (Bv d c L)).length (EL (Bp a.toNat [] (Bv d c L)))]):=by
 intro z R w H;replace H:=H.l1;have b:i=0->L=[]:=λq=>by rcases k with ⟨_,e⟩|⟨e,_⟩;exact e;exact absurd q e
 refine Ae func69 Z ntmps69 Z (Z0 22 [0] Z (Al 16 Z (λl=>?_) (λl=>?_)))
 ·refine Zc 18 Z (Zr Z ?_);have f:(Bp a.toNat [] (Bv d c L))=[]:=by first|(rw[b U];simp[Bp,Bv])|(rw[show a.toNat=0 by omega];simp[Bp])|(rw[scF_no (λe _=>by omega)];simp[Bp])
  exact ⟨_,⟨.slice none 0 0,rfl,rfl⟩,by rw[f];exact (((H.pick 1 [0] rfl).nilg 257 2).f1)⟩
 refine Z0 4 [0] Z (Al 20 Z (λp=>?_) (λp=>?_))
 ·refine Zc 14 Z (Zr Z ?_);have f:(Bp a.toNat [] (Bv d c L))=[]:=by first|(rw[b U];simp[Bp,Bv])|(rw[show a.toNat=0 by omega];simp[Bp])|(rw[scF_no (λe _=>by omega)];simp[Bp])
  exact ⟨_,⟨.slice none 0 0,rfl,rfl⟩,by rw[f];exact (((H.pick 1 [0] rfl).nilg 257 2).f1)⟩
 refine Z0 6 [0] Z (Ag Z (λm=>?_) (λm=>?_))
 ·refine Zc 7 Z (Zr Z ?_);have f:(Bp a.toNat [] (Bv d c L))=[]:=by first|(rw[b U];simp[Bp,Bv])|(rw[show a.toNat=0 by omega];simp[Bp])|(rw[scF_no (λe _=>by omega)];simp[Bp])
  exact ⟨_,⟨.slice none 0 0,rfl,rfl⟩,by rw[f];exact (((H.pick 1 [0] rfl).nilg 257 2).f1)⟩
 refine Zc 3 Z ?_;replace H:=(H.nilg 257 2).l2;obtain ⟨_,h,r⟩:=k.resolve_left (λq=>by have:=q.1;omega);refine Zc 6 Z (Aq Z (call121 _) (Adg _ _ _ _ _ _ _ h i _ _ _ L [] _ r (by simpa using j)) H.f1 ?_);rintro _ w _ ⟨g,rfl,rfl⟩ H;refine Zc 7 Z (Zr Z ?_);exact ⟨_,⟨g,Z,Z⟩,H.pick 2 [0,1] Z⟩
end
section
variable{Tb:Af}
theorem Hg{P:List Pl}{vs:List Vl}(a:vs=P.map Prod.fst){i:Nat}{e:Vl}(h:vs[i]?=some e):∃L:List E,P[i]?=some (e,L):=by
 rw[a,Aej] at h;obtain ⟨p,b,rfl⟩:=Agr.1 h;exact ⟨p.2,b⟩
theorem VInv.ok{n:Nat}{o:TB}{nx:Int}{P:List Pl}(h:VInv n o nx P){i:Nat}{p:Pl}(hi:P[i]?=some p)(hs:p.1.st=1):PlOk o.N nx p:=by
 rcases h.all p (Ad8 hi) with rfl|q
 ·simp[pl0,v0] at hs
 exact q
theorem PlOk.vok{N:Hm}{nx:Int}{p:Pl}(h:PlOk N nx p)(f:nx<=1073741824)(i:p.2.length<=1024):D6 p.1.id p.1.st p.1.sz p.1.q (p.1.r.toNat:Int) p.1.mp:=by
 obtain ⟨g,a,b,c,d,_,_,e,_⟩:=h;exact ⟨by omega,a,b,c,by omega,by omega,by omega⟩
theorem RU{n:Nat}{o:TB}{T:TT}(K:TrK n o T){nx:Int}{p:Pl}(h:PlOk (Dk o T) nx p):p.2.length<=1024:=by
 have:=JB K.i U h.root.data h.nd;have:=K.hn;omega
theorem RV{p:Vl}(h:0<=p.r):(p.r.toNat:Int)=p.r:=by omega
theorem Ack(pp mb n:Nat)(o:TB)(r:Int)(f:0<=r)(L:List E)(c a b:Int)(g:Root o.N r.toNat L)(d:L.length<=1048576):Cn prog 69 [Y pp,I r,I c,I a,I b] [trA Tb pp mb n o none] (λv Γ=>∃e:Value,v=.tuple #[e,I 0]/\Γ=[trA Tb pp mb n o none,grow 257 2 e (Bp b.toNat [] (Bv c a L)).length (EL (Bp b.toNat [] (Bv c a L)))]):=by
 obtain ⟨p,rfl⟩:=AfS f;exact Acj pp mb n o p L c a b g d
theorem Aab(pp mb n:Nat)(o:TB)(T:TT)(e:Vl)(L:List E)(nx a:Int)(hp:PlOk (Dk o T) nx (e,L))(j:nx<=1073741824)(g:L.length<=1024)(d:0<=a/\a<e.sz):Cn prog 62 [Y pp,.agg #[I e.id,I e.st,I e.sz,I e.q,I e.r,I e.mp],I a] [trA Tb pp mb n o T] (λv Γ=>∃b:Nat,(B5 a (AZ (Dk o T) L)).length=64/\v=.tuple #[.slice (some ⟨b,0,none⟩) 64 64,I 0]/\Γ=[blk b ((B5 a (AZ (Dk o T) L)).map u8) 5,trA Tb pp mb n o T]):=by
 have i:=hp.r.1;have f:=hp.vok j g;have c:=ZM (Tb:=Tb) pp mb n o T e.id e.st e.sz e.q e.mp a e.r.toNat L hp.root f;rw[RV i] at c;intro z R w H;refine Ret.mono (c z R w H) ?_;rintro v k ⟨Γ',(⟨_,q⟩|⟨q,_⟩),h⟩
 ·exact ⟨Γ',q,h⟩
 exact absurd d q
set_option maxHeartbeats 4000000 in
theorem Hh (l pp mb n:Nat) (nx:Int) (P:List Pl) (vs:List Vl) (x:vs=P.map Prod.fst) (o:TB) (t:VInv n o nx P) (a2:mb<=1000000000) (id b:Int):Cn prog 29 [Y l,I id,I b] [voA l pp nx ([]) vs,trA Tb pp mb n o none] (λv Γ=>((∀e∈vs,¬(e.st=1/\e.id=id))/\v=I 31/\Γ=[voA l pp nx [] vs,trA Tb pp mb n o none])\/(∃(i:Nat) (e:Vl) (L:List E),(P[i]?=some (e,L)/\e.st=1/\e.id=id)/\((¬(1<=b/\b<=1048576)/\v=I 1/\Γ=[voA l pp nx [] vs,trA Tb pp mb n o none])\/(((1<=b/\b<=1048576)/\Bv b 1048576 L≠[])/\v=I 33/\Γ=[voA l pp nx [] vs,trA Tb pp mb n o none])\/(((1<=b/\b<=1048576)/\Bv b 1048576 L=[])/\∃C2:Nat->Nat,v=I 0/\Γ=[voA l pp nx [] (vs.set i {e with sz:=b}),trA Tb pp (mb+2) n ⟨o.N,C2,o.R⟩ none])))):=by
 intro z R w H;replace H:=H.l2;have K:=H.says 1 Z (λh a=>trA.k a);have hn:=K.hn;have hv:vs.length=8:=by rw[x,Aea];exact t.len
 have hf:∀e∈vs,e.Fit:=by rw[x];exact t.fit K
 have a8:=t.n;have y:=t.nb;have a7:manyN n<=6:=by unfold manyN;omega
 refine Ae func29 Z ntmps29 Z (Za 2 [] H Z ?_);intro b1 w H;refine Zc 7 Z (Aq Z (call66 _) (JE _ _ _ _ _ id U) H.f1 ?_);rintro _ w _ (⟨i,e,⟨s,d,m⟩,rfl,rfl⟩|⟨a3,rfl,rfl⟩) p
 ·have H:=p.l3;refine Za 0 [] H Z ?_;intro b2 w H;refine Z4 12 [0,0,0,0] H Z ?_;intro w H;refine Ag Z (λh1=>U) (λh1=>?_)
  refine Z2 3 [2,0] H Z (z_E_ Z (call52 _) (He _ _ _) H ?_);intro w H;replace H:=H.l4;refine Ab Z (AE Z Z) (Zc 3 Z (Ag Z (λh2=>?_) (λh2=>?_)))
  ·refine Zc 6 Z (Zr Z ?_);obtain ⟨L,c⟩:=Hg x s;exact ⟨_,.inr ⟨i,e,L,⟨c,d,m⟩,.inl ⟨by omega,Z,Z⟩⟩,H.pick 4 [1,3] Z⟩
  refine Zc 4 Z ?_;obtain ⟨L,c⟩:=Hg x s;have f:=t.ok c d;have b0:=(Ad6.1 s).1;replace H:=H.f1;obtain ⟨vv,sv,H⟩:=H.vo;replace H:=H.l6;have a1:=H.sy 1 (·.slc);obtain ⟨am,mc,rfl⟩:=a1;have g:=(H.rv 1 (·.rd)).at (AT s 0 _ Z);replace H:=H.f3.f4.f3.f3;refine AO (Sep z (blk l [Y pp,I nx,.slice am vs.length mc,sv] 100::grow 76 6 (.slice am vs.length mc) vs.length (Bb vs)::blk b1 [I b] 3::blk b2 [I (i:Int)] 3::R)) 20 Z J (A5 H λw p=>?_);have H:=p.l6;refine AU [0,1,2,3,4,5,6,7,8,9] [0,0,0,1,2,0,0,3,0] [] (by exact H.pick 6 [0,1,2,3] Z) Z J Z (BO 10 Z J J J Z Z Z (Aj Z (z:=6) (j:=i) (r:=i*6) J Z Z Z U g U) (H.pick 6 [0,1,2,3] Z) (BO 11 Z J J J Z Z Z (Bj Z (k:=4) (r:=i*6+4) J Z g Z) (H.pick 6 [0,1,2,3] Z) (BO 12 Z J J J Z Z Z (Ax Z Z J (λ_ hx=>(hx.rv 1 (·.rd)).at (AT s 4 _ Z))) (H.pick 6 [0,1,2,3] Z) (AU [13] [2,0] [] (by exact H.pick 6 [0,1,2,3] Z) Z J Z (AB [14] J O (An (Bo Z Z Z Z Z Z (λw=>call69 _ w) (Ack _ _ _ _ e.r f.r.1 L _ _ _ f.root (by have:L.length<=1024:=RU K (T:=none) f;omega)) H.f5 Z ?_)))))));rintro _ w _ ⟨u3,rfl,rfl⟩ H;replace H:=H.l7;have a0:=H.sy 1 (·.rd.slc);refine Av (H.pick 7 [2,3,4,5] Z) (AU [15,16,17,18,19] [] [] (by exact H.pick 7 [2,3,4,5] Z) Z J Z (a_done J (gn (Z0 15 [4] Z (Ab Z (Ed Z (sz:=2) J Z a0) (Z0 3 [0] Z (Ag Z (λu=>?_) (λu=>?_))))))))
  ·have hX:Bv b 1048576 L≠[]:=λq=>by rw[q] at u;simp[Bp] at u
   refine Zc 6 Z (Zr Z ?_);exact ⟨_,.inr ⟨i,e,L,⟨c,d,m⟩,.inr (.inl ⟨⟨by omega,hX⟩,Z,Z⟩)⟩,(H.pick 7 [2,3,6,0] Z).toVo⟩
  have hX:Bv b 1048576 L=[]:=Ae8 λq=>u (by have:=Ag7.2 q;simp only[Bp,AeL,Aes,Aew];show (0:Int)<((min ((1:Int).toNat-0) (Bv b 1048576 L).length:Nat):Int);have h1:(1:Int).toNat=1:=rfl;omega);refine Zc 3 Z ?_;have p:=(H.pick 7 [2,3,6,0,1,4,5] Z).toVo;clear H;have H:Sep z (voA l pp nx ([]) vs::trA Tb pp mb n o none::grow 257 2 u3 ((Bp (1:Int).toNat [] (Bv b 1048576 L)).length) (EL (Bp (1:Int).toNat [] (Bv b 1048576 L)))::blk b1 [I b] 3::blk b2 [I (i:Int)] 3::R) w:=p;clear p;refine Zc 2 Z (Ab Z (C4 Z Z Z) (Aq Z (call67 _) (ZY _ _ _ _ _ _ _ hv ⟨by omega,y.2⟩ hf _ _ i e s b U U a2) H.f4.f4.f3.f3 ?_));rintro _ w _ ⟨C2,rfl,rfl⟩ H;refine Z0 16 [4] Z (z_E_ Z (call31 _) (HV _ _ _ _ _ _ _ _) H ?_);intro w H;refine Zc 4 Z (Zr Z ?_);exact ⟨_,.inr ⟨i,e,L,⟨c,d,m⟩,.inr (.inr ⟨⟨by omega,hX⟩,C2,Z,Z⟩)⟩,H.pick 5 [0,1] Z⟩
 have H:=p.l3;refine Za 0 [] H Z ?_;intro b3 w H;refine Z4 19 [0,0,0,3] H Z ?_;intro w H;refine Zr Z ?_;exact ⟨_,.inl ⟨a3,Z,Z⟩,H.pick 4 [1,3] Z⟩
end
section
variable{Tb:Af}
def rdB(V:List Bk)(at_:Int):Nat->List UInt8
 | 0=>[]
 | k+1=>rdB V at_ k++B5 (at_+(k:Int)) V
theorem Aac(V:List Bk)(at_:Int)(k:Nat):(rdB V at_ k).map u8++(B5 (at_+(k:Int)) V).map u8=(rdB V at_ (k+1)).map u8:=by simp[rdB]
theorem FW{sz:Int}{snd:Bool}{at_ a:Int}(h:Bm sz snd at_ a=0):snd=true/\(1<=a/\a<=8)/\0<=at_/\at_<=sz-a:=by
 unfold Bm at h;split at h
 ·rename_i q
  split at h
  ·rename_i r;exact ⟨q.1,q.2,r⟩
  cases h
 cases h
set_option maxHeartbeats 4000000 in
theorem Gy (l pp mb n:Nat) (nx:Int) (P:List Pl) (vs:List Vl) (hP:vs=P.map Prod.fst) (o:TB) (m:VInv n o nx P) (b6:mb<=1000000000) (id at_ b:Int) (a0: -9223372036854775808<=at_/\at_<=9223372036854775807) (a5: -9223372036854775808<=b/\b<=9223372036854775807):Cn prog 22 [Y l,I id,I at_,I b] [voA l pp nx ([]) vs,trA Tb pp mb n o none] (λv Γ=>((∀e∈vs,¬(e.st=1/\e.id=id))/\v=.tuple #[.slice none 0 0,I 31]/\Γ=[voA l pp nx [] vs,trA Tb pp mb n o none])\/(∃(i:Nat) (e:Vl) (L:List E),(P[i]?=some (e,L)/\e.st=1/\e.id=id)/\((Bm e.sz true at_ b≠0/\v=.tuple #[.slice none 0 0,I (Bm e.sz true at_ b)]/\Γ=[voA l pp nx [] vs,trA Tb pp mb n o none])\/(Bm e.sz true at_ b=0/\∃u:Value,v=.tuple #[u,I 0]/\Γ=[grow 5 1 u (rdB (AZ o.N L) at_ b.toNat).length ((rdB (AZ o.N L) at_ b.toNat).map u8),voA l pp nx [] vs,trA Tb pp mb n o none])))):=by
 intro z R w H;replace H:=H.l2;have K:=H.says 1 Z (λh a=>trA.k a);have hn:=K.hn;have hv:vs.length=8:=by rw[hP,Aea];exact m.len
 have hf:∀e∈vs,e.Fit:=by rw[hP];exact m.fit K
 have b9:=m.n;have b0:=m.nb
 refine Ae func22 Z ntmps22 Z (Zc 12 Z (Aq Z (call61 _) (O0 _ _ _ _ _ _ _ _ _ hv (λe p=>(by have:=(hf e p).sz;omega)) a0 a5) H ?_));rintro _ w _ (⟨a9,rfl,rfl⟩|⟨i,e,⟨p,s,a2⟩,rfl,rfl⟩) c
 ·have H:=c.l2;refine Z0 23 [3] Z (Zr Z ?_);exact ⟨_,.inl ⟨a9,Z,Z⟩,H.pick 2 [0,1] Z⟩
 have H:=c.l2;refine Z0 14 [0] Z (Ag Z (λh1=>?_) (λh1=>?_))
 ·refine Zc 8 Z (Zr Z ?_);obtain ⟨L,g⟩:=Hg hP p;exact ⟨_,.inr ⟨i,e,L,⟨g,s,a2⟩,.inl ⟨by assumption,Z,Z⟩⟩,H.pick 2 [0,1] Z⟩
 refine Zc 3 Z ?_;have hE:Bm e.sz true at_ b=0:=Ae8 λq=>by contradiction
 refine AC 10 (v:=I (i:Int)) Z (congrArg I (if_pos hE)) ?_;have b2:=FW hE;obtain ⟨L,g⟩:=Hg hP p;have t:=m.ok g s;have b3:1<=e.sz/\e.sz<=1048576:=t.sz;have c0:=(Ad6.1 p).1;obtain ⟨vv,sv,H⟩:=H.vo;replace H:=H.l4;have a6:=H.sy 1 (·.slc);obtain ⟨y,x,rfl⟩:=a6;have a4:L.length<=1024:=RU K (T:=none) t;replace H:=(H.nilg 5 1).l5;refine Zc 12 Z ?_;refine AD (σ:=Nat×Value) (λ⟨j,u⟩=>[(28,I (j:Int)),(12,u),(0,Y l),(2,I at_),(10,I (i:Int)),(27,I b)])
   (λ⟨j,u⟩ w=>Sep z (grow 5 1 u (64*j) ((rdB (AZ o.N L) at_ j).map u8)::blk l [Y pp,I nx,.slice y vs.length x,sv] 100::grow 76 6 (.slice y vs.length x) vs.length (Bb vs)::Cx sv ([])::trA Tb pp mb n o none::R) w/\((j:Int)<=b/\(rdB (AZ o.N L) at_ j).length=64*j)) (λ⟨j,u⟩=>b.toNat-j) ⟨0,.slice none 0 0⟩
   (λ_ hF=>(hF.co Z (by go_num) hF.cz)) ⟨(by simpa [rdB] using H),⟨by show ((0:Nat):Int)<=b;omega,Z⟩⟩ ?_
 clear H;rintro ⟨j,u⟩ w ⟨c,m⟩;dsimp only at m c ⊢;have H:=c.l5;have su:=H.sy 0 (·.slc);obtain ⟨hj,a1⟩:=m;refine Z0 6 [0] Z (Ag Z (λh2=>?_) (λh2=>?_))
 ·refine Zc 11 Z ?_;have a3:=(H.rv 2 (·.rd)).at (AT p 0 _ Z)
  replace H:=H.f2.f2;refine AO (Sep z (blk l [Y pp,I nx,.slice y vs.length x,sv] 100::grow 76 6 (.slice y vs.length x) vs.length (Bb vs)::R)) 21 Z J (A5 H λw c=>?_);have H:=c.l5;refine AU [0,1,2,3,4,5,6,7,8,9] [0,0,0,1,2,0,0] [] (by exact H.pick 5 [0,1] Z) Z J Z (BO 10 Z J J J Z Z Z (Aj Z (z:=6) (j:=i) (r:=i*6) J Z Z Z U a3 U) (H.pick 5 [0,1] Z) (BO 11 Z J J J Z Z Z (Bq Z Z (vs:=e.cells) J (by simp[Vl.cells]) (λ_ hx=>(λk u hk=>(hx.rv 1 (·.rd)).at (AT p k u hk)))) (H.pick 5 [0,1] Z) (HC [12,13,14] [] [at_+(j:Int)] (by exact H.pick 5 [0,1] Z) Z J U Z (AB [15] J O (An (Bo Z Z Z Z Z Z (λw=>call62 _ w) (Aab _ _ _ _ none e L nx _ t b0.2 a4 U) H.f4 Z ?_))))));rintro _ w _ ⟨rb,f,rfl,rfl⟩ H;replace H:=H.l6;have a8:(B5 (at_+(j:Int)) (AZ o.N L)).length=64:=f;refine Av (H.pick 6 [2,3] Z) (AU [16,17,18,19,20] [] [] (by exact H.pick 6 [2,3] Z) Z J Z (a_done J (gn (Z0 14 [4] Z (AQ Z (AY 4 H Z Z J CK Z Z (H.rv 0 (·.rd U U (by rw[Aea];have:=f;omega) (by rw[Aep,AeK,Aee (by rw[Aea];have:=f;omega)]))) (by simp[u8,Value.oneCell']) U) ?_)))));rintro v1 w c;have c:Sep z (blk rb ((B5 (at_+(j:Int)) (AZ o.N L)).map u8) 5::trA Tb pp mb n o none::blk l [Y pp,I nx,.slice y vs.length x,sv] 100::grow 76 6 (.slice y vs.length x) vs.length (Bb vs)::grow 5 1 v1 ((64*j)+64) ((rdB (AZ o.N L) at_ j).map u8++(B5 (at_+(j:Int)) (AZ o.N L)).map u8)::Cx sv ([])::R) w:=c;have a7:((rdB (AZ o.N L) at_ j).map u8++(B5 (at_+(j:Int)) (AZ o.N L)).map u8:List Value)=(rdB (AZ o.N L) at_ (j+1)).map u8:=(Aac _ _ _);rw[a7] at c;rw[show ((64*j)+64:Nat)=64*(j+1) from by omega] at c;have H:=c.l6;refine Z1 8 [] [(j:Int)+1] Z U ?_;replace H:=H.d.f4.f3.f3.f4;refine gf ?_;intro _ hF;refine ⟨⟨j+1,v1⟩,hF.cz,⟨H,?_⟩,?_⟩
  ·exact ⟨by show ((j+1:Nat):Int)<=b;omega,by show (rdB (AZ o.N L) at_ (j+1)).length=64*(j+1);simp only[rdB,Ad9,a1,a8];omega⟩
  (dsimp only;omega)
 refine Zc 2 Z (gx (Zc 10 Z (Zr Z ?_)));have b1:j=b.toNat:=by omega
 subst b1;rw[<-a1] at H;exact ⟨_,.inr ⟨i,e,L,⟨g,s,a2⟩,.inr ⟨hE,_,Z,Z⟩⟩,(((H.pick 5 [1,2,3,4,0] Z).toVo).pick 3 [2,0,1] Z)⟩
end
section
variable{Tb:Af}
set_option maxHeartbeats 4000000 in
theorem Ww (pv pp mb n:Nat) (o:TB) (c b7 bi bk:Nat) (nx:Int) (v1 v2:Value) (vs:List Vl) (i k:Nat) (e:Vl) (he:vs[i]?=some e) (hv:vs.length=8) (t0:TS) (R1:List Nat) (F:Af) (f:FuncId) (us:List Value) (m:∀a w,(callFunc f a).run prog w=.ok (.enter f a) w) (a1:Int->Prop) (x:Vl->TS->List Nat->Prop) (a0:Cn prog f (.agg #[I e.id,I e.st,I e.sz,I e.q,I e.r,I e.mp]::I (k:Int)::us) [voA pv pp nx [] vs,trA Tb pp mb n o (some (t0,R1)),F] (λv Γ=>(∃(er:Int) (s:TS×List Nat),(er≠0/\a1 er)/\v=.tuple #[.agg #[I 0,I 0,I 0,I 0,I 0,I 0],I er]/\Γ=[voA pv pp nx [] vs,trA Tb pp mb n o (some s),F])\/(∃(b:Vl) (t:TS) (p:List Nat),x b t p/\v=.tuple #[.agg #[I b.id,I b.st,I b.sz,I b.q,I b.r,I b.mp],I 0]/\Γ=[voA pv pp nx [] vs,trA Tb pp mb n o (some (t,p)),F]))):Cn prog 155 [Y c,Y b7,Y bi,Y bk] [blk c [I nx,v1,v2] 70,grow 76 6 v1 vs.length (Bb vs),Cx v2 ([]),voA pv pp nx ([]) vs,trA Tb pp mb n o (some (t0,R1)),blk b7 [(.func (.func f) #[] us.toArray)] 186,blk bi [I (i:Int)] 3,blk bk [I (k:Int)] 3,F] (λv Γ=>(∃(er:Int) (s:TS×List Nat),(er≠0/\a1 er)/\v=I er/\Γ=[voA pv pp nx [] vs,trA Tb pp mb n o (some s),blk b7 [(.func (.func f) #[] us.toArray)] 186,blk bi [I (i:Int)] 3,blk bk [I (k:Int)] 3,F])\/(∃(b:Vl) (t:TS) (p:List Nat),x b t p/\v=I 0/\Γ=[blk c [I nx,v1,v2] 70,grow 76 6 v1 vs.length (Bb (vs.set i b)),Cx v2 [],voA pv pp nx [] vs,trA Tb pp mb n o (some (t,p)),blk b7 [(.func (.func f) #[] us.toArray)] 186,blk bi [I (i:Int)] 3,blk bk [I (k:Int)] 3,F])):=by
 intro z R w H;replace H:=H.l9;have a2:=H.sy 1 (·.slc);obtain ⟨am,mc,rfl⟩:=a2;have a4:=(Ad6.1 he).1;have d:=(H.rv 1 (·.rd)).at (AT he 0 _ Z);refine Ae func155 Z ntmps155 Z (Zc 6 Z ?_);replace H:=H.f7.f7.f3.f3.f7;refine AO (Sep z (blk b7 [(.func (.func f) #[] us.toArray)] 186::blk c [I nx,.slice am vs.length mc,v2] 70::grow 76 6 (.slice am vs.length mc) vs.length (Bb vs)::blk bi [I (i:Int)] 3::blk bk [I (k:Int)] 3::R)) 16 Z J (A5 H λw h=>?_);have H:=h.l9;refine AU [0,1,2,3,4,5] [0,0,1,1,0,3,0] [] (by exact H.pick 9 [0,1,2,3,4] Z) Z J Z (BO 6 Z J J J Z Z Z (Aj Z (z:=6) (j:=i) (r:=i*6) J Z Z Z U d U) (H.pick 9 [0,1,2,3,4] Z) (BO 7 Z J J J Z Z Z (Bq Z Z (vs:=e.cells) J (by simp[Vl.cells]) (λ_ hx=>(λk u hk=>(hx.rv 2 (·.rd)).at (AT he k u hk)))) (H.pick 9 [0,1,2,3,4] Z) (AU [8] [4,0] [] (by exact H.pick 9 [0,1,2,3,4] Z) Z J Z (AB [9,13] J O (JO ?_ ?_)))))
 ·refine Acf Z Z Z Z Z Z Z (λw=>m _ w) (a0) H.f8.f8.f8 Z ?_;rintro _ w _ (⟨er,s,⟨y,l⟩,rfl,rfl⟩|⟨b,t,p,g,rfl,rfl⟩) h
  ·have H:=h.l9;refine Av (H.pick 9 [3,4,5,6,7] Z) (AU [10,11,12] [] [] (by exact H.pick 9 [3,4,5,6,7] Z) Z J Z (AB [13] J O (An (Ca Z Z Z Z (Cb (P:=prog) H Z (zs:=[I 0,I 0,I 0,I 0,I 0,I 0]) J) ?_))));rintro _ w ⟨b1,rfl,H⟩;replace H:=H.l10;refine Av (H.pick 10 [4,5,6,7,8] Z) (AB [14] J O (An (Bg Z Z Z (Ak 0 H Z Z Z Z (vs:=[I 0,I 0,I 0,I 0,I 0,I 0]) Z (by simp[u8,u32,Value.oneCell']) J O (out:=[I 0,I 0,I 0,I 0,I 0,I 0]) Z) ?_)));rintro w H;replace H:=H.l10;refine Av (H.pick 10 [4,5,6,7,8] Z) (AU [15] [] [] (by exact H.pick 10 [4,5,6,7,8] Z) Z J Z (a_done J (gn (Zc 2 Z (BG 7 J J (A5 H λw h=>?_))))))
   have H:=h.l10;refine Mr 6 [1,5,0,7,0,0,6] [] H Z J (B9 Z Z Z (Aj Z (z:=6) (j:=i) (r:=i*6) J Z Z Z U d U) (CD (gw (Az Z Z (CV 6 H Z Z Z Z (vs:=[I 0,I 0,I 0,I 0,I 0,I 0]) Z (by simp[Value.oneCell']) J U (by simp only[Aeb,Aew];omega) (out:=Bb (vs.set i v0)) (EI (e2:=v0) he 0 _ O (by simp[Vl.cells,v0]))) ?_))));rintro w H;replace H:=H.l10;refine Zc 9 Z (Zr Z ?_);exact ⟨_,.inl ⟨er,s,⟨y,l⟩,Z,Z⟩,H.pick 10 [1,2,4,7,8,3] Z⟩
  have H:=h.l9;refine Av (H.pick 9 [3,4,5,6,7] Z) (AU [10,11,12] [] [] (by exact H.pick 9 [3,4,5,6,7] Z) Z J Z (AB [13] J O (An (Ca Z Z Z Z (Cb (P:=prog) H Z (zs:=[I 0,I 0,I 0,I 0,I 0,I 0]) J) ?_))));rintro _ w ⟨b2,rfl,H⟩;replace H:=H.l10;refine Av (H.pick 10 [4,5,6,7,8] Z) (AB [14] J O (An (Bg Z Z Z (Ak 0 H Z Z Z Z (vs:=[I b.id,I b.st,I b.sz,I b.q,I b.r,I b.mp]) Z (by simp[u8,u32,Value.oneCell']) J O (out:=[I b.id,I b.st,I b.sz,I b.q,I b.r,I b.mp]) Z) ?_)));rintro w H;replace H:=H.l10;refine Av (H.pick 10 [4,5,6,7,8] Z) (AU [15] [] [] (by exact H.pick 10 [4,5,6,7,8] Z) Z J Z (a_done J (gn (Zc 2 Z (BG 7 J J (A5 H λw h=>?_))))));have H:=h.l10;refine Mr 6 [1,5,0,7,0,0,6] [] H Z J (B9 Z Z Z (Aj Z (z:=6) (j:=i) (r:=i*6) J Z Z Z U d U) (CD (gw (Az Z Z (CV 6 H Z Z Z Z (vs:=[I b.id,I b.st,I b.sz,I b.q,I b.r,I b.mp]) Z (by simp[Value.oneCell']) J U (by simp only[Aeb,Aew];omega) (out:=Bb (vs.set i b)) (EI (e2:=b) he 0 _ O (by simp[Vl.cells,v0]))) ?_))));rintro w H;replace H:=H.l10;refine Zc 9 Z (Zr Z ?_);exact ⟨_,.inr ⟨b,t,p,g,Z,Z⟩,H.pick 10 [5,6,9,1,2,4,7,8,3] Z⟩
 refine Ca Z Z Z Z (Cb (P:=prog) H Z (zs:=[I 0,I 0,I 0,I 0,I 0,I 0]) J) ?_;rintro _ w ⟨b3,rfl,H⟩;replace H:=H.l10;refine Av (H.pick 10 [1,2,3,4,5] Z) (AB [9] J O (An (Acf Z Z Z Z Z Z Z (λw=>m _ w) (a0) H.f9.f9.f9 Z ?_)));rintro _ w _ (⟨er,s,⟨y,l⟩,rfl,rfl⟩|⟨b,t,p,g,rfl,rfl⟩) h
 ·have H:=h.l10;refine Av (H.pick 10 [4,5,6,7,8] Z) (AU [10,11,12] [] [] (by exact H.pick 10 [4,5,6,7,8] Z) Z J Z (AB [14] J O (An (Bg Z Z Z (Ak 3 H Z Z Z Z (vs:=[I 0,I 0,I 0,I 0,I 0,I 0]) Z (by simp[u8,u32,Value.oneCell']) J O (out:=[I 0,I 0,I 0,I 0,I 0,I 0]) Z) ?_))));rintro w H;replace H:=H.l10;refine Av (H.pick 10 [4,5,6,7,8] Z) (AU [15] [] [] (by exact H.pick 10 [4,5,6,7,8] Z) Z J Z (a_done J (gn (Zc 2 Z (BG 7 J J (A5 H λw h=>?_))))))
  have H:=h.l10;refine Mr 6 [1,5,0,7,0,3,6] [] H Z J (B9 Z Z Z (Aj Z (z:=6) (j:=i) (r:=i*6) J Z Z Z U d U) (CD (gw (Az Z Z (CV 6 H Z Z Z Z (vs:=[I 0,I 0,I 0,I 0,I 0,I 0]) Z (by simp[Value.oneCell']) J U (by simp only[Aeb,Aew];omega) (out:=Bb (vs.set i v0)) (EI (e2:=v0) he 0 _ O (by simp[Vl.cells,v0]))) ?_))));rintro w H;replace H:=H.l10;refine Zc 9 Z (Zr Z ?_);exact ⟨_,.inl ⟨er,s,⟨y,l⟩,Z,Z⟩,H.pick 10 [0,1,4,7,8,2] Z⟩
 have H:=h.l10;refine Av (H.pick 10 [4,5,6,7,8] Z) (AU [10,11,12] [] [] (by exact H.pick 10 [4,5,6,7,8] Z) Z J Z (AB [14] J O (An (Bg Z Z Z (Ak 3 H Z Z Z Z (vs:=[I b.id,I b.st,I b.sz,I b.q,I b.r,I b.mp]) Z (by simp[u8,u32,Value.oneCell']) J O (out:=[I b.id,I b.st,I b.sz,I b.q,I b.r,I b.mp]) Z) ?_))));rintro w H;replace H:=H.l10;refine Av (H.pick 10 [4,5,6,7,8] Z) (AU [15] [] [] (by exact H.pick 10 [4,5,6,7,8] Z) Z J Z (a_done J (gn (Zc 2 Z (BG 7 J J (A5 H λw h=>?_))))));have H:=h.l10;refine Mr 6 [1,5,0,7,0,3,6] [] H Z J (B9 Z Z Z (Aj Z (z:=6) (j:=i) (r:=i*6) J Z Z Z U d U) (CD (gw (Az Z Z (CV 6 H Z Z Z Z (vs:=[I b.id,I b.st,I b.sz,I b.q,I b.r,I b.mp]) Z (by simp[Value.oneCell']) J U (by simp only[Aeb,Aew];omega) (out:=Bb (vs.set i b)) (EI (e2:=b) he 0 _ O (by simp[Vl.cells,v0]))) ?_))));rintro w H;replace H:=H.l10;refine Zc 9 Z (Zr Z ?_);exact ⟨_,.inr ⟨b,t,p,g,Z,Z⟩,H.pick 10 [5,6,9,0,1,4,7,8,2] Z⟩
end
section
variable{Tb:Af}
theorem Wx(p pp mb n:Nat)(nx:Int)(vs:List Vl)(o:TB)(hv:vs.length=8)(a0:0<=nx/\nx<=1073741824)(hf:∀e∈vs,e.Fit)(m j bk i k:Nat)(e:Vl)(he:vs[i]?=some e)(F:Af)(f:FuncId)(us:List Value)(u:∀a w,(callFunc f a).run prog w=.ok (.enter f a) w)(l:Int->Prop)(d:Vl->TS->List Nat->Prop)
  (a1:Cn prog f (.agg #[I e.id,I e.st,I e.sz,I e.q,I e.r,I e.mp]::I (k:Int)::us) [voA p pp nx [] vs,trA Tb pp mb n o (some (⟨o.N,o.C,AV n o.C,0⟩,o.R)),F] (λv Γ=>(∃(er:Int) (s:TS×List Nat),(er≠0/\l er)/\v=.tuple #[.agg #[I 0,I 0,I 0,I 0,I 0,I 0],I er]/\Γ=[voA p pp nx [] vs,trA Tb pp mb n o (some s),F])\/(∃(b:Vl) (t:TS) (g:List Nat),d b t g/\v=.tuple #[.agg #[I b.id,I b.st,I b.sz,I b.q,I b.r,I b.mp],I 0]/\Γ=[voA p pp nx [] vs,trA Tb pp mb n o (some (t,g)),F])))(hG:∀b t g,d b t g->b.Fit/\t.k+1+manyN n<=40)(a2:mb<=1000000000):
  Cn prog 67 [Y p,.func (.func 155) #[] #[Y m,Y j,Y bk]] [voA p pp nx [] vs,trA Tb pp mb n o none,blk m [(.func (.func f) #[] us.toArray)] 186,blk j [I (i:Int)] 3,blk bk [I (k:Int)] 3,F] (λv Γ=>(∃er:Int,(er≠0/\l er)/\v=I er/\Γ=[voA p pp nx [] vs,trA Tb pp mb n o none,blk m [(.func (.func f) #[] us.toArray)] 186,blk j [I (i:Int)] 3,blk bk [I (k:Int)] 3,F])\/(∃(b:Vl) (t:TS) (g:List Nat),d b t g/\v=I 0/\Γ=[voA p pp nx [] (vs.set i b),trA Tb pp (mb+2) n ⟨t.N,t.C,g⟩ none,blk m [(.func (.func f) #[] us.toArray)] 186,blk j [I (i:Int)] 3,blk bk [I (k:Int)] 3,F])):=by
 intro z R w H;have H2:=((H.pick 6 [2,3,4,5,0,1] Z).made 4 (A:=seps [blk m [(.func (.func f) #[] us.toArray)] 186,blk j [I (i:Int)] 3,blk bk [I (k:Int)] 3,F]) (λh q=>q)).pick 3 [1,2,0] Z;refine Ret.mono (change_c p pp mb n nx vs o hv _ _ [Y m,Y j,Y bk] (λa w=>call155 a w) (λer E2=>l er/\E2=seps [blk m [(.func (.func f) #[] us.toArray)] 186,blk j [I (i:Int)] 3,blk bk [I (k:Int)] 3,F]) (λnx2 y t R0 E2=>∃b,nx2=nx/\y=vs.set i b/\d b t R0/\E2=seps [blk m [(.func (.func f) #[] us.toArray)] 186,blk j [I (i:Int)] 3,blk bk [I (k:Int)] 3,F]) (λc v1 v2 z R w H=>?_) ?_ a2 z R w H2) ?_
 ·have H3:=(H.pick 6 [5,0,1,2,3,4] Z).opened
  refine Ret.mono (Cn.at (Ww p pp mb n o c m j bk nx v1 v2 vs i k e he hv _ _ F f us u l d a1) H3 9 [4,5,6,7,8,0,1,2,3] Z Z) ?_;rintro v w' ⟨Γ',(⟨er,s,⟨h1,h2⟩,rfl,rfl⟩|⟨b,t,g,x,rfl,rfl⟩),H'⟩
  ·exact ⟨_,.inl ⟨er,_,s,⟨h1,h2,Z⟩,Z,Z⟩,((H'.pick 6 [2,3,4,5,0,1] Z).made 4 (λh q=>q)).pick 3 [1,2,0] Z⟩
  exact ⟨_,.inr ⟨nx,vs.set i b,t,g,_,⟨b,Z,Z,x,Z⟩,Z,Z⟩,by rw[AeP];exact ((H'.pick 9 [5,6,7,8,0,1,2,3,4] Z).made 4 (λh q=>q)).pick 6 [1,2,3,4,5,0] Z⟩
 ·rintro _ _ t R0 _ ⟨b,rfl,rfl,x,rfl⟩
  obtain ⟨g1,g2⟩:=hG _ _ _ x;exact ⟨by simp[hv],a0,Gx hf g1,g2⟩
 rintro v w' ⟨Γ',(⟨er,E2,⟨h1,h2,rfl⟩,rfl,rfl⟩|⟨nx2,y,t,R0,E2,⟨b,rfl,rfl,x,rfl⟩,rfl,rfl⟩),H'⟩
 ·exact ⟨_,.inl ⟨er,⟨h1,h2⟩,Z,Z⟩,((H'.pick 3 [2,0,1] Z).opened).pick 6 [4,5,0,1,2,3] Z⟩
 exact ⟨_,.inr ⟨b,t,R0,x,Z,Z⟩,((H'.pick 3 [2,0,1] Z).opened).pick 6 [4,5,0,1,2,3] Z⟩
set_option maxHeartbeats 4000000 in
theorem QU (g pp mb n:Nat) (nx:Int) (vs:List Vl) (o:TB) (e:Vl) (L:List E) (i:Nat) (hi:i<vs.length) (hv:vs.length=8) (a2:0<=nx/\nx<=1073741824) (b:Int) (a4:0<=b/\b<=8) (a6:mb+16<=1000000000) (F:Af) (f:FuncId) (us:List Value) (l:∀a w,(callFunc f a).run prog w=.ok (.enter f a) w) (J_:Nat->TB->Vl->List E->Prop) (Er:Nat->TB->Vl->List E->Int->Prop) (hJ:J_ 0 o e L) (a3:∀k o2 e2 L2,J_ k o2 e2 L2->∀x∈vs.set i e2,x.Fit) (u:∀(k:Nat) (o2:TB) (e2:Vl) (L2:List E) (m2:Nat),(k:Int)<b->J_ k o2 e2 L2->Cn prog f (.agg #[I e2.id,I e2.st,I e2.sz,I e2.q,I e2.r,I e2.mp]::I (k:Int)::us) [voA g pp nx [] (vs.set i e2),trA Tb pp m2 n o2 (some (⟨o2.N,o2.C,AV n o2.C,0⟩,o2.R)),F] (λv Γ=>(∃(er:Int) (s:TS×List Nat),(er≠0/\Er k o2 e2 L2 er)/\v=.tuple #[.agg #[I 0,I 0,I 0,I 0,I 0,I 0],I er]/\Γ=[voA g pp nx [] (vs.set i e2),trA Tb pp m2 n o2 (some s),F])\/(∃(c:Vl) (t:TS) (j:List Nat),((∃L3,J_ (k+1) ⟨t.N,t.C,j⟩ c L3)/\c.Fit/\t.k+1+manyN n<=40)/\v=.tuple #[.agg #[I c.id,I c.st,I c.sz,I c.q,I c.r,I c.mp],I 0]/\Γ=[voA g pp nx [] (vs.set i e2),trA Tb pp m2 n o2 (some (t,j)),F]))):Cn prog 110 [Y g,I (i:Int),I b,(.func (.func f) #[] us.toArray)] [voA g pp nx ([]) (vs.set i e),trA Tb pp mb n o none,F] (λv Γ=>(∃(k:Nat) (o2:TB) (e2:Vl) (L2:List E) (er:Int),((k:Int)<b/\J_ k o2 e2 L2/\er≠0/\Er k o2 e2 L2 er)/\v=.tuple #[I (k:Int),I er]/\Γ=[voA g pp nx [] (vs.set i e2),trA Tb pp (mb+2*k) n o2 none,F])\/(∃(k:Nat) (o2:TB) (e2:Vl) (L2:List E),((k:Int)=b/\J_ k o2 e2 L2)/\v=.tuple #[I b,I 0]/\Γ=[voA g pp nx [] (vs.set i e2),trA Tb pp (mb+2*k) n o2 none,F])):=by
 intro z R w H;replace H:=H.l3;refine Ae func110 Z ntmps110 Z (Za 2 [] H Z ?_);intro y w H;refine Za 0 [] H Z ?_;intro b2 w H;refine Zc 12 Z ?_;refine AD (σ:=Nat×TB×Vl×List E) (λ⟨k,o2,e2,L2⟩=>[(13,I (k:Int)),(0,Y g),(2,I b),(5,Y y),(7,Y b2),(12,I b)])
   (λ⟨k,o2,e2,L2⟩ w=>Sep z (blk b2 [(.func (.func f) #[] us.toArray)] 186::blk y [I (i:Int)] 3::voA g pp nx ([]) (vs.set i e2)::trA Tb pp (mb+2*k) n o2 none::F::R) w/\((k:Int)<=b/\J_ k o2 e2 L2)) (λ⟨k,o2,e2,L2⟩=>b.toNat-k) ⟨0,o,e,L⟩
   fr_z ⟨H,⟨by show ((0:Nat):Int)<=b;omega,hJ⟩⟩ ?_
 clear H;rintro ⟨k,o2,e2,L2⟩ w ⟨m,hI⟩;dsimp only at hI m ⊢;have H:=m.l5;obtain ⟨a5,h⟩:=hI;refine Z0 6 [0] Z (Ag Z (λh1=>?_) (λh1=>?_))
 ·refine Za 7 [] H Z ?_;intro b3 w H;refine Z4 6 [0] H Z ?_;intro w H;refine Ab Z (C4 Z Z Z) (Aq Z (call67 _) (Wx g pp (mb+2*k) n nx (vs.set i e2) o2 (by simp[hv]) a2 (a3 _ _ _ _ h) _ _ _ i k e2 (Afq hi) F f us l (Er k o2 e2 L2) (λc t j=>(∃L3,J_ (k+1) ⟨t.N,t.C,j⟩ c L3)/\c.Fit/\t.k+1+manyN n<=40) (u k o2 e2 L2 _ U h) (λ_ _ _ q=>q.2) U) H.f5.f1.f3.f3.f5.f5 ?_);rintro _ w _ (⟨er,⟨a1,p⟩,rfl,rfl⟩|⟨c,t,j,⟨⟨L3,a0⟩,a7,a8⟩,rfl,rfl⟩) m
  ·have H:=m.l6;refine Z0 9 [0] Z (Ag Z (λh2=>?_) (λh2=>?_))
   ·refine Z2 9 [4,0] H Z (Zr Z ?_);exact ⟨_,.inl ⟨k,o2,e2,L2,er,⟨by omega,h,a1,p⟩,Z,Z⟩,H.pick 6 [0,1,5] Z⟩
   (exfalso;omega)
  rw[AgN] at m;have H:Sep z (voA g pp nx ([]) (vs.set i c)::trA Tb pp (mb+2*(k+1)) n ⟨t.N,t.C,j⟩ none::blk b2 [(.func (.func f) #[] us.toArray)] 186::blk y [I (i:Int)] 3::blk b3 [I (k:Int)] 3::F::R) w:=m;clear m;refine Z1 17 [4] [(k:Int)+1] Z U ?_;replace H:=H.f4.d.f4.f2.f2.f4.f4;refine gf ?_;intro _ hF;refine ⟨⟨k+1,⟨t.N,t.C,j⟩,c,L3⟩,hF.cz,⟨H,?_⟩,?_⟩
  ·exact ⟨by show ((k+1:Nat):Int)<=b;omega,a0⟩
  (dsimp only;omega)
 refine Zc 2 Z (gx (Zc 10 Z (Zr Z ?_)));exact ⟨_,.inr ⟨k,o2,e2,L2,⟨by omega,h⟩,Z,Z⟩,H.pick 5 [2,3,4] Z⟩
end
section
variable{Tb:Af}
theorem Wy(pp mb n:Nat)(o:TB)(e:Vl)(L:List E)(Q:List Nat)(D:Af)(d:Value)(bs:List UInt8)(nx a:Int)(k:LwI n o e.r.toNat L Q)(b:PlOk o.N nx (e,L))(p:nx<=1073741824)(m:L.length<=1024)(l:0<=a/\a<e.sz)(s:bs.length=64)(t:∀h,D h->rdH 1 d bs.length (bs.map u8) h):
  Cn prog 112 [Y pp,.agg #[I e.id,I e.st,I e.sz,I e.q,I e.r,I e.mp],I a,d] [trA Tb pp mb n o (some (⟨o.N,o.C,AV n o.C,0⟩,o.R)),D] (λv Γ=>((getE a L=0/\e.q<=e.mp)/\v=.tuple #[.agg #[I 0,I 0,I 0,I 0,I 0,I 0],I 30]/\Γ=[trA Tb pp mb n o (some (⟨o.N,o.C,AV n o.C,0⟩,o.R)),D])\/((¬(getE a L=0/\e.q<=e.mp)/\cnt (AV n o.C) 0 1024<=11)/\∃f,v=.tuple #[.agg #[I 0,I 0,I 0,I 0,I 0,I 0],I 20]/\Γ=[trA Tb pp mb n o (some f),D])\/(¬(getE a L=0/\e.q<=e.mp)/\∃(t3:TS) (r val:Nat),WrF n o t3 e.r.toNat r Q a val bs L/\v=.tuple #[.agg #[I e.id,I e.st,I e.sz,I e.q,I (r:Int),I (if getE a L=0 then e.mp+1 else e.mp)],I 0]/\Γ=[trA Tb pp mb n o (some (t3,Ba r++Q)),D])):=by
 have j:=Wm (Tb:=Tb) pp mb n o e.id e.st e.sz e.q e.mp a e.r.toNat L Q D d bs k (b.vok p m) t;rw[RV b.r.1,<-k.r] at j;intro z R w H;refine Ret.mono (j z R w H) ?_;rintro v u ⟨Γ',(⟨q,_⟩|⟨_,q,_⟩|⟨_,q,rfl,rfl⟩|⟨⟨_,_,c⟩,g,f,rfl,rfl⟩|⟨⟨_,_,c⟩,t3,r,val,g,rfl,rfl⟩),i⟩
 ·exact absurd l q
 ·exact absurd s q
 ·exact ⟨_,.inl ⟨q,Z,Z⟩,i⟩
 ·exact ⟨_,.inr (.inl ⟨⟨c,g⟩,f,Z,Z⟩),i⟩
 exact ⟨_,.inr (.inr ⟨c,t3,r,val,g,Z,Z⟩),i⟩
theorem Wz(pp mb n:Nat)(o:TB)(e:Vl)(L:List E)(Q:List Nat)(nx a:Int)(f:LwI n o e.r.toNat L Q)(b:PlOk o.N nx (e,L))(k:nx<=1073741824)(j:L.length<=1024)(h:0<=a/\a<e.sz):
  Cn prog 117 [Y pp,.agg #[I e.id,I e.st,I e.sz,I e.q,I e.r,I e.mp],I a] [trA Tb pp mb n o (some (⟨o.N,o.C,AV n o.C,0⟩,o.R))] (λv Γ=>(¬CC a L/\v=.tuple #[.agg #[I e.id,I e.st,I e.sz,I e.q,I e.r,I e.mp],I 0]/\Γ=[trA Tb pp mb n o (some (⟨o.N,o.C,AV n o.C,0⟩,o.R))])\/(cnt (AV n o.C) 0 1024<=12/\∃c,v=.tuple #[.agg #[I 0,I 0,I 0,I 0,I 0,I 0],I 20]/\Γ=[trA Tb pp mb n o (some c)])\/(CC a L/\∃(t3:TS) (r:Nat),UnF n o t3 r Q a L/\v=.tuple #[.agg #[I e.id,I e.st,I e.sz,I e.q,I (r:Int),I (e.mp-1)],I 0]/\Γ=[trA Tb pp mb n o (some (t3,Ba r++Q))])):=by
 have g:=Wn (Tb:=Tb) pp mb n o e.id e.st e.sz e.q e.mp a e.r.toNat L Q f (b.vok k j);rw[RV b.r.1,<-f.r] at g;intro z R w H;refine Ret.mono (g z R w H) ?_;rintro v l ⟨Γ',(⟨q,_⟩|⟨⟨_,q⟩,rfl,rfl⟩|⟨⟨_,q⟩,c,rfl,rfl⟩|⟨⟨_,q⟩,t3,r,i,rfl,rfl⟩),d⟩
 ·exact absurd h q
 ·exact ⟨_,.inl ⟨q,Z,Z⟩,d⟩
 ·exact ⟨_,.inr (.inl ⟨q,c,Z,Z⟩),d⟩
 exact ⟨_,.inr (.inr ⟨q,t3,r,i,Z,Z⟩),d⟩
set_option maxHeartbeats 4000000 in
theorem T3 (b pp mb n:Nat) (nx:Int) (vs:List Vl) (o:TB) (e:Vl) (L:List E) (Q:List Nat) (at_:Int) (k:Nat) (hI:LwI n o e.r.toNat L Q) (i:PlOk o.N nx (e,L)) (l:nx<=1073741824) (u:L.length<=1024) (t:0<=at_+(k:Int)/\at_+(k:Int)<e.sz) (d c f a:Nat) (bs:List UInt8) (a1:(k+1)*64<=bs.length) (a0:bs.length<=1073741824):Cn prog 111 [.agg #[I e.id,I e.st,I e.sz,I e.q,I e.r,I e.mp],I (k:Int),Y d,Y c,Y f] [voA b pp nx ([]) vs,trA Tb pp mb n o (some (⟨o.N,o.C,AV n o.C,0⟩,o.R)),blk d [Y b] 32,blk c [I at_] 3,blk f [.slice (some ⟨a,0,none⟩) bs.length bs.length] 54,blk a (bs.map u8) 5] (λv Γ=>((getE (at_+(k:Int)) L=0/\e.q<=e.mp)/\v=.tuple #[.agg #[I 0,I 0,I 0,I 0,I 0,I 0],I 30]/\Γ=[voA b pp nx [] vs,trA Tb pp mb n o (some (⟨o.N,o.C,AV n o.C,0⟩,o.R)),blk d [Y b] 32,blk c [I at_] 3,blk f [.slice (some ⟨a,0,none⟩) bs.length bs.length] 54,blk a (bs.map u8) 5])\/((¬(getE (at_+(k:Int)) L=0/\e.q<=e.mp)/\cnt (AV n o.C) 0 1024<=11)/\∃m,v=.tuple #[.agg #[I 0,I 0,I 0,I 0,I 0,I 0],I 20]/\Γ=[voA b pp nx [] vs,trA Tb pp mb n o (some m),blk d [Y b] 32,blk c [I at_] 3,blk f [.slice (some ⟨a,0,none⟩) bs.length bs.length] 54,blk a (bs.map u8) 5])\/(¬(getE (at_+(k:Int)) L=0/\e.q<=e.mp)/\∃(t3:TS) (r val:Nat),WrF n o t3 e.r.toNat r Q (at_+(k:Int)) val ((bs.drop (k*64)).take 64) L/\v=.tuple #[.agg #[I e.id,I e.st,I e.sz,I e.q,I (r:Int),I (if getE (at_+(k:Int)) L=0 then e.mp+1 else e.mp)],I 0]/\Γ=[voA b pp nx [] vs,trA Tb pp mb n o (some (t3,Ba r++Q)),blk d [Y b] 32,blk c [I at_] 3,blk f [.slice (some ⟨a,0,none⟩) bs.length bs.length] 54,blk a (bs.map u8) 5])):=by
 intro z R w H;replace H:=H.l6;obtain ⟨x,sv,H⟩:=H.vo;replace H:=H.l8;have s:1<=e.sz/\e.sz<=1048576:=i.sz;have g:((bs.drop (k*64)).take 64).length=64:=by rw[Aes,AeG];omega
 refine Ae func111 Z ntmps111 Z (Za 2 [] H Z ?_);intro b1 w H;refine Za 0 [] H Z ?_;intro b2 w H;refine Zc 4 Z ?_;replace H:=H.f8.f8.f3.f4.f8;refine AO (Sep z (blk d [Y b] 32::blk b [Y pp,I nx,x,sv] 100::blk b1 [I e.id,I e.st,I e.sz,I e.q,I e.r,I e.mp] 76::blk c [I at_] 3::blk f [.slice (some ⟨a,0,none⟩) bs.length bs.length] 54::R)) 20 Z J (A5 H λw j=>?_);have H:=j.l10;refine HC [0,1,2,3,4,5,6,7,8,9,10,11,12,13] [0,0,0,1,0,2,6,3,0,4,0] [at_+(k:Int),((k*64:Nat):Int),((k+1:Nat):Int),(((k+1)*64:Nat):Int)] (by exact H.pick 10 [0,1,2,3,4] Z) Z J U Z (BO 14 Z J J J Z Z Z (BK Z (z:=1) (p:=(k*64)) (q:=((k+1)*64)) (o':=k*64) (l':=64) (c':=bs.length-k*64) J Z (.inr ⟨_,_,_,Z,Z,Z⟩) (.inr ⟨_,_,_,Z,Z,Z⟩) U U U U U U) (H.pick 10 [0,1,2,3,4] Z) (AB [15] J O (An (Bo Z Z Z Z Z Z (λw=>call112 _ w) (Wy _ _ _ _ e L Q (blk a (bs.map u8) 5) _ ((bs.drop (k*64)).take 64) nx _ hI i l u t g (λh q=>by rw[g];exact q.rd U U (by rw[Aea];omega) (by rw[AeK,<-AfP,<-Afj]))) H.f9.f9 Z ?_))));rintro _ w _ (⟨hq,rfl,rfl⟩|⟨hq,m,rfl,rfl⟩|⟨hq,t3,r,val,hW,rfl,rfl⟩) j
 ·have H:=j.l10;refine Av (H.pick 10 [2,3,4,5,6] Z) (AU [16,17] [] [] (by exact H.pick 10 [2,3,4,5,6] Z) Z J Z (AB [18] J O (An (Bg Z Z Z (Ak 7 H Z Z Z Z (vs:=[I 0,I 0,I 0,I 0,I 0,I 0]) Z (by simp[u8,u32,Value.oneCell']) J O (out:=[I 0,I 0,I 0,I 0,I 0,I 0]) Z) ?_))));rintro w H;replace H:=H.l10;refine Av (H.pick 10 [2,3,4,5,6] Z) (AU [19] [] [] (by exact H.pick 10 [2,3,4,5,6] Z) Z J Z (a_done J (gn (Zc 2 Z (Zl [7,6] H Z ?_)))));exact ⟨_,.inl ⟨hq,Z,Z⟩,(H.pick 10 [3,8,9,0,2,5,6,1] Z).toVo⟩
 ·have H:=j.l10;refine Av (H.pick 10 [2,3,4,5,6] Z) (AU [16,17] [] [] (by exact H.pick 10 [2,3,4,5,6] Z) Z J Z (AB [18] J O (An (Bg Z Z Z (Ak 7 H Z Z Z Z (vs:=[I 0,I 0,I 0,I 0,I 0,I 0]) Z (by simp[u8,u32,Value.oneCell']) J O (out:=[I 0,I 0,I 0,I 0,I 0,I 0]) Z) ?_))));rintro w H;replace H:=H.l10;refine Av (H.pick 10 [2,3,4,5,6] Z) (AU [19] [] [] (by exact H.pick 10 [2,3,4,5,6] Z) Z J Z (a_done J (gn (Zc 2 Z (Zl [7,6] H Z ?_)))));exact ⟨_,.inr (.inl ⟨hq,m,Z,Z⟩),(H.pick 10 [3,8,9,0,2,5,6,1] Z).toVo⟩
 have H:=j.l10;refine Av (H.pick 10 [2,3,4,5,6] Z) (AU [16,17] [] [] (by exact H.pick 10 [2,3,4,5,6] Z) Z J Z (AB [18] J O (An (Bg Z Z Z (Ak 7 H Z Z Z Z (vs:=[I e.id,I e.st,I e.sz,I e.q,I (r:Int),I (if getE (at_+(k:Int)) L=0 then e.mp+1 else e.mp)]) Z (by simp[u8,u32,Value.oneCell']) J O (out:=[I e.id,I e.st,I e.sz,I e.q,I (r:Int),I (if getE (at_+(k:Int)) L=0 then e.mp+1 else e.mp)]) Z) ?_))));rintro w H;replace H:=H.l10;refine Av (H.pick 10 [2,3,4,5,6] Z) (AU [19] [] [] (by exact H.pick 10 [2,3,4,5,6] Z) Z J Z (a_done J (gn (Zc 2 Z (Zl [7,6] H Z ?_)))));exact ⟨_,.inr (.inr ⟨hq,t3,r,val,hW,Z,Z⟩),(H.pick 10 [3,8,9,0,2,5,6,1] Z).toVo⟩
set_option maxHeartbeats 4000000 in
theorem T4 (a pp mb n:Nat) (nx:Int) (vs:List Vl) (o:TB) (e:Vl) (L:List E) (Q:List Nat) (at_:Int) (k:Nat) (u:LwI n o e.r.toNat L Q) (d:PlOk o.N nx (e,L)) (g:nx<=1073741824) (l:L.length<=1024) (j:0<=at_+(k:Int)/\at_+(k:Int)<e.sz) (c b:Nat):Cn prog 116 [.agg #[I e.id,I e.st,I e.sz,I e.q,I e.r,I e.mp],I (k:Int),Y c,Y b] [voA a pp nx ([]) vs,trA Tb pp mb n o (some (⟨o.N,o.C,AV n o.C,0⟩,o.R)),blk c [Y a] 32,blk b [I at_] 3] (λv Γ=>(¬CC (at_+(k:Int)) L/\v=.tuple #[.agg #[I e.id,I e.st,I e.sz,I e.q,I e.r,I e.mp],I 0]/\Γ=[voA a pp nx [] vs,trA Tb pp mb n o (some (⟨o.N,o.C,AV n o.C,0⟩,o.R)),blk c [Y a] 32,blk b [I at_] 3])\/(cnt (AV n o.C) 0 1024<=12/\∃h,v=.tuple #[.agg #[I 0,I 0,I 0,I 0,I 0,I 0],I 20]/\Γ=[voA a pp nx [] vs,trA Tb pp mb n o (some h),blk c [Y a] 32,blk b [I at_] 3])\/(CC (at_+(k:Int)) L/\∃(t3:TS) (r:Nat),UnF n o t3 r Q (at_+(k:Int)) L/\v=.tuple #[.agg #[I e.id,I e.st,I e.sz,I e.q,I (r:Int),I (e.mp-1)],I 0]/\Γ=[voA a pp nx [] vs,trA Tb pp mb n o (some (t3,Ba r++Q)),blk c [Y a] 32,blk b [I at_] 3])):=by
 intro z R w H;replace H:=H.l4;obtain ⟨m,y,H⟩:=H.vo;replace H:=H.l6;have i:1<=e.sz/\e.sz<=1048576:=d.sz;refine Ae func116 Z ntmps116 Z (Za 2 [] H Z ?_);intro t w H;refine Za 0 [] H Z ?_;intro b2 w H;refine Zc 4 Z ?_;replace H:=H.f7.f2.f3.f7;refine AO (Sep z (blk c [Y a] 32::blk a [Y pp,I nx,m,y] 100::blk t [I e.id,I e.st,I e.sz,I e.q,I e.r,I e.mp] 76::blk b [I at_] 3::R)) 13 Z J (A5 H λw f=>?_);have H:=f.l8;refine HC [0,1,2,3,4,5,6,7] [0,0,0,1,0,2,6,3,0] [at_+(k:Int)] (by exact H.pick 8 [0,1,2,3] Z) Z J U Z (AB [8] J O (An (Bo Z Z Z Z Z Z (λw=>call117 _ w) (Wz _ _ _ _ e L Q nx _ u d g l j) H.f7 Z ?_)));rintro _ w _ (⟨hq,rfl,rfl⟩|⟨hq,h,rfl,rfl⟩|⟨hq,t3,r,s,rfl,rfl⟩) f
 ·have H:=f.l8;refine Av (H.pick 8 [1,2,3,4] Z) (AU [9,10] [] [] (by exact H.pick 8 [1,2,3,4] Z) Z J Z (AB [11] J O (An (Bg Z Z Z (Ak 5 H Z Z Z Z (vs:=[I e.id,I e.st,I e.sz,I e.q,I e.r,I e.mp]) Z (by simp[u8,u32,Value.oneCell']) J O (out:=[I e.id,I e.st,I e.sz,I e.q,I e.r,I e.mp]) Z) ?_))));rintro w H;replace H:=H.l8;refine Av (H.pick 8 [1,2,3,4] Z) (AU [12] [] [] (by exact H.pick 8 [1,2,3,4] Z) Z J Z (a_done J (gn (Zc 2 Z (Zl [5,6] H Z ?_)))));exact ⟨_,.inl ⟨hq,Z,Z⟩,(H.pick 8 [2,6,7,0,1,4] Z).toVo⟩
 ·have H:=f.l8;refine Av (H.pick 8 [1,2,3,4] Z) (AU [9,10] [] [] (by exact H.pick 8 [1,2,3,4] Z) Z J Z (AB [11] J O (An (Bg Z Z Z (Ak 5 H Z Z Z Z (vs:=[I 0,I 0,I 0,I 0,I 0,I 0]) Z (by simp[u8,u32,Value.oneCell']) J O (out:=[I 0,I 0,I 0,I 0,I 0,I 0]) Z) ?_))));rintro w H;replace H:=H.l8;refine Av (H.pick 8 [1,2,3,4] Z) (AU [12] [] [] (by exact H.pick 8 [1,2,3,4] Z) Z J Z (a_done J (gn (Zc 2 Z (Zl [5,6] H Z ?_)))));exact ⟨_,.inr (.inl ⟨hq,h,Z,Z⟩),(H.pick 8 [2,6,7,0,1,4] Z).toVo⟩
 have H:=f.l8;refine Av (H.pick 8 [1,2,3,4] Z) (AU [9,10] [] [] (by exact H.pick 8 [1,2,3,4] Z) Z J Z (AB [11] J O (An (Bg Z Z Z (Ak 5 H Z Z Z Z (vs:=[I e.id,I e.st,I e.sz,I e.q,I (r:Int),I (e.mp-1)]) Z (by simp[u8,u32,Value.oneCell']) J O (out:=[I e.id,I e.st,I e.sz,I e.q,I (r:Int),I (e.mp-1)]) Z) ?_))));rintro w H;replace H:=H.l8;refine Av (H.pick 8 [1,2,3,4] Z) (AU [12] [] [] (by exact H.pick 8 [1,2,3,4] Z) Z J Z (a_done J (gn (Zc 2 Z (Zl [5,6] H Z ?_)))));exact ⟨_,.inr (.inr ⟨hq,t3,r,s,Z,Z⟩),(H.pick 8 [2,6,7,0,1,4] Z).toVo⟩
end
section
variable{Tb:Af}
def KV(N N2:Hm)(Q:List Nat):Prop:=∀c∈Q,∀M,Root N c M->Root N2 c M/\AZ N2 M=AZ N M
theorem KV.refl(N:Hm)(Q:List Nat):KV N N Q:=λ_ _ _ h=>⟨h,Z⟩
theorem KV.trans{N N2 e:Hm}{Q:List Nat}(a:KV N N2 Q)(b:KV N2 e Q):KV N e Q:=λc d M h=>by
 obtain ⟨f,i⟩:=a c d M h;obtain ⟨g,j⟩:=b c d M f;exact ⟨g,j.trans i⟩
theorem KV.of{N N2:Hm}{Q:List Nat}(a:Kp N N2 Q)(b:Dt N N2):KV N N2 Q:=λc d M h=>⟨a c d M h,b.vol h (a c d M h)⟩
theorem KV.kp{N N2:Hm}{Q:List Nat}(a:KV N N2 Q):Kp N N2 Q:=λc b M h=>(a c b M h).1
theorem PlOk.fit{N:Hm}{nx:Int}{p:Pl}(h:PlOk N nx p)(e:nx<=1073741824)(i:p.2.length<=1048576):p.1.Fit:=by
 obtain ⟨g,a,d,f,b,_,_,c,_⟩:=h;exact ⟨by omega,by omega,by omega,by omega,by omega,by omega⟩
structure EaJ(n:Nat)(o:TB)(nx:Int)(e:Vl)(Q:List Nat)(k:Nat)(o2:TB)(e2:Vl)(L2:List E):Prop where
 lw:LwI n o2 e2.r.toNat L2 Q
 ok:PlOk o2.N nx (e2,L2)
 len:L2.length<=1024
 kv:KV o.N o2.N Q
 fld:e2.id=e.id/\e2.st=e.st/\e2.sz=e.sz/\e2.q=e.q
 fr:cnt (AV n o.C) 0 1024<=cnt (AV n o2.C) 0 1024+12*k
variable{n:Nat}{o o2:TB}{nx:Int}{e e2:Vl}{Q:List Nat}{k:Nat}{L L2:List E}
theorem EaJ.zero(h:LwI n o e.r.toNat L Q)(a:PlOk o.N nx (e,L))(b:L.length<=1024):EaJ n o nx e Q 0 o e L:=⟨h,a,b,KV.refl _ _,⟨Z,Z,Z,Z⟩,by omega⟩
theorem EaJ.pos(h:EaJ n o nx e Q k o2 e2 L2)(K:TrK n o2 none):∀x∈L2,1<=x.2:=λx a=>(GV K.i U (show ∀e∈L2,∃b,Dk o2 none e.2=some (.dt b) from h.ok.root.data) x a).1
theorem EaJ.wr(h:EaJ n o nx e Q k o2 e2 L2)(K:TrK n o2 none){t3:TS}{r val:Nat}{a:Int}{bs:List UInt8}(w:WrF n o2 t3 e2.r.toNat r Q a val bs L2)(c:0<=a/\a<e2.sz)(j:r<=1023)(d:(putE a val L2).length<=1024):
  EaJ n o nx e Q (k+1) ⟨t3.N,t3.C,Ba r++Q⟩ {e2 with r:=(r:Int),mp:=if getE a L2=0 then e2.mp+1 else e2.mp} (putE a val L2):=by
 have hs:=h.ok.root.srt.1;have b:=h.ok.mp;have hp:=Pz hs (h.pos K) a val;refine ⟨h.lw.done w.root w.nd Z,⟨h.ok.id,h.ok.st,h.ok.sz,h.ok.q,⟨by show (0:Int)<=(r:Int);omega,by show (r:Int)<=1023;omega⟩,w.root,w.nd,?_,λx i=>?_⟩,d,h.kv.trans (KV.of w.kp w.dt),h.fld,?_⟩
 ·show (if getE a L2=0 then e2.mp+1 else e2.mp)=_
  dsimp only at b ⊢;rw[hp,b]
 ·rcases (putE_mem hs x).1 i with q|q
  ·rw[q];exact c.2
  exact h.ok.key x q.1
 have:=h.fr;have:=w.f;have:=w.g;dsimp only;omega
theorem EaJ.un(h:EaJ n o nx e Q k o2 e2 L2){t3:TS}{r:Nat}{b:Int}(w:UnF n o2 t3 r Q b L2)(c:CC b L2)(i:r<=1023):
  EaJ n o nx e Q (k+1) ⟨t3.N,t3.C,Ba r++Q⟩ {e2 with r:=(r:Int),mp:=e2.mp-1} (BU b L2):=by
 have hs:=h.ok.root.srt.1;have a:=h.ok.mp;have hp:=PA hs c;refine ⟨h.lw.done w.root w.nd Z,⟨h.ok.id,h.ok.st,h.ok.sz,h.ok.q,⟨by show (0:Int)<=(r:Int);omega,by show (r:Int)<=1023;omega⟩,w.root,w.nd,?_,λx d=>h.ok.key x (Ae6.1 d).1⟩,Agl (AfO _ _) h.len,h.kv.trans (KV.of w.kp w.dt),h.fld,?_⟩
 ·show e2.mp-1=_
  dsimp only at a ⊢;rw[<-hp,a]
 have:=h.fr;have:=w.f;have:=w.g;dsimp only;omega
theorem EaJ.no(h:EaJ n o nx e Q k o2 e2 L2):EaJ n o nx e Q (k+1) o2 e2 L2:=⟨h.lw,h.ok,h.len,h.kv,h.fld,by have:=h.fr;omega⟩
def DL(bs:List UInt8)(k:Nat):List UInt8:=(bs.drop (k*64)).take 64
def Ez(at_ q:Int)(k:Nat)(V:List Bk):Prop:=¬GW (at_+(k:Int)) V/\q<=(V.length:Int)
def WTr(at_ q:Int)(bs:List UInt8)(V0:List Bk)(k:Nat)(V:List Bk):Prop:=∃vf:Nat->List Bk,vf 0=V0/\vf k=V/\∀j,j<k->¬Ez at_ q j (vf j)/\∀V2,PutAt (at_+(j:Int)) (DL bs j) (vf j) V2->V2=vf (j+1)
theorem WTr.zero(at_ q:Int)(bs:List UInt8)(V:List Bk):WTr at_ q bs V 0 V:=⟨λ_=>V,Z,Z,λj h=>by omega⟩
theorem WTr.step{at_ q:Int}{bs:List UInt8}{e V d:List Bk}(h:WTr at_ q bs e k V)(f:¬Ez at_ q k V)(g:∀V2,PutAt (at_+(k:Int)) (DL bs k) V V2->V2=d):WTr at_ q bs e (k+1) d:=by
 obtain ⟨vf,a,b,c⟩:=h;refine ⟨fup vf (k+1) d,by rw[fup_ne _ _ U];exact a,BI _ _ _,λj i=>?_⟩;rcases Ael j k with q|q
 ·rw[fup_ne _ _ U,fup_ne _ _ U];exact c j q
 obtain rfl:j=k:=by omega
 rw[fup_ne _ _ U,BI,b];exact ⟨f,g⟩
def C8(at_:Int):Nat->List Bk->List Bk
 | 0,V=>V
 | k+1,V=>Bx (at_+(k:Int)) (C8 at_ k V)
theorem EaJ.quo(h:EaJ n o nx e Q k o2 e2 L2)(K:TrK n o2 none)(at_:Int):(getE (at_+(k:Int)) L2=0/\e2.q<=e2.mp)↔Ez at_ e.q k (AZ o2.N L2):=by
 have c:=h.ok.mp;dsimp only at c;unfold Ez;rw[Wl (h.pos K),Kg,h.fld.2.2.2,c];constructor
 ·rintro ⟨a,b⟩;exact ⟨λq=>q a,b⟩
 rintro ⟨a,b⟩;exact ⟨Ae8 a,b⟩
def JW(n:Nat)(o:TB)(nx:Int)(e:Vl)(Q:List Nat)(at_:Int)(bs:List UInt8)(V0:List Bk)(k:Nat)(o2:TB)(e2:Vl)(L2:List E):Prop:=EaJ n o nx e Q k o2 e2 L2/\WTr at_ e.q bs V0 k (AZ o2.N L2)
def JU(n:Nat)(o:TB)(nx:Int)(e:Vl)(Q:List Nat)(at_:Int)(V0:List Bk)(k:Nat)(o2:TB)(e2:Vl)(L2:List E):Prop:=EaJ n o nx e Q k o2 e2 L2/\AZ o2.N L2=C8 at_ k V0
def ErW(n:Nat)(e:Vl)(at_:Int)(k:Nat)(o2:TB)(L2:List E)(er:Int):Prop:=(er=30/\Ez at_ e.q k (AZ o2.N L2))\/(er=20/\¬Ez at_ e.q k (AZ o2.N L2)/\cnt (AV n o2.C) 0 1024<=11)
end
section
variable{Tb:Af}
variable{Tb:Af}
theorem Acm(g pp n:Nat)(nx:Int)(vs:List Vl)(o:TB)(e:Vl)(i:Nat)(Q:List Nat)(j:nx<=1073741824)(at_:Int)(bs:List UInt8)(V0:List Bk)(b:Int)(x m b8 f:Nat)(a1:bs.length<=1073741824)(a3:b*64<=bs.length)(a6:0<=at_/\at_<=e.sz-b):
  ∀(k:Nat) (o2:TB) (e2:Vl) (L2:List E) (l:Nat),(k:Int)<b->JW n o nx e Q at_ bs V0 k o2 e2 L2->Cn prog 111 (.agg #[I e2.id,I e2.st,I e2.sz,I e2.q,I e2.r,I e2.mp]::I (k:Int)::[Y x,Y m,Y b8]) [voA g pp nx [] (vs.set i e2),trA Tb pp l n o2 (some (⟨o2.N,o2.C,AV n o2.C,0⟩,o2.R)),seps [blk x [Y g] 32,blk m [I at_] 3,blk b8 [.slice (some ⟨f,0,none⟩) bs.length bs.length] 54,blk f (bs.map u8) 5]] (λv Γ=>(∃(er:Int) (s:TS×List Nat),(er≠0/\ErW n e at_ k o2 L2 er)/\v=.tuple #[.agg #[I 0,I 0,I 0,I 0,I 0,I 0],I er]/\Γ=[voA g pp nx [] (vs.set i e2),trA Tb pp l n o2 (some s),seps [blk x [Y g] 32,blk m [I at_] 3,blk b8 [.slice (some ⟨f,0,none⟩) bs.length bs.length] 54,blk f (bs.map u8) 5]])\/(∃(d:Vl) (t:TS) (R3:List Nat),((∃L3,JW n o nx e Q at_ bs V0 (k+1) ⟨t.N,t.C,R3⟩ d L3)/\d.Fit/\t.k+1+manyN n<=40)/\v=.tuple #[.agg #[I d.id,I d.st,I d.sz,I d.q,I d.r,I d.mp],I 0]/\Γ=[voA g pp nx [] (vs.set i e2),trA Tb pp l n o2 (some (t,R3)),seps [blk x [Y g] 32,blk m [I at_] 3,blk b8 [.slice (some ⟨f,0,none⟩) bs.length bs.length] 54,blk f (bs.map u8) 5]])):=by
 intro k o2 e2 L2 l hk hJ z R w H;obtain ⟨c,hT⟩:=hJ;have K0:=H.says 1 Z (λh a=>trA.k0 a);have hz:=c.fld.2.2.1;have H3:=(H.pick 3 [2,0,1] Z).opened;have u:0<=at_+(k:Int)/\at_+(k:Int)<e2.sz:=⟨by omega,by rw[hz];omega⟩;refine Ret.mono (Cn.at (T3 g pp l n nx (vs.set i e2) o2 e2 L2 Q at_ k c.lw c.ok j c.len u x m b8 f bs U a1) H3 6 [4,5,0,1,2,3] Z Z) ?_;rintro v w' ⟨Γ',(⟨hq,rfl,rfl⟩|⟨⟨hq,hf⟩,s3,rfl,rfl⟩|⟨hq,t3,r,val,p,rfl,rfl⟩),H'⟩
 ·exact ⟨_,.inl ⟨30,_,⟨by omega,.inl ⟨Z,(c.quo K0 at_).1 hq⟩⟩,Z,Z⟩,((H'.pick 6 [2,3,4,5,0,1] Z).made 4 (λh q=>q)).pick 3 [1,2,0] Z⟩
 ·exact ⟨_,.inl ⟨20,_,⟨by omega,.inr ⟨Z,λq=>hq ((c.quo K0 at_).2 q),hf⟩⟩,Z,Z⟩,((H'.pick 6 [2,3,4,5,0,1] Z).made 4 (λh q=>q)).pick 3 [1,2,0] Z⟩
 have K3:=H'.says 1 Z (λh a=>trA.k a);have a0:r<=1023:=by
  by_cases h0:r=0
  ·omega
  have:=(K3.i.rin r (by show r∈Ba r++Q;rw[DP h0];simp)).2;have:=K3.hn;omega
 have a2:(putE (at_+(k:Int)) val L2).length<=1024:=by
  have:=JB K3.i U p.root.data p.nd;have:=K3.hn;omega
 have y:=c.wr K0 p u a0 a2;have a4:=p.k;have a5:manyN n<=6:=by have:=c.lw.n;unfold manyN;omega
 exact ⟨_,.inr ⟨_,t3,Ba r++Q,⟨⟨_,y,hT.step (λq=>hq ((c.quo K0 at_).2 q)) (λV2 hp=>p.vol V2 hp)⟩,y.ok.fit j (by show (putE (at_+(k:Int)) val L2).length<=1048576;omega),by omega⟩,Z,Z⟩,((H'.pick 6 [2,3,4,5,0,1] Z).made 4 (λh q=>q)).pick 3 [1,2,0] Z⟩
theorem Acn(j pp n:Nat)(nx:Int)(vs:List Vl)(o:TB)(e:Vl)(i:Nat)(Q:List Nat)(f:nx<=1073741824)(at_:Int)(u:List Bk)(b:Int)(p m:Nat)(a4:0<=at_/\at_<=e.sz-b):
  ∀(k:Nat) (o2:TB) (e2:Vl) (L2:List E) (l:Nat),(k:Int)<b->JU n o nx e Q at_ u k o2 e2 L2->Cn prog 116 (.agg #[I e2.id,I e2.st,I e2.sz,I e2.q,I e2.r,I e2.mp]::I (k:Int)::[Y p,Y m]) [voA j pp nx [] (vs.set i e2),trA Tb pp l n o2 (some (⟨o2.N,o2.C,AV n o2.C,0⟩,o2.R)),seps [blk p [Y j] 32,blk m [I at_] 3]] (λv Γ=>(∃(er:Int) (s:TS×List Nat),(er≠0/\er=20/\cnt (AV n o2.C) 0 1024<=12)/\v=.tuple #[.agg #[I 0,I 0,I 0,I 0,I 0,I 0],I er]/\Γ=[voA j pp nx [] (vs.set i e2),trA Tb pp l n o2 (some s),seps [blk p [Y j] 32,blk m [I at_] 3]])\/(∃(d:Vl) (t:TS) (R3:List Nat),((∃L3,JU n o nx e Q at_ u (k+1) ⟨t.N,t.C,R3⟩ d L3)/\d.Fit/\t.k+1+manyN n<=40)/\v=.tuple #[.agg #[I d.id,I d.st,I d.sz,I d.q,I d.r,I d.mp],I 0]/\Γ=[voA j pp nx [] (vs.set i e2),trA Tb pp l n o2 (some (t,R3)),seps [blk p [Y j] 32,blk m [I at_] 3]])):=by
 intro k o2 e2 L2 l hk hJ z R w H;obtain ⟨c,hT⟩:=hJ;have hz:=c.fld.2.2.1;have H3:=(H.pick 3 [2,0,1] Z).opened;have a1:0<=at_+(k:Int)/\at_+(k:Int)<e2.sz:=⟨by omega,by rw[hz];omega⟩;have a2:manyN n<=6:=by have:=c.lw.n;unfold manyN;omega
 refine Ret.mono (Cn.at (T4 j pp l n nx (vs.set i e2) o2 e2 L2 Q at_ k c.lw c.ok f c.len a1 p m) H3 4 [2,3,0,1] Z Z) ?_;rintro v w' ⟨Γ',(⟨hq,rfl,rfl⟩|⟨hf,s3,rfl,rfl⟩|⟨hq,t3,r,hU,rfl,rfl⟩),y⟩
 ·refine ⟨_,.inr ⟨e2,_,_,⟨⟨L2,c.no,?_⟩,c.ok.fit f (by have:=c.len;show L2.length<=1048576;omega),by show 0+1+manyN n<=40;omega⟩,Z,Z⟩,((y.pick 4 [2,3,0,1] Z).made 2 (λh q=>q)).pick 3 [1,2,0] Z⟩
  show AZ o2.N L2=Bx (at_+(k:Int)) (C8 at_ k u);rw[<-hT,volB_del,Gv (λx hx q=>hq ⟨x.2,by rw[<-q];exact hx⟩)]
 ·exact ⟨_,.inl ⟨20,_,⟨by omega,Z,hf⟩,Z,Z⟩,((y.pick 4 [2,3,0,1] Z).made 2 (λh q=>q)).pick 3 [1,2,0] Z⟩
 have K3:=y.says 1 Z (λh a=>trA.k a);have a0:r<=1023:=by
  by_cases h0:r=0
  ·omega
  have:=(K3.i.rin r (by show r∈Ba r++Q;rw[DP h0];simp)).2;have:=K3.hn;omega
 have g:=c.un hU hq a0;have a3:=hU.k;refine ⟨_,.inr ⟨_,t3,Ba r++Q,⟨⟨_,g,?_⟩,g.ok.fit f (by have:=g.len;show (BU (at_+(k:Int)) L2).length<=1048576;omega),by omega⟩,Z,Z⟩,((y.pick 4 [2,3,0,1] Z).made 2 (λh q=>q)).pick 3 [1,2,0] Z⟩;show AZ t3.N (BU (at_+(k:Int)) L2)=Bx (at_+(k:Int)) (C8 at_ k u);rw[hU.vol c.ok.root,hT]
end
section
variable{Tb:Af}
set_option maxHeartbeats 4000000 in
theorem O5 (d pp mb n:Nat) (nx:Int) (P:List Pl) (vs:List Vl) (hP:vs=P.map Prod.fst) (o:TB) (t:VInv n o nx P) (a3:mb+16<=1000000000) (id at_:Int) (a1: -9223372036854775808<=at_/\at_<=9223372036854775807) (c:Nat) (bs:List UInt8) (a4:bs.length<=1073741824) (sy:Bool):Cn prog 58 [Y d,I id,I at_,.slice (some ⟨c,0,none⟩) bs.length bs.length,.bool sy] [voA d pp nx ([]) vs,trA Tb pp mb n o none,blk c (bs.map u8) 5] (λv Γ=>((∀e∈vs,¬(e.st=1/\e.id=id))/\v=.tuple #[I 0,I 31]/\Γ=[voA d pp nx [] vs,trA Tb pp mb n o none,blk c (bs.map u8) 5])\/(∃(i:Nat) (e:Vl) (L:List E),(P[i]?=some (e,L)/\e.st=1/\e.id=id)/\((Bm e.sz (decide (((bs.length%64:Nat):Int)=0)) at_ ((bs.length/64:Nat):Int)≠0/\v=.tuple #[I 0,I (Bm e.sz (decide (((bs.length%64:Nat):Int)=0)) at_ ((bs.length/64:Nat):Int))]/\Γ=[voA d pp nx [] vs,trA Tb pp mb n o none,blk c (bs.map u8) 5])\/(Bm e.sz (decide (((bs.length%64:Nat):Int)=0)) at_ ((bs.length/64:Nat):Int)=0/\∃(k:Nat) (o2:TB) (e2:Vl) (L2:List E) (m2:Nat) (er:Int),(JW n ⟨o.N,o.C,Ba e.r.toNat++C7 (P.eraseIdx i)⟩ nx e (C7 (P.eraseIdx i)) at_ bs (AZ o.N L) k o2 e2 L2/\((er=0/\(k:Int)=((bs.length/64:Nat):Int))\/((k:Int)<((bs.length/64:Nat):Int)/\ErW n e at_ k o2 L2 er))/\m2<=mb+16)/\v=.tuple #[I (k:Int),I er]/\Γ=[voA d pp nx [] (vs.set i e2),trA Tb pp m2 n o2 none,blk c (bs.map u8) 5])))):=by
 intro z R w H;replace H:=H.l3;have K:=H.says 1 Z (λh a=>trA.k a);have hn:=K.hn;have hv:vs.length=8:=by rw[hP,Aea];exact t.len
 have hf:∀e∈vs,e.Fit:=by rw[hP];exact t.fit K
 have b5:=t.n;have p:=t.nb
 refine Ae func58 Z ntmps58 Z (Za 2 [] H Z ?_);intro x w H;refine Za 0 [] H Z ?_;intro y w H;refine Za 0 [] H Z ?_;intro u w H;refine Z3 22 [0,0,2,0,1,0,0,0,0] [((bs.length/64:Nat):Int),((bs.length%64:Nat):Int)] H Z U (Aq Z (call61 _) (O0 _ _ _ _ _ _ _ _ _ hv (λe he=>(by have:=(hf e he).sz;omega)) a1 ⟨by omega,by omega⟩) H.f3 ?_);rintro _ w _ (⟨a6,rfl,rfl⟩|⟨i,e,⟨he,j,l⟩,rfl,rfl⟩) f
 ·have H:=f.l6;refine Z0 23 [3] Z (Zr Z ?_);exact ⟨_,.inl ⟨a6,Z,Z⟩,H.pick 6 [0,4,5] Z⟩
 have H:=f.l6;refine Z0 14 [0] Z (Ag Z (λh1=>?_) (λh1=>?_))
 ·refine Zc 8 Z (Zr Z ?_);obtain ⟨L,b⟩:=Hg hP he;exact ⟨_,.inr ⟨i,e,L,⟨b,j,l⟩,.inl ⟨by assumption,Z,Z⟩⟩,H.pick 6 [0,4,5] Z⟩
 refine Zc 3 Z ?_;have hE:Bm e.sz (decide (((bs.length%64:Nat):Int)=0)) at_ ((bs.length/64:Nat):Int)=0:=Ae8 λq=>by contradiction
 refine AC 13 (v:=I (i:Int)) Z (congrArg I (if_pos hE)) ?_;have a7:=FW hE;obtain ⟨L,b⟩:=Hg hP he;have m:=t.ok b j;have a9:1<=e.sz/\e.sz<=1048576:=m.sz;have a8:=(Ad6.1 he).1;have a2:L.length<=1024:=RU K (T:=none) m;have a5:vs.set i e=vs:=by obtain ⟨hl,rfl⟩:=Ad6.1 he;exact Age hl
 refine Z2 4 [3,0] H Z (Ab Z (C4 Z Z Z) ?_);have f:=(((H.mono 0 (B:=voA d pp nx [] (vs.set i e)) Z (λh a=>by rw[a5];exact a)).mono 4 (B:=trA Tb pp mb n ⟨o.N,o.C,Ba e.r.toNat++C7 (P.eraseIdx i)⟩ none) Z (λh a=>a.perm0 (t.r.trans (I5 b)))).pick 6 [3,2,1,5,0,4] Z).made 4 (A:=seps [blk x [Y d] 32,blk y [I at_] 3,blk u [.slice (some ⟨c,0,none⟩) bs.length bs.length] 54,blk c (bs.map u8) 5]) (λh q=>q);clear H;have H:Sep z (seps [blk x [Y d] 32,blk y [I at_] 3,blk u [.slice (some ⟨c,0,none⟩) bs.length bs.length] 54,blk c (bs.map u8) 5]::voA d pp nx ([]) (vs.set i e)::trA Tb pp mb n ⟨o.N,o.C,Ba e.r.toNat++C7 (P.eraseIdx i)⟩ none::R) w:=f;clear f;refine Aq Z (call110 _) (QU d pp mb n nx vs ⟨o.N,o.C,Ba e.r.toNat++C7 (P.eraseIdx i)⟩ e L i a8 hv ⟨by omega,p.2⟩ ((bs.length/64:Nat):Int) U a3 (seps [blk x [Y d] 32,blk y [I at_] 3,blk u [.slice (some ⟨c,0,none⟩) bs.length bs.length] 54,blk c (bs.map u8) 5]) 111 _ (λa w=>call111 a w) (JW n ⟨o.N,o.C,Ba e.r.toNat++C7 (P.eraseIdx i)⟩ nx e (C7 (P.eraseIdx i)) at_ bs (AZ o.N L)) (λk o2 e2 L2 er=>ErW n e at_ k o2 L2 er) ⟨EaJ.zero (t.lw b m) m a2,WTr.zero _ _ _ _⟩ (λk o2 e2 L2 s=>Gx hf (s.1.ok.fit p.2 (by have:=s.1.len;show L2.length<=1048576;omega))) (Acm d pp n nx vs ⟨o.N,o.C,Ba e.r.toNat++C7 (P.eraseIdx i)⟩ e i (C7 (P.eraseIdx i)) p.2 at_ bs (AZ o.N L) _ x y u c a4 U U)) H.f2.f2 ?_;rintro _ w _ (⟨k,o2,e2,L2,er,⟨g,s,b0,a0⟩,rfl,rfl⟩|⟨k,o2,e2,L2,⟨g,s⟩,rfl,rfl⟩) f
 ·have H:=f.l3;have f:=(H.pick 3 [2,0,1] Z).opened
  clear H;have H:Sep z (blk x [Y d] 32::blk y [I at_] 3::blk u [.slice (some ⟨c,0,none⟩) bs.length bs.length] 54::blk c (bs.map u8) 5::voA d pp nx ([]) (vs.set i e2)::trA Tb pp (mb+2*k) n o2 none::R) w:=f;clear f;refine Z0 13 [0] Z (Al 44 Z (λh2=>U) (λh2=>?_));refine Zc 16 Z (Zr Z ?_);exact ⟨_,.inr ⟨i,e,L,⟨b,j,l⟩,.inr ⟨hE,k,o2,e2,L2,_,er,⟨s,.inr ⟨g,a0⟩,by omega⟩,Z,Z⟩⟩,H.pick 6 [4,5,3] Z⟩
 have H:=f.l3;have f:=(H.pick 3 [2,0,1] Z).opened;clear H;have H:Sep z (blk x [Y d] 32::blk y [I at_] 3::blk u [.slice (some ⟨c,0,none⟩) bs.length bs.length] 54::blk c (bs.map u8) 5::voA d pp nx ([]) (vs.set i e2)::trA Tb pp (mb+2*k) n o2 none::R) w:=f;clear f;refine Z0 17 [3] Z (Ep Z (λh3=>?_) (λh3=>?_))
 ·refine Z2 2 [0,0] H Z (z_E_ Z (call31 _) (HV _ _ _ _ _ _ _ _) H.f5.f5 ?_);intro w H;refine Zc 12 Z (Zr Z ?_);exact ⟨_,.inr ⟨i,e,L,⟨b,j,l⟩,.inr ⟨hE,k,o2,e2,L2,_,0,⟨s,.inl ⟨Z,g⟩,by omega⟩,by rw[<-g],Z⟩⟩,H.pick 6 [0,1,5] Z⟩
 refine Zc 11 Z (Zr Z ?_);exact ⟨_,.inr ⟨i,e,L,⟨b,j,l⟩,.inr ⟨hE,k,o2,e2,L2,_,0,⟨s,.inl ⟨Z,g⟩,by omega⟩,by rw[<-g],Z⟩⟩,H.pick 6 [4,5,3] Z⟩
set_option maxHeartbeats 4000000 in
theorem O6 (c pp mb n:Nat) (nx:Int) (P:List Pl) (vs:List Vl) (hP:vs=P.map Prod.fst) (o:TB) (s:VInv n o nx P) (a4:mb+16<=1000000000) (id at_ b:Int) (a1: -9223372036854775808<=at_/\at_<=9223372036854775807) (a3: -9223372036854775808<=b/\b<=9223372036854775807):Cn prog 63 [Y c,I id,I at_,I b] [voA c pp nx ([]) vs,trA Tb pp mb n o none] (λv Γ=>((∀e∈vs,¬(e.st=1/\e.id=id))/\v=.tuple #[I 0,I 31]/\Γ=[voA c pp nx [] vs,trA Tb pp mb n o none])\/(∃(i:Nat) (e:Vl) (L:List E),(P[i]?=some (e,L)/\e.st=1/\e.id=id)/\((Bm e.sz true at_ b≠0/\v=.tuple #[I 0,I (Bm e.sz true at_ b)]/\Γ=[voA c pp nx [] vs,trA Tb pp mb n o none])\/(Bm e.sz true at_ b=0/\∃(k:Nat) (o2:TB) (e2:Vl) (L2:List E) (m2:Nat) (er:Int),(JU n ⟨o.N,o.C,Ba e.r.toNat++C7 (P.eraseIdx i)⟩ nx e (C7 (P.eraseIdx i)) at_ (AZ o.N L) k o2 e2 L2/\((er=0/\(k:Int)=b)\/((k:Int)<b/\er=20/\cnt (AV n o2.C) 0 1024<=12))/\m2<=mb+16)/\v=.tuple #[I (k:Int),I er]/\Γ=[voA c pp nx [] (vs.set i e2),trA Tb pp m2 n o2 none])))):=by
 intro z R w H;replace H:=H.l2;have K:=H.says 1 Z (λh a=>trA.k a);have hn:=K.hn;have hv:vs.length=8:=by rw[hP,Aea];exact s.len
 have hf:∀e∈vs,e.Fit:=by rw[hP];exact s.fit K
 have b4:=s.n;have m:=s.nb
 refine Ae func63 Z ntmps63 Z (Za 2 [] H Z ?_);intro u w H;refine Za 0 [] H Z ?_;intro x w H;refine Z2 10 [1,0,0,0] H Z (Aq Z (call61 _) (O0 _ _ _ _ _ _ _ _ _ hv (λe y=>(by have:=(hf e y).sz;omega)) a1 a3) H.f2 ?_);rintro _ w _ (⟨a6,rfl,rfl⟩|⟨i,e,⟨y,g,p⟩,rfl,rfl⟩) f
 ·have H:=f.l4;refine Z0 23 [3] Z (Zr Z ?_);exact ⟨_,.inl ⟨a6,Z,Z⟩,H.pick 4 [0,3] Z⟩
 have H:=f.l4;refine Z0 14 [0] Z (Ag Z (λh1=>?_) (λh1=>?_))
 ·refine Zc 8 Z (Zr Z ?_);obtain ⟨L,d⟩:=Hg hP y;exact ⟨_,.inr ⟨i,e,L,⟨d,g,p⟩,.inl ⟨by assumption,Z,Z⟩⟩,H.pick 4 [0,3] Z⟩
 refine Zc 3 Z ?_;have hE:Bm e.sz true at_ b=0:=Ae8 λq=>by contradiction
 refine AC 10 (v:=I (i:Int)) Z (congrArg I (if_pos hE)) ?_;have a7:=FW hE;obtain ⟨L,d⟩:=Hg hP y;have l:=s.ok d g;have a9:1<=e.sz/\e.sz<=1048576:=l.sz;have a8:=(Ad6.1 y).1;have a2:L.length<=1024:=RU K (T:=none) l;have a5:vs.set i e=vs:=by obtain ⟨hl,rfl⟩:=Ad6.1 y;exact Age hl
 refine Z2 4 [2,0] H Z (Ab Z (C4 Z Z Z) ?_);have f:=(((H.mono 0 (B:=voA c pp nx [] (vs.set i e)) Z (λh a=>by rw[a5];exact a)).mono 3 (B:=trA Tb pp mb n ⟨o.N,o.C,Ba e.r.toNat++C7 (P.eraseIdx i)⟩ none) Z (λh a=>a.perm0 (s.r.trans (I5 d)))).pick 4 [2,1,0,3] Z).made 2 (A:=seps [blk u [Y c] 32,blk x [I at_] 3]) (λh q=>q);clear H;have H:Sep z (seps [blk u [Y c] 32,blk x [I at_] 3]::voA c pp nx ([]) (vs.set i e)::trA Tb pp mb n ⟨o.N,o.C,Ba e.r.toNat++C7 (P.eraseIdx i)⟩ none::R) w:=f;clear f;refine Aq Z (call110 _) (QU c pp mb n nx vs ⟨o.N,o.C,Ba e.r.toNat++C7 (P.eraseIdx i)⟩ e L i a8 hv ⟨by omega,m.2⟩ b U a4 (seps [blk u [Y c] 32,blk x [I at_] 3]) 116 _ (λa w=>call116 a w) (JU n ⟨o.N,o.C,Ba e.r.toNat++C7 (P.eraseIdx i)⟩ nx e (C7 (P.eraseIdx i)) at_ (AZ o.N L)) (λk o2 e2 L2 er=>er=20/\cnt (AV n o2.C) 0 1024<=12) ⟨EaJ.zero (s.lw d l) l a2,Z⟩ (λk o2 e2 L2 t=>Gx hf (t.1.ok.fit m.2 (by have:=t.1.len;show L2.length<=1048576;omega))) (Acn c pp n nx vs ⟨o.N,o.C,Ba e.r.toNat++C7 (P.eraseIdx i)⟩ e i (C7 (P.eraseIdx i)) m.2 at_ (AZ o.N L) _ u x U)) H.f2.f2 ?_;rintro _ w _ (⟨k,o2,e2,L2,er,⟨j,t,b0,a0⟩,rfl,rfl⟩|⟨k,o2,e2,L2,⟨j,t⟩,rfl,rfl⟩) f
 ·have H:=f.l3;have f:=(H.pick 3 [2,0,1] Z).opened
  clear H;have H:Sep z (blk u [Y c] 32::blk x [I at_] 3::voA c pp nx ([]) (vs.set i e2)::trA Tb pp (mb+2*k) n o2 none::R) w:=f;clear f;refine Zc 7 Z (Zr Z ?_);exact ⟨_,.inr ⟨i,e,L,⟨d,g,p⟩,.inr ⟨hE,k,o2,e2,L2,_,er,⟨t,.inr ⟨j,a0⟩,by omega⟩,Z,Z⟩⟩,H.pick 4 [2,3] Z⟩
 have H:=f.l3;have f:=(H.pick 3 [2,0,1] Z).opened;clear H;have H:Sep z (blk u [Y c] 32::blk x [I at_] 3::voA c pp nx ([]) (vs.set i e2)::trA Tb pp (mb+2*k) n o2 none::R) w:=f;clear f;refine Zc 7 Z (Zr Z ?_);exact ⟨_,.inr ⟨i,e,L,⟨d,g,p⟩,.inr ⟨hE,k,o2,e2,L2,_,0,⟨t,.inl ⟨Z,j⟩,by omega⟩,by rw[<-j],Z⟩⟩,H.pick 4 [2,3] Z⟩
end
section
section late
variable{P:Program}{ops:Array Oper}{Q:Exit->Act->World->Prop}{S:World->Prop}{E:List Nat}
theorem ready_un{listed:Array Bool}{j:Nat}(c:j∈Region.ready .any ops listed)(e:listed.size=ops.size):listed.getD j false=true->False:=λd=>by
 have a:=(mem_ready.1 c).1;obtain ⟨_,g,b,_⟩:=mem_ready.1 c;have h:=(AeU.1 b).1;have f:j<listed.size:=by omega
 simp[f] at d a;rw[d] at a;cases a
theorem M6{i:Nat}{oi:Oper}{v:Value}(hi:ops[i]?=some oi){f:Nat}(p:∀(j:Nat) (o:Oper) cs b,ops[j]?=some o->o.op≠ .select cs b)
  (hQ:∀c a w,Q (.panic c) (a.put oi.dst v) w->Q (.panic c) a w):
  ∀(fuel:Nat) (listed:Array Bool) (a:Act) (w:World),Dc ops listed->listed.size=ops.size->(∀j∈E,listed.getD j false=true\/ES ops f j i=true)->
   (∀j t,ops[j]?=some t->j≠i->listed.getD j true=false->(∀e∈t.after,Region.binds .any e=true->e.on≠i)->oi.apart ops t=true)->
   i∈Region.ready .any ops listed->YieldsIf P ops S oi v a->S w->
   ET P ops Q S E fuel (listed.setIfInBounds i true) (a.put oi.dst v) w->ET P ops Q S E (fuel+1) listed a w:=by
 intro fuel
 induction fuel with
 | zero=>
  intro listed a w hd d _ _ q hy hS H;refine ⟨λh=>(by rw[h] at q;cases q),λj r=>?_⟩;by_cases hji:j=i
  ·subst hji;exact hy.wpOp hi hS ⟨λ_=>hS,H⟩
  have:=ready_mono r hji;rw[H.1] at this;cases this
 | succ fuel ih=>
  intro listed a w hd d hE g q hy hS H;refine ⟨λh=>(by rw[h] at q;cases q),λj r=>?_⟩;by_cases hji:j=i
  ·subst hji;exact hy.wpOp hi hS ⟨λ_=>hS,H⟩
  have h1:=H.2 j (ready_mono r hji);have m:E.contains j=false:=by
   cases hc:E.contains j with
   | false=>rfl
   | true=>
    have hm:j∈E:=by simpa using hc
    rcases hE j hm with h|h
    ·exact (ready_un r d h).elim
    exact (ready_un q d (ready_waits hd d h r)).elim
  obtain ⟨n,t,s,z⟩:=mem_ready.1 r;have u:∀e∈t.after,Region.binds .any e=true->e.on≠i:=λe he hb a1=>by
   have h1:=z e he hb;rw[a1] at h1;exact ready_un q d h1
  have h2:=wpOp_putIf s (g j t s hji n u) (λcs b=>p i oi cs b hi) (λcs b=>p j t cs b s) hQ hy h1;have l:∀k x,ops[k]?=some x->k≠i->(listed.setIfInBounds j true).getD k true=false->
    (∀e∈x.after,Region.binds .any e=true->e.on≠i)->oi.apart ops x=true:=λk x hk a2 y a0=>by
   refine g k x hk a2 ?_ a0;by_cases hjk:j=k
   ·subst hjk;exact n
   rw[getD_set_ne true hjk] at y;exact y
  have a3:∀k∈E,(listed.setIfInBounds j true).getD k false=true\/ES ops f k i=true:=λk hk=>by
   by_cases hjk:j=k
   ·subst hjk
    have hm:E.contains j=true:=by simpa using hk
    rw[hm] at m;cases m
   rw[getD_set_ne false hjk];exact hE k hk
  refine wpOp_mono (λa' w' h3=>⟨λ_=>h3.2.1 m,ih (listed.setIfInBounds j true) a' w' (hd.next r) (by simpa using d) a3 l (ready_mono q (AfN hji)) h3.1 (h3.2.1 m) ?_⟩) h2;rw[Agk _ _ hji];exact h3.2.2
theorem PB{i:Nat}{oi:Oper}{v:Value}(hi:ops[i]?=some oi)(s:E.contains i=true)(l:∀(j:Nat) (o:Oper) cs b,ops[j]?=some o->o.op≠ .select cs b)
  (hQ:∀c a w,Q (.panic c) (a.put oi.dst v) w->Q (.panic c) a w):
  ∀(fuel:Nat) (listed:Array Bool) (a:Act) (w:World),Dc ops listed->listed.size=ops.size->
   (∀j p,ops[j]?=some p->j≠i->listed.getD j true=false->(∀e∈p.after,Region.binds .any e=true->e.on≠i)->oi.apart ops p=true)->
   i∈Region.ready .any ops listed->YieldsIf P ops (λ_=>True) oi v a->
   ET P ops Q S E fuel (listed.setIfInBounds i true) (a.put oi.dst v) w->ET P ops Q S E (fuel+1) listed a w:=by
 intro fuel
 induction fuel with
 | zero=>
  intro listed a w hd m _ q z H;refine ⟨λh=>(by rw[h] at q;cases q),λj r=>?_⟩;by_cases hji:j=i
  ·subst hji;exact z.wpOp hi trivial ⟨λe=>(by rw[s] at e;cases e),H⟩
  have:=ready_mono r hji;rw[H.1] at this;cases this
 | succ fuel ih=>
  intro listed a w hd m d q z H;refine ⟨λh=>(by rw[h] at q;cases q),λj r=>?_⟩;by_cases hji:j=i
  ·subst hji;exact z.wpOp hi trivial ⟨λe=>(by rw[s] at e;cases e),H⟩
  have h1:=H.2 j (ready_mono r hji);obtain ⟨g,p,n,y⟩:=mem_ready.1 r;have t:∀e∈p.after,Region.binds .any e=true->e.on≠i:=λe he hb a1=>by
   have h1:=y e he hb;rw[a1] at h1;exact ready_un q m h1
  have h2:=wpOp_putIf n (d j p n hji g t) (λcs b=>l i oi cs b hi) (λcs b=>l j p cs b n) hQ z h1;have f:∀k u,ops[k]?=some u->k≠i->(listed.setIfInBounds j true).getD k true=false->
    (∀e∈u.after,Region.binds .any e=true->e.on≠i)->oi.apart ops u=true:=λk u hk a2 x a0=>by
   refine d k u hk a2 ?_ a0;by_cases hjk:j=k
   ·subst hjk;exact g
   rw[getD_set_ne true hjk] at x;exact x
  refine wpOp_mono (λa' w' h3=>⟨h3.2.1,ih (listed.setIfInBounds j true) a' w' (hd.next r) (by simpa using m) f (ready_mono q (AfN hji)) h3.1 ?_⟩) h2;rw[Agk _ _ hji];exact h3.2.2
end late
section late2
variable{P:Program}{ops:List Oper}{N R:Act->World->Prop}{X:Nat->Act->World->Prop}{S:World->Prop}{E:List Nat}{a:Act}{w:World}{fuel:Nat}{listed:Array Bool}{n d i:Nat}{ds:List Deferred}{L:List (Nat×Value)}{v:Value}{o:Oper}
theorem E1(i:Nat)(hi:ops[i]?=some o)(r:(E.all λj=>listed.getD j false||ES ops.toArray ops.length j i)=true)(hs:Region.noSelect ops.toArray=true)(s:Region.free .any ops.toArray listed i=true)(q:(Region.ready .any ops.toArray listed).contains i=true)
  (p:BL ops L o.guard=true)(u:o.dst=some d)(l:Nat.blt d n=true)(g:Ar P S n ds L o v)(t:S w)
  (K:∀a',Fr n ds ((d,v)::L) a'->Ho P ops (Qp N X R) S E fuel (listed.setIfInBounds i true) a' w):∀a,Fr n ds L a->Ho P ops (Qp N X R) S E (fuel+1) listed a w:=λa k b c=>
 have e:ops.toArray[i]?=some o:=by simpa using hi
 have f:i∈Region.ready .any ops.toArray listed:=by simpa using q
 M6 (i:=i) (oi:=o) (v:=v) e (Agx hs) (λ_ _ _ h=>h.elim) fuel listed a w b (by simpa using c) (λj m=>by simpa using (AfW.1 r) j m) (AgP e s) f (.inl ⟨wantL_ok k p,λx h=>g a k x h⟩) t
  (by rw[u];exact K _ (k.put d v l) (b.next f) (by simpa using c))
theorem O7(i:Nat)(hi:ops[i]?=some o)(p:E.contains i=true)(hs:Region.noSelect ops.toArray=true)(q:Region.free .any ops.toArray listed i=true)(m:(Region.ready .any ops.toArray listed).contains i=true)
  (l:BL ops L o.guard=true)(r:o.dst=some d)(k:Nat.blt d n=true)(g:Ar P (λ_=>True) n ds L o v)
  (K:∀a',Fr n ds ((d,v)::L) a'->Ho P ops (Qp N X R) S E fuel (listed.setIfInBounds i true) a' w):∀a,Fr n ds L a->Ho P ops (Qp N X R) S E (fuel+1) listed a w:=λa j b c=>
 have e:ops.toArray[i]?=some o:=by simpa using hi
 have f:i∈Region.ready .any ops.toArray listed:=by simpa using m
 PB (i:=i) (oi:=o) (v:=v) e p (Agx hs) (λ_ _ _ h=>h.elim) fuel listed a w b (by simpa using c) (AgP e q) f (.inl ⟨wantL_ok j l,λs h=>g a j s h⟩)
  (by rw[r];exact K _ (j.put d v k) (b.next f) (by simpa using c))
end late2
theorem AdO{P:Program}{ops:List Oper}{C:World->Prop}{Q:Act->Prop}{rest:List Oper}{o:Oper}{n d:Nat}{ds:List Deferred}{L:List (Nat×Value)}{v:Value}{f:FuncId}{x:Operand}{us:List Value}{args:List Operand}{vs:List Value}{tys:Array TypeId}(l:BL ops L o.guard=true)(y:o.dst=some d)(j:Nat.blt d n=true)
  (s:o.op=.call {callee:=.value x,args:=args.toArray,argTypes:=tys})(p:ev L x=some (.func (.func f) #[] us.toArray))(b:evs L args=some vs)(t:∀w,(callFunc f (vs++us).toArray).run P w=.ok (.enter f (vs++us).toArray) w)(h:∀w,C w->Calls P f (vs++us).toArray w (Ret λu k=>u=v/\C k))
  (K:∀a',Fr n ds ((d,v)::L) a'->wpQuiet P ops.toArray C Q rest a'):∀a,Fr n ds L a->wpQuiet P ops.toArray C Q (o::rest) a:=λa g=>
 wpQuiet_step λK' m=>by
  rw[if_pos (wantL_ok g l)];refine ⟨v,λw r=>?_,m _ ?_⟩
  ·unfold Oper.quietAt
   rw[Kj g s p b t];refine ⟨Z,Ago (h w r) λe k q=>?_⟩
   cases e with
   | returned u=>obtain ⟨rfl,i⟩:=q;exact ⟨Z,i⟩
   | panicked c=>exact q.elim
   | outgrown=>exact q.elim
  rw[y];exact K _ (g.put d v j)
def I7(x y:Int):Int:=if x<y then -1 else if y<x then 1 else 0
theorem QV(x y:Int):I7 x y<0↔x<y:=by
 unfold I7;split
 ·omega
 split<;>omega
def Hq(Z_:List Vl)(i j:Nat):Prop:=∀(p q:Nat) (a b:Vl),p<q->q<i->q≠j->Z_[p]?=some a->Z_[q]?=some b->a.id<=b.id
theorem WA(Z_:List Vl):Hq Z_ 1 1:=λp q a b d c=>by omega
theorem RX{Z_:List Vl}{i:Nat}(h:Hq Z_ i i):Hq Z_ (i+1) i:=λp q a b c e d=>h p q a b c U d
theorem IB{Z_:List Vl}{i j:Nat}(h:Hq Z_ i j)(m:j=0\/∃e f:Vl,Z_[j-1]?=some e/\Z_[j]?=some f/\¬f.id<e.id):Hq Z_ i i:=λp q a b l n _ c g=>by
 by_cases hq:q=j
 ·subst hq
  rcases m with e|⟨e,f,d,k,o⟩
  ·omega
  rw[g] at k;cases k;by_cases hp:p=q-1
  ·subst hp;rw[c] at d;cases d;omega
  have:=h p (q-1) a e U U U c d;omega
 exact h p q a b l n hq c g
theorem T5{Z_:List Vl}{i j:Nat}{e f:Vl}(h:Hq Z_ i j)(m:Z_[j-1]?=some e)(n:Z_[j]?=some f)(u:0<j)(t:f.id<e.id):Hq ((Z_.set j e).set (j-1) f) i (j-1):=λp q a b o l r c d=>by
 have s:=(Ad6.1 n).1;have g:∀k,((Z_.set j e).set (j-1) f)[k]?=if k=j-1 then some f else if k=j then some e else Z_[k]? :=λk=>by
  by_cases k1:k=j-1
  ·subst k1;rw[if_pos Z,Afq (by rw[AeP];omega)]
  rw[if_neg k1,Agg U];by_cases k2:k=j
  ·subst k2;rw[if_pos Z,Afq s]
  rw[if_neg k2,Agg U]
 rw[g] at c d;rw[if_neg r] at d;by_cases q2:q=j
 ·rw[if_pos q2] at d;cases d
  split at c
  ·cases c;omega
  rw[if_neg U] at c;exact h p (j-1) a e U U U c m
 rw[if_neg q2] at d;split at c
 ·cases c;exact h j q f b U l q2 n d
 split at c
 ·cases c;exact h (j-1) q e b U l q2 m d
 exact h p q a b o l q2 c d
theorem T6{Z_:List Vl}{j:Nat}{e f:Vl}(a:Z_[j-1]?=some e)(b:Z_[j]?=some f)(g:0<j):((Z_.set j e).set (j-1) f).Perm Z_:=by
 obtain ⟨c,rfl⟩:=Ad6.1 a;obtain ⟨d,rfl⟩:=Ad6.1 b;exact List.set_set_perm d c
theorem WB{Z_ X:List Vl}(hp:Z_.Perm X){i:Nat}(hi:X.length<=i)(h:Hq Z_ i i):Z_.Pairwise λa b=>a.id<=b.id:=by
 have f:=hp.length_eq;rw[Afp];intro p q c e d;exact h p q _ _ d U U (Ad7 c) (Ad7 e)
theorem isnan_c(x:Int):Cn prog 127 [I x] [] (λv Γ=>v=.bool false/\Γ=[]):=by
 intro z R w H;replace H:=H.l0;refine Ae func127 Z ntmps127 Z (Z0 14 [0] Z (Zr Z ?_));exact ⟨_,⟨congrArg Value.bool (decide_eq_false (λq=>q Z)),Z⟩,H⟩
theorem Aco(x y:Int):Cn prog 74 [I x,I y] [] (λv Γ=>v=I (I7 x y)/\Γ=[]):=by
 intro z R w H;replace H:=H.l0;refine Ae func74 Z ntmps74 Z (Zc 8 Z (z_E_ Z (call127 _) (isnan_c _) H ?_));intro w H;refine Zc 6 Z (z_E_ Z (call127 _) (isnan_c _) H ?_);intro w H;refine Z0 29 [0] Z (Ag Z (λb=>?_) (λb=>?_))
 ·refine Zc 6 Z (Zr Z ?_);exact ⟨_,⟨by unfold I7;rw[if_pos U],Z⟩,H⟩
 refine Z0 10 [0] Z (Ag Z (λa=>?_) (λa=>?_))
 ·refine Zc 6 Z (Zr Z ?_);exact ⟨_,⟨by unfold I7;rw[if_neg U,if_pos U],Z⟩,H⟩
 refine Zc 8 Z (Zr Z ?_);exact ⟨_,⟨by unfold I7;rw[if_neg U,if_neg U],Z⟩,H⟩
theorem Aad(a b:Vl):Cn prog 73 [.agg #[I a.id,I a.st,I a.sz,I a.q,I a.r,I a.mp],.agg #[I b.id,I b.st,I b.sz,I b.q,I b.r,I b.mp]] [] (λv Γ=>v=I (I7 a.id b.id)/\Γ=[]):=by
 intro z R w H;replace H:=H.l0;refine Ae func73 Z ntmps73 Z (Za 2 [] H Z ?_);intro d w H;refine Za 0 [] H Z ?_;intro c w H;refine Z2 9 [0,1,0,0,0,0] H Z (z_E_ Z (call74 _) (Aco _ _) H ?_);intro w H;refine Zc 4 Z (Zr Z ?_);exact ⟨_,⟨Z,Z⟩,H.perm 2 [] Z Z⟩
set_option maxHeartbeats 4000000 in
theorem Acp (X:List Vl) (y:Value) (hX:X.length<=12):Cn prog 167 [y,I 0,I (X.length:Int),.func (.func 73) #[] #[]] [grow 76 6 y X.length (Bb X)] (λv Γ=>∃Y_:List Vl,(Y_.Perm X/\Y_.Pairwise (λa b=>a.id<=b.id))/\v=.tuple #[]/\Γ=[grow 76 6 y X.length (Bb Y_)]):=by
 intro z R w H;replace H:=H.l1;have a0:=H.sy 0 (·.slc);obtain ⟨x,s,rfl⟩:=a0;refine Ae func167 Z ntmps167 Z (Z1 8 [] [1] Z U ?_);refine AD (σ:=Nat×List Vl) (λ⟨i,Z_⟩=>[(8,I (i:Int)),(0,.slice x X.length s),(1,I 0),(2,I (X.length:Int)),(3,.func (.func 73) #[] #[])])
   (λ⟨i,Z_⟩ w=>Sep z (grow 76 6 (.slice x X.length s) X.length (Bb Z_)::R) w/\((1<=i/\(i<=X.length\/i=1))/\Z_.Perm X/\Hq Z_ i i)) (λ⟨i,Z_⟩=>X.length-i) ⟨1,X⟩
   fr_z ⟨H,⟨⟨by omega,.inr Z⟩,Ag8 _,WA X⟩⟩ ?_
 clear H;rintro ⟨i,Z_⟩ w ⟨d,t⟩;dsimp only at t d ⊢;have H:=d.l1;obtain ⟨hi,hp,hs⟩:=t;have a1:=hp.length_eq;refine Z0 8 [0] Z (Ag Z (λh1=>?_) (λh1=>?_))
 ·refine Zc 11 Z ?_;refine AD (σ:=Nat×List Vl) (λ⟨j,Z_⟩=>[(9,I (j:Int)),(0,.slice x X.length s),(1,I 0),(2,I (X.length:Int)),(3,.func (.func 73) #[] #[]),(8,I (i:Int)),(12,I (i:Int)),(13,I (X.length:Int)),(14,.bool (decide ((i:Int)<(X.length:Int)))),(17,I (i:Int))])
    (λ⟨j,Z_⟩ w=>Sep z (grow 76 6 (.slice x X.length s) X.length (Bb Z_)::R) w/\(j<=i/\Z_.Perm X/\Hq Z_ (i+1) j)) (λ⟨j,Z_⟩=>j) ⟨i,Z_⟩
    (λ_ o=>(o.all Z)) ⟨H,⟨Aed _,hp,RX hs⟩⟩ ?_
  clear H;rintro ⟨j,Z_⟩ w ⟨d,t⟩;dsimp only at t d ⊢;have H:=d.l1;obtain ⟨hj,hp,hs⟩:=t;have a1:=hp.length_eq;refine Zc 2 Z (Bu (Sep z _) J J H.drew (BZ 4 [] Z J (Cd 21 Z (λh2=>?_) (λh2=>?_))))
  ·obtain ⟨e,p⟩:∃e,Z_[j-1]?=some e:=⟨_,Ad7 U⟩;obtain ⟨f,l⟩:∃f,Z_[j]?=some f:=⟨_,Ad7 U⟩;have c:=(H.rv 0 (·.rd)).at (AT l 0 _ Z)
   refine BZ 3 [] Z J (AL Z Z Z (Aj Z (z:=6) (j:=j) (r:=j*6) J Z Z Z U c U) (AL Z Z Z (Bq Z Z (vs:=f.cells) J (by simp[Vl.cells]) (λ_ n=>(λk u m=>(n.rv 0 (·.rd)).at (AT l k u m)))) (G4 3 [] [((j-1:Nat):Int)] Z J U (AL Z Z Z (Aj Z (z:=6) (j:=(j-1)) (r:=(j-1)*6) J Z Z U U c U) (AL Z Z Z (Bq Z Z (vs:=e.cells) J (by simp[Vl.cells]) (λ_ n=>(λk u m=>(n.rv 0 (·.rd)).at (AT p k u m)))) (AdO Z Z Z Z Z Z (λw=>call73 _ w) (v:=I (I7 f.id e.id)) (cq (Aad f e) (by rintro _ _ ⟨rfl,rfl⟩;exact ⟨Z,Z⟩) 0 [] [] Z Z Z Z) (BZ 2 [] Z J (BH (λw d=>?_)))))))));have H:=d.l1;refine gn (Zc 1 Z (Ag Z (λh3=>?_) (λh3=>?_)))
   ·have a2:=(QV f.id e.id).1 h3
    refine Zc 4 Z (Oj (Sep z (grow 76 6 (.slice x X.length s) X.length (Bb Z_)::R)) [2,3,4,15,16,17] 18 Z J (A5 H λw d=>?_));have H:=d.l1;refine O7 2 Z J J J J Z Z Z (Ci Z Z) (O7 3 Z J J J J Z Z Z (Ci Z Z) (O7 4 Z J J J J Z Z Z (Hr Z Z Z (r:=((j-1:Nat):Int)) U U) (E1 0 Z J J J J Z Z Z (Ci Z Z) H (E1 1 Z J J J J Z Z Z (Ci Z Z) H (E1 5 Z J J J J Z Z Z (Ci Z Z) H (E1 6 Z J J J J Z Z Z (Ci Z Z) H (E1 7 Z J J J J Z Z Z (Hr Z Z Z (r:=((j-1:Nat):Int)) U U) H (E1 8 Z J J J J Z Z Z (Aj Z (z:=6) (j:=(j-1)) (r:=(j-1)*6) J Z Z U U c U) H (E1 9 Z J J J J Z Z Z (Bq Z Z (vs:=e.cells) J (by simp[Vl.cells]) (λ_ n=>(λk u m=>(n.rv 0 (·.rd)).at (AT p k u m)))) H (E1 10 Z J J J J Z Z Z (Ci Z Z) H (E1 11 Z J J J J Z Z Z (Ci Z Z) H (E1 12 Z J J J J Z Z Z (Aj Z (z:=6) (j:=j) (r:=j*6) J Z Z Z U c U) H (E1 13 Z J J J J Z Z Z (Bq Z Z (vs:=f.cells) J (by simp[Vl.cells]) (λ_ n=>(λk u m=>(n.rv 0 (·.rd)).at (AT l k u m)))) H ?_)))))))))))));refine E1 14 Z J J J J Z Z Z (Aj Z (z:=6) (j:=j) (r:=j*6) J Z Z Z U c U) H (C5 [15] J O (An (Bg Z Z Z (CV 0 H Z Z Z Z (vs:=[I e.id,I e.st,I e.sz,I e.q,I e.r,I e.mp]) Z (by simp[Value.oneCell']) J U (by simp only[Aeb,Aew];omega) (out:=Bb (Z_.set (j) e)) (EI (e2:=e) l 0 _ O (by simp[Vl.cells]))) ?_)));rintro w H;replace H:=H.l1;refine Au (λh=>absurd h (by decide)) (C5 [16] J O (An (CI Z Z Z Z (Aj Z (z:=6) (j:=(j-1)) (r:=(j-1)*6) J Z Z U U c U) (Au (λh=>absurd h (by decide)) (C5 [17] J O (An (Bg Z Z Z (CV 0 H Z Z Z Z (vs:=[I f.id,I f.st,I f.sz,I f.q,I f.r,I f.mp]) Z (by simp[Value.oneCell']) J U (by simp only[Aeb,Aew];omega) (out:=Bb ((Z_.set j e).set (j-1) f)) (EI (e2:=f) (by rw[Agg U];exact p) 0 _ O (by simp[Vl.cells]))) ?_)))))));rintro w H;replace H:=H.l1;refine Au (λh=>absurd h (by decide)) (KT J (gn (Z1 7 [] [((j-1:Nat):Int)] Z U (gf ?_))));intro _ o;refine ⟨⟨j-1,(Z_.set j e).set (j-1) f⟩,o.cz,⟨H,?_⟩,?_⟩
    ·exact ⟨by omega,(T6 p l U).trans hp,T5 hs p l U a2⟩
    (dsimp only;omega)
   have g:¬f.id<e.id:=λq=>h3 ((QV f.id e.id).2 q);refine Zc 2 Z (gx (Z1 8 [] [(i:Int)+1] Z U (gf ?_)));intro _ o;refine ⟨⟨i+1,Z_⟩,o.cz,⟨H,?_⟩,?_⟩
   ·refine ⟨⟨by omega,.inl U⟩,hp,?_⟩;first
      | exact IB hs (.inl U)
      | exact IB hs (.inr ⟨e,f,p,l,g⟩)
   (dsimp only;omega)
  refine BZ 13 [] Z J (BH (λw d=>?_));have H:=d.l1;refine gn (Zc 4 Z (gx (Z1 8 [] [(i:Int)+1] Z U (gf ?_))));intro _ o;refine ⟨⟨i+1,Z_⟩,o.cz,⟨H,?_⟩,?_⟩
  ·refine ⟨⟨by omega,.inl U⟩,hp,?_⟩;first
     | exact IB hs (.inl U)
     | exact IB hs (.inr ⟨e,f,p,l,g⟩)
  (dsimp only;omega)
 refine Zc 2 Z (gx (Zc 1 Z (Zf Z ?_)))
 exact ⟨_,⟨Z_,⟨hp,WB hp U hs⟩,Z,Z⟩,H⟩
end
theorem Acq(x:Int)(a:0<=x)(b:x<=12):Cn prog 126 [.int .u64 x] [] (λv Γ=>∃l:Int,v=I l/\Γ=[]):=by
 intro z R w H;refine (Go.Proofs.Any.bits_Len (P:=prog) (ρ:=IV) {J6 with} x w a U).mono ?_;rintro e c ⟨rfl,rfl⟩;exact ⟨_,⟨_,Z,Z⟩,H⟩
def C9(vs:List Vl):List Vl:=vs.filter λe=>decide (e.st=1)
theorem liv_len(vs:List Vl):(C9 vs).length<=vs.length:=AfO _ _
theorem O8{vs:List Vl}{i:Nat}{e:Vl}(h:vs[i]?=some e):C9 (vs.take (i+1))=C9 (vs.take i)++if e.st=1 then [e] else []:=by
 rw[AeH,h];unfold C9;rw[AfI];by_cases q:e.st=1<;>simp[q]
theorem Acr(X:List Vl)(c:Value)(g:X.length<=12)(d:Int):Cn prog 125 [c,I 0,I (X.length:Int),I d,.func (.func 73) #[] #[]] [grow 76 6 c X.length (Bb X)] (λv Γ=>∃Y_:List Vl,(Y_.Perm X/\Y_.Pairwise (λa b=>a.id<=b.id))/\v=.tuple #[]/\Γ=[grow 76 6 c X.length (Bb Y_)]):=by
 intro z R w H;replace H:=H.l1;refine Ae func125 Z ntmps125 Z (Zc 11 Z (GI 2 (DE (Z1 16 [0] [(X.length:Int)] Z U (Ag Z (λe=>?_) (λe=>?_))))))
 ·refine Zc 6 Z (Aq Z (call167 _) (Acp X _ g) H ?_);rintro _ w _ ⟨Y_,f,rfl,rfl⟩ H;refine Zc 3 Z (Zr Z ?_);exact ⟨_,⟨Y_,f,Z,Z⟩,H⟩
 (exfalso;omega)
theorem Aae(X:List Vl)(c:Value)(g:X.length<=12):Cn prog 72 [c,.func (.func 73) #[] #[]] [grow 76 6 c X.length (Bb X)] (λv Γ=>∃Y_:List Vl,(Y_.Perm X/\Y_.Pairwise (λa b=>a.id<=b.id))/\v=.tuple #[]/\Γ=[grow 76 6 c X.length (Bb Y_)]):=by
 intro z R w H;replace H:=H.l1;have d:=H.sy 0 (·.slc);refine Ae func72 Z ntmps72 Z (Zc 3 Z (Ab Z (Ed Z (sz:=6) J Z d) (Zc 7 Z (Ab Z (Uh Z J Z (r:=(X.length:Int)) (by simp[IntKind.wrap,IntKind.bits,IntKind.signed];omega)) (Aq Z (call126 _) (Acq _ U U) H ?_)))));rintro _ w _ ⟨e,rfl,rfl⟩ H;refine Zc 1 Z (Aq Z (call125 _) (Acr X _ g _) H ?_);rintro _ w _ ⟨Y_,f,rfl,rfl⟩ H;refine Zc 1 Z (Zf Z ?_);exact ⟨_,⟨Y_,f,Z,Z⟩,H⟩
set_option maxHeartbeats 4000000 in
theorem QW (l pp:Nat) (nx:Int) (sk:List Int) (vs:List Vl) (hv:vs.length=8):Cn prog 34 [Y l] [voA l pp nx sk vs] (λv Γ=>∃Y_:List Vl,(Y_.Perm (C9 vs)/\Y_.Pairwise (λa b=>a.id<=b.id))/\Γ=[grow 76 6 v (C9 vs).length (Bb Y_),voA l pp nx sk vs]):=by
 intro z R w H;replace H:=H.l1;refine Ae func34 Z ntmps34 Z (Zc 12 Z ?_);obtain ⟨vv,o,H⟩:=H.vo;replace H:=H.l3;have s:=H.sy 1 (·.slc);obtain ⟨m,g,rfl⟩:=s;replace H:=(H.nilg 76 6).l4;refine Z2 11 [1,2,1,0] H Z ?_;refine AD (σ:=Nat×Value) (λ⟨i,u⟩=>[(12,I (i:Int)),(3,u),(2,.slice none 0 0),(10,.slice m vs.length g),(11,I (vs.length:Int))])
   (λ⟨i,u⟩ w=>Sep z (grow 76 6 u ((C9 (vs.take i)).length) (Bb (C9 (vs.take i)))::blk l [Y pp,I nx,.slice m vs.length g,o] 100::grow 76 6 (.slice m vs.length g) vs.length (Bb vs)::Cx o sk::R) w/\(i<=vs.length)) (λ⟨i,u⟩=>vs.length-i) ⟨0,.slice none 0 0⟩
   (λ_ f=>(f.co Z (by go_num) f.cz)) ⟨(by simpa [C9,Bb] using H),AeJ _⟩ ?_
 clear H;rintro ⟨i,u⟩ w ⟨c,x⟩;dsimp only at x c ⊢;have H:=c.l4;have su:=H.sy 0 (·.slc);have hi:=x;clear x;refine Z0 6 [0] Z (Ag Z (λh1=>?_) (λh1=>?_))
 ·refine Zc 5 Z ?_;obtain ⟨e,n⟩:∃e,vs[i]?=some e:=⟨_,Ad7 U⟩;have h:=(H.rv 2 (·.rd)).at (AT n 0 _ Z)
  have a2:=liv_len (vs.take i);have a0:=List.length_take_le i vs;refine Zc 1 Z (Ab Z (Aj Z (z:=6) (j:=i) (r:=i*6) J Z Z Z U h U) (Ab Z (Bq Z Z (vs:=e.cells) J (by simp[Vl.cells]) (Ay (λk u hk=>(H.rv 2 (·.rd)).at (AT n k u hk)))) (Za 0 [] H Z ?_)));intro b1 w H;refine Z4 10 [0,1,0,0,0] H Z ?_;intro w H;refine Ag Z (λh2=>?_) (λh2=>?_)
  ·refine Z2 3 [0,6] H Z (AQ Z (AM H Z J Cg Z (by decide) (by decide) (out:=[I e.id,I e.st,I e.sz,I e.q,I e.r,I e.mp]) J) ?_);rintro _ w ⟨b2,rfl,H⟩;replace H:=H.l6;refine AQ Z (AY 2 H Z Z J Cg Z Z (H.rv 0 (·.rd U U O Z)) (by simp[Value.oneCell']) U) ?_;rintro v3 w c;have c:Sep z (blk b2 [I e.id,I e.st,I e.sz,I e.q,I e.r,I e.mp] 76::blk b1 [I e.id,I e.st,I e.sz,I e.q,I e.r,I e.mp] 76::grow 76 6 v3 ((C9 (vs.take i)).length+1) (Bb (C9 (vs.take i))++[I e.id,I e.st,I e.sz,I e.q,I e.r,I e.mp])::blk l [Y pp,I nx,.slice m vs.length g,o] 100::grow 76 6 (.slice m vs.length g) vs.length (Bb vs)::Cx o sk::R) w:=c
   have y:(Bb (C9 (vs.take i))++[I e.id,I e.st,I e.sz,I e.q,I e.r,I e.mp]:List Value)=Bb (C9 (vs.take i)++[e]):=by rw[JD];rfl
   rw[y] at c;have H:=c.l6;refine Z1 8 [] [(i:Int)+1] Z U ?_;replace H:=H.f1.d.d;refine gf ?_;intro _ f;refine ⟨⟨i+1,v3⟩,f.cz,⟨(by rw[O8 n,if_pos (by assumption),Ad9];exact H),?_⟩,?_⟩
   ·show i+1<=vs.length;omega
   (dsimp only;omega)
  refine Z1 7 [] [(i:Int)+1] Z U ?_;replace H:=H.d;refine gf ?_;intro _ f;refine ⟨⟨i+1,u⟩,f.cz,⟨(by rw[O8 n,if_neg (by assumption),AeQ];exact H),?_⟩,?_⟩
  ·show i+1<=vs.length;omega
  (dsimp only;omega)
 refine Zc 2 Z (gx (Zc 3 Z ?_));obtain rfl:i=vs.length:=by omega
 rw[Ae2] at H;rw[Ae2] at su;refine Zc 2 Z (Aq Z (call72 _) (Aae (C9 vs) _ (by have:=liv_len vs;omega)) H ?_);rintro _ w _ ⟨Y_,⟨t,p⟩,rfl,rfl⟩ H;refine Zc 9 Z (Zr Z ?_);exact ⟨_,⟨Y_,⟨t,p⟩,Z⟩,((H.pick 4 [1,2,3,0] Z).toVo).pick 2 [1,0] Z⟩
def Wv.cells(x:Wv):List Value:=[.int .i64 x.id,.int .i64 x.sz,.int .i64 x.q,x.u]
def Bt(W:List Wv):List Value:=W.flatMap Wv.cells
theorem HW(A B:List Wv):Bt (A++B)=Bt A++Bt B:=AfV
theorem Aaf(W:List Wv):(Bt W).length=W.length*4:=by
 induction W with
 | nil=>rfl
 | cons x t ih=>simp only[Bt,AeB,Ad9,Aeb] at ih ⊢;rw[ih];simp[Wv.cells];omega
theorem BJ:∀{W:List Wv} {j:Nat} {x:Wv},W[j]?=some x->∀k u,(Wv.cells x)[k]?=some u->(Bt W)[j*4+k]?=some u
 | y::t,0,x,h,k,u,hk=>by
  simp at h;subst h;have hl:k<(Wv.cells y).length:=(Ad6.1 hk).1;show (Wv.cells y++Bt t)[0*4+k]?=_;rw[Nat.zero_mul,AfH,Aeg hl];exact hk
 | y::t,j+1,x,h,k,u,hk=>by
  have ih:=BJ (W:=t) (j:=j) (x:=x) (by simpa using h) k u hk;show (Wv.cells y++Bt t)[(j+1)*4+k]?=_;rw[Aen (by simp[Wv.cells];omega)];rw[<-ih];congr 1;simp[Wv.cells];omega
def wdA(pw:Nat)(wn:Int)(W:List Wv):Af:=λh=>∃u:Value,True/\seps [blk pw [u,.int .i64 wn] 67,grow 74 4 u W.length (Bt W)] h
theorem Sep.wd{z w:World}{Γ:List Af}{b:Nat}{a:Int}{W:List Wv}(H:Sep z (wdA b a W::Γ) w):∃u:Value,Sep z (YtnifkcmmanmbbaaGreatDoor.blk b [u,I a] 67::YtnifkcmmanmbbaaGreatDoor.grow 74 4 u W.length (Bt W)::Γ) w:=by
 obtain ⟨u,_,H⟩:=H.into (p:=λ_:Value=>True) (As:=λu=>[YtnifkcmmanmbbaaGreatDoor.blk b [u,I a] 67,YtnifkcmmanmbbaaGreatDoor.grow 74 4 u W.length (Bt W)]) (λ_ q=>q);exact ⟨u,H⟩
theorem Sep.toWd{z w:World}{Γ:List Af}{b:Nat}{a:Int}{W:List Wv}{u:Value}(H:Sep z (YtnifkcmmanmbbaaGreatDoor.blk b [u,I a] 67::YtnifkcmmanmbbaaGreatDoor.grow 74 4 u W.length (Bt W)::Γ) w):Sep z (wdA b a W::Γ) w:=H.made 2 (λh q=>⟨u,trivial,q⟩)
theorem HX(d:Nat)(f:Int)(W:List Wv)(id:Int)(a1:W.length<=64):Cn prog 65 [Y d,I id] [wdA d f W] (λv Γ=>(∃(j:Nat) (x:Wv),(W[j]?=some x/\x.id=id)/\v=I (j:Int)/\Γ=[wdA d f W])\/((∀x∈W,x.id≠id)/\v=I (-1)/\Γ=[wdA d f W])):=by
 intro z R w H;replace H:=H.l1;obtain ⟨uw,H⟩:=H.wd;replace H:=H.l2;have m:=H.sy 1 (·.slc);obtain ⟨o,p,rfl⟩:=m;have a0:=H.sy 1 (·.rd.slcapZ);refine Ae func65 Z ntmps65 Z (Zc 12 Z ?_);refine AD (σ:=Nat) (λi=>[(5,I (i:Int)),(0,Y d),(1,I id)])
   (λi w=>Sep z (blk d [.slice o W.length p,I f] 67::grow 74 4 (.slice o W.length p) W.length (Bt W)::R) w/\(i<=W.length/\∀(j:Nat) (x:Wv),j<i->W[j]?=some x->x.id≠id)) (λi=>W.length-i) 0
   fr_z ⟨H,⟨AeJ _,λj e h=>by omega⟩⟩ ?_
 clear H;rintro i w ⟨y,t⟩;have H:=y.l2;obtain ⟨hi,c⟩:=t;refine Z2 12 [0,0,0,0] H Z (Ag Z (λs=>?_) (λs=>?_))
 ·refine Zc 5 Z ?_;obtain ⟨x,l⟩:∃x,W[i]?=some x:=⟨_,Ad7 U⟩;have a:=(H.rv 1 (·.rd)).at (BJ l 0 _ Z)
  refine Z2 6 [0,0,0] H Z (Ab Z (Aj Z (z:=4) (j:=i) (r:=i*4) J Z Z Z U a U) (Ab Z (Bj Z (k:=0) (r:=i*4) J Z a Z) (Ab Z (Ax Z Z J (Ay a)) (Z0 4 [0] Z (Ag Z (λh2=>?_) (λh2=>?_))))))
  ·refine Zc 7 Z (Zr Z ?_);exact ⟨_,.inl ⟨i,x,⟨l,by assumption⟩,Z,Z⟩,(H.pick 2 [0,1] Z).toWd⟩
  refine Z1 8 [] [(i:Int)+1] Z U (gf ?_);intro _ u;refine ⟨(i+1),u.cz,⟨H,?_⟩,?_⟩
  ·refine ⟨by omega,λj n g b=>?_⟩;rcases Ael j i with q|q
   ·exact c j n q b
   obtain rfl:j=i:=by omega
   rw[l] at b;cases b;omega
  omega
 refine Zc 2 Z (gx (Zc 8 Z (Zr Z ?_)));exact ⟨_,.inr ⟨λn b=>(by obtain ⟨j,g⟩:=AeW.1 b;exact c j n (by have:=(Ad6.1 g).1;omega) g),Z,Z⟩,(H.pick 2 [0,1] Z).toWd⟩
theorem Md(g:Nat)(l:Int)(W:List Wv)(id at_ a:Int)(snd:Bool)(m:W.length<=64)(h:∀x∈W,1<=x.sz/\x.sz<=1048576)(a0: -9223372036854775808<=at_/\at_<=9223372036854775807)(t: -9223372036854775808<=a/\a<=9223372036854775807):Cn prog 57 [Y g,I id,I at_,I a,.bool snd] [wdA g l W] (λv Γ=>((∀x∈W,x.id≠id)/\v=.tuple #[I 0,I 31]/\Γ=[wdA g l W])\/(∃(j:Nat) (x:Wv),(W[j]?=some x/\x.id=id)/\v=.tuple #[I (if Bm x.sz snd at_ a=0 then (j:Int) else 0),I (Bm x.sz snd at_ a)]/\Γ=[wdA g l W])):=by
 intro z R w H;replace H:=H.l1;refine Ae func57 Z ntmps57 Z (Zc 10 Z (Aq Z (call65 _) (HX _ _ _ id m) H ?_));rintro _ w _ (⟨j,x,⟨e,b⟩,rfl,rfl⟩|⟨i,rfl,rfl⟩) s
 ·have H:=s.l1;refine Z0 10 [0] Z (Ag Z (λh1=>U) (λh1=>?_))
  refine Zc 8 Z (FN 20 Z (λh2=>?_) (λh2=>?_))
  ·refine Zc 17 Z (Zr Z ?_);have d:Bm x.sz snd at_ a=1:=by unfold Bm;rw[if_neg (λq=>by first|omega|(obtain ⟨o,_⟩:=q;simp_all))]
   exact ⟨_,.inr ⟨j,x,⟨e,b⟩,by rw[d];rfl,Z⟩,H.pick 1 [0] Z⟩
  refine Z0 4 [0] Z (Al 24 Z (λh3=>?_) (λh3=>?_))
  ·refine Zc 13 Z (Zr Z ?_);have d:Bm x.sz snd at_ a=1:=by unfold Bm;rw[if_neg (λq=>by first|omega|(obtain ⟨o,_⟩:=q;simp_all))]
   exact ⟨_,.inr ⟨j,x,⟨e,b⟩,by rw[d];rfl,Z⟩,H.pick 1 [0] Z⟩
  refine Z0 5 [0] Z (Ag Z (λh4=>?_) (λh4=>?_))
  ·refine Zc 7 Z (Zr Z ?_);have d:Bm x.sz snd at_ a=1:=by unfold Bm;rw[if_neg (λq=>by first|omega|(obtain ⟨o,_⟩:=q;simp_all))]
   exact ⟨_,.inr ⟨j,x,⟨e,b⟩,by rw[d];rfl,Z⟩,H.pick 1 [0] Z⟩
  refine Zc 4 Z ?_;obtain ⟨uw,H⟩:=H.wd;replace H:=H.l2;have n:=H.sy 1 (·.slc);obtain ⟨aw,cw,rfl⟩:=n;have y:=(Ad6.1 e).1;have c:=(H.rv 1 (·.rd)).at (BJ e 0 _ Z);have f:=(H.rv 1 (·.rd)).at (BJ e 1 _ Z);have p:=h x (Ad8 e);refine Z0 4 [0] Z (Al 30 Z (λh5=>?_) (λh5=>?_))
  ·refine Zc 35 Z (Zr Z ?_);have d:Bm x.sz snd at_ a=34:=by unfold Bm;rw[if_pos ⟨by first|assumption|simp_all,by omega,by omega⟩,if_neg U]
   exact ⟨_,.inr ⟨j,x,⟨e,b⟩,by rw[d];rfl,Z⟩,(H.pick 2 [0,1] Z).toWd⟩
  refine Z2 6 [0,0,0] H Z (Ab Z (Aj Z (z:=4) (j:=j) (r:=j*4) J Z Z Z U c U) (Ab Z (Bj Z (k:=1) (r:=j*4+1) J Z c Z) (Ab Z (Ax Z Z J (Ay f)) (Z0 3 [0] Z (Al 42 Z (λh6=>?_) (λh6=>?_))))))
  ·refine Zc 23 Z (Zr Z ?_);have d:Bm x.sz snd at_ a=34:=by unfold Bm;rw[if_pos ⟨by first|assumption|simp_all,by omega,by omega⟩,if_neg U]
   exact ⟨_,.inr ⟨j,x,⟨e,b⟩,by rw[d];rfl,Z⟩,(H.pick 2 [0,1] Z).toWd⟩
  refine Z2 6 [0,0,0] H Z (Ab Z (Aj Z (z:=4) (j:=j) (r:=j*4) J Z Z Z U c U) (Ab Z (Bj Z (k:=1) (r:=j*4+1) J Z c Z) (Ab Z (Ax Z Z J (Ay f)) (Z1 6 [0] [x.sz-at_] Z U (Ag Z (λh7=>?_) (λh7=>?_))))))
  ·refine Zc 7 Z (Zr Z ?_);have d:Bm x.sz snd at_ a=34:=by unfold Bm;rw[if_pos ⟨by first|assumption|simp_all,by omega,by omega⟩,if_neg U]
   exact ⟨_,.inr ⟨j,x,⟨e,b⟩,by rw[d];rfl,Z⟩,(H.pick 2 [0,1] Z).toWd⟩
  refine Zc 10 Z (Zr Z ?_);have d:Bm x.sz snd at_ a=0:=by unfold Bm;rw[if_pos ⟨by first|assumption|simp_all,by omega,by omega⟩,if_pos U]
  exact ⟨_,.inr ⟨j,x,⟨e,b⟩,by rw[d];rfl,Z⟩,(H.pick 2 [0,1] Z).toWd⟩
 have H:=s.l1;refine Z0 18 [3] Z (Zr Z ?_);exact ⟨_,.inl ⟨i,Z,Z⟩,H.pick 1 [0] Z⟩
set_option maxHeartbeats 6000000 in
theorem Aag (p:Nat) (m:Int) (W:List Wv) (b5:W.length<=64) (A:Af) (a7:∀x∈W,InB A x.u x.V) (a0:∀x∈W,x.V.length<=1048576):Cn prog 16 [Y p] [wdA p m W,A] (λv Γ=>∃(b:Nat) (W2:List Wv) (A2:Af),(W2.map Wv.core=W.map Wv.core/\Ink A A2/\∀x∈W2,InB A2 x.u x.V)/\v=Y b/\Γ=[wdA p m W,wdA b m W2,A2]):=by
 intro z R w H;replace H:=H.l2;refine Ae func16 Z ntmps16 Z (Zc 6 Z ?_);obtain ⟨uw,H⟩:=H.wd;replace H:=H.l3;have a9:=H.sy 1 (·.slc);obtain ⟨aw,cw,rfl⟩:=a9;have b3:=H.sy 1 (·.rd.slcapZ);refine Za 6 [1,0,0] H Z ?_;intro b1 w H;refine Zc 5 Z ?_;replace H:=(H.nilg 74 4).l5;refine Zc 5 Z ?_;refine AD (σ:=Nat×List Wv×Value×Af) (λ⟨i,W2,s,AA⟩=>[(4,I (i:Int)),(0,Y p),(2,.pointer none),(3,Y b1)])
   (λ⟨i,W2,s,AA⟩ w=>Sep z (grow 74 4 s W2.length (Bt W2)::blk b1 [s,I m] 67::blk p [.slice aw W.length cw,I m] 67::grow 74 4 (.slice aw W.length cw) W.length (Bt W)::AA::R) w/\(i<=W.length/\W2.map Wv.core=(W.take i).map Wv.core/\Ink A AA/\∀x∈W2,InB AA x.u x.V)) (λ⟨i,W2,s,AA⟩=>W.length-i) ⟨0,[],.slice none 0 0,A⟩
   fr_z ⟨(by simpa [Bt] using H),⟨AeJ _,by simp,Ink.refl A,by simp⟩⟩ ?_
 clear H;rintro ⟨i,W2,s,AA⟩ w ⟨g,hI⟩;dsimp only at hI g ⊢;have H:=g.l5;obtain ⟨hi,n,hK,a3⟩:=hI;have b6:W2.length=i:=by have:=congrArg List.length n;simp only[Aea,Aes] at this;omega
 have a1:∀x∈W,InB AA x.u x.V:=λx l=>hK _ _ (a7 x l);refine Z2 12 [0,2,0,0] H Z (Ag Z (λh1=>?_) (λh1=>?_))
 ·refine Zc 5 Z ?_;obtain ⟨⟨f,xs,e,xu,a⟩,l⟩:∃x:Wv,W[i]?=some x:=⟨_,Ad7 U⟩;have a4:InB AA xu a:=a1 _ (Ad8 l)
  have a5:=H.sy 4 (λq=>(a4 _ q).slc);have o:=(H.rv 3 (·.rd)).at (BJ l 0 _ Z);refine Z2 6 [0,2,0] H Z (Ab Z (Aj Z (z:=4) (j:=i) (r:=i*4) J Z Z Z U o U) (Ab Z (Bq Z Z (vs:=[I f,I xs,I e,xu]) J O (Ay (λk u hk=>(H.rv 3 (·.rd)).at (BJ l k u hk)))) (Za 0 [] H Z ?_)));intro b2 w H;refine Az Z Z (Ak 0 H Z Z Z Z (vs:=[I f,I xs,I e,xu]) Z (Ad Z (Ad Z (Ad Z (Ad a5.one Aw)))) J O (out:=[I f,I xs,I e,xu]) Z) ?_;rintro w H;replace H:=H.l6;refine Zc 8 Z ?_;have b0:a.length<=1048576:=a0 _ (Ad8 l);refine Z2 4 [3,0,0] H Z ?_;replace H:=(H.nilg 79 2).l7;refine AQ Z (AY 0 H Z Z J A0 Z Z (H.rv 6 (a4 _)) (Gw _) U) ?_;rintro c w g;have a8:([]++BW a:List Value)=BW a:=by simp
  rw[a8] at g;rw[show (0+a.length:Nat)=a.length from by omega] at g;have H:=g.l7;have t:=H.sy 0 (·.slc);refine Z0 7 [3] Z (Az Z Z (Ns 1 H Z Z Z Z t.cells t.one J) ?_);rintro w H;replace H:=H.l7;refine Zc 2 Z ?_;replace H:=H.f1.f3;refine Bl (Sep z (blk b1 [s,I m] 67::blk b2 [I f,I xs,I e,c] 74::R)) 11 Z J (A5 H λw g=>?_);have H:=g.l7;refine Bw [0,1,2,3,4] [0,0] J (λ_ l=>(AS (l.blk 0 Z) AN)) (by exact H.pick 7 [0,1] Z) Z J Z Z (BS 5 J Z Z J J J Z Z Z (BX Z Z (vs:=[I f,I xs,I e,c]) J (λ_ l=>(l.blk 1 Z).part 0 4 _ Z)) (H.pick 7 [0,1] Z) (AF [6] J O (An (Ca Z Z Z Z (AM H Z J BP Z (by decide) (by decide) (out:=[I f,I xs,I e,c]) J) ?_))));rintro _ w ⟨b4,rfl,H⟩;replace H:=H.l8;refine Au (λ_=>(H.pick 8 [1,2] Z)) (AF [7] J O (An (Ca Z Z Z Z (AY 4 H Z Z J BP Z Z (H.rv 0 (·.rd U U O Z)) (Ad Z (Ad Z (Ad Z (Ad t.one Aw)))) U) ?_)));rintro v5 w g;have g:Sep z (blk b4 [I f,I xs,I e,c] 74::blk b1 [s,I m] 67::blk b2 [I f,I xs,I e,c] 74::grow 79 2 c a.length (BW a)::grow 74 4 v5 (W2.length+1) (Bt W2++[I f,I xs,I e,c])::blk p [.slice aw W.length cw,I m] 67::grow 74 4 (.slice aw W.length cw) W.length (Bt W)::AA::R) w:=g;have a6:(Bt W2++[I f,I xs,I e,c]:List Value)=Bt (W2++[(⟨f,xs,e,c,a⟩:Wv)]):=(by rw[HW];rfl);rw[a6] at g;rw[show (W2.length+1:Nat)=(W2++[(⟨f,xs,e,c,a⟩:Wv)]).length from by simp] at g;have H:=g.l8;have a2:=H.sy 4 (·.slc);refine Au (λ_=>(H.pick 8 [1,2] Z)) (Bw [8,9] [0] J (λ_ _=>AN) (by exact H.pick 8 [1,2] Z) Z J Z Z (AF [10] J O (An (Bg Z Z Z (Lk 1 H Z Z Z Z a2.cells a2.one J) ?_))));rintro w H;replace H:=H.l8;refine Au (λh=>absurd Z h) (Bn J (gn (Zc 2 Z ?_)));have g:=(H.pick 8 [3,7,0,1,2,4,5,6] Z).made 2 (A:=both (grow 79 2 c a.length (BW a)) AA) (λh q=>q);clear H;have H:Sep z (both (grow 79 2 c a.length (BW a)) AA::blk b4 [I f,I xs,I e,c] 74::blk b1 [v5,I m] 67::blk b2 [I f,I xs,I e,c] 74::grow 74 4 v5 ((W2++[(⟨f,xs,e,c,a⟩:Wv)]).length) (Bt (W2++[(⟨f,xs,e,c,a⟩:Wv)]))::blk p [.slice aw W.length cw,I m] 67::grow 74 4 (.slice aw W.length cw) W.length (Bt W)::R) w:=g;clear g;refine Z1 5 [] [(i:Int)+1] Z U ?_;replace H:=H.f3.d.f1.d.f4.f4.f3.f4;refine gf ?_;intro _ hF;refine ⟨⟨i+1,W2++[⟨f,xs,e,c,a⟩],v5,both (grow 79 2 c a.length (BW a)) AA⟩,hF.cz,⟨H,?_⟩,?_⟩
  ·exact ⟨by show i+1<=W.length;omega,by rw[AeD,n,AeH,l];simp[Wv.core],hK.trans (Ink.both _ AA),λy hy=>by rcases Aek.1 hy with q|q;exact InB.old (a3 y q);simp at q;subst q;exact InB.grow⟩
  (dsimp only;omega)
 refine Zc 2 Z (gx (Zc 9 Z (Zr Z ?_)));obtain rfl:i=W.length:=by omega
 rw[Ae2] at n;have H9:=(H.pick 5 [1,0,2,3,4] Z).toWd;exact ⟨_,⟨b1,W2,AA,⟨n,hK,a3⟩,Z,Z⟩,((H9.pick 4 [1,2,0,3] Z).toWd)⟩
theorem InB.nilB{A:Af}:InB A (.slice none 0 0) []:=λh _=>rdH.nil 2 h
theorem QX{W:List Wv}(h:∀x∈W,x.u.oneCell'=true):∀c∈Bt W,c.oneCell'=true:=λc a=>by
 obtain ⟨x,b,a⟩:=Af9.1 a;simp only[Wv.cells,Aei,List.not_mem_nil,or_false] at a;rcases a with rfl|rfl|rfl|rfl
 ·rfl
 ·rfl
 ·rfl
 exact h x b
theorem wdC_drop:∀(L:List Wv) (p:Nat),(Bt L).drop (p*4)=Bt (L.drop p)
 | L,0=>by simp
 | [],p+1=>by simp[Bt]
 | x::L,p+1=>by
  have e1:Bt (x::L)=I x.id::I x.sz::I x.q::x.u::Bt L:=rfl;rw[e1,show (p+1)*4=p*4+4 by omega];simp only[AeY];exact wdC_drop L p
theorem O9:∀(L:List Wv) (p:Nat),(Bt L).take (p*4)=Bt (L.take p)
 | L,0=>by simp[Bt]
 | [],p+1=>by simp[Bt]
 | x::L,p+1=>by
  have e1:Bt (x::L)=I x.id::I x.sz::I x.q::x.u::Bt L:=rfl;rw[e1,show (p+1)*4=p*4+4 by omega];simp only[Ae0,O9 L p];rfl
theorem rdH.cutW{a:Option Addr}{n c p m:Nat}{L:List Wv}{h:Hp}(r:rdH 4 (.slice a n c) n (Bt L) h)(b:p+m<=n)(d:n<=c):rdH 4 (.slice (YtnifkcmmanmbbaaGreatDoor.cutZ 4 a c p) m (c-p)) m (Bt ((L.drop p).take m)) h:=by
 have:=r.cutZ U b d;rwa[wdC_drop,O9] at this
set_option maxHeartbeats 4000000 in
theorem QY (f:Nat) (a:Int) (W:List Wv) (a2:0<=a/\a<=1073741824) (a0:W.length<=64) (A:Af) (xi xs e:Int) (s:Value) (b:List Bk) (j:InB A s b) (t:b.length<=1048576):Cn prog 51 [Y f,.agg #[I xi,I xs,I e,s]] [wdA f a W,A] (λv Γ=>(8<=W.length/\v=.tuple #[I 0,I 32]/\Γ=[wdA f a W,A])\/((W.length<8/\1073741824<=a)/\v=.tuple #[I 0,I 15]/\Γ=[wdA f a W,A])\/((W.length<8/\a<1073741824)/\∃(u:Value) (A2:Af),(Ink A A2/\InB A2 u b)/\v=.tuple #[I a,I 0]/\Γ=[wdA f (a+1) (W++[⟨a,xs,e,u,b⟩]),A2])):=by
 intro z R w H;replace H:=H.l2;obtain ⟨uw,H⟩:=H.wd;replace H:=H.l3;have r:=H.sy 1 (·.slc);obtain ⟨k,l,rfl⟩:=r;refine Ae func51 Z ntmps51 Z (Za 2 [] H Z ?_);intro o w H;refine Z2 15 [0,1,0,0] H Z (Ag Z (λh1=>?_) (λh1=>?_))
 ·refine Zc 7 Z (Zr Z ?_);exact ⟨_,.inl ⟨by omega,Z,Z⟩,(H.pick 4 [1,2,3] Z).toWd⟩
 refine Z2 12 [1,1,0,0] H Z (Ag Z (λh2=>?_) (λh2=>?_))
 ·refine Zc 7 Z (Zr Z ?_);exact ⟨_,.inr (.inl ⟨⟨by omega,by omega⟩,Z,Z⟩),(H.pick 4 [1,2,3] Z).toWd⟩
 refine Z4 22 [1,1,0,0,0,3,0,0] H Z ?_;intro w H;replace H:=(H.nilg 79 2).l5;refine AQ Z (AY 0 H Z Z J A0 Z Z (H.rv 4 (j _)) (Gw _) U) ?_;rintro d w c;have p:([]++BW b:List Value)=BW b:=by simp
 rw[p] at c;rw[show (0+b.length:Nat)=b.length from by omega] at c;have H:=c.l5;have g:=H.sy 0 (·.slc);refine Z0 7 [3] Z (Az Z Z (Ns 1 H Z Z Z Z g.cells g.one J) ?_);rintro w H;replace H:=H.l5;refine Zc 3 Z ?_;have c:=(H.pick 5 [0,4,1,2,3] Z).made 2 (A:=both (grow 79 2 d b.length (BW b)) A) (λh q=>q);clear H;have H:Sep z (both (grow 79 2 d b.length (BW b)) A::blk o [I a,I xs,I e,d] 74::blk f [.slice k W.length l,I a] 67::grow 74 4 (.slice k W.length l) W.length (Bt W)::R) w:=c;clear c;replace H:=H.f1.f2;refine Bl (Sep z (blk f [.slice k W.length l,I a] 67::blk o [I a,I xs,I e,d] 74::R)) 11 Z J (A5 H λw c=>?_);have H:=c.l4;refine Bw [0,1,2,3,4] [0,0] J (λ_ m=>(AS (m.blk 0 Z) AN)) (by exact H.pick 4 [0,1] Z) Z J Z Z (BS 5 J Z Z J J J Z Z Z (BX Z Z (vs:=[I a,I xs,I e,d]) J (λ_ m=>(m.blk 1 Z).part 0 4 _ Z)) (H.pick 4 [0,1] Z) (AF [6] J O (An (Ca Z Z Z Z (AM H Z J BP Z (by decide) (by decide) (out:=[I a,I xs,I e,d]) J) ?_))));rintro _ w ⟨x,rfl,H⟩;replace H:=H.l5;refine Au (λ_=>(H.pick 5 [1,2] Z)) (AF [7] J O (An (Ca Z Z Z Z (AY 4 H Z Z J BP Z Z (H.rv 0 (·.rd U U O Z)) (Ad Z (Ad Z (Ad Z (Ad g.one Aw)))) U) ?_)));rintro v4 w c;have c:Sep z (blk x [I a,I xs,I e,d] 74::blk f [.slice k W.length l,I a] 67::blk o [I a,I xs,I e,d] 74::both (grow 79 2 d b.length (BW b)) A::grow 74 4 v4 (W.length+1) (Bt W++[I a,I xs,I e,d])::R) w:=c;have n:(Bt W++[I a,I xs,I e,d]:List Value)=Bt (W++[(⟨a,xs,e,d,b⟩:Wv)]):=(by rw[HW];rfl);rw[n] at c;rw[show (W.length+1:Nat)=(W++[(⟨a,xs,e,d,b⟩:Wv)]).length from by simp] at c;have H:=c.l5;have i:=H.sy 4 (·.slc);refine Au (λ_=>(H.pick 5 [1,2] Z)) (Bw [8,9] [0] J (λ_ _=>AN) (by exact H.pick 5 [1,2] Z) Z J Z Z (AF [10] J O (An (Bg Z Z Z (Lk 1 H Z Z Z Z i.cells i.one J) ?_))));rintro w H;replace H:=H.l5;refine Au (λh=>absurd Z h) (Bn J (gn (Z5 22 [1,1,0,1,1,0,2,0] [a+1] H Z U ?_)));intro w H;refine Zr Z ?_;exact ⟨_,.inr (.inr ⟨⟨by omega,by omega⟩,_,_,⟨Ink.both _ A,InB.grow⟩,Z,Z⟩),(H.pick 5 [1,4,3] Z).toWd⟩
theorem T7(d:Nat)(c:Int)(W:List Wv)(l:0<=c/\c<=1073741824)(m:W.length<=64)(A:Af)(b a:Int):Cn prog 17 [Y d,I b,I a] [wdA d c W,A] (λv Γ=>(¬((1<=b/\b<=1048576)/\0<=a/\a<=1048576)/\v=.tuple #[I 0,I 1]/\Γ=[wdA d c W,A])\/(((1<=b/\b<=1048576)/\0<=a/\a<=1048576)/\((8<=W.length/\v=.tuple #[I 0,I 32]/\Γ=[wdA d c W,A])\/((W.length<8/\1073741824<=c)/\v=.tuple #[I 0,I 15]/\Γ=[wdA d c W,A])\/((W.length<8/\c<1073741824)/\∃(j:Value) (A2:Af),(Ink A A2/\InB A2 j [])/\v=.tuple #[I c,I 0]/\Γ=[wdA d (c+1) (W++[⟨c,b,a,j,[]⟩]),A2])))):=by
 intro z R w H;replace H:=H.l2;refine Ae func17 Z ntmps17 Z (Z0 12 [0] Z (Al 10 Z (λo=>?_) (λo=>?_)))
 ·refine Zc 21 Z (Zr Z ?_);exact ⟨_,.inl ⟨by omega,Z,Z⟩,H.pick 2 [0,1] Z⟩
 refine Z0 4 [0] Z (Al 14 Z (λq=>?_) (λq=>?_))
 ·refine Zc 17 Z (Zr Z ?_);exact ⟨_,.inl ⟨by omega,Z,Z⟩,H.pick 2 [0,1] Z⟩
 refine Z0 4 [0] Z (Al 18 Z (λp=>?_) (λp=>?_))
 ·refine Zc 13 Z (Zr Z ?_);exact ⟨_,.inl ⟨by omega,Z,Z⟩,H.pick 2 [0,1] Z⟩
 refine Z0 5 [0] Z (Ag Z (λr=>?_) (λr=>?_))
 ·refine Zc 7 Z (Zr Z ?_);exact ⟨_,.inl ⟨by omega,Z,Z⟩,H.pick 2 [0,1] Z⟩
 refine Zc 8 Z (Aq Z (call51 _) (QY d c W l m A _ b a (.slice none 0 0) [] InB.nilB O) H ?_);rintro _ w _ (⟨g,rfl,rfl⟩|⟨⟨f,h⟩,rfl,rfl⟩|⟨⟨i,e⟩,j,A2,n,rfl,rfl⟩) k
 ·have H:=k.l2;refine Zc 7 Z (Zr Z ?_);exact ⟨_,.inr ⟨by omega,.inl ⟨g,Z,Z⟩⟩,H.pick 2 [0,1] Z⟩
 ·have H:=k.l2;refine Zc 7 Z (Zr Z ?_);exact ⟨_,.inr ⟨by omega,.inr (.inl ⟨⟨f,h⟩,Z,Z⟩)⟩,H.pick 2 [0,1] Z⟩
 have H:=k.l2;refine Zc 7 Z (Zr Z ?_);exact ⟨_,.inr ⟨by omega,.inr (.inr ⟨⟨i,e⟩,j,A2,n,Z,Z⟩)⟩,H.pick 2 [0,1] Z⟩
theorem Aah(e:Nat)(a:Int)(W:List Wv)(a3:0<=a/\a<=1073741824)(id:Int)(i:W.length<=64)(A:Af)(a1:∀x∈W,InB A x.u x.V)(h:∀x∈W,x.V.length<=1048576):Cn prog 24 [Y e,I id] [wdA e a W,A] (λv Γ=>((∀x∈W,x.id≠id)/\v=.tuple #[I 0,I 31]/\Γ=[wdA e a W,A])\/(∃(j:Nat) (x:Wv),(W[j]?=some x/\x.id=id)/\((8<=W.length/\v=.tuple #[I 0,I 32]/\Γ=[wdA e a W,A])\/((W.length<8/\1073741824<=a)/\v=.tuple #[I 0,I 15]/\Γ=[wdA e a W,A])\/((W.length<8/\a<1073741824)/\∃(t:Value) (A2:Af),(Ink A A2/\InB A2 t x.V)/\v=.tuple #[I a,I 0]/\Γ=[wdA e (a+1) (W++[⟨a,x.sz,x.q,t,x.V⟩]),A2])))):=by
 intro z R w H;replace H:=H.l2;refine Ae func24 Z ntmps24 Z (Zc 10 Z (Aq Z (call65 _) (HX _ _ _ id i) H ?_));rintro _ w _ (⟨j,x,⟨c,b⟩,rfl,rfl⟩|⟨y,rfl,rfl⟩) f
 ·have H:=f.l2;refine Z0 10 [0] Z (Ag Z (λh1=>U) (λh1=>?_))
  refine Zc 3 Z ?_;obtain ⟨uw,H⟩:=H.wd;replace H:=H.l3;have a4:=H.sy 1 (·.slc);obtain ⟨aw,cw,rfl⟩:=a4;obtain ⟨xi,xs,xq,xu,xV⟩:=x;have p:InB A xu xV:=a1 _ (Ad8 c);have o:xV.length<=1048576:=h _ (Ad8 c);have d:=(H.rv 1 (·.rd)).at (BJ c 0 _ Z);have a8:=(Ad6.1 c).1;refine Z2 7 [0,0,0] H Z (Ab Z (Aj Z (z:=4) (j:=j) (r:=j*4) J Z Z Z U d U) (Ab Z (Bq Z Z (vs:=[I xi,I xs,I xq,xu]) J O (Ay (λk u hk=>(H.rv 1 (·.rd)).at (BJ c k u hk)))) ?_));replace H:=((H.pick 3 [0,1,2] Z).toWd).l2;refine Aq Z (call51 _) (QY e a W a3 i A _ xs xq xu xV p o) H ?_;rintro _ w _ (⟨m,rfl,rfl⟩|⟨⟨l,n⟩,rfl,rfl⟩|⟨⟨s,g⟩,t,A2,a0,rfl,rfl⟩) f
  ·have H:=f.l2;refine Zc 7 Z (Zr Z ?_);exact ⟨_,.inr ⟨j,_,⟨c,b⟩,.inl ⟨m,Z,Z⟩⟩,H.pick 2 [0,1] Z⟩
  ·have H:=f.l2;refine Zc 7 Z (Zr Z ?_);exact ⟨_,.inr ⟨j,_,⟨c,b⟩,.inr (.inl ⟨⟨l,n⟩,Z,Z⟩)⟩,H.pick 2 [0,1] Z⟩
  have H:=f.l2;refine Zc 7 Z (Zr Z ?_);exact ⟨_,.inr ⟨j,_,⟨c,b⟩,.inr (.inr ⟨⟨s,g⟩,t,A2,a0,Z,Z⟩)⟩,H.pick 2 [0,1] Z⟩
 have H:=f.l2;refine Z0 18 [3] Z (Zr Z ?_);exact ⟨_,.inl ⟨y,Z,Z⟩,H.pick 2 [0,1] Z⟩
set_option maxHeartbeats 4000000 in
theorem Acs (d:Nat) (g:Int) (W:List Wv) (id:Int) (n:W.length<=64) (c:∀x∈W,x.u.oneCell'=true):Cn prog 26 [Y d,I id] [wdA d g W] (λv Γ=>((∀x∈W,x.id≠id)/\v=I 31/\Γ=[wdA d g W])\/(∃(j:Nat) (x:Wv),(W[j]?=some x/\x.id=id)/\v=I 0/\Γ=[wdA d g (W.take j++W.drop (j+1))])):=by
 intro z R w H;replace H:=H.l1;refine Ae func26 Z ntmps26 Z (Zc 9 Z (Aq Z (call65 _) (HX _ _ _ id n) H ?_));rintro _ w _ (⟨j,x,⟨s,b⟩,rfl,rfl⟩|⟨i,rfl,rfl⟩) a
 ·have H:=a.l1;refine Z0 10 [0] Z (Ag Z (λh1=>U) (λh1=>?_))
  refine Zc 3 Z ?_;obtain ⟨uw,H⟩:=H.wd;replace H:=H.l2;have m:=H.sy 1 (·.slc);obtain ⟨r,f,rfl⟩:=m;have a1:=H.sy 1 (·.rd.slcapZ);have a0:=(Ad6.1 s).1;refine Z2 12 [0,0,0] H Z (Ab Z (FU (z:=4) (p:=0) (q:=j) (l':=j) (c':=f) Z J Z (.inl ⟨Z,Z⟩) (.inr ⟨_,_,_,Z,Z,Z⟩) U U Z Z) ?_);replace H:=(H.nilg 74 4).l3;refine AQ Z (AY 0 H Z Z J BP Z Z (H.rv 2 (·.rd.cutW U U)) (QX (λy k=>c y (Afo (Afa k)))) U) ?_;rintro v1 w a;have o:([]++Bt ((W.drop 0).take j):List Value)=Bt (W.take j):=by simp
  rw[o] at a;rw[show (0+j:Nat)=j from by omega] at a;have H:=a.l3;refine Z3 12 [0,1,0] [((j+1:Nat):Int)] H Z U (Ab Z (FU (z:=4) (p:=(j+1)) (q:=W.length) (l':=W.length-(j+1)) (c':=f-(j+1)) Z J Z (.inr ⟨_,_,_,Z,Z,U⟩) (.inl ⟨Z,Z⟩) U U Z Z) (AQ Z (AY 0 H Z Z J BP Z Z (H.rv 2 (·.rd.cutW U U)) (QX (λy k=>c y (Afo (Afa k)))) U) ?_));rintro v2 w a;have a:Sep z (grow 74 4 v2 (j+(W.length-(j+1))) (Bt (W.take j)++Bt ((W.drop (j+1)).take (W.length-(j+1))))::blk d [.slice r W.length f,I g] 67::grow 74 4 (.slice r W.length f) W.length (Bt W)::R) w:=a;have h:(Bt (W.take j)++Bt ((W.drop (j+1)).take (W.length-(j+1))):List Value)=Bt (W.take j++W.drop (j+1)):=(by rw[HW,Aee (l:=W.drop (j+1)) (by rw[AeG];omega)]);rw[h] at a;rw[show (j+(W.length-(j+1)):Nat)=(W.take j++W.drop (j+1)).length from by simp only[Ad9,Aes,AeG];omega] at a;have H:=a.l3;have e:=H.sy 0 (·.slc);refine Z0 9 [0] Z (Az Z Z (Lk 1 H Z Z Z Z e.cells e.one J) ?_);rintro w H;replace H:=H.l3;refine Zc 8 Z (Zr Z ?_);exact ⟨_,.inr ⟨j,x,⟨s,b⟩,Z,Z⟩,(H.pick 3 [1,0] Z).toWd⟩
 have H:=a.l1;refine Z0 17 [3] Z (Zr Z ?_);exact ⟨_,.inl ⟨i,Z,Z⟩,H.pick 1 [0] Z⟩
def HY(V:List Bk)(size:Int):Prop:=∃b,V[V.length-1]?=some b/\size<=b.1
theorem HZ{W:List Wv}{i:Nat}{x x2:Wv}(h:W[i]?=some x)(k:Nat)(us:List Value)(e:k+us.length<=4)(d:x.cells.take k++us++x.cells.drop (k+us.length)=x2.cells):(Bt W).take (i*4+k)++us++(Bt W).drop (i*4+k+us.length)=Bt (W.set i x2):=by
 obtain ⟨a,rfl⟩:=Ad6.1 h;have e1:W=W.take i++W[i]::W.drop (i+1):=by rw[<-AeX a,AeI]
 have c:W.set i x2=W.take i++x2::W.drop (i+1):=by rw[Ae5,if_pos a]
 have g:(Bt (W.take i)).length=i*4:=by rw[Aaf,Aes,Aez U]
 have b:Bt W=Bt (W.take i)++(W[i].cells++Bt (W.drop (i+1))):=by
  have:=congrArg Bt e1;rw[HW] at this;exact this.trans (congrArg (Bt (W.take i)++ ·) Z)
 have f:W[i].cells.length=4:=rfl;rw[b,c,HW];rw[show i*4+k=(Bt (W.take i)).length+k by omega,Ahd,show (Bt (W.take i)).length+k+us.length=(Bt (W.take i)).length+(k+us.length) by omega,Ahe,Aeo U,AeO U];have:Bt (x2::W.drop (i+1))=x2.cells++Bt (W.drop (i+1)):=by simp[Bt]
 rw[this,<-d];simp only[Aec]
set_option maxHeartbeats 4000000 in
theorem T8 (o:Nat) (t:Int) (W:List Wv) (id a:Int) (a2:W.length<=64) (A:Af) (a4:∀x∈W,InB A x.u x.V) (s:∀x∈W,x.V.length<=1048576):Cn prog 28 [Y o,I id,I a] [wdA o t W,A] (λv Γ=>((∀x∈W,x.id≠id)/\v=I 31/\Γ=[wdA o t W,A])\/(∃(j:Nat) (x:Wv),(W[j]?=some x/\x.id=id)/\((¬(1<=a/\a<=1048576)/\v=I 1/\Γ=[wdA o t W,A])\/(((1<=a/\a<=1048576)/\HY x.V a)/\v=I 33/\Γ=[wdA o t W,A])\/(((1<=a/\a<=1048576)/\¬HY x.V a)/\v=I 0/\Γ=[wdA o t (W.set j {x with sz:=a}),A])))):=by
 intro z R w H;replace H:=H.l2;refine Ae func28 Z ntmps28 Z (Zc 9 Z (Aq Z (call65 _) (HX _ _ _ id a2) H ?_));rintro _ w _ (⟨j,x,⟨f,e⟩,rfl,rfl⟩|⟨a1,rfl,rfl⟩) H'
 ·have H:=H'.l2;refine Z0 10 [0] Z (Ag Z (λh1=>U) (λh1=>?_))
  refine Z0 8 [0] Z (Al 16 Z (λh2=>?_) (λh2=>?_))
  ·refine Zc 12 Z (Zr Z ?_);exact ⟨_,.inr ⟨j,_,⟨f,e⟩,.inl ⟨by omega,Z,Z⟩⟩,H.pick 2 [0,1] Z⟩
  refine Z0 5 [0] Z (Ag Z (λh3=>?_) (λh3=>?_))
  ·refine Zc 6 Z (Zr Z ?_);exact ⟨_,.inr ⟨j,_,⟨f,e⟩,.inl ⟨by omega,Z,Z⟩⟩,H.pick 2 [0,1] Z⟩
  refine Zc 3 Z ?_;obtain ⟨uw,H⟩:=H.wd;replace H:=H.l3;have a5:=H.sy 1 (·.slc);obtain ⟨aw,cw,rfl⟩:=a5;obtain ⟨n,xs,l,xu,d⟩:=x;have i:InB A xu d:=a4 _ (Ad8 f);have a3:=H.sy 2 (λq=>(i _ q).slc);have a7:d.length<=1048576:=s _ (Ad8 f);have c:=(H.rv 1 (·.rd)).at (BJ f 0 _ Z);have a6:=(H.rv 1 (·.rd)).at (BJ f 1 _ Z);have h:=(H.rv 1 (·.rd)).at (BJ f 3 _ Z);have a9:=(Ad6.1 f).1;refine Z2 6 [0,0,0] H Z (Ab Z (Aj Z (z:=4) (j:=j) (r:=j*4) J Z Z Z U c U) (Ab Z (Bj Z (k:=3) (r:=j*4+3) J Z c Z) (Ab Z (Ax Z Z J (Ay h)) (Zc 5 Z ?_))));obtain ⟨p,m,rfl⟩:=a3;refine Z0 5 [0] Z (Al 31 Z (λh4=>?_) (λh4=>?_))
  ·obtain ⟨b,y⟩:∃b,d[d.length-1]?=some b:=⟨_,Ad7 U⟩;have g:=(H.rv 2 (i _)).at (CN y).1
   refine Z1 4 [] [((d.length-1:Nat):Int)] Z U (Ab Z (Aj Z (z:=2) (j:=(d.length-1)) (r:=(d.length-1)*2) J Z Z U U g U) (Ab Z (Bj Z (k:=0) (r:=(d.length-1)*2) J Z g Z) (Ab Z (Ax Z Z J (Ay g)) (Z0 5 [0] Z (Ag Z (λh5=>?_) (λh5=>?_))))))
   ·have hG:HY d a:=⟨b,y,by omega⟩
    refine Zc 6 Z (Zr Z ?_);exact ⟨_,.inr ⟨j,_,⟨f,e⟩,.inr (.inl ⟨⟨by omega,hG⟩,Z,Z⟩)⟩,(H.pick 3 [0,1,2] Z).toWd⟩
   have hG:¬HY d a:=λ⟨b9,a0,q⟩=>by rw[y] at a0;cases a0;omega
   refine Z2 10 [0,0,0] H Z (Ab Z (Aj Z (z:=4) (j:=j) (r:=j*4) J Z Z Z U c U) (Ab Z (Bj Z (k:=1) (r:=j*4+1) J Z c Z) (Az Z Z (CV 1 H Z Z Z Z (vs:=[I a]) Z (Ad Z Aw) J U (by simp only[Aeb,Aew];omega) (out:=Bt (W.set j ⟨n,a,l,.slice p d.length m,d⟩)) (HZ (x2:=⟨n,a,l,.slice p d.length m,d⟩) f 1 _ O (by simp[Wv.cells]))) ?_)));rintro w H;replace H:=H.l3;refine Zc 8 Z (Zr Z ?_);exact ⟨_,.inr ⟨j,_,⟨f,e⟩,.inr (.inr ⟨⟨by omega,hG⟩,Z,Z⟩)⟩,Sep.toWd (W:=W.set j ⟨n,a,l,.slice p d.length m,d⟩) (by rw[AeP];exact H.pick 3 [0,1,2] Z)⟩
  have hG:¬HY d a:=λ⟨b,y,_⟩=>by have:=(Ad6.1 y).1;omega
  refine Z2 23 [0,0,0] H Z (Ab Z (Aj Z (z:=4) (j:=j) (r:=j*4) J Z Z Z U c U) (Ab Z (Bj Z (k:=1) (r:=j*4+1) J Z c Z) (Az Z Z (CV 1 H Z Z Z Z (vs:=[I a]) Z (Ad Z Aw) J U (by simp only[Aeb,Aew];omega) (out:=Bt (W.set j ⟨n,a,l,.slice p d.length m,d⟩)) (HZ (x2:=⟨n,a,l,.slice p d.length m,d⟩) f 1 _ O (by simp[Wv.cells]))) ?_)));rintro w H;replace H:=H.l3;refine Zc 8 Z (Zr Z ?_);exact ⟨_,.inr ⟨j,_,⟨f,e⟩,.inr (.inr ⟨⟨by omega,hG⟩,Z,Z⟩)⟩,Sep.toWd (W:=W.set j ⟨n,a,l,.slice p d.length m,d⟩) (by rw[AeP];exact H.pick 3 [0,1,2] Z)⟩
 have H:=H'.l2;refine Z0 17 [3] Z (Zr Z ?_);exact ⟨_,.inl ⟨a1,Z,Z⟩,H.pick 2 [0,1] Z⟩
theorem Acu{P:Program}{C:World->Prop}{o:Oper}{n:Nat}{ds:List Deferred}{L:List (Nat×Value)}{x y:Operand}{xt yt:TypeId}{l m:List UInt8}(f:o.op=.binOp .add xt x y yt)(d:ev L x=some (Cj l))(c:ev L y=some (Cj m))(g:l.length+m.length<=9223372036854775807):Ar P C n ds L o (Cj (l++m)):=λa b w _=>by
 simp only[execOp,f,b.ev d,b.ev c,Cj];have e:∀w:World,(Op.stringOp .add ⟨l.toArray⟩ ⟨m.toArray⟩).run P w=.ok (.string ⟨(l++m).toArray⟩) w:=λw=>by
  rw[run_string_add_sum w _ _ (by simp[ByteArray.size];omega),ByteArray.mk_append_mk]
 simp[go_sem,e]
theorem WC(at_:Int)(k:Nat)(V:List Bk):(C8 at_ k V).length<=V.length:=by
 induction k with
 | zero=>exact Aed _
 | succ k ih=>exact Agl (JC _ _) ih
theorem T9{V:List Bk}(at_:Int)(k:Nat)(h:∀j,(B5 j V).length=64):(rdB V at_ k).length=64*k:=by
 induction k with
 | zero=>rfl
 | succ k ih=>simp only[rdB,Ad9,ih,h];omega
set_option maxHeartbeats 6000000 in
theorem WD (p:Nat) (wn:Int) (W:List Wv) (id at_ d:Int) (a3:W.length<=64) (A:Af) (a8:∀x∈W,InB A x.u x.V) (a0:∀x∈W,x.V.length<=1048576) (j:Nat) (x:Wv) (o:W[j]?=some x) (i:x.id=id) (hu:∀(k:Nat) (y:Wv),W[k]?=some y->y.id=x.id->k=j) (b7:0<=at_/\at_<=1073741824) (hd:0<=d/\d<=64):Cn prog 64 [Y p,I id,I at_,I d] [wdA p wn W,A] (λv Γ=>∃(k:Nat) (b:Value) (A2:Af),((k:Int)=d/\Ink A A2/\InB A2 b (C8 at_ k x.V))/\v=.tuple #[]/\Γ=[wdA p wn (W.set j ⟨x.id,x.sz,x.q,b,C8 at_ k x.V⟩),A2]):=by
 intro z R w H;replace H:=H.l2;refine Ae func64 Z ntmps64 Z (Zc 4 Z (Aq Z (call65 _) (HX _ _ _ id a3) H ?_));rintro _ w _ (⟨j9,x9,⟨a9,s⟩,rfl,rfl⟩|⟨a2,rfl,rfl⟩) g
 ·have H:=g.l2;obtain rfl:j=j9:=(hu j9 x9 a9 (s.trans i.symm)).symm;refine Zc 4 Z ?_;obtain ⟨uw,H⟩:=H.wd;replace H:=H.l3;have b0:=H.sy 1 (·.slc)
  obtain ⟨t,cw,rfl⟩:=b0;obtain ⟨e,xs,c,xu,a⟩:=x;have b1:InB A xu a:=a8 _ (Ad8 o);have b3:a.length<=1048576:=a0 _ (Ad8 o);have a7:=(Ad6.1 o).1;have a6:W.set j ⟨e,xs,c,xu,C8 at_ 0 a⟩=W:=by obtain ⟨hl,e9⟩:=Ad6.1 o;show W.set j ⟨e,xs,c,xu,a⟩=W;rw[<-e9];exact Age hl
  refine Zc 5 Z ?_;refine AD (σ:=Nat×Value×Af) (λ⟨k,b,AA⟩=>[(9,I (k:Int)),(0,Y p),(2,I at_),(3,I d),(8,I (j:Int))])
    (λ⟨k,b,AA⟩ w=>Sep z (blk p [.slice t W.length cw,I wn] 67::grow 74 4 (.slice t W.length cw) W.length (Bt (W.set j ⟨e,xs,c,b,C8 at_ k a⟩))::AA::R) w/\((k:Int)<=d/\Ink A AA/\InB AA b (C8 at_ k a))) (λ⟨k,b,AA⟩=>d.toNat-k) ⟨0,xu,A⟩
    fr_z ⟨(by rw[a6];exact H),⟨by show ((0:Nat):Int)<=d;omega,Ink.refl A,b1⟩⟩ ?_
  clear H;rintro ⟨k,b,AA⟩ w ⟨g,hI⟩;dsimp only at hI g ⊢;have H:=g.l3;obtain ⟨b2,hK,n⟩:=hI;refine Z0 6 [0] Z (Al 15 Z (λh1=>?_) (λh1=>?_))
  ·refine Z0 6 [0] Z (Ag Z (λh2=>?_) (λh2=>?_))
   ·refine Zc 4 Z ?_;have m:(W.set j ⟨e,xs,c,b,C8 at_ k a⟩)[j]?=some ⟨e,xs,c,b,C8 at_ k a⟩:=Afq a7
    have f:=(H.rv 1 (·.rd)).at (BJ m 0 _ Z);have b5:=WC at_ k a;refine Bl (Sep z (blk p [.slice t W.length cw,I wn] 67::grow 74 4 (.slice t W.length cw) W.length (Bt (W.set j ⟨e,xs,c,b,C8 at_ k a⟩))::R)) 18 Z J (A5 H λw g=>?_);have H:=g.l3;refine Bw [0,1,2,3,4,5,6,7,8,9] [0,0,0,0] J (λ_ o=>(AS (o.blk 0 Z) AN)) (by exact H.pick 3 [0,1] Z) Z J Z Z (BS 10 J Z Z J J J Z Z Z (Aj Z (z:=4) (j:=j) (r:=j*4) J Z Z Z U f U) (H.pick 3 [0,1] Z) (BS 11 J Z Z J J J Z Z Z (Bq Z Z (vs:=[I e,I xs,I c,b]) J O (λ_ a4=>(λk' u hk=>(a4.rv 1 (·.rd)).at (BJ m k' u hk)))) (H.pick 3 [0,1] Z) (Bw [12,13] [] J (λ_ _=>AN) (by exact H.pick 3 [0,1] Z) Z J Z Z (BS 14 J Z Z J J J Z Z Z (CZ Z Z Z (r:=at_+(k:Int)) U U) (H.pick 3 [0,1] Z) (AF [15] J O (An (Bo Z Z Z Z Z Z (λw=>call113 _ w) (QL _ _ _ (at_+(k:Int)) _ _ AA n U) H.f2 Z ?_)))))));rintro _ w _ ⟨l,rfl,rfl⟩ H;replace H:=H.l4;have a1:=H.sy 0 (·.rd.slc);refine Au (λ_=>(H.pick 4 [2,3] Z)) (BS 16 J Z Z J J J Z Z Z (Aj Z (z:=4) (j:=j) (r:=j*4) J Z Z Z U f U) (H.pick 4 [2,3] Z) (AF [17] J O (An (Bg Z Z Z (CV 3 H Z Z Z Z (vs:=[I e,I xs,I c,l]) Z (Ad Z (Ad Z (Ad Z (Ad a1.one Aw)))) J U (by simp only[Aeb,Aew];omega) (out:=Bt ((W.set j ⟨e,xs,c,b,C8 at_ k a⟩).set j ⟨e,xs,c,l,C8 at_ (k+1) a⟩)) (HZ (x2:=⟨e,xs,c,l,C8 at_ (k+1) a⟩) m 0 _ O (by simp[Wv.cells]))) ?_))));rintro w H;replace H:=H.l4;refine Au (λh=>absurd Z h) (Bn J (gn (Zc 2 Z ?_)));rw[AgN] at H;have g:=(H.pick 4 [0,1,2,3] Z).made 2 (A:=both (grow 79 2 l ((C8 at_ (k+1) a).length) (BW (C8 at_ (k+1) a))) AA) (λh q=>q);clear H;have H:Sep z (both (grow 79 2 l ((C8 at_ (k+1) a).length) (BW (C8 at_ (k+1) a))) AA::blk p [.slice t W.length cw,I wn] 67::grow 74 4 (.slice t W.length cw) W.length (Bt (W.set j ⟨e,xs,c,l,C8 at_ (k+1) a⟩))::R) w:=g;clear g;refine Z1 5 [] [(k:Int)+1] Z U ?_;replace H:=H.f2.f2;refine gf ?_;intro _ hF;refine ⟨⟨k+1,l,both (grow 79 2 l ((C8 at_ (k+1) a).length) (BW (C8 at_ (k+1) a))) AA⟩,hF.cz,⟨H,?_⟩,?_⟩
    ·exact ⟨by show ((k+1:Nat):Int)<=d;omega,hK.trans (Ink.both _ AA),InB.grow⟩
    (dsimp only;omega)
   refine Zc 2 Z (gx (Zc 1 Z (Zf Z ?_)));have a5:(k:Int)=d:=by omega
   exact ⟨_,⟨k,b,AA,⟨a5,hK,n⟩,Z,Z⟩,Sep.toWd (W:=(W.set j ⟨e,xs,c,b,C8 at_ k a⟩)) (by rw[AeP];exact H.pick 3 [0,1,2] Z)⟩
  (exfalso;omega)
 exact absurd i (a2 _ (Ad8 o))
set_option maxHeartbeats 6000000 in
theorem Aai (e:Nat) (h:Int) (W:List Wv) (id at_ a:Int) (a2:W.length<=64) (A:Af) (a4:∀x∈W,InB A x.u x.V) (g:∀x∈W,x.V.length<=1048576) (f:∀x∈W,1<=x.sz/\x.sz<=1048576) (s:∀x∈W,∀j,(B5 j x.V).length=64) (n: -9223372036854775808<=at_/\at_<=9223372036854775807) (a1: -9223372036854775808<=a/\a<=9223372036854775807):Cn prog 21 [Y e,I id,I at_,I a] [wdA e h W,A] (λv Γ=>((∀x∈W,x.id≠id)/\v=.tuple #[Cj [],I 31]/\Γ=[wdA e h W,A])\/(∃(j:Nat) (x:Wv),(W[j]?=some x/\x.id=id)/\((Bm x.sz true at_ a≠0/\v=.tuple #[Cj [],I (Bm x.sz true at_ a)]/\Γ=[wdA e h W,A])\/(Bm x.sz true at_ a=0/\v=.tuple #[Cj (rdB x.V at_ a.toNat),I 0]/\Γ=[wdA e h W,A])))):=by
 intro z R w H;replace H:=H.l2;refine Ae func21 Z ntmps21 Z (Zc 12 Z (Aq Z (call57 _) (Md _ _ _ _ _ _ _ a2 f n a1) H ?_));rintro _ w _ (⟨a0,rfl,rfl⟩|⟨j,x,⟨b,c⟩,rfl,rfl⟩) y
 ·have H:=y.l2;refine Z0 23 [3] Z (Zr Z ?_);exact ⟨_,.inl ⟨a0,Z,Z⟩,H.pick 2 [0,1] Z⟩
 have H:=y.l2;refine Z0 14 [0] Z (Ag Z (λh1=>?_) (λh1=>?_))
 ·refine Zc 8 Z (Zr Z ?_);exact ⟨_,.inr ⟨j,x,⟨b,c⟩,.inl ⟨by assumption,Z,Z⟩⟩,H.pick 2 [0,1] Z⟩
 refine Zc 9 Z ?_;have hE:Bm x.sz true at_ a=0:=Ae8 λq=>by contradiction
 refine AC 10 (v:=I (j:Int)) Z (congrArg I (if_pos hE)) ?_;have a6:=FW hE;have b0:=f x (Ad8 b);obtain ⟨uw,H⟩:=H.wd;replace H:=H.l3;have a7:=H.sy 1 (·.slc);obtain ⟨aw,cw,rfl⟩:=a7;obtain ⟨xi,xs,xq,xu,p⟩:=x;have t:InB A xu p:=a4 _ (Ad8 b);have d:=(H.rv 1 (·.rd)).at (BJ b 0 _ Z);have b5:=(Ad6.1 b).1;have i:=s _ (Ad8 b);refine Zc 5 Z ?_;refine AD (σ:=Nat) (λk=>[(13,I (k:Int)),(12,Cj (rdB p at_ k)),(0,Y e),(2,I at_),(3,I a),(8,Cj []),(9,I 0),(10,I (j:Int))])
   (λk w=>Sep z (blk e [.slice aw W.length cw,I h] 67::grow 74 4 (.slice aw W.length cw) W.length (Bt W)::A::R) w/\((k:Int)<=a)) (λk=>a.toNat-k) 0
   (λ_ o=>(o.co Z (by go_num) o.cz)) ⟨H,U⟩ ?_
 clear H;rintro k w ⟨y,hI⟩;have H:=y.l3;have b3:=hI;clear hI;refine Z0 8 [0] Z (Ag Z (λh2=>?_) (λh2=>?_))
 ·refine Zc 4 Z ?_;have a3:=T9 at_ k i
  have a9:=i (at_+(k:Int));refine Z2 7 [0,0,0] H Z (Ab Z (Aj Z (z:=4) (j:=j) (r:=j*4) J Z Z Z U d U) (Ab Z (Bq Z Z (vs:=[I xi,I xs,I xq,xu]) J O (Ay (λk u hk=>(H.rv 1 (·.rd)).at (BJ b k u hk)))) (Z1 3 [] [at_+(k:Int)] Z U (z_E_ Z (call36 _) (TO _ _ _ _ _ _ _ t) H.f2 ?_))));intro w H;replace H:=H.l3;refine Ab Z (Acu (l:=rdB p at_ k) (m:=B5 (at_+(k:Int)) p) Z Z Z (by dsimp only at a9 a3;omega)) (Z1 9 [] [(k:Int)+1] Z U ?_);replace H:=H.f2.f2;refine gf ?_;intro _ o;refine ⟨(k+1),(o.co Z (by go_num) o.cz),⟨H,?_⟩,?_⟩
  ·show ((k+1:Nat):Int)<=a;omega
  omega
 refine Zc 2 Z (gx (Zc 10 Z (Zr Z ?_)));obtain rfl:k=a.toNat:=by omega
 exact ⟨_,.inr ⟨j,_,⟨b,c⟩,.inr ⟨hE,Z,Z⟩⟩,(H.pick 3 [0,1,2] Z).toWd⟩
theorem WE:Cn prog 12 [] [] (λv Γ=>∃b:Nat,v=Y b/\Γ=[wdA b 1 []]):=by
 intro z R w H;replace H:=H.l0;refine Ae func12 Z ntmps12 Z (Za 8 [] H Z ?_);intro a w H;refine Zc 4 Z (Zr Z ?_);have c:=H.nilg 74 4;exact ⟨_,⟨a,Z,Z⟩,Sep.toWd (W:=[]) (c.pick 2 [1,0] Z)⟩
theorem WF(n a:Value)(A:Af)(c:∀h,A h->rdH 6 n 8 (Bb (List.replicate 8 v0)) h):Cn prog 104 [.agg #[I 1,n,a]] [A,Cx a ([])] (λv Γ=>v=.bool true/\Γ=[A,Cx a []]):=by
 intro z R w H;replace H:=H.l2;obtain ⟨o,f,rfl⟩:=H.sy 0 (λq=>(c _ q).slc);refine Ae func104 Z ntmps104 Z (Za 2 [] H Z ?_);intro l w H;refine Z2 18 [1,0,0] H Z ?_;refine AD (σ:=Nat) (λi=>[(10,I (i:Int)),(1,Y l),(8,.slice o 8 f),(9,I 8)])
   (λi w=>Sep z (blk l [I 1,.slice o 8 f,a] 70::A::Cx a ([])::R) w/\(i<=8)) (λi=>8-i) 0
   fr_z ⟨H,AeJ _⟩ ?_
 clear H;rintro i w ⟨y,e⟩;have H:=y.l3;have hi:=e;clear e;refine Z0 6 [0] Z (Ag Z (λt=>?_) (λt=>?_))
 ·refine Zc 5 Z ?_;have g:(List.replicate 8 v0)[i]?=some v0:=by rw[Ahz,if_pos U]
  have b:=(H.rv 1 (c _)).at (AT g 0 _ Z);refine Zc 1 Z (Ab Z (Aj Z (z:=6) (j:=i) (r:=i*6) J Z Z Z U b U) (Ab Z (Bq Z Z (vs:=v0.cells) J (by simp[Vl.cells]) (Ay (λk u s=>(H.rv 1 (c _)).at (AT g k u s)))) (Za 0 [] H Z ?_)));intro b2 w H;refine Z4 7 [0,0,6] H Z ?_;intro w H;refine Ab Z (Bc Z Z (out:=[I 0,I 0,I 0,I 0,I 0,I 0]) J) (Ab Z (TZ (cs:=[(0:Int),0,0,0,0,0]) (es:=[(0:Int),0,0,0,0,0]) (m:=6) Z J Z Z J J Z Z) (Zc 2 Z (Ag Z (λp=>?_) (λp=>?_))))
  ·refine Z1 8 [] [(i:Int)+1] Z U ?_;replace H:=H.d;refine gf ?_;intro _ x;refine ⟨(i+1),x.cz,⟨H,?_⟩,?_⟩
   ·omega
   omega
  exact absurd Z p
 refine Zc 2 Z (gx (Zc 8 Z (Zr Z ?_)));exact ⟨_,⟨Z,Z⟩,H.pick 3 [1,2] Z⟩
set_option maxHeartbeats 2000000 in
theorem Aaj (pp ps j g pd n:Nat) (D:Dsk) (G:StG) (l:Bool) (mb:Nat) (u:Fine D G mb) (s:((0:Nat):Int)<G.x.pages) (c:G.M 0=⟨1,Dp 1 [] (List.replicate 8 v0)⟩):Cn prog 49 [Y pp] [plB pp ps j g n l,stoA ps pd D G none] (λv Γ=>∃r:Nat,v=.tuple #[Y r,I 0]/\Γ=[voA r pp 1 [] (List.replicate 8 v0),plB pp ps j g n l,stoA ps pd D G none]):=by
 intro z R w H;replace H:=H.l2;refine Ae func49 Z ntmps49 Z (Z2 23 [0,0,0,0] H Z (Aq Z (call98 _) (KX ps pd D G none 0 s u.clean.f1 ⟨1,Dp 1 [] (List.replicate 8 v0)⟩ c.symm) H.f1 ?_));rintro _ w _ (⟨m,rfl,rfl⟩|⟨p,rv,rfl,rfl⟩) f
 ·exact absurd (congrArg Pg.kind m) (by show (1:Int)≠0;decide)
 have H:=f.l3;obtain ⟨d,b,rest,rfl,c1,c2,c3,H⟩:=H.ungrow 0 Z U;replace H:=H.l3;refine Za 3 [] H Z ?_;intro t w H;refine Z4 18 [0,4,1,0,0] H Z ?_;intro w H;refine Aq Z (call103 _) (TW d 0 b (Dp 1 [] (List.replicate 8 v0)) (blk d ((Dp 1 [] (List.replicate 8 v0)).map u8++rest) 5) (λh q=>q.rd U U (by rw[Ad9,Aea,Ki O O];omega) (by rw[Aep,AeK,AeA (by rw[Aea,Ki O O])])) 1 [] (List.replicate 8 v0) O O U O (λe y=>by rw[(AfX.1 y).2];exact v0_fit) Z) H.f1 ?_;rintro _ w _ ⟨a,cs,k,rfl,rfl⟩ H;replace H:=H.l6;have f:=H.mono 1 (B:=Cx cs []) Z (λh q=>⟨q,λ_=>k Z⟩);clear H;have H:Sep z (grow 76 6 a 8 (Bb (List.replicate 8 v0))::Cx cs ([])::blk d ((Dp 1 [] (List.replicate 8 v0)).map u8++rest) 5::blk t [I 1,.slice (some ⟨d,0,none⟩) 240 b] 89::stoA ps pd D G none::plB pp ps j g n l::R) w:=f;clear f;have i:=H.sy 0 (·.slc);have o:=H.sy 1 (·.1.slc);refine Za 3 [] H Z ?_;intro b2 w H;refine Az Z Z (Ak 0 H Z Z Z Z (vs:=[I 1,a,cs]) Z (Ad Z (Ad i.one (Ad o.one Aw))) J O (out:=[I 1,a,cs]) Z) ?_;rintro w H;replace H:=H.l7;refine Z2 15 [0,4,0,4,0,3] H Z (z_E_ Z (call104 _) (WF a cs _ (λh q=>q.rd)) H.f2.f2 ?_);intro w H;refine Z2 11 [2,3] H Z (Ab Z (Bc Z Z (out:=[Y pp,I 1,a,cs]) J) (Za 0 [] H Z ?_));intro b3 w H;refine Zc 5 Z (Zr Z ?_);exact ⟨_,⟨_,Z,Z⟩,(H.pick 8 [0,1,2,7,6] Z).toVo (vs:=(List.replicate 8 v0))⟩
section
variable{Tb:Af}
theorem Me(c:Int)(N:Nat)(f: -9223372036854775808<=c/\c<=9223372036854775807)(hN:0<N/\N<=1099511627776):Cn prog 5 [I c,I (N:Int)] [] (λv Γ=>v=I (pkI c N:Int)/\Γ=[]):=by
 intro z R w H;replace H:=H.l0;refine Ae func5 Z ntmps5 Z (Z0 12 [0] Z (Ag Z (λe=>?_) (λe=>?_)))
 ·refine Z1 3 [] [c+1] Z U (Ab Z (PF Z Z (r:= -(c+1)) U U) (Zc 7 Z (Ab Z (Q4 Z Z Z U) ?_)))
  have a:=AhC (N:Int) (show 0<= -(c+1) by omega);refine Zc 4 Z (Zr Z ?_);have b:(-(c+1)).tmod (N:Int)=(pkI c N:Int):=by unfold pkI;rw[if_pos U];omega
  exact ⟨_,⟨congrArg I b,Z⟩,H⟩
 refine Zc 6 Z (Ab Z (Q4 Z Z Z U) ?_);have a:=AhC (N:Int) (show 0<=c by omega);refine Zc 4 Z (Zr Z ?_);have b:c.tmod (N:Int)=(pkI c N:Int):=by unfold pkI;rw[if_neg U];omega
 exact ⟨_,⟨congrArg I b,Z⟩,H⟩
set_option maxHeartbeats 2000000 in
theorem Aak (pd n:Nat) (y:16<=n/\n<=1024) (Tb:Af) (hT:Hk Tb) (i:Dsk) (a:StG) (bs:List UInt8) (s:bs.length=256) (j:bs=AJ (Cc 1 [] (List.replicate 8 v0) (List.replicate 8 v0).length)) (hO:OInv i a.x a.B (λb=>b=a.rs)) (q:Clean i) (r:a.x.gen<=((5:Nat):Int)/\a.x.epoch<=((5:Nat):Int)) (f:a.x.pages=n) (hM:a.M=Ej (λ_=>noPg) (some (gF n (bs.take 240) (manyN n),1+manyN n))):Cn prog 11 [Y pd] [diskA pd i,Tb] (λv Γ=>∃u pp:Nat,v=Y u/\Γ=[voA u pp 1 [] (List.replicate 8 v0),trA Tb pp 6 n (FH n) none]):=by
 intro z R w H;replace H:=H.l2;refine Ae func11 Z ntmps11 Z (Zc 8 Z (Aq Z (call38 _) (Tw _ _ _ _ _ _ hO q r U) H ?_));rintro _ w _ ⟨ps,D3,b,g,c,a0,rfl,rfl⟩ H;replace H:=H.l2;have l:pgMap (ov b) a.B=a.M:=by rw[g];rfl
 obtain ⟨d,h⟩:=TK (n:=n) s (l.trans hM);refine Z0 24 [4] Z (Aq Z (call48 _) (Ze _ _ _ _ 6 n (C1 (manyN n+1)) c y f (bs.take 240) d h (λk=>RK _ k) (λp hp=>by unfold C1;rw[if_pos U])) H ?_);rintro _ w _ ⟨pp,pc,bn,m,pa,rfl,rfl⟩ H;refine Z0 24 [4] Z (Aq Z (call49 _) (Aaj _ _ _ _ _ n _ _ _ 6 c (by show (0:Int)<a.x.pages;omega) (d.trans (by rw[j];rfl))) H.f1 ?_);rintro _ w _ ⟨u,rfl,rfl⟩ H;refine Z0 24 [4] Z (Zr Z ?_);have H8:=(H.pick 8 [1,2,3,4,5,6,7,0] Z).toPo (X:=⟨ps,pd,pc,bn,m,pa,D3,(Qn a.x (pgMap (ov b) a.B)),Do,[],0,BV,Tb⟩) (mb:=6) (n:=n) (M0:=pgMap (ov b) a.B) (C0:=C1 (manyN n+1)) (t:=none) ⟨y,c,f,⟨hT,Z⟩,λp _=>rfl,h,λk=>RK _ k,λp hp=>(by unfold C1;rw[if_pos U]),λ_=>⟨Z,Z⟩,λ_ e=>(by cases e)⟩ Z;have H9:=Sep.toTr0 (o:=FH n) H8 (ZJ n _);exact ⟨_,⟨_,_,Z,Z⟩,H9.pick 2 [1,0] Z⟩
set_option maxHeartbeats 2000000 in
theorem Pa (n:Nat) (i:16<=n/\n<=1024) (Tb:Af) (m:Hk Tb):Cn prog 4 [I (n:Int)] [Tb] (λv Γ=>∃j pd h pp b:Nat,v=.tuple #[Y j,.bool true]/\Γ=[blk j [Y pd,Y h,Y b] 35,voA h pp 1 [] (List.replicate 8 v0),trA Tb pp 6 n (FH n) none,wdA b 1 []]):=by
 intro z R w H;replace H:=H.l1;refine Ae func4 Z ntmps4 Z (Zc 8 Z (Aq Z (call9 _) (Abk 1200) H ?_));rintro _ w _ (⟨e,rfl,rfl⟩|⟨_,pd,rfl,rfl⟩) l
 ·exact absurd U e
 have H:=l.l2;refine Z0 19 [4] Z (Aq Z (call10 _) (RQ _ 1200 n _ _ i (Ab6 U)) H ?_);rintro _ w _ ⟨D2,G2,bs,d,c,o,g,a,k,f,p,rfl,rfl⟩ H;refine Z0 10 [4] Z (Aq Z (call11 _) (Aak _ n i Tb m _ _ bs d c o g a f p) H ?_);rintro _ w _ ⟨h,pp,rfl,rfl⟩ H;refine Zc 7 Z (Aq Z (call12 _) (WE) H ?_);rintro _ w _ ⟨b,rfl,rfl⟩ H;refine Za 1 [] H Z ?_;intro q w H;refine Zc 7 Z (Zr Z ?_);exact ⟨_,⟨_,_,_,_,_,Z,Z⟩,H.pick 4 [0,2,3,1] Z⟩
end
def mV(cc:Int)(od:Bool):Nat:=if od=true then pkI cc 11*64+7 else pkI cc 11*64
theorem Xx(cc:Int)(od:Bool):mV cc od<711:=by
 have:=OQ cc (show 0<11 by omega);unfold mV;split<;>omega
theorem WH(kd ci ca cc c cs cq:Int)(h od:Bool)(p: -9223372036854775808<=c/\c<=9223372036854775807)(l: -9223372036854775808<=cc/\cc<=9223372036854775807):Cn prog 56 [.agg #[I kd,I ci,I ca,I cc,I c,I cs,I cq,.bool h,.bool od]] [] (λv Γ=>∃(b:Nat) (bs:List UInt8),bs.length=mV cc od/\v=.slice (some ⟨b,0,none⟩) bs.length bs.length/\Γ=[blk b (bs.map u8) 5]):=by
 intro z R w H;replace H:=H.l0;have o:=OQ cc (show 0<11 by omega);refine Ae func56 Z ntmps56 Z (Za 2 [] H Z ?_);intro g w H;refine Z2 7 [3,0,0] H Z (z_E_ Z (call5 _) (Me _ 11 l U) H ?_);intro w H;refine Z1 4 [] [((pkI cc 11*64:Nat):Int)] Z U (Xf (λa w=>∃(m:Nat),Fr 35 [] [(3,I (m:Int)),(0,.agg #[I kd,I ci,I ca,I cc,I c,I cs,I cq,.bool h,.bool od]),(1,Y g),(2,.slice none 0 0),(6,.pointer (some ⟨g,3,none⟩)),(7,I cc),(8,I (pkI cc 11:Int)),(9,I ((pkI cc 11*64:Nat):Int))] a/\Sep z (blk g [I kd,I ci,I ca,I cc,I c,I cs,I cq,.bool h,.bool od] 29::R) w/\(m=mV cc od)) ?_ ?_)
 ·refine Z2 6 [8,0,0] H Z (Ep Z (λq=>?_) (λq=>?_))
  ·refine Z1 5 [] [((pkI cc 11*64+7:Nat):Int)] Z U ?_;exact gf λ_ d=>⟨(pkI cc 11*64+7),d.cz,H,(by unfold mV;first|rw[if_pos (by assumption)]|rw[if_pos (by simp_all)])⟩
  refine Zc 1 Z ?_;exact gf λ_ d=>⟨(pkI cc 11*64),d.cz,H,(by unfold mV;first|rw[if_neg (by assumption)]|rw[if_neg (by simp_all)])⟩
 rintro a w ⟨m,d,H,e⟩;revert a;have t:=e;clear e;have r:=Xx cc od;refine Zc 3 Z (AQ Z (Em (k:=m) H Z J CK Z Z Z U) ?_);rintro _ w ⟨j,rfl,H⟩;replace H:=H.l2;refine Zc 10 Z ?_;refine AD (σ:=Nat×List UInt8) (λ⟨i,bs⟩=>[(5,I (i:Int)),(1,Y g),(2,.slice none 0 0),(3,I (m:Int)),(4,.slice (some ⟨j,0,none⟩) m m)])
   (λ⟨i,bs⟩ w=>Sep z (blk j (bs.map u8) 5::blk g [I kd,I ci,I ca,I cc,I c,I cs,I cq,.bool h,.bool od] 29::R) w/\(i<=m/\bs.length=m)) (λ⟨i,bs⟩=>m-i) ⟨0,List.replicate m 0⟩
   fr_z ⟨(by simpa [u8] using H),⟨AeJ _,by simp⟩⟩ ?_
 clear H;rintro ⟨i,bs⟩ w ⟨n,e⟩;dsimp only at e n ⊢;have H:=n.l2;obtain ⟨hi,f⟩:=e;refine Z0 8 [0] Z (Ag Z (λs=>?_) (λs=>?_))
 ·refine Z3 12 [4,1,0] [(i:Int)/64,(i:Int)/64*3] H Z U (Ab Z (Ss Z Z Z) (Z1 2 [] [(i:Int)%2] Z U (Ab Z (Ss Z Z Z) (Ab Z (Q8 Z J Z) (Z1 1 [1,i,i] [] Z U (Az Z Z (Ak 0 H Z Z Z Z (vs:=[u8 (GC (IntKind.i64.wrap (IntKind.i64.wrap (c+(i:Int)/64*3)+(i:Int)%2)))]) Z (Ad Z Aw) J (by simp only[Aea,Aeb,Aew];omega) (out:=(bs.set i (GC (IntKind.i64.wrap (IntKind.i64.wrap (c+(i:Int)/64*3)+(i:Int)%2)))).map u8) (Ab8 U)) ?_))))));rintro w H;replace H:=H.l2;refine Z1 8 [] [(i:Int)+1] Z U (gf ?_);intro _ d;refine ⟨⟨i+1,bs.set i (GC (IntKind.i64.wrap (IntKind.i64.wrap (c+(i:Int)/64*3)+(i:Int)%2)))⟩,d.cz,⟨H,?_⟩,?_⟩
  ·exact ⟨by show i+1<=m;omega,by show (bs.set i _).length=m;rw[AeP];exact f⟩
  (dsimp only;omega)
 refine Zc 2 Z (gx (Zc 9 Z (Zr Z ?_)));exact ⟨_,⟨j,bs,by omega,by rw[f],Z⟩,H.pick 2 [0] Z⟩
theorem Pb(nx:Int)(vs:List Vl)(f b:Value)(A:Af)(l:∀h,A h->rdH 6 f vs.length (Bb vs) h)(y:vs.length=8):Cn prog 109 [.agg #[I nx,f,b]] [A,Cx b ([])] (λv Γ=>∃g:Bool,((∀e∈vs,e.st≠0)->g=true)/\v=.bool g/\Γ=[A,Cx b []]):=by
 intro z R w H;replace H:=H.l2;obtain ⟨t,p,rfl⟩:=H.sy 0 (λq=>(l _ q).slc);refine Ae func109 Z ntmps109 Z (Za 2 [] H Z ?_);intro m w H;refine Zc 10 Z ?_;refine AD (σ:=Nat) (λi=>[(3,I (i:Int)),(1,Y m)])
   (λi w=>Sep z (blk m [I nx,.slice t vs.length p,b] 70::A::Cx b ([])::R) w/\(i<=vs.length)) (λi=>vs.length-i) 0
   fr_z ⟨H,AeJ _⟩ ?_
 clear H;rintro i w ⟨s,c⟩;have H:=s.l3;have hi:=c;clear c;refine Z2 10 [1,0,0,0] H Z (Ag Z (λn=>?_) (λn=>?_))
 ·refine Zc 5 Z ?_;obtain ⟨e,d⟩:∃e,vs[i]?=some e:=⟨_,Ad7 U⟩;have a:=(H.rv 1 (l _)).at (AT d 1 _ Z)
  refine Z2 4 [1,0,0] H Z (Ab Z (Aj Z (z:=6) (j:=i) (r:=i*6) J Z Z Z U a U) (Ab Z (Bj Z (k:=1) (r:=i*6+1) J Z a Z) (Ab Z (Ax Z Z J (Ay a)) (Z0 3 [0] Z (Ag Z (λu=>?_) (λu=>?_))))))
  ·refine Zc 6 Z (Zr Z ?_);exact ⟨_,⟨false,λq=>absurd (by assumption) (q e (Ad8 d)),Z,Z⟩,H.pick 3 [1,2] Z⟩
  refine Z1 8 [] [(i:Int)+1] Z U (gf ?_);intro _ o;refine ⟨(i+1),o.cz,⟨H,?_⟩,?_⟩
  ·omega
  omega
 refine Zc 2 Z (gx (Zc 8 Z (Zr Z ?_)));exact ⟨_,⟨true,λ_=>rfl,Z,Z⟩,H.pick 3 [1,2] Z⟩
theorem Aal(j pd f l pp:Nat)(nx:Int)(vs:List Vl)(d:vs.length=8)(e k:Int):Cn prog 55 [Y j,I e,I k] [blk j [Y pd,Y f,Y l] 35,voA f pp nx ([]) vs] (λv Γ=>∃m:Bool,((e=20/\k<25)\/(e=32/\∀x∈vs,x.st≠0)->m=true)/\v=.bool m/\Γ=[blk j [Y pd,Y f,Y l] 35,voA f pp nx [] vs]):=by
 intro z R w H;replace H:=H.l2;refine Ae func55 Z ntmps55 Z (Z0 10 [0] Z (Al 9 Z (λo=>?_) (λo=>?_)))
 ·refine Z0 4 [0] Z (Al 13 Z (λs=>?_) (λs=>?_))
  ·refine Zc 15 Z (Zr Z ?_);exact ⟨_,⟨_,(by rintro (⟨c,a⟩|⟨c,a⟩)<;>first|rfl|(exfalso;omega)|exact b a|simp_all),Z,Z⟩,H.pick 2 [0,1] Z⟩
  refine Z0 3 [0] Z (Al 16 Z (λp=>?_) (λp=>?_))
  ·refine Z2 4 [1,0,0] H Z (Aq Z (call35 _) (Lg _ _ _ _ _ d O) H.f1 ?_);rintro _ w _ ⟨n,cs,rfl,rfl⟩ H;replace H:=H.l4
   refine Aq Z (call109 _) (Pb _ vs _ _ _ (λh q=>q.rd) d) H ?_;rintro _ w _ ⟨r,b,rfl,rfl⟩ H;refine Zc 6 Z (Zr Z ?_);exact ⟨_,⟨_,(by rintro (⟨c,a⟩|⟨c,a⟩)<;>first|rfl|(exfalso;omega)|exact b a|simp_all),Z,Z⟩,H.pick 4 [3,2] Z⟩
  refine Zc 12 Z (Zr Z ?_);exact ⟨_,⟨_,(by rintro (⟨c,a⟩|⟨c,a⟩)<;>first|rfl|(exfalso;omega)|exact b a|simp_all),Z,Z⟩,H.pick 2 [0,1] Z⟩
 refine Z0 7 [0] Z (Al 16 Z (λt=>?_) (λt=>?_))
 ·refine Z2 4 [1,0,0] H Z (Aq Z (call35 _) (Lg _ _ _ _ _ d O) H.f1 ?_);rintro _ w _ ⟨n,cs,rfl,rfl⟩ H;replace H:=H.l4
  refine Aq Z (call109 _) (Pb _ vs _ _ _ (λh q=>q.rd) d) H ?_;rintro _ w _ ⟨r,b,rfl,rfl⟩ H;refine Zc 6 Z (Zr Z ?_);exact ⟨_,⟨_,(by rintro (⟨c,a⟩|⟨c,a⟩)<;>first|rfl|(exfalso;omega)|exact b a|simp_all),Z,Z⟩,H.pick 4 [3,2] Z⟩
 refine Zc 12 Z (Zr Z ?_);exact ⟨_,⟨_,(by rintro (⟨c,a⟩|⟨c,a⟩)<;>first|rfl|(exfalso;omega)|exact b a|simp_all),Z,Z⟩,H.pick 2 [0,1] Z⟩
theorem Adj(f pd l:Nat)(kd ci ca cc p cs cq:Int)(u od:Bool)(c:Nat)(h:Int)(W:List Wv)(o:W.length<=64):Cn prog 15 [Y f,.agg #[I kd,I ci,I ca,I cc,I p,I cs,I cq,.bool u,.bool od]] [blk f [Y pd,Y l,Y c] 35,wdA c h W] (λv Γ=>∃i:Int,(0<W.length/\0<=ci/\ci<100->∃x∈W,x.id=i)/\v=I i/\Γ=[blk f [Y pd,Y l,Y c] 35,wdA c h W]):=by
 intro z R w H;replace H:=H.l2;replace H:=H.f1;obtain ⟨uw,H⟩:=H.wd;replace H:=H.l3;have g:=H.sy 1 (·.slc);obtain ⟨aw,cw,rfl⟩:=g;refine Ae func15 Z ntmps15 Z (Za 2 [] H Z ?_);intro b1 w H;refine Z2 16 [2,3,0,0,1,0,0] H Z (Al 14 Z (λs=>?_) (λs=>?_))
 ·refine Z2 5 [1,0,0,0] H Z (Al 19 Z (λy=>?_) (λy=>?_))
  ·refine Z2 6 [1,0,0,0] H Z (Ag Z (λt=>?_) (λt=>?_))
   ·refine Zc 1 Z ?_;have d:=Agd ci (show (W.length:Int)≠0 by omega)
    have m:=AfY ci (show (0:Int)<W.length by omega);obtain ⟨j,hj⟩:∃j:Nat,(j:Int)=ci%(W.length:Int):=⟨_,Int.toNat_of_nonneg d⟩;obtain ⟨x,e⟩:∃x,W[j]?=some x:=⟨_,Ad7 U⟩;have a:=(H.rv 2 (·.rd)).at (BJ e 0 _ Z);refine Bu (Sep z _) J J H.drew (G4 18 [2,3,0,0,1,0,1,0,0,2,3,0,0,1,0] [ci%(W.length:Int)] Z J U (AL Z Z Z (Aj Z (z:=4) (j:=j) (r:=j*4) J Z Z U U a U) (AL Z Z Z (Bj Z (k:=0) (r:=j*4) J Z a Z) (AL Z Z Z (Ax Z Z J (λ_ hs=>(hs.rv 2 (·.rd)).at (BJ e 0 _ Z))) (BZ 1 [] Z J (BH (λw b=>?_)))))));have H:=b.l4;refine gn (Zc 2 Z (Zr Z ?_));have b:=(H.pick 4 [1,2,3] Z).toWd;exact ⟨_,⟨_,(λ_=>⟨x,Ad8 e,Z⟩),Z,Z⟩,b.pick 2 [1,0] Z⟩
   refine Z2 10 [1,0,0] H Z (Zr Z ?_);have b:=(H.pick 4 [1,2,3] Z).toWd;exact ⟨_,⟨_,(λq=>by first|(exfalso;omega)|simp_all),Z,Z⟩,b.pick 2 [1,0] Z⟩
  refine Z2 17 [1,0,0] H Z (Zr Z ?_);have b:=(H.pick 4 [1,2,3] Z).toWd;exact ⟨_,⟨_,(λq=>by first|(exfalso;omega)|simp_all),Z,Z⟩,b.pick 2 [1,0] Z⟩
 refine Z2 22 [1,0,0] H Z (Zr Z ?_);have b:=(H.pick 4 [1,2,3] Z).toWd;exact ⟨_,⟨_,(λq=>by first|(exfalso;omega)|simp_all),Z,Z⟩,b.pick 2 [1,0] Z⟩
theorem Fm(g pd d j p2 pp:Nat)(nx:Int)(vs:List Vl)(p:vs.length=8)(h e k f l:Int):Cn prog 19 [Y g,I h,I e,Y p2,I k,I f,I l] [blk g [Y pd,Y d,Y j] 35,voA d pp nx ([]) vs] (λv Γ=>(e=0/\v=.bool (decide (f=0/\h=k))/\Γ=[blk g [Y pd,Y d,Y p2] 35,voA d pp nx [] vs])\/(e≠0/\∃m:Bool,(h=0/\(e=f\/(f=0/\((e=20/\l<25)\/(e=32/\∀x∈vs,x.st≠0))))->m=true)/\v=.bool m/\Γ=[blk g [Y pd,Y d,Y j] 35,voA d pp nx [] vs])):=by
 intro z R w H;replace H:=H.l2;refine Ae func19 Z ntmps19 Z (Z0 12 [0] Z (Ag Z (λn=>?_) (λn=>?_)))
 ·refine Z4 14 [2,0,0] H Z ?_;intro w H;refine Al 24 Z (λq=>?_) (λq=>?_)
  ·refine Z0 8 [0] Z (Zr Z ?_);exact ⟨_,.inl ⟨by assumption,congrArg Value.bool (by rw[Aer];simp_all),Z⟩,H.pick 2 [0,1] Z⟩
  refine Zc 8 Z (Zr Z ?_);exact ⟨_,.inl ⟨by assumption,congrArg Value.bool (by rw[Aer];simp_all),Z⟩,H.pick 2 [0,1] Z⟩
 refine Zc 7 Z (Aq Z (call55 _) (Aal _ _ _ _ _ _ _ p _ _) H ?_);rintro _ w _ ⟨t,a,rfl,rfl⟩ H;refine Z0 8 [0] Z (Al 35 Z (λo=>?_) (λo=>?_))
 ·refine Z0 4 [0] Z (Al 39 Z (λr=>?_) (λr=>?_))
  ·refine Zc 11 Z (Zr Z ?_);exact ⟨_,.inr ⟨by assumption,_,(by rintro ⟨i,c|⟨c,b⟩⟩<;>first|rfl|(exfalso;omega)|exact a b|simp_all),Z,Z⟩,H.pick 2 [0,1] Z⟩
  refine Z0 3 [0] Z (Al 42 Z (λs=>?_) (λs=>?_))
  ·refine Zc 8 Z (Zr Z ?_);exact ⟨_,.inr ⟨by assumption,_,(by rintro ⟨i,c|⟨c,b⟩⟩<;>first|rfl|(exfalso;omega)|exact a b|simp_all),Z,Z⟩,H.pick 2 [0,1] Z⟩
  refine Zc 8 Z (Zr Z ?_);exact ⟨_,.inr ⟨by assumption,_,(by rintro ⟨i,c|⟨c,b⟩⟩<;>first|rfl|(exfalso;omega)|exact a b|simp_all),Z,Z⟩,H.pick 2 [0,1] Z⟩
 refine Zc 15 Z (Zr Z ?_);exact ⟨_,.inr ⟨by assumption,_,(by rintro ⟨i,c|⟨c,b⟩⟩<;>first|rfl|(exfalso;omega)|exact a b|simp_all),Z,Z⟩,H.pick 2 [0,1] Z⟩
section
variable{Tb:Af}
theorem trA.d64{pp mb n:Nat}{o:TB}{h:Hp}(a:trA Tb pp mb n o none h):∀p b,o.N p=some (.dt b)->b.length=240:=by
 obtain ⟨M0,c,_⟩:=a;exact λp b e=>(c.m _ _ e).2.2
def usedP(P:List Pl):Nat:=P.countP λp=>decide (p.1.st≠0)
structure LvI(n:Nat)(o:TB)(nx:Int)(P:List Pl)(W:List Wv)(A:Af):Prop where
 inv:VInv n o nx P
 rel:VRel o.N P W
 nxe:nx=1+(usedP P:Int)
 bag:∀x∈W,InB A x.u x.V
 d:∀p b,o.N p=some (.dt b)->b.length=240
 k:TrK n o none
variable{n:Nat}{o o2:TB}{nx:Int}{P:List Pl}{W:List Wv}{A A2:Af}
theorem LvI.hv(h:LvI n o nx P W A):(P.map Prod.fst).length=8:=by rw[Aea];exact h.inv.len
theorem LvI.nx9(h:LvI n o nx P W A):1<=nx/\nx<=9:=by
 have b:=h.nxe;have a:usedP P<=P.length:=List.countP_le_length;have:=h.inv.len;have:=h.inv.nb;omega
theorem LvI.w8(h:LvI n o nx P W A):W.length<=8:=by have:=h.rel.len;have:=h.inv.len;omega
theorem LvI.ok(h:LvI n o nx P W A){i:Nat}{p:Pl}(hi:P[i]?=some p)(hs:p.1.st=1):PlOk o.N nx p:=by
 rcases h.inv.all p (Ad8 hi) with rfl|q
 ·cases hs
 exact q
theorem LvI.pl(h:LvI n o nx P W A){p:Pl}(q:PlOk o.N nx p):p.2.length<=639:=by
 have:=JB h.k.i U (show ∀e∈p.2,∃b,Dk o none e.2=some (.dt b) from q.root.data) q.nd;have:=h.inv.n;omega
theorem LvI.w(h:LvI n o nx P W A){x:Wv}(m:x∈W):(1<=x.sz/\x.sz<=1048576)/\(0<=x.q/\x.q<=1048576)/\x.V.length<=639/\(∀j,(B5 j x.V).length=64)/\1<=x.id/\x.id<nx:=by
 obtain ⟨j,g⟩:=AeW.1 m;obtain ⟨i,p,hi,hs,e⟩:=h.rel.back g;have q:=h.ok hi hs;have k:=h.pl q;simp only[Wv.core,CF,Afy] at e;obtain ⟨e1,e2,l,c⟩:=e;refine ⟨by rw[e2];exact q.sz,by rw[l];exact q.q,by rw[c,Kg];exact k,λj=>?_,by rw[e1];exact q.id⟩;rw[c];have a:=q.root.data;generalize p.2=L at a;unfold AZ
 induction L with
 | nil=>rfl
 | cons e t ih=>
  rw[AeE,B5];split
  ·obtain ⟨b,f⟩:=a e O
   have:=h.d _ _ f;rw[f];show (List.take 64 b).length=64;rw[Aes];omega
  exact ih λe r=>a e (by simp[r])
theorem LvI.both(h:LvI n o nx P W A){i j:Nat}{e:Vl}{L:List E}{x:Wv}(hi:P[i]?=some (e,L))(hs:e.st=1)(b:W[j]?=some x)(g:x.id=e.id):x.sz=e.sz/\x.q=e.q/\x.V=AZ o.N L:=by
 obtain ⟨k,x2,a,e2⟩:=h.rel.at hi hs;simp only[Wv.core,CF,Afy] at e2;obtain ⟨e1,c,d,f⟩:=e2;have:=h.rel.uniq b a U;subst this;rw[b] at a;cases a;exact ⟨c,d,f⟩
theorem LvI.at(h:LvI n o nx P W A){id:Int}{i:Nat}{e:Vl}{L:List E}(hi:P[i]?=some (e,L))(hs:e.st=1)(c:e.id=id):∃(j:Nat) (x:Wv),W[j]?=some x/\x.id=id:=by
 obtain ⟨b,x2,a,e2⟩:=h.rel.at hi hs;simp only[Wv.core,CF,Afy] at e2;exact ⟨b,x2,a,by omega⟩
theorem LvI.back(h:LvI n o nx P W A){id:Int}{j:Nat}{x:Wv}(a:W[j]?=some x)(b:x.id=id):∃e∈P.map Prod.fst,e.st=1/\e.id=id:=by
 obtain ⟨i,p,hi,hs,e⟩:=h.rel.back a;simp only[Wv.core,CF,Afy] at e;exact ⟨p.1,Aeh.2 ⟨p,Ad8 hi,Z⟩,hs,by omega⟩
theorem DQ(P:List Pl)(i:Nat)(e:Vl)(L:List E):(P.set i (e,L)).map Prod.fst=(P.map Prod.fst).set i e:=by rw[Aht]
theorem Pd{P:List Pl}{i:Nat}{p p2:Pl}(hi:P[i]?=some p)(c:p2.1.st≠0):(usedP P:Int)+(if p.1.st=0 then 1 else 0)=usedP (P.set i p2):=by
 obtain ⟨a,rfl⟩:=Ad6.1 hi;unfold usedP;rw[List.countP_set a];have b:decide (p2.1.st≠0)=true:=decide_eq_true c;have d:decide (P[i].1.st≠0)=true->0<P.countP λp=>decide (p.1.st≠0):=λq=>List.countP_pos_iff.2 ⟨P[i],AfJ a,q⟩;simp only[b,if_true];by_cases e:P[i].1.st=0
 ·rw[if_pos e,if_neg (by simp[e])];omega
 rw[if_neg e,if_pos (by simp[e])];have:=d (by simp[e]);omega
theorem I8{P:List Pl}{i:Nat}{p p2:Pl}(hi:P[i]?=some p)(b:p.1.st=1)(a:p2.1.st≠0):(usedP (P.set i p2):Int)=usedP P:=by
 have:=Pd hi a;rw[if_neg U] at this;omega
theorem QZ{W:List Wv}{j:Nat}{x2:Wv}(h:∀x∈W,InB A x.u x.V)(a:Ink A A2)(c:InB A2 x2.u x2.V):∀x∈W.set j x2,InB A2 x.u x.V:=λx b=>by
 rcases Aho b with q|rfl
 ·exact a _ _ (h x q)
 exact c
theorem LvI.ea(h:LvI n o nx P W A){i j k:Nat}{e e2:Vl}{L L2:List E}{x:Wv}(hi:P[i]?=some (e,L))(hs:e.st=1)(u:W[j]?=some x)(d:x.id=e.id)(c:EaJ n ⟨o.N,o.C,Ba e.r.toNat++C7 (P.eraseIdx i)⟩ nx e (C7 (P.eraseIdx i)) k o2 e2 L2)
  {w:Value}(z:Ink A A2)(hb:InB A2 w (AZ o2.N L2))(hd:∀p b,o2.N p=some (.dt b)->b.length=240)(K:TrK n o2 none):LvI n o2 nx (P.set i (e2,L2)) (W.set j ⟨x.id,x.sz,x.q,w,AZ o2.N L2⟩) A2:=by
 have q:=h.ok hi hs;have hq:=h.both hi hs u d;have y:=c.fld;have f:=q.id;dsimp only at f;have m:∀p∈P,p.1.st=1->p.1.id≠e.id->AZ o2.N p.2=AZ o.N p.2:=λp hp s t=>by
  obtain ⟨a,g⟩:=AeW.1 hp;have l:a≠i:=λq=>by subst q;rw[hi] at g;cases g;exact t Z
  have v:=h.ok g s;by_cases e0:p.1.r.toNat=0
  ·rcases v.root with ⟨_,r2⟩|⟨r1,_⟩
   ·rw[r2];rfl
   exact absurd e0 r1
  exact (c.kv _ (L7 (Hd g l) e0) _ v.root).2
 refine ⟨h.inv.upd hi ⟨Afg _,h.inv.nb.2⟩ c.kv.kp c.ok (.inl y.1) (by rw[c.lw.r]),h.rel.upd h.inv hi u (show e.id≠0 by omega) hs (show e2.st=1 by omega) d ?_ y.1 m,?_,QZ h.bag z hb,hd,K⟩
 ·simp only[Wv.core,CF,Afy]
  exact ⟨by omega,by omega,by omega,trivial⟩
 have:=I8 (p2:=(e2,L2)) hi hs (show e2.st≠0 by omega);have h0:=h.nxe;omega
theorem LvI.left(h:LvI n o nx P W A)(d:nx<=8):¬∀e∈P.map Prod.fst,e≠v0:=λa=>by
 have b:=h.nxe;have c:usedP P=P.length:=List.countP_eq_length.2 λp hp=>by
  rcases h.inv.all p hp with rfl|q
  ·exact absurd Z (a _ (Aeh.2 ⟨_,hp,Z⟩))
  have:=q.st;simp only[decide_eq_true_eq];omega
 have:=h.inv.len;omega
def WrE(W W2:List Wv)(id at_:Int)(m fr:Nat):Prop:=∀x∈W,x.id=id->Bm x.sz (decide (((m%64:Nat):Int)=0)) at_ ((m/64:Nat):Int)=0->
 ∃(j k:Nat) (u2:Value) (V2:List Bk) (bs:List UInt8),W[j]?=some x/\WTr at_ x.q bs x.V k V2/\W2=W.set j ⟨x.id,x.sz,x.q,u2,V2⟩/\(k=m/64\/(k<m/64/\(Ez at_ x.q k V2\/fr<=11+12*k)))
theorem WrE.no{W W2:List Wv}{id at_:Int}{m b:Nat}(h:∀x∈W,x.id≠id):WrE W W2 id at_ m b:=λx a e=>absurd e (h x a)
theorem LvI.eq(h:LvI n o nx P W A){j:Nat}{x y:Wv}(c:W[j]?=some x)(d:y∈W)(e:y.id=x.id):y=x:=by
 obtain ⟨a,b⟩:=AeW.1 d;have:=h.rel.uniq c b e;subst this;rw[c] at b;exact (Af4 b).symm
theorem WrE.bad(h:LvI n o nx P W A){W2:List Wv}{id at_:Int}{m d j:Nat}{x:Wv}(b:W[j]?=some x)(a:x.id=id)(c:Bm x.sz (decide (((m%64:Nat):Int)=0)) at_ ((m/64:Nat):Int)≠0):WrE W W2 id at_ m d:=λy f e q=>by
 have:=h.eq b f (e.trans a.symm);subst this;exact absurd q c
theorem WrE.did(h:LvI n o nx P W A){id at_ q er:Int}{f j k c2:Nat}{x:Wv}{bs:List UInt8}{vf:Nat->List Bk}{a:List Bk}(d:W[j]?=some x)(c:x.id=id)(hq:x.q=q)(l:vf 0=x.V)(i:vf k=a)(p:∀j,j<k->¬Ez at_ q j (vf j)/\∀V3,PutAt (at_+(j:Int)) (DL bs j) (vf j) V3->V3=vf (j+1))
  (s:f<=c2+12*k)(b:(er=0/\(k:Int)=((bs.length/64:Nat):Int))\/((k:Int)<((bs.length/64:Nat):Int)/\((er=30/\Ez at_ q k a)\/(er=20/\¬Ez at_ q k a/\c2<=11))))(g:Value):WrE W (W.set j ⟨x.id,x.sz,x.q,g,a⟩) id at_ bs.length f:=λy m e _=>by
 have:=h.eq d m (e.trans c.symm);subst this;subst hq;refine ⟨j,k,g,a,bs,d,⟨vf,l,i,p⟩,Z,?_⟩;rcases b with r|⟨t,r|r⟩
 ·exact .inl U
 ·exact .inr ⟨by omega,.inl r.2⟩
 exact .inr ⟨by omega,.inr (by have:=r.2.2;omega)⟩
theorem LvI.ink(h:LvI n o nx P W A)(a:Ink A A2):LvI n o nx P W A2:=⟨h.inv,h.rel,h.nxe,λx b=>a _ _ (h.bag x b),h.d,h.k⟩
end
section
variable{Tb:Af}
theorem Ua{bs:List UInt8}{s:Nat}(h:s<bs.length/64):(DL bs s).length=64:=by unfold DL;rw[Aes,AeG];omega
theorem Pe{a s:Nat}{bs:List UInt8}{T:TypeId}(h:s<bs.length/64)(b:bs.length<=711){hp:Hp}(q:blk a (bs.map u8) T hp):rdH 1 (.slice (some ⟨a,s*64,none⟩) ((s+1)*64-s*64) (bs.length-s*64)) (DL bs s).length ((DL bs s).map u8) hp:=by
 have e1:=Ua h;have e2:(s+1)*64-s*64=64:=by omega
 rw[e1,e2];exact q.rd U U (by rw[Aea];omega) (by unfold DL;rw[Afj,AfP])
theorem PutAt.le{k:Int}{d:List UInt8}{V a:List Bk}(h:PutAt k d V a):a.length<=V.length+1:=by
 obtain ⟨i,_,_,rfl⟩:=h;have:=JC k V;simp only[Ad9,Aes,Aeb,AeG];omega
section
variable{at_ q er m:Int}{vf:Nat->List Bk}{V:List Bk}{k i c:Nat}
theorem Acv(b:i<=k)(c:¬(i:Int)<m){X:Prop}(a:(er=0/\(k:Int)=m)\/((k:Int)<m/\X)):(k:Int)=(i:Int)/\er=0:=by
 rcases a with h|h
 ·omega
 omega
theorem lw_quo(e:∀j,j<k->¬Ez at_ q j (vf j))(hq:Ez at_ q i (vf i))(f:i<=k)(d:vf k=V)(b:(er=0/\(k:Int)=m)\/((k:Int)<m/\((er=30/\Ez at_ q k V)\/(er=20/\¬Ez at_ q k V/\c<=11))))(g:(i:Int)<m):(k:Int)=(i:Int)/\er=30:=by
 have a:k=i:=by
  rcases Ael i k with h|h
  ·exact absurd hq (e i h)
  omega
 subst a;rw[d] at hq;rcases b with h|⟨_,h|h⟩
 ·omega
 ·exact ⟨Z,h.1⟩
 exact absurd hq h.2.1
theorem Pf(hq:¬Ez at_ q i (vf i))(d:(i:Int)=(k:Int))(b:vf k=V)(a:(er=0/\(k:Int)=m)\/((k:Int)<m/\((er=30/\Ez at_ q k V)\/(er=20/\¬Ez at_ q k V/\c<=11))))(e:(i:Int)<m):er=20/\c<=11:=by
 obtain rfl:i=k:=by omega
 rw[b] at hq;rcases a with h|⟨_,h|h⟩
 ·omega
 ·exact absurd h.2 hq
 exact ⟨h.1,h.2.2⟩
end
set_option maxHeartbeats 8000000 in
theorem Ub (pb pd pv pw pp mb n:Nat) (nx:Int) (P:List Pl) (o:TB) (W:List Wv) (A:Af) (y:LvI n o nx P W A) (f0:mb+20<=1000000000) (id:Int) (kd ci ca cc cf cs cq:Int) (sy od:Bool) (c1: -9223372036854775808<=ca/\ca<=9223372036854775807) (e4: -9223372036854775808<=cc/\cc<=9223372036854775807) (c9: -9223372036854775808<=cf/\cf<=9223372036854775807) (fr:Int) (g3:fr=(cnt (AV n o.C) 0 1024:Int)):Cn prog 20 [Y pb,I id,.agg #[I kd,I ci,I ca,I cc,I cf,I cs,I cq,.bool sy,.bool od],I fr] [blk pb [Y pd,Y pv,Y pw] 35,voA pv pp nx ([]) (P.map Prod.fst),trA Tb pp mb n o none,wdA pw nx W,A] (λv Γ=>∃(p2:Nat) (nx2:Int) (P2:List Pl) (c3:List Vl) (o2:TB) (W2:List Wv) (A2:Af) (m2:Nat),(LvI n o2 nx2 P2 W2 A2/\c3=P2.map Prod.fst/\m2<=mb+16/\nx2=nx/\WrE W W2 id ca (mV cc od) (cnt (AV n o.C) 0 1024))/\v=.bool true/\Γ=[blk pb [Y pd,Y pv,Y p2] 35,voA pv pp nx2 [] c3,trA Tb pp m2 n o2 none,wdA p2 nx2 W2,A2]):=by
 intro z R w H;replace H:=H.l5;have d1:W.length<=64:=by have:=y.w8;omega
 have e3:=λx a=>(y.w (x:=x) a).1
 have e0:=y.bag;refine Ae func20 Z ntmps20 Z (Za 2 [] H Z ?_);intro b1 w H;refine Z2 6 [0,9] H Z (Aq Z (call56 _) (WH _ _ _ _ _ _ _ _ _ c9 e4) H ?_);rintro _ w _ ⟨db,bs,b4,rfl,rfl⟩ H;replace H:=H.l7;have f9:=Xx cc od;have e7:bs.length/64<=11:=by omega
 refine Zc 4 Z ?_;replace H:=H.f1.f2;refine Bl (Sep z (blk pb [Y pd,Y pv,Y pw] 35::blk b1 [I kd,I ci,I ca,I cc,I cf,I cs,I cq,.bool sy,.bool od] 29::R)) 20 Z J (A5 H λw f=>?_);have H:=f.l7;refine Bw [0,1,2,3,4,5,6,7] [2,0,2,1] J (λ_ a=>(AS (a.blk 0 Z) (AS (a.blk 1 Z) AN))) (by exact H.pick 7 [0,1] Z) Z J Z Z (BS 8 J Z Z J J J Z Z Z (FZ Z (z:=1) J Z) (H.pick 7 [0,1] Z) (BS 9 J Z Z J J J Z Z Z (Li Z Z Z (r:=((bs.length/64:Nat):Int)) U U U U) (H.pick 7 [0,1] Z) (Bw [10] [] J (λ_ _=>AN) (by exact H.pick 7 [0,1] Z) Z J Z Z (BS 11 J Z Z J J J Z Z Z (FZ Z (z:=1) J Z) (H.pick 7 [0,1] Z) (BS 12 J Z Z J J J Z Z Z (Lj Z Z Z (r:=((bs.length%64:Nat):Int)) U U U) (H.pick 7 [0,1] Z) (Bw [13] [] J (λ_ _=>AN) (by exact H.pick 7 [0,1] Z) Z J Z Z (AF [14] J O (An (Bo Z Z Z Z Z Z (λw=>call57 _ w) (Md _ _ _ _ _ _ _ d1 e3 c1 U) H.f5 Z ?_)))))))));rintro _ w _ (⟨b7,rfl,rfl⟩|⟨j,x,⟨a,c⟩,rfl,rfl⟩) f
 ·have H:=f.l7;refine Au (λ_=>(H.pick 7 [1,2] Z)) (Bw [15,16,17,18] [] J (λ_ _=>AN) (by exact H.pick 7 [1,2] Z) Z J Z Z (AF [19] J O (An (CI Z Z Z Z (Bi Z Z) (Au (λh=>absurd Z h) (Bn J (gn (Zc 2 Z ?_))))))));replace H:=H.f2.f2;refine Bl (Sep z (blk pb [Y pd,Y pv,Y pw] 35::blk b1 [I kd,I ci,I ca,I cc,I cf,I cs,I cq,.bool sy,.bool od] 29::R)) 16 Z J (A5 H λw f=>?_)
  have H:=f.l7;refine Bw [0,1,2,3,4,5,6,7,8,9] [1,0,2,1,7,1] J (λ_ a=>(AS (a.blk 0 Z) (AS (a.blk 1 Z) AN))) (by exact H.pick 7 [0,1] Z) Z J Z Z (AF [10] J O (An (Bo Z Z Z Z Z Z (λw=>call58 _ w) (O5 _ _ _ _ _ P _ Z _ y.inv U id ca c1 db bs U sy) H.f3.f5.f5 Z ?_)));rintro _ w _ (⟨c5,rfl,rfl⟩|⟨i,e,L,⟨hi,hs,a3⟩,(⟨_,rfl,rfl⟩|⟨_,k,o2,e2,L2,m2,er,_,rfl,rfl⟩)⟩) f
  ·have H:=f.l7;refine Au (λ_=>(H.pick 7 [3,4] Z)) (Bw [11,12,13,14] [] J (λ_ _=>AN) (by exact H.pick 7 [3,4] Z) Z J Z Z (AF [15] J O (An (CI Z Z Z Z (Bi Z Z) (Au (λh=>absurd Z h) (Bn J (gn (Z0 22 [3,3,3] Z (Zr Z ?_)))))))));exact ⟨_,⟨_,_,P,_,o,W,A,mb,⟨y,Z,by omega,Z,WrE.no b7⟩,Z,Z⟩,H.pick 7 [3,0,1,5,6] Z⟩
  ·exact (by obtain ⟨j9,x9,q1,q2⟩:=y.at hi hs a3;exact absurd q2 (b7 x9 (Ad8 q1)))
  exact (by obtain ⟨j9,x9,q1,q2⟩:=y.at hi hs a3;exact absurd q2 (b7 x9 (Ad8 q1)))
 have H:=f.l7;refine Au (λ_=>(H.pick 7 [1,2] Z)) (Bw [15,16,17,18] [] J (λ_ _=>AN) (by exact H.pick 7 [1,2] Z) Z J Z Z (AF [19] J O (An (CI Z Z Z Z (Bi Z Z) (Au (λh=>absurd Z h) (Bn J (gn (Zc 2 Z ?_))))))));replace H:=H.f2.f2;refine Bl (Sep z (blk pb [Y pd,Y pv,Y pw] 35::blk b1 [I kd,I ci,I ca,I cc,I cf,I cs,I cq,.bool sy,.bool od] 29::R)) 16 Z J (A5 H λw f=>?_);have H:=f.l7;refine Bw [0,1,2,3,4,5,6,7,8,9] [1,0,2,1,7,1] J (λ_ a=>(AS (a.blk 0 Z) (AS (a.blk 1 Z) AN))) (by exact H.pick 7 [0,1] Z) Z J Z Z (AF [10] J O (An (Bo Z Z Z Z Z Z (λw=>call58 _ w) (O5 _ _ _ _ _ P _ Z _ y.inv U id ca c1 db bs U sy) H.f3.f5.f5 Z ?_)));rintro _ w _ (⟨c5,rfl,rfl⟩|⟨i,e,L,⟨hi,hs,a3⟩,(⟨hE,rfl,rfl⟩|⟨hE,k,o2,e2,L2,m2,er,⟨⟨b3,vf,d9,a1,a5⟩,a2,g2⟩,rfl,rfl⟩)⟩) f
 ·exact (by obtain ⟨e9,a9,q1,q2⟩:=y.back a c;exact absurd ⟨q1,q2⟩ (c5 e9 a9))
 ·have H:=f.l7;have a7:=y.both hi hs a (c.trans a3.symm)
  refine Au (λ_=>(H.pick 7 [3,4] Z)) (Bw [11,12,13,14] [] J (λ_ _=>AN) (by exact H.pick 7 [3,4] Z) Z J Z Z (AF [15] J O (An (CI Z Z Z Z (Bi Z Z) (Au (λh=>absurd Z h) (Bn J (gn (Zc 3 Z (AC 11 (v:=I (Bm e.sz (decide (((bs.length%64:Nat):Int)=0)) ca ((bs.length/64:Nat):Int))) Z (congrArg I (by rw[a7.1])) (Z0 5 [0] Z (Ag Z (λh1=>?_) (λh1=>?_))))))))))))
  ·refine Z0 6 [0] Z (Al 56 Z (λh2=>?_) (λh2=>?_))
   ·refine Z0 7 [3] Z (Zr Z ?_);exact ⟨_,⟨_,_,P,_,o,W,A,mb,⟨y,Z,by omega,Z,b4▸WrE.bad y a c (by rw[a7.1];exact hE)⟩,Z,Z⟩,H.pick 7 [3,0,1,5,6] Z⟩
   exact absurd Z h2
  exact absurd hE h1
 have H:=f.l7;have a7:=y.both hi hs a (c.trans a3.symm);refine Au (λ_=>(H.pick 7 [3,4] Z)) (Bw [11,12,13,14] [] J (λ_ _=>AN) (by exact H.pick 7 [3,4] Z) Z J Z Z (AF [15] J O (An (CI Z Z Z Z (Bi Z Z) (Au (λh=>absurd Z h) (Bn J (gn (Zc 3 Z (AC 11 (v:=I 0) Z (congrArg I (by rw[a7.1];exact hE)) (Z0 10 [4] Z (AC 10 (v:=I (j:Int)) Z (congrArg I (if_pos (by rw[a7.1];exact hE))) ?_)))))))))));replace H:=H.f5;obtain ⟨uw,H⟩:=H.wd;replace H:=H.l8;have d7:=H.sy 1 (·.slc);obtain ⟨aw,cw,rfl⟩:=d7;obtain ⟨m,xs,g,xu,xV⟩:=x;have b6:∀p b,o2.N p=some (.dt b)->b.length=240:=H.says 3 Z (λh q=>trA.d64 q);have K2:=H.says 3 Z (λh q=>trA.k q);have d0:=(y.w (Ad8 a)).2.2.1;have e1:InB A xu xV:=e0 _ (Ad8 a);have d3:=(Ad6.1 a).1;obtain ⟨d4,a8,c4⟩:=a7;dsimp only at d4 a8 c4 d0;have a6:cnt (AV n o.C) 0 1024<=cnt (AV n o2.C) 0 1024+12*k:=b3.fr;have a0:vf 0=xV:=by rw[d9,c4]
 have d5:W.set j ⟨m,xs,g,xu,vf 0⟩=W:=by obtain ⟨hl,e9⟩:=Ad6.1 a;rw[a0];show W.set j ⟨m,xs,g,xu,xV⟩=W;rw[<-e9];exact Age hl
 have g1:(k:Int)<=((bs.length/64:Nat):Int):=by rcases a2 with q|q<;>omega
 have d6:=FW hE;have c8:=(y.ok hi hs).sz;dsimp only at c8;refine Zc 5 Z ?_;refine AD (σ:=Nat×Value×Af) (λ⟨s,u2,AA⟩=>[(14,I (s:Int)),(0,Y pb),(3,I fr),(6,Y b1),(9,.slice (some ⟨db,0,none⟩) bs.length bs.length),(10,I (j:Int)),(12,I (k:Int)),(13,I er)])
   (λ⟨s,u2,AA⟩ w=>Sep z (blk pw [.slice aw W.length cw,I nx] 67::grow 74 4 (.slice aw W.length cw) W.length (Bt (W.set j ⟨m,xs,g,u2,vf s⟩))::voA pv pp nx ([]) ((P.map Prod.fst).set i e2)::trA Tb pp m2 n o2 none::blk db (bs.map u8) 5::blk pb [Y pd,Y pv,Y pw] 35::blk b1 [I kd,I ci,I ca,I cc,I cf,I cs,I cq,.bool sy,.bool od] 29::AA::R) w/\(s<=k/\(vf s).length<=639+s/\Ink A AA/\InB AA u2 (vf s))) (λ⟨s,u2,AA⟩=>k-s) ⟨0,xu,A⟩
   fr_z ⟨(by rw[d5];exact H),⟨AeJ _,by rw[a0];omega,Ink.refl A,by rw[a0];exact e1⟩⟩ ?_
 clear H;rintro ⟨s,u2,AA⟩ w ⟨f,hI⟩;dsimp only at hI f ⊢;have H:=f.l8;obtain ⟨c2,e8,hK,t⟩:=hI;refine Z1 10 [0] [((bs.length/64:Nat):Int)] Z U (Ag Z (λh3=>?_) (λh3=>?_))
 ·refine Zc 5 Z ?_;have e5:=H.sy 7 (λq=>(t _ q).slc)
  obtain ⟨au,cu,rfl⟩:=e5;have b5:(W.set j ⟨m,xs,g,.slice au (vf s).length cu,vf s⟩)[j]?=some ⟨m,xs,g,.slice au (vf s).length cu,vf s⟩:=Afq d3;have a4:=(H.rv 1 (·.rd)).at (BJ b5 0 _ Z);refine Z2 9 [2,5,0,0,0,0] H Z (Ab Z (Aj Z (z:=4) (j:=j) (r:=j*4) J Z Z Z U a4 U) (Ab Z (Bq Z Z (vs:=[I m,I xs,I g,.slice au (vf s).length cu]) J O (Ay (λk' u hk=>(H.rv 1 (·.rd)).at (BJ b5 k' u hk)))) (Za 0 [] H Z ?_)));intro b2 w H;refine Z5 10 [0,0,4,2,7,0] [ca+(s:Int)] H Z U ?_;intro w H;refine z_E_ Z (call59 _) (Ab9 _ _ _ _ _ _ AA t) H.f8 ?_;intro w H;refine Zc 7 Z (Ab Z (AE Z Z) (Zc 1 Z (Al 85 Z (λh4=>?_) (λh4=>?_))))
  ·refine Z2 9 [3,1,0,2,1,0,0] H Z (Ag Z (λh5=>?_) (λh5=>?_))
   ·obtain ⟨d2,a9⟩:=lw_quo (λq hq=>(a5 q hq).1) (i:=s) ⟨by assumption,by omega⟩ c2 a1 a2 U;refine Z0 5 [0] Z (Al 95 Z (λh6=>?_) (λh6=>?_))
    ·refine Z0 8 [0] Z (Zr Z ?_);obtain rfl:s=k:=by omega
     rw[a1] at H t;have hF:=y.ea hi hs a (c.trans a3.symm) b3 hK t b6 K2;have f:=Sep.toWd (W:=W.set j ⟨m,xs,g,.slice au (AZ o2.N L2).length cu,AZ o2.N L2⟩) (by rw[AeP];exact H.pick 9 [2,3,7,4,5,0] Z);exact ⟨_,⟨_,_,_,_,o2,_,AA,m2,⟨hF,(DQ P i e2 L2).symm,by omega,Z,b4▸WrE.did y a c a8 a0 a1 a5 a6 a2 _⟩,congrArg Value.bool (decide_eq_true U),Z⟩,f.pick 5 [1,2,3,0,4] Z⟩
    exact absurd a9 h6
   refine Z0 10 [0] Z (Ag Z (λh7=>?_) (λh7=>?_))
   ·have b9:=Pf (i:=s) (λq9=>by have q1:=q9.1;have q2:=q9.2;first|exact q1 (by assumption)|exact absurd q1 (by assumption)|simp_all|omega) U a1 a2 U
    refine Z0 5 [0] Z (Al 105 Z (λh8=>?_) (λh8=>?_))
    ·refine Z1 10 [0] [12*(s:Int),25+12*(s:Int)] Z U (Zr Z ?_);obtain rfl:s=k:=by omega
     rw[a1] at H t;have hF:=y.ea hi hs a (c.trans a3.symm) b3 hK t b6 K2;have f:=Sep.toWd (W:=W.set j ⟨m,xs,g,.slice au (AZ o2.N L2).length cu,AZ o2.N L2⟩) (by rw[AeP];exact H.pick 9 [2,3,7,4,5,0] Z);exact ⟨_,⟨_,_,_,_,o2,_,AA,m2,⟨hF,(DQ P i e2 L2).symm,by omega,Z,b4▸WrE.did y a c a8 a0 a1 a5 a6 a2 _⟩,congrArg Value.bool (decide_eq_true U),Z⟩,f.pick 5 [1,2,3,0,4] Z⟩
    exact absurd b9.1 h8
   refine Zc 2 Z ?_;replace H:=H.f6.f2.f8.f5.f5.f8;refine Bl (Sep z (blk pb [Y pd,Y pv,Y pw] 35::blk pw [.slice aw W.length cw,I nx] 67::grow 74 4 (.slice aw W.length cw) W.length (Bt (W.set j ⟨m,xs,g,.slice au (vf s).length cu,vf s⟩))::blk b1 [I kd,I ci,I ca,I cc,I cf,I cs,I cq,.bool sy,.bool od] 29::blk b2 [I m,I xs,I g,.slice au ((vf s).length) cu] 74::blk db (bs.map u8) 5::R)) 24 Z J (A5 H λw f=>?_);have H:=f.l9;refine Bw [0,1,2,3,4,5,6,7] [2,0,0,1] J (λ_ a=>(AS (a.blk 0 Z) (AS (a.blk 1 Z) AN))) (by exact H.pick 9 [0,1,2,3,4,5] Z) Z J Z Z (BS 8 J Z Z J J J Z Z Z (BX Z Z (vs:=[I m,I xs,I g,.slice au ((vf s).length) cu]) J (λ_ a=>(a.blk 4 Z).part 0 4 _ Z)) (H.pick 9 [0,1,2,3,4,5] Z) (Bw [9,10,11] [2,0] J (λ_ a=>(AS (a.blk 3 Z) AN)) (by exact H.pick 9 [0,1,2,3,4,5] Z) Z J Z Z (BS 12 J Z Z J J J Z Z Z (CZ Z Z Z (r:=ca+(s:Int)) U U) (H.pick 9 [0,1,2,3,4,5] Z) (Bw [13,14] [] J (λ_ _=>AN) (by exact H.pick 9 [0,1,2,3,4,5] Z) Z J Z Z (BS 15 J Z Z J J J Z Z Z (Hs Z Z Z (r:=((s*64:Nat):Int)) U U) (H.pick 9 [0,1,2,3,4,5] Z) (Bw [16] [] J (λ_ _=>AN) (by exact H.pick 9 [0,1,2,3,4,5] Z) Z J Z Z (BS 17 J Z Z J J J Z Z Z (CZ Z Z Z (r:=(s:Int)+1) U U) (H.pick 9 [0,1,2,3,4,5] Z) (BS 18 J Z Z J J J Z Z Z (Hs Z Z Z (r:=(((s+1)*64:Nat):Int)) U U) (H.pick 9 [0,1,2,3,4,5] Z) (BS 19 J Z Z J J J Z Z Z (BK Z (z:=1) (p:=(s*64)) (q:=((s+1)*64)) (o':=(s*64)) (l':=((s+1)*64)-(s*64)) (c':=bs.length-(s*64)) J Z (.inr ⟨_,_,_,Z,Z,Z⟩) (.inr ⟨_,_,_,Z,Z,Z⟩) U U U U U U) (H.pick 9 [0,1,2,3,4,5] Z) (BS 20 J Z Z J J J Z Z Z (Co (l:=DL bs s) Z J J Z (λ_ b8=>b8.rv 5 (λq=>Pe U U q))) (H.pick 9 [0,1,2,3,4,5] Z) (AF [21] J O (An (Bo Z Z Z Z Z Z (λw=>call60 _ w) (TP _ _ _ (ca+(s:Int)) _ (vf s) AA t (DL bs s) U) H.f6 Z ?_)))))))))))));rintro _ w _ ⟨u3,V2,b0,rfl,rfl⟩ H;replace H:=H.l10;have d8:=PutAt.le b0;obtain rfl:V2=vf (s+1):=(a5 s U).2 V2 b0;have c0:=H.sy 0 (·.rd.slc);refine Au (λ_=>(H.pick 10 [2,3,4,5,6,7] Z)) (BS 22 J Z Z J J J Z Z Z (Aj Z (z:=4) (j:=j) (r:=j*4) J Z Z Z U a4 U) (H.pick 10 [2,3,4,5,6,7] Z) (AF [23] J O (An (Bg Z Z Z (CV 4 H Z Z Z Z (vs:=[I m,I xs,I g,u3]) Z (Ad Z (Ad Z (Ad Z (Ad c0.one Aw)))) J U (by simp only[Aeb,Aew];omega) (out:=Bt ((W.set j ⟨m,xs,g,.slice au (vf s).length cu,vf s⟩).set j ⟨m,xs,g,u3,vf (s+1)⟩)) (HZ (x2:=⟨m,xs,g,u3,vf (s+1)⟩) b5 0 _ O (by simp[Wv.cells]))) ?_))));rintro w H;replace H:=H.l10;refine Au (λh=>absurd Z h) (Bn J (gn (Zc 2 Z ?_)));rw[AgN] at H;have f:=(H.pick 10 [0,1,2,3,4,5,6,7,8,9] Z).made 2 (A:=both (grow 79 2 u3 ((vf (s+1)).length) (BW (vf (s+1)))) AA) (λh q=>q);clear H;have H:Sep z (both (grow 79 2 u3 ((vf (s+1)).length) (BW (vf (s+1)))) AA::blk pb [Y pd,Y pv,Y pw] 35::blk pw [.slice aw W.length cw,I nx] 67::grow 74 4 (.slice aw W.length cw) W.length (Bt (W.set j ⟨m,xs,g,u3,vf (s+1)⟩))::blk b1 [I kd,I ci,I ca,I cc,I cf,I cs,I cq,.bool sy,.bool od] 29::blk b2 [I m,I xs,I g,.slice au ((vf s).length) cu] 74::blk db (bs.map u8) 5::voA pv pp nx ([]) ((P.map Prod.fst).set i e2)::trA Tb pp m2 n o2 none::R) w:=f;clear f;refine Z1 5 [] [(s:Int)+1] Z U ?_;replace H:=H.f5.d.f4.f2.f5.f7.f7.f7.f7;refine gf ?_;intro _ hF;refine ⟨⟨s+1,u3,both (grow 79 2 u3 ((vf (s+1)).length) (BW (vf (s+1)))) AA⟩,hF.cz,⟨H,?_⟩,?_⟩
   ·exact ⟨by show s+1<=k;omega,by show (vf (s+1)).length<=_;omega,hK.trans (Ink.both _ AA),InB.grow⟩
   (dsimp only;omega)
  refine Z0 20 [0] Z (Ag Z (λh9=>?_) (λh9=>?_))
  ·have b9:=Pf (i:=s) (λq9=>by have q1:=q9.1;first|exact q1 (by assumption)|exact absurd q1 (by assumption)|simp_all|omega) U a1 a2 U
   refine Z0 5 [0] Z (Al 105 Z (λc7=>?_) (λc7=>?_))
   ·refine Z1 10 [0] [12*(s:Int),25+12*(s:Int)] Z U (Zr Z ?_);obtain rfl:s=k:=by omega
    rw[a1] at H t;have hF:=y.ea hi hs a (c.trans a3.symm) b3 hK t b6 K2;have f:=Sep.toWd (W:=W.set j ⟨m,xs,g,.slice au (AZ o2.N L2).length cu,AZ o2.N L2⟩) (by rw[AeP];exact H.pick 9 [2,3,7,4,5,0] Z);exact ⟨_,⟨_,_,_,_,o2,_,AA,m2,⟨hF,(DQ P i e2 L2).symm,by omega,Z,b4▸WrE.did y a c a8 a0 a1 a5 a6 a2 _⟩,congrArg Value.bool (decide_eq_true U),Z⟩,f.pick 5 [1,2,3,0,4] Z⟩
   exact absurd b9.1 c7
  refine Zc 2 Z ?_;replace H:=H.f6.f2.f8.f5.f5.f8;refine Bl (Sep z (blk pb [Y pd,Y pv,Y pw] 35::blk pw [.slice aw W.length cw,I nx] 67::grow 74 4 (.slice aw W.length cw) W.length (Bt (W.set j ⟨m,xs,g,.slice au (vf s).length cu,vf s⟩))::blk b1 [I kd,I ci,I ca,I cc,I cf,I cs,I cq,.bool sy,.bool od] 29::blk b2 [I m,I xs,I g,.slice au ((vf s).length) cu] 74::blk db (bs.map u8) 5::R)) 24 Z J (A5 H λw f=>?_);have H:=f.l9;refine Bw [0,1,2,3,4,5,6,7] [2,0,0,1] J (λ_ a=>(AS (a.blk 0 Z) (AS (a.blk 1 Z) AN))) (by exact H.pick 9 [0,1,2,3,4,5] Z) Z J Z Z (BS 8 J Z Z J J J Z Z Z (BX Z Z (vs:=[I m,I xs,I g,.slice au ((vf s).length) cu]) J (λ_ a=>(a.blk 4 Z).part 0 4 _ Z)) (H.pick 9 [0,1,2,3,4,5] Z) (Bw [9,10,11] [2,0] J (λ_ a=>(AS (a.blk 3 Z) AN)) (by exact H.pick 9 [0,1,2,3,4,5] Z) Z J Z Z (BS 12 J Z Z J J J Z Z Z (CZ Z Z Z (r:=ca+(s:Int)) U U) (H.pick 9 [0,1,2,3,4,5] Z) (Bw [13,14] [] J (λ_ _=>AN) (by exact H.pick 9 [0,1,2,3,4,5] Z) Z J Z Z (BS 15 J Z Z J J J Z Z Z (Hs Z Z Z (r:=((s*64:Nat):Int)) U U) (H.pick 9 [0,1,2,3,4,5] Z) (Bw [16] [] J (λ_ _=>AN) (by exact H.pick 9 [0,1,2,3,4,5] Z) Z J Z Z (BS 17 J Z Z J J J Z Z Z (CZ Z Z Z (r:=(s:Int)+1) U U) (H.pick 9 [0,1,2,3,4,5] Z) (BS 18 J Z Z J J J Z Z Z (Hs Z Z Z (r:=(((s+1)*64:Nat):Int)) U U) (H.pick 9 [0,1,2,3,4,5] Z) (BS 19 J Z Z J J J Z Z Z (BK Z (z:=1) (p:=(s*64)) (q:=((s+1)*64)) (o':=(s*64)) (l':=((s+1)*64)-(s*64)) (c':=bs.length-(s*64)) J Z (.inr ⟨_,_,_,Z,Z,Z⟩) (.inr ⟨_,_,_,Z,Z,Z⟩) U U U U U U) (H.pick 9 [0,1,2,3,4,5] Z) (BS 20 J Z Z J J J Z Z Z (Co (l:=DL bs s) Z J J Z (λ_ b8=>b8.rv 5 (λq=>Pe U U q))) (H.pick 9 [0,1,2,3,4,5] Z) (AF [21] J O (An (Bo Z Z Z Z Z Z (λw=>call60 _ w) (TP _ _ _ (ca+(s:Int)) _ (vf s) AA t (DL bs s) U) H.f6 Z ?_)))))))))))));rintro _ w _ ⟨u3,V2,b0,rfl,rfl⟩ H;replace H:=H.l10;have d8:=PutAt.le b0;obtain rfl:V2=vf (s+1):=(a5 s U).2 V2 b0;have c0:=H.sy 0 (·.rd.slc);refine Au (λ_=>(H.pick 10 [2,3,4,5,6,7] Z)) (BS 22 J Z Z J J J Z Z Z (Aj Z (z:=4) (j:=j) (r:=j*4) J Z Z Z U a4 U) (H.pick 10 [2,3,4,5,6,7] Z) (AF [23] J O (An (Bg Z Z Z (CV 4 H Z Z Z Z (vs:=[I m,I xs,I g,u3]) Z (Ad Z (Ad Z (Ad Z (Ad c0.one Aw)))) J U (by simp only[Aeb,Aew];omega) (out:=Bt ((W.set j ⟨m,xs,g,.slice au (vf s).length cu,vf s⟩).set j ⟨m,xs,g,u3,vf (s+1)⟩)) (HZ (x2:=⟨m,xs,g,u3,vf (s+1)⟩) b5 0 _ O (by simp[Wv.cells]))) ?_))));rintro w H;replace H:=H.l10;refine Au (λh=>absurd Z h) (Bn J (gn (Zc 2 Z ?_)));rw[AgN] at H;have f:=(H.pick 10 [0,1,2,3,4,5,6,7,8,9] Z).made 2 (A:=both (grow 79 2 u3 ((vf (s+1)).length) (BW (vf (s+1)))) AA) (λh q=>q);clear H;have H:Sep z (both (grow 79 2 u3 ((vf (s+1)).length) (BW (vf (s+1)))) AA::blk pb [Y pd,Y pv,Y pw] 35::blk pw [.slice aw W.length cw,I nx] 67::grow 74 4 (.slice aw W.length cw) W.length (Bt (W.set j ⟨m,xs,g,u3,vf (s+1)⟩))::blk b1 [I kd,I ci,I ca,I cc,I cf,I cs,I cq,.bool sy,.bool od] 29::blk b2 [I m,I xs,I g,.slice au ((vf s).length) cu] 74::blk db (bs.map u8) 5::voA pv pp nx ([]) ((P.map Prod.fst).set i e2)::trA Tb pp m2 n o2 none::R) w:=f;clear f;refine Z1 5 [] [(s:Int)+1] Z U ?_;replace H:=H.f5.d.f4.f2.f5.f7.f7.f7.f7;refine gf ?_;intro _ hF;refine ⟨⟨s+1,u3,both (grow 79 2 u3 ((vf (s+1)).length) (BW (vf (s+1)))) AA⟩,hF.cz,⟨H,?_⟩,?_⟩
  ·exact ⟨by show s+1<=k;omega,by show (vf (s+1)).length<=_;omega,hK.trans (Ink.both _ AA),InB.grow⟩
  (dsimp only;omega)
 obtain ⟨d2,a9⟩:=Acv c2 U a2;refine Zc 2 Z (gx (Z0 7 [0] Z (Al 137 Z (λc6=>?_) (λc6=>?_))))
 ·refine Z1 10 [0] [((bs.length/64:Nat):Int)] Z U (Zr Z ?_);obtain rfl:s=k:=by omega
  rw[a1] at H t;have hF:=y.ea hi hs a (c.trans a3.symm) b3 hK t b6 K2;have f:=Sep.toWd (W:=W.set j ⟨m,xs,g,u2,AZ o2.N L2⟩) (by rw[AeP];exact H.pick 8 [0,1,5,2,3,7] Z);exact ⟨_,⟨_,_,_,_,o2,_,AA,m2,⟨hF,(DQ P i e2 L2).symm,by omega,Z,b4▸WrE.did y a c a8 a0 a1 a5 a6 a2 _⟩,congrArg Value.bool (decide_eq_true U),Z⟩,f.pick 5 [1,2,3,0,4] Z⟩
 exact absurd a9 c6
end
section
variable{Tb:Af}
set_option maxHeartbeats 8000000 in
theorem Uc (y pd r pw pp mb n:Nat) (nx:Int) (P:List Pl) (o:TB) (W:List Wv) (A:Af) (d:LvI n o nx P W A) (c0:mb+20<=1000000000) (id:Int) (kd ci ca cc cf cs cq:Int) (sy od:Bool) (a0: -9223372036854775808<=ca/\ca<=9223372036854775807) (u: -9223372036854775808<=cc/\cc<=9223372036854775807) (fr:Int) (c2:fr=(cnt (AV n o.C) 0 1024:Int)):Cn prog 23 [Y y,I id,.agg #[I kd,I ci,I ca,I cc,I cf,I cs,I cq,.bool sy,.bool od],I fr] [blk y [Y pd,Y r,Y pw] 35,voA r pp nx ([]) (P.map Prod.fst),trA Tb pp mb n o none,wdA pw nx W,A] (λv Γ=>∃(p2:Nat) (nx2:Int) (P2:List Pl) (a9:List Vl) (o2:TB) (W2:List Wv) (A2:Af) (m2:Nat),(LvI n o2 nx2 P2 W2 A2/\a9=P2.map Prod.fst/\m2<=mb+16)/\v=.bool true/\Γ=[blk y [Y pd,Y r,Y p2] 35,voA r pp nx2 [] a9,trA Tb pp m2 n o2 none,wdA p2 nx2 W2,A2]):=by
 intro z R w H;replace H:=H.l5;have a3:W.length<=64:=by have:=d.w8;omega
 have b4:=λx a=>(d.w (x:=x) a).1;have a1:∀x∈W,x.V.length<=1048576:=λx a=>by have:=(d.w a).2.2.1;omega
 have b0:=d.bag;refine Ae func23 Z ntmps23 Z (Za 2 [] H Z ?_);intro b1 w H;refine Zc 4 Z ?_;replace H:=H.f1;refine Bl (Sep z (blk y [Y pd,Y r,Y pw] 35::blk b1 [I kd,I ci,I ca,I cc,I cf,I cs,I cq,.bool sy,.bool od] 29::R)) 15 Z J (A5 H λw g=>?_);have H:=g.l6;refine Bw [0,1,2,3,4,5,6,7,8] [2,0,2,1,3,1] J (λ_ a=>(AS (a.blk 0 Z) (AS (a.blk 1 Z) AN))) (by exact H.pick 6 [0,1] Z) Z J Z Z (AF [9] J O (An (Bo Z Z Z Z Z Z (λw=>call57 _ w) (Md _ _ _ _ _ _ _ a3 b4 a0 u) H.f4 Z ?_)));rintro _ w _ (⟨a2,rfl,rfl⟩|⟨j,x,⟨a,c⟩,rfl,rfl⟩) g
 ·have H:=g.l6;refine Au (λ_=>(H.pick 6 [1,2] Z)) (Bw [10,11,12,13] [] J (λ_ _=>AN) (by exact H.pick 6 [1,2] Z) Z J Z Z (AF [14] J O (An (CI Z Z Z Z (Bi Z Z) (Au (λh=>absurd Z h) (Bn J (gn (Zc 2 Z ?_))))))));replace H:=H.f2.f2;refine Bl (Sep z (blk y [Y pd,Y r,Y pw] 35::blk b1 [I kd,I ci,I ca,I cc,I cf,I cs,I cq,.bool sy,.bool od] 29::R)) 15 Z J (A5 H λw g=>?_)
  have H:=g.l6;refine Bw [0,1,2,3,4,5,6,7,8] [1,0,2,1,3,1] J (λ_ a=>(AS (a.blk 0 Z) (AS (a.blk 1 Z) AN))) (by exact H.pick 6 [0,1] Z) Z J Z Z (AF [9] J O (An (Bo Z Z Z Z Z Z (λw=>call63 _ w) (O6 _ _ _ _ _ P _ Z _ d.inv U id ca cc a0 u) H.f4.f4 Z ?_)));rintro _ w _ (⟨a5,rfl,rfl⟩|⟨i,e,L,⟨hi,hs,f⟩,(⟨_,rfl,rfl⟩|⟨_,k,o2,e2,L2,m2,er,_,rfl,rfl⟩)⟩) g
  ·have H:=g.l6;refine Au (λ_=>(H.pick 6 [2,3] Z)) (Bw [10,11,12,13] [] J (λ_ _=>AN) (by exact H.pick 6 [2,3] Z) Z J Z Z (AF [14] J O (An (CI Z Z Z Z (Bi Z Z) (Au (λh=>absurd Z h) (Bn J (gn (Z0 22 [3,3,3] Z (Zr Z ?_)))))))));exact ⟨_,⟨_,_,P,_,o,W,A,mb,⟨d,Z,by omega⟩,Z,Z⟩,H.pick 6 [2,0,1,4,5] Z⟩
  ·exact (by obtain ⟨j9,x9,q1,q2⟩:=d.at hi hs f;exact absurd q2 (a2 x9 (Ad8 q1)))
  exact (by obtain ⟨j9,x9,q1,q2⟩:=d.at hi hs f;exact absurd q2 (a2 x9 (Ad8 q1)))
 have H:=g.l6;refine Au (λ_=>(H.pick 6 [1,2] Z)) (Bw [10,11,12,13] [] J (λ_ _=>AN) (by exact H.pick 6 [1,2] Z) Z J Z Z (AF [14] J O (An (CI Z Z Z Z (Bi Z Z) (Au (λh=>absurd Z h) (Bn J (gn (Zc 2 Z ?_))))))));replace H:=H.f2.f2;refine Bl (Sep z (blk y [Y pd,Y r,Y pw] 35::blk b1 [I kd,I ci,I ca,I cc,I cf,I cs,I cq,.bool sy,.bool od] 29::R)) 15 Z J (A5 H λw g=>?_);have H:=g.l6;refine Bw [0,1,2,3,4,5,6,7,8] [1,0,2,1,3,1] J (λ_ a=>(AS (a.blk 0 Z) (AS (a.blk 1 Z) AN))) (by exact H.pick 6 [0,1] Z) Z J Z Z (AF [9] J O (An (Bo Z Z Z Z Z Z (λw=>call63 _ w) (O6 _ _ _ _ _ P _ Z _ d.inv U id ca cc a0 u) H.f4.f4 Z ?_)));rintro _ w _ (⟨a5,rfl,rfl⟩|⟨i,e,L,⟨hi,hs,f⟩,(⟨hE,rfl,rfl⟩|⟨hE,k,o2,e2,L2,m2,er,⟨⟨t,a6⟩,b2,b9⟩,rfl,rfl⟩)⟩) g
 ·exact (by obtain ⟨e9,b3,q1,q2⟩:=d.back a c;exact absurd ⟨q1,q2⟩ (a5 e9 b3))
 ·have H:=g.l6;have m:=d.both hi hs a (c.trans f.symm)
  refine Au (λ_=>(H.pick 6 [2,3] Z)) (Bw [10,11,12,13] [] J (λ_ _=>AN) (by exact H.pick 6 [2,3] Z) Z J Z Z (AF [14] J O (An (CI Z Z Z Z (Bi Z Z) (Au (λh=>absurd Z h) (Bn J (gn (Zc 3 Z (AC 10 (v:=I (Bm e.sz true ca cc)) Z (congrArg I (by rw[m.1])) (Z0 5 [0] Z (Ag Z (λh1=>?_) (λh1=>?_))))))))))))
  ·refine Z0 6 [0] Z (Al 44 Z (λh2=>?_) (λh2=>?_))
   ·refine Z0 7 [3] Z (Zr Z ?_);exact ⟨_,⟨_,_,P,_,o,W,A,mb,⟨d,Z,by omega⟩,Z,Z⟩,H.pick 6 [2,0,1,4,5] Z⟩
   first|exact absurd hE h2|exact absurd rfl h2
  first|exact absurd hE h1|exact absurd rfl h1
 have H:=g.l6;have m:=d.both hi hs a (c.trans f.symm);refine Au (λ_=>(H.pick 6 [2,3] Z)) (Bw [10,11,12,13] [] J (λ_ _=>AN) (by exact H.pick 6 [2,3] Z) Z J Z Z (AF [14] J O (An (CI Z Z Z Z (Bi Z Z) (Au (λh=>absurd Z h) (Bn J (gn (Zc 3 Z (AC 10 (v:=I 0) Z (congrArg I (by rw[m.1];exact hE)) (Z0 9 [4] Z ?_))))))))));have a4:∀p b,o2.N p=some (.dt b)->b.length=240:=H.says 1 Z (λh q=>trA.d64 q);have K2:=H.says 1 Z (λh q=>trA.k q);have b7:cnt (AV n o.C) 0 1024<=cnt (AV n o2.C) 0 1024+12*k:=t.fr;have b8:(k:Int)<=cc:=by rcases b2 with q|q<;>omega
 have b5:=FW hE;have a7:=(d.ok hi hs).sz;dsimp only at a7;replace H:=H.f3.f3;refine Bl (Sep z (blk y [Y pd,Y r,Y pw] 35::blk b1 [I kd,I ci,I ca,I cc,I cf,I cs,I cq,.bool sy,.bool od] 29::R)) 9 Z J (A5 H λw g=>?_);have H:=g.l6;refine Bw [0,1,2,3,4,5,6,7] [2,0,2,1] J (λ_ a=>(AS (a.blk 0 Z) (AS (a.blk 1 Z) AN))) (by exact H.pick 6 [0,1] Z) Z J Z Z (AF [8] J O (An (Bo Z Z Z Z Z Z (λw=>call64 _ w) (WD _ _ _ id ca (k:Int) a3 A b0 a1 j x a c (λk9 y9 b6 e9=>d.rel.uniq a b6 e9) U U) H.f5.f5 Z ?_)));rintro _ w _ ⟨k2,u2,A2,⟨c1,a8,l⟩,rfl,rfl⟩ H;replace H:=H.l6;refine Au (λh=>absurd Z h) (Bn J (gn (Z0 8 [0] Z (Ag Z (λh3=>?_) (λh3=>?_)))))
 ·refine Z2 10 [3,3,0,0] H Z (Zr Z ?_);obtain rfl:k2=k:=by omega
  have s:C8 ca k2 x.V=AZ o2.N L2:=by rw[a6,m.2.2]
  rw[s] at H l;have hF:=d.ea hi hs a (c.trans f.symm) t a8 l a4 K2;exact ⟨_,⟨_,_,_,_,o2,_,A2,m2,⟨hF,(DQ P i e2 L2).symm,by omega⟩,congrArg Value.bool (decide_eq_true U),Z⟩,H.pick 6 [2,4,5,0,1] Z⟩
 refine Z0 7 [0] Z (Al 65 Z (λh4=>?_) (λh4=>?_))
 ·refine Z2 6 [3,3,0,0] H Z (Al 71 Z (λh5=>?_) (λh5=>?_))
  ·refine Z1 10 [0] [12*(k:Int),25+12*(k:Int)] Z U (Zr Z ?_);obtain rfl:k2=k:=by omega
   have s:C8 ca k2 x.V=AZ o2.N L2:=by rw[a6,m.2.2]
   rw[s] at H l;have hF:=d.ea hi hs a (c.trans f.symm) t a8 l a4 K2;exact ⟨_,⟨_,_,_,_,o2,_,A2,m2,⟨hF,(DQ P i e2 L2).symm,by omega⟩,congrArg Value.bool (decide_eq_true U),Z⟩,H.pick 6 [2,4,5,0,1] Z⟩
  (exfalso;omega)
 (exfalso;omega)
end
section
variable{n:Nat}{o:TB}{nx:Int}{P:List Pl}{W:List Wv}{A:Af}
def I9(e:Vl):Int×Int×Int×Int:=(e.id,e.sz,e.q,e.mp)
def MX(x:Wv):Int×Int×Int×Int:=(x.id,x.sz,x.q,(x.V.length:Int))
theorem LvI.list(h:LvI n o nx P W A){Y_:List Vl}(hp:Y_.Perm (C9 (P.map Prod.fst)))(hs:Y_.Pairwise λa b=>a.id<=b.id):Y_.map I9=W.map MX/\∀y∈Y_,y.st=1:=by
 have e1:(C9 (P.map Prod.fst)).map I9=(Dy o.N P).map λc=>(c.1,c.2.1,c.2.2.1,(c.2.2.2.length:Int)):=by
  unfold C9 Dy;rw[Agc,Afh,Afh];refine Afw λp hp=>?_;obtain ⟨l,e⟩:=Ae6.1 hp;have e:p.1.st=1:=by simpa using e
  obtain ⟨i,hi⟩:=AeW.1 l;have q:=h.ok hi e;simp only[Function.comp,I9,CF,Kg,q.mp]
 have e2:(W.map Wv.core).map (λc=>(c.1,c.2.1,c.2.2.1,(c.2.2.2.length:Int)))=W.map MX:=by
  rw[Afh];rfl
 have d:(Y_.map I9).Perm (W.map MX):=by
  rw[<-e2];exact ((hp.map I9).trans (e1▸Ag8 _)).trans (h.rel.p.map _)
 have v:(W.map MX).Pairwise λa b=>a.1<=b.1:=by
  rw[AfE];exact h.rel.s.imp λq=>by simp only[MX];omega
 have r:(Y_.map I9).Pairwise λa b=>a.1<=b.1:=by
  rw[AfE];exact hs
 refine ⟨List.Perm.eq_of_pairwise (λa b k t l e=>?_) r v d,λy m=>?_⟩
 ·have k:=d.mem_iff.1 k
  obtain ⟨x,u,rfl⟩:=Aeh.1 k;obtain ⟨x2,f,rfl⟩:=Aeh.1 t;obtain ⟨i,hi⟩:=AeW.1 u;obtain ⟨j,g⟩:=AeW.1 f;simp only[MX] at l e;have:=h.rel.uniq hi g U;subst this;rw[hi] at g;cases g;rfl
 have:=hp.mem_iff.1 m;simpa using (Ae6.1 this).2
theorem LvI.liv_len(h:LvI n o nx P W A){Y_:List Vl}(hp:Y_.Perm (C9 (P.map Prod.fst)))(hs:Y_.Pairwise λa b=>a.id<=b.id):(C9 (P.map Prod.fst)).length=W.length:=by
 have:=congrArg List.length (h.list hp hs).1;rw[Aea,Aea] at this;rw[<-hp.length_eq,this]
theorem LvI.list_at(h:LvI n o nx P W A){Y_:List Vl}(hp:Y_.Perm (C9 (P.map Prod.fst)))(hs:Y_.Pairwise λa b=>a.id<=b.id){i:Nat}{x:Wv}(d:W[i]?=some x):∃e,Y_[i]?=some e/\e.id=x.id/\e.st=1/\e.sz=x.sz/\e.q=x.q/\e.mp=(x.V.length:Int):=by
 obtain ⟨f,g⟩:=h.list hp hs;have c:(Y_.map I9)[i]?=some (MX x):=by rw[f,Aej,d];rfl
 rw[Aej] at c
 cases hy:Y_[i]? with
 | none=>rw[hy] at c;cases c
 | some e=>
  rw[hy] at c;simp only[AeN,Aef,I9,MX,Afy] at c;exact ⟨e,Z,c.1,g e (Ad8 hy),c.2.1,c.2.2.1,c.2.2.2⟩
set_option maxHeartbeats 6000000 in
theorem WI (t pd l h pp n:Nat) (nx:Int) (P:List Pl) (o:TB) (W:List Wv) (A:Af) (f:LvI n o nx P W A):Cn prog 30 [Y t] [blk t [Y pd,Y l,Y h] 35,voA l pp nx ([]) (P.map Prod.fst),wdA h nx W,A] (λv Γ=>v=.bool true/\Γ=[blk t [Y pd,Y l,Y h] 35,voA l pp nx [] (P.map Prod.fst),wdA h nx W,A]):=by
 intro z R w H;replace H:=H.l4
 have y:=f.bag;refine Ae func30 Z ntmps30 Z (Z2 11 [1,0,0] H Z (Aq Z (call34 _) (QW _ _ _ _ _ f.hv) H.f1 ?_));rintro lv w _ ⟨Y_,⟨m,p⟩,rfl⟩ H;replace H:=H.l5;have b3:=f.liv_len m p;have a3:=H.sy 0 (·.slc);obtain ⟨al,cl,rfl⟩:=a3;refine Zc 5 Z ?_;replace H:=H.f3;obtain ⟨uw,H⟩:=H.wd;replace H:=H.l6;have a2:=H.sy 1 (·.slc);obtain ⟨aw,cw,rfl⟩:=a2;have b0:=H.sy 1 (·.rd.slcapZ);refine Z2 14 [2,4,0,0,0,0,0] H Z (Ag Z (λh1=>U) (λh1=>?_));refine Zc 9 Z ?_;refine AD (σ:=Nat) (λi=>[(4,I (i:Int)),(0,Y t),(3,.slice al ((C9 (P.map Prod.fst)).length) cl)])
   (λi w=>Sep z (blk h [.slice aw W.length cw,I nx] 67::grow 74 4 (.slice aw W.length cw) W.length (Bt W)::grow 76 6 (.slice al ((C9 (P.map Prod.fst)).length) cl) ((C9 (P.map Prod.fst)).length) (Bb Y_)::voA l pp nx ([]) (P.map Prod.fst)::blk t [Y pd,Y l,Y h] 35::A::R) w/\(i<=W.length)) (λi=>W.length-i) 0
   fr_z ⟨H,AeJ _⟩ ?_
 clear H;rintro i w ⟨s,hI⟩;have H:=s.l6;clear hI;refine Z0 9 [0] Z (Ag Z (λh2=>?_) (λh2=>?_))
 ·refine Zc 5 Z ?_;obtain ⟨x,b⟩:∃x,W[i]?=some x:=⟨_,Ad7 U⟩;have g:=(H.rv 1 (·.rd)).at (BJ b 0 _ Z)
  obtain ⟨e,c,q1,q2,q3,q4,q5⟩:=f.list_at m p b;obtain ⟨xi,xs,xq,xu,xV⟩:=x;dsimp only at q1 q3 q4 q5;have a0:InB A xu xV:=y _ (Ad8 b);have a1:=H.sy 5 (λq=>(a0 _ q).slc);obtain ⟨ax,cx,rfl⟩:=a1;have a:=(H.rv 2 (·.rd)).at (AT c 0 _ Z);refine Z2 9 [2,4,0,0,0,0] H Z (Ab Z (Aj Z (z:=4) (j:=i) (r:=i*4) J Z Z Z U g U) (Ab Z (Bq Z Z (vs:=[I xi,I xs,I xq,.slice ax xV.length cx]) J O (Ay (λk' u hk=>(H.rv 1 (·.rd)).at (BJ b k' u hk)))) (Za 0 [] H Z ?_)));intro b1 w H;refine Z4 4 [0] H Z ?_;intro w H;refine Bu (Sep z _) J J H.drew (BZ 2 [] Z J (AL Z Z Z (Aj Z (z:=6) (j:=i) (r:=i*6) J Z Z Z U a U) (AL Z Z Z (Bj Z (k:=0) (r:=i*6) J Z a Z) (AL Z Z Z (Ax Z Z J (λ_ hs=>(hs.rv 3 (·.rd)).at (AT c 0 _ Z))) (DZ 4 [0,0] (λ_ b=>(AS (b.blk 0 Z) AN)) Z J Z (Cd 46 Z (λh3=>U) (λh3=>?_)))))));refine BZ 2 [] Z J (AL Z Z Z (Aj Z (z:=6) (j:=i) (r:=i*6) J Z Z Z U a U) (AL Z Z Z (Bj Z (k:=1) (r:=i*6+1) J Z a Z) (AL Z Z Z (Ax Z Z J (λ_ hs=>(hs.rv 3 (·.rd)).at (AT c 1 _ Z))) (BZ 3 [] Z J (Cd 54 Z (λh4=>U) (λh4=>?_))))));refine BZ 2 [] Z J (AL Z Z Z (Aj Z (z:=6) (j:=i) (r:=i*6) J Z Z Z U a U) (AL Z Z Z (Bj Z (k:=2) (r:=i*6+2) J Z a Z) (AL Z Z Z (Ax Z Z J (λ_ hs=>(hs.rv 3 (·.rd)).at (AT c 2 _ Z))) (DZ 5 [1,0] (λ_ b=>(AS (b.blk 0 Z) AN)) Z J Z (Cd 64 Z (λh5=>U) (λh5=>?_))))));refine BZ 2 [] Z J (AL Z Z Z (Aj Z (z:=6) (j:=i) (r:=i*6) J Z Z Z U a U) (AL Z Z Z (Bj Z (k:=3) (r:=i*6+3) J Z a Z) (AL Z Z Z (Ax Z Z J (λ_ hs=>(hs.rv 3 (·.rd)).at (AT c 3 _ Z))) (DZ 5 [2,0] (λ_ b=>(AS (b.blk 0 Z) AN)) Z J Z (Cd 74 Z (λh6=>U) (λh6=>?_))))));refine BZ 2 [] Z J (AL Z Z Z (Aj Z (z:=6) (j:=i) (r:=i*6) J Z Z Z U a U) (AL Z Z Z (Bj Z (k:=5) (r:=i*6+5) J Z a Z) (AL Z Z Z (Ax Z Z J (λ_ hs=>(hs.rv 3 (·.rd)).at (AT c 5 _ Z))) (GF 5 [3,0,0,0] [] Z J (BH (λw s=>?_))))));have H:=s.l7;refine gn (Zc 1 Z (Ag Z (λh7=>U) (λh7=>?_)));refine Z1 8 [] [(i:Int)+1] Z U ?_;replace H:=H.d;refine gf ?_;intro _ hF;refine ⟨(i+1),hF.cz,⟨H,?_⟩,?_⟩
  ·omega
  omega
 refine Zc 2 Z (gx (Zc 8 Z (Zr Z ?_)));have s:=Sep.toWd (W:=W) (H.pick 6 [0,1,4,3,5] Z);exact ⟨_,⟨Z,Z⟩,s.pick 4 [1,2,0,3] Z⟩
end
end Go.Proofs.YtnifkcmmanmbbaaGreatDoor
