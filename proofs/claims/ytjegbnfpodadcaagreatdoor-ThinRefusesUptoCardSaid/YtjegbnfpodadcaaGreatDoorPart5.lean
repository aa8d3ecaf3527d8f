/-
  Steps to: The law ThinRefuses holds. No condition.
-/
import Derived.Test.YtjegbnfpodadcaaGreatDoorPart4
import Derived.Test.YtjegbnfpodadcaaGreatDoorCards
import Derived.Test.YtjegbnfpodadcaaGreatDoorTie
import Derived.WalkKit
import Derived.WalkSpells
import Derived.Deep.Quiet
import Derived.KernelRfl
import Derived.IntWalk
import Derived.Maps.AppendAt
import Derived.Laws.AppendOwnNone
import Derived.Laws.CopyRow
import Derived.StillTail
import Derived.Deep.RegionHeld
import Derived.Laws.IdiomStrings
import Derived.Laws.BytesArg
import Derived.Laws.OwnMore
import Derived.Lib.Strings
import Derived.ArgAppend
import Derived.Test.YtjegbnfpodadcaaGreatDoorRows
import Derived.RangeFuncLeaves
import Derived.RangeFuncRecord
import Derived.RangeFuncCalls
import Derived.RangeFuncSeq
import Derived.OrdersIn
import Derived.TacticsIn
import Derived.Laws.IdiomRangeMap
import Derived.Defers
import Derived.Laws.LoneSync
import Derived.LoopN
import Derived.Lib.TrailingZeros
import Derived.Test.YtjegbnfpodadcaaGreatDoorProg
import Derived.Shelf.Sort.Plain
import Derived.Shelf.Slices.In.SortNone
import Derived.DataReads
import Derived.ProofKit
import Derived.OpenShut
import Derived.Lib.SmallJoins
import Derived.Deep.DeepHandedRow
import Derived.Lib.LaidTab
set_option maxRecDepth 100000
set_option linter.unusedSimpArgs false
set_option linter.unusedVariables false
open Go.Proofs.Tryz
namespace Go.Proofs.YtjegbnfpodadcaaGreatDoor
section
open Go.RowKit
abbrev gK (v:Value) (es:List E):Ae:=grow 3 1 v (kL es).length ((kL es).map (Value.int .i64))
abbrev gV (v:Value) (es:List E):Ae:=grow 3 1 v (vL es).length ((vL es).map (Value.int .i64))
abbrev FA (A:Ae) (kv:Value) (es:List E):Prop:=∀ h,A h→rdH 1 kv (kL es).length ((kL es).map (Value.int .i64)) h
abbrev FB (B:Ae) (vv:Value) (es:List E):Prop:=∀ h,B h→rdH 1 vv (vL es).length ((vL es).map (Value.int .i64)) h
abbrev CZ (lf:Bool) (k v:Value):Value:= .agg #[.bool lf,k,v]
theorem Rp {A B:List E} {key:Int} (h1:∀ e∈A,e.1<key) (h2:∀ e,B.head?=some e→key≤e.1):FdI (kL (A++B)) key A.length:=by
 refine ⟨by simp,fun j x hj hx=> ?_,fun x hx=> ?_⟩
 ·simp only[kL,List.getElem?_map,List.getElem?_append_left hj] at hx
  cases h:A[j]? with
  | none=>rw[h] at hx;cases hx
  | some e=>rw[h] at hx;simp at hx;subst hx;exact h1 e (List.mem_of_getElem? h)
 ·simp only[kL,List.getElem?_map,List.getElem?_append_right (Nat.le_refl _),Nat.sub_self] at hx
  cases B with
  | nil=>simp at hx
  | cons e t=>simp at hx;subst hx;exact h2 e rfl
theorem fd_cases {es:List E} (h:Srt es) (key:Int):(∃ X v Y,es=X++(key,v)::Y∧(∀ e∈X,e.1<key)∧FdI (kL es) key X.length∧(kL es)[X.length]? =some key)∨(¬ Co key es∧∃ X Y,es=X++Y∧(∀ e∈X,e.1<key)∧(∀ e∈Y,key<e.1)∧FdI (kL es) key X.length∧¬ (kL es)[X.length]? =some key):=by
 rcases key_split h key with ⟨X,v,Y,rfl,h1⟩|⟨h0,X,Y,rfl,h1,h2⟩
 ·exact .inl ⟨X,v,Y,rfl,h1,Rp h1 (fun e he=>by simp at he;subst he;exact Int.le_refl _),by simp[kL]⟩
 ·refine .inr ⟨h0,X,Y,rfl,h1,h2,Rp h1 (fun e he=> ?_),fun q=> ?_⟩
  ·cases Y with
   | nil=>cases he
   | cons y t=>simp at he;subst he;exact Int.le_of_lt (h2 y (by simp))
  ·simp only[kL,List.getElem?_map,List.getElem?_append_right (Nat.le_refl _),Nat.sub_self] at q
   cases Y with
   | nil=>simp at q
   | cons y t=>simp at q;have:=h2 y (by simp);omega
theorem PB {lf:Bool} {kv vv:Value} {es:List E} {A B:Ae} (hA:FA A kv es) (hB:FB B vv es) (hck:CkN lf (kL es) (vL es)) (hs:Srt es) (key:Int) (val:Nat) (hkv:(0≤key∧key<1048576)∧1≤val∧val<1024) (hfit:Co key es∨es.length<8):
  Cn prog 159 [CZ lf kv vv,Iv_ key,Iv_ (val:Int)] [A,B] (fun v Γ=>∃ v1 v2:Value,v= .tuple #[CZ lf v1 v2,Iv_ 0]∧Γ=[gK v1 (putE key val es),gV v2 (putE key val es),A,B]):=by
 have hkv':(0≤key∧key<1048576)∧1≤(val:Int)∧(val:Int)<1024:=by omega
 rcases fd_cases hs key with ⟨X,v0,Y,rfl,h1,hF,hfd⟩|⟨h0,X,Y,rfl,h1,h2,hF,hfd⟩
 ·have h:=Wx lf kv vv _ _ A B hA hB hck key (val:Int) hkv' X.length hF hfd
  have e1:kL (putE key val (X++(key,v0)::Y))=kL (X++(key,v0)::Y):=by rw[Dz _ h1];simp[kL]
  have e2:vL (putE key val (X++(key,v0)::Y))=(vL (X++(key,v0)::Y)).set X.length (val:Int):=by
   rw[Dz _ h1];simp[vL,List.set_append]
  refine Cn.mono h ?_
  rintro v Γ ⟨v1,v2,rfl,rfl⟩
  refine ⟨v1,v2,rfl,?_⟩
  unfold gK gV
  rw[e1,e2,List.length_set]
 ·have h:=Wz lf kv vv _ _ A B hA hB hck key (val:Int) hkv' X.length hF hfd (by
   rcases hfit with q|q
   ·exact absurd q h0
   ·simpa [kL] using q) (kL (putE key val (X++Y))) (vL (putE key val (X++Y))) (by rw[putE_new h1 h2];simp[kL]) (by rw[putE_new h1 h2];simp[vL])
  exact h
theorem Yo {lf:Bool} {kv vv:Value} {es:List E} {A B:Ae} (hA:FA A kv es) (hB:FB B vv es) (hck:CkN lf (kL es) (vL es)) (hs:Srt es) (key:Int) (val:Nat) (hkv:(0≤key∧key<1048576)∧1≤val∧val<1024) (hno:¬ Co key es) (h8:es.length=8):
  Cn prog 159 [CZ lf kv vv,Iv_ key,Iv_ (val:Int)] [A,B] (fun v Γ=>v= .tuple #[CZ false (.slice none 0 0) (.slice none 0 0),Iv_ 15]∧Γ=[A,B]):=by
 have hkv':(0≤key∧key<1048576)∧1≤(val:Int)∧(val:Int)<1024:=by omega
 rcases fd_cases hs key with ⟨X,v0,Y,rfl,h1,hF,hfd⟩|⟨h0,X,Y,rfl,h1,h2,hF,hfd⟩
 ·exact absurd ⟨v0,by simp⟩ hno
 ·exact Wy lf kv vv _ _ A B hA hB hck key (val:Int) hkv' X.length hF hfd (by simpa [kL] using h8)
theorem Ni {lf:Bool} {kv vv:Value} {es:List E} {A B:Ae} (hA:FA A kv es) (hB:FB B vv es) (h8:es.length≤8) (hs:Srt es) (key:Int):
  Cn prog 73 [CZ lf kv vv,Iv_ key] [A,B] (fun v Γ=>(∃ X v0 Y,(es=X++(key,v0)::Y∧∀ e∈X,e.1<key)∧v= .tuple #[Iv_ (X.length:Int),.bool true]∧Γ=[A,B])∨(¬ Co key es∧∃ i:Nat,v= .tuple #[Iv_ (i:Int),.bool false]∧Γ=[A,B])):=by
 refine Cn.mono (Il lf kv vv _ _ A B hA hB key (by simpa [kL] using h8)) ?_
 rintro v Γ ⟨i,hi,rfl,rfl⟩
 rcases fd_cases hs key with ⟨X,v0,Y,e,h1,hF,hfd⟩|⟨h0,X,Y,_,h1,h2,hF,hfd⟩
 ·obtain rfl:=hi.uniq hF
  exact .inl ⟨X,v0,Y,⟨e,h1⟩,by rw[decide_eq_true hfd],rfl⟩
 ·obtain rfl:=hi.uniq hF
  exact .inr ⟨h0,_,by rw[decide_eq_false hfd],rfl⟩
theorem Kt {lf:Bool} {kv vv:Value} {es:List E} {A B:Ae} (hA:FA A kv es) (hB:FB B vv es) (h8:es.length≤8) (hs:Srt es) (hne:es≠[]) (key:Int):
  Cn prog 74 [CZ lf kv vv,Iv_ key] [A,B] (fun v Γ=>∃ X e Y,(es=X++e::Y∧(X=[]∨e.1≤key)∧(∀ x∈X,x.1<e.1)∧∀ x∈Y,key<x.1∧e.1<x.1)∧v=Iv_ (X.length:Int)∧Γ=[A,B]):=by
 refine Cn.mono (TE lf kv vv _ _ A B hA hB key (by simpa [kL] using h8)) ?_
 rintro v Γ ⟨i,hi,rfl,rfl⟩
 obtain ⟨X,e,Y,h1,h2,h3,h4,h5⟩:=NJ hs hne key
 obtain ⟨U,V,u1,u2,u3,u4⟩:=F6 hs key
 have hF:FcI (kL es) key U.length:=by
  rw[u1]
  refine ⟨by simp,fun j x hj hx=> ?_,fun x hx=> ?_⟩
  ·simp only[kL,List.getElem?_map,List.getElem?_append_left hj] at hx
   cases h:U[j]? with
   | none=>rw[h] at hx;cases hx
   | some e=>rw[h] at hx;simp at hx;subst hx;exact u3 e (List.mem_of_getElem? h)
  ·simp only[kL,List.getElem?_map,List.getElem?_append_right (Nat.le_refl _),Nat.sub_self] at hx
   cases V with
   | nil=>simp at hx
   | cons e t=>simp at hx;subst hx;exact u4 e (by simp)
 obtain rfl:=hi.uniq hF
 refine ⟨X,e,Y,⟨h1,h3,h4,h5⟩,?_,rfl⟩
 rw[h2];unfold Ym;rw[u2]
theorem Yp {lf:Bool} {kv vv:Value} {X Y:List E} {e:E} {A B:Ae} (hA:FA A kv (X++e::Y)) (hB:FB B vv (X++e::Y)) (hck:CkN lf (kL (X++e::Y)) (vL (X++e::Y))) (hck2:CkN lf (kL (X++Y)) (vL (X++Y))):
  Cn prog 124 [CZ lf kv vv,Iv_ (X.length:Int)] [A,B] (fun v Γ=>∃ v1 v2:Value,v= .tuple #[CZ lf v1 v2,Iv_ 0]∧Γ=[gK v1 (X++Y),gV v2 (X++Y),A,B]):=
 OB lf kv vv _ _ A B hA hB hck X.length (by simp[kL]) (kL (X++Y)) (vL (X++Y)) (by simp[kL,List.drop_append]) (by simp[vL,List.drop_append]) hck2
theorem WE {lf:Bool} {kv vv:Value} {es:List E} {A B:Ae} (hA:FA A kv es) (hB:FB B vv es) (hck:CkN lf (kL es) (vL es)) (h8:es.length=8):
  Cn prog 160 [CZ lf kv vv] [A,B] (fun v Γ=>∃ v1 v2 v3 v4:Value,v= .tuple #[CZ lf v1 v2,CZ lf v3 v4,Iv_ 0]∧Γ=[gK v1 (es.take 4),gV v2 (es.take 4),gK v3 (es.drop 4),gV v4 (es.drop 4),A,B]):=
 TF lf kv vv _ _ A B hA hB hck (by simp[kL,h8]) (kL (es.take 4)) (vL (es.take 4)) (kL (es.drop 4)) (vL (es.drop 4)) (by simp[kL,h8,List.map_take]) (by simp[kL,vL,h8,List.map_take]) (by simp[kL,h8,List.map_drop]) (by simp[kL,vL,h8,List.map_drop])
theorem TN {es1 es2:List E} (hs:Srt (es1++es2)):∀ x y:Int,(kL es1)[(kL es1).length - 1]? =some x→(kL es2)[0]? =some y→x<y:=fun x y hx hy=>by
 obtain ⟨a,ha,rfl⟩:=List.mem_map.1 (List.mem_of_getElem? hx)
 obtain ⟨b,hb,rfl⟩:=List.mem_map.1 (List.mem_of_getElem? hy)
 exact (Srt.app.1 hs).2.2 a ha b hb
variable {lf:Bool} {kv1 vv1 kv2 vv2:Value} {es1 es2:List E} {A1 B1 A2 B2:Ae}
theorem Yq (hA1:FA A1 kv1 es1) (hB1:FB B1 vv1 es1) (hA2:FA A2 kv2 es2) (hB2:FB B2 vv2 es2) (hck1:CkN lf (kL es1) (vL es1)) (hck2:CkN lf (kL es2) (vL es2)) (hs:Srt (es1++es2)) (h8:es1.length+es2.length≤8):
  Cn prog 164 [CZ lf kv1 vv1,CZ lf kv2 vv2] [A1,B1,A2,B2] (fun v Γ=>∃ v1 v2:Value,v= .tuple #[CZ lf v1 v2,Iv_ 0]∧Γ=[gK v1 (es1++es2),gV v2 (es1++es2),A1,B1,A2,B2]):=
 TG lf kv1 vv1 _ _ A1 B1 hA1 hB1 kv2 vv2 _ _ A2 B2 hA2 hB2 hck1 hck2 (TN hs) (by simpa [kL] using h8) (kL (es1++es2)) (vL (es1++es2)) (by simp[kL]) (by simp[vL])
theorem joinF_e (hA1:FA A1 kv1 es1) (hB1:FB B1 vv1 es1) (hA2:FA A2 kv2 es2) (hB2:FB B2 vv2 es2) (hck1:CkN lf (kL es1) (vL es1)) (hck2:CkN lf (kL es2) (vL es2)) (hs:Srt (es1++es2)) (h8:8<es1.length+es2.length):
  Cn prog 164 [CZ lf kv1 vv1,CZ lf kv2 vv2] [A1,B1,A2,B2] (fun v Γ=>v= .tuple #[CZ false (.slice none 0 0) (.slice none 0 0),Iv_ 15]∧Γ=[A1,B1,A2,B2]):=
 TH lf kv1 vv1 _ _ A1 B1 hA1 hB1 kv2 vv2 _ _ A2 B2 hA2 hB2 hck1 hck2 (TN hs) (by simpa [kL] using h8)
abbrev E1 (es1 es2:List E):Nat:=((es1++es2).length+1) / 2
theorem WF (hA1:FA A1 kv1 es1) (hB1:FB B1 vv1 es1) (hA2:FA A2 kv2 es2) (hB2:FB B2 vv2 es2) (hck1:CkN lf (kL es1) (vL es1)) (hck2:CkN lf (kL es2) (vL es2)) (hs:Srt (es1++es2)) (h8:8<es1.length+es2.length):
  Cn prog 165 [CZ lf kv1 vv1,CZ lf kv2 vv2] [A1,B1,A2,B2] (fun v Γ=>∃ v1 v2 v3 v4:Value,v= .tuple #[CZ lf v1 v2,CZ lf v3 v4,Iv_ 0]∧Γ=[gK v1 ((es1++es2).take (E1 es1 es2)),gV v2 ((es1++es2).take (E1 es1 es2)),gK v3 ((es1++es2).drop (E1 es1 es2)),gV v4 ((es1++es2).drop (E1 es1 es2)),A1,B1,A2,B2]):=by
 have hk:kL es1++kL es2=kL (es1++es2):=by simp[kL]
 have hv:vL es1++vL es2=vL (es1++es2):=by simp[vL]
 have hl:(kL (es1++es2)).length=(es1++es2).length:=by simp[kL]
 exact TI lf kv1 vv1 _ _ A1 B1 hA1 hB1 kv2 vv2 _ _ A2 B2 hA2 hB2 hck1 hck2 (TN hs) (by simp[kL];omega) (kL (es1++es2)) (vL (es1++es2)) hk hv (kL ((es1++es2).take (E1 es1 es2))) (vL ((es1++es2).take (E1 es1 es2))) (kL ((es1++es2).drop (E1 es1 es2))) (vL ((es1++es2).drop (E1 es1 es2)))
  (by rw[hl];exact List.map_take.symm) (by rw[hl];exact List.map_take.symm) (by rw[hl];exact List.map_drop.symm) (by rw[hl];exact List.map_drop.symm)
end
section
open Go.RowKit
variable {Tb:Ae}
theorem JG {N:Hm} {h:Nat} {lo hi:Int} {L es a b:List E} {key:Int} {val:Nat} {lf:Bool} (hs:Srt es) (hBd:Bd N h (putE key val es) hi L) (hr:BG lo hi (putE key val es)) (hk:∀ e∈putE key val es,0≤e.1∧e.1<1048576) (hdup:(vals (putE key val es)).Nodup)
  (e:putE key val es=a++b) (a4:4≤a.length) (a5:a.length≤5) (b4:4≤b.length) (b5:b.length≤5):
  ∃ L1 L2,L=L1++L2∧(Bd N h a (nx b hi) L1∧Bd N h b hi L2)∧(BG lo (nx b hi) a∧BG (nx b hi) hi b∧lo<nx b hi∧nx b hi<hi)∧((Nd.mk lf a).Ok∧(Nd.mk lf b).Ok)∧(vals a).Nodup∧(vals b).Nodup:=by
 have hs2:=IX (k:=key) (v:=val) hs
 rw[e] at hBd hr hk hdup hs2
 obtain ⟨L1,L2,h1,h2,h3⟩:=Bd.app.1 hBd
 have ha:a≠[]:=fun q=>by rw[q] at a4;simp at a4
 have hb:b≠[]:=fun q=>by rw[q] at b4;simp at b4
 obtain ⟨s1,s2,_⟩:=Srt.app.1 hs2
 have hv:vals (a++b)=vals a++vals b:=by simp[vals]
 rw[hv,List.nodup_append] at hdup
 exact ⟨L1,L2,h1,⟨h2,h3⟩,Nf hs2 hr ha hb,⟨⟨s1,by dsimp only;omega,fun x hx=>hk x (by simp[hx]),fun _=>ha⟩,⟨s2,by dsimp only;omega,fun x hx=>hk x (by simp[hx]),fun _=>hb⟩⟩,hdup.1,hdup.2.1⟩
theorem K5 (a:Nat) (x y:List E) (Q:List Nat):(a::(vals (x++y)++Q)).Perm (vals y++(a::(vals x++Q))):=by
 have hv:vals (x++y)=vals x++vals y:=by simp[vals]
 rw[hv,List.append_assoc]
 have h1:(a::(vals x++(vals y++Q))).Perm (a::(vals y++(vals x++Q))):=List.Perm.cons _ (by
  rw[←List.append_assoc,←List.append_assoc];exact List.Perm.append_right _ List.perm_append_comm)
 exact h1.trans List.perm_middle.symm
theorem K6 (r a:Nat) (x Q:List Nat):(r::(a::(x++Q))).Perm (a::(x++(r::Q))):=
 (List.Perm.swap _ _ _).trans (List.Perm.cons _ List.perm_middle.symm)
theorem EY {b:List E} {hi:Int} (h:4≤b.length):(kL b)[0]? =some (nx b hi):=by
 cases b with
 | nil=>simp at h
 | cons e t=>rfl
theorem Ip {t t1 t2:TS} {Q:List Nat} {a r h:Nat} {kr hi:Int} {x:List E} {L2:List E} (s1:St t t1 (a::(vals x++Q)) 1 1) (T1:Tr t1.N h r kr hi 4 L2) (s2:St t1 t2 (r::Q) 0 1):St t t2 Q 1 2∧Tr t2.N h r kr hi 4 L2:=
 ⟨s1.trans s2 (fun p hp=>by simp[hp]) (fun p hp=>by simp[hp]) (by omega) (by omega),s2.fr r (by simp) _ _ _ _ _ T1⟩
theorem OI {lf:Bool} {es:List E} (h:CkN lf (kL es) (vL es)) (hs:Srt es) (h4:0<(es.take 4).length):CkN lf (kL (es.take 4)) (vL (es.take 4))∧Srt (es.take 4):=by
 have e:=List.take_append_drop 4 es
 have hs':=hs
 rw[←e] at hs'
 have h8:es.length≤8:=by have:=h.l8;simpa [kL] using this
 refine ⟨CkN.of ⟨(Srt.app.1 hs').1,by simp;omega,fun x hx=> ?_,fun _ q=>by have q:es.take 4=[]:=q;rw[q] at h4;simp at h4⟩ (fun v hv=> ?_),(Srt.app.1 hs').1⟩
 ·exact h.k x.1 (List.mem_map_of_mem (List.mem_of_mem_take hx))
 ·obtain ⟨x,hx,rfl⟩:=List.mem_map.1 hv
  have:=h.v (x.2:Int) (List.mem_map.2 ⟨x,List.mem_of_mem_take hx,rfl⟩)
  omega
theorem OJ {lf:Bool} {es:List E} (h:CkN lf (kL es) (vL es)) (hs:Srt es) (h4:0<(es.drop 4).length):CkN lf (kL (es.drop 4)) (vL (es.drop 4))∧Srt (es.drop 4):=by
 have e:=List.take_append_drop 4 es
 have hs':=hs
 rw[←e] at hs'
 have h8:es.length≤8:=by have:=h.l8;simpa [kL] using this
 refine ⟨CkN.of ⟨(Srt.app.1 hs').2.1,by simp;omega,fun x hx=> ?_,fun _ q=>by have q:es.drop 4=[]:=q;rw[q] at h4;simp at h4⟩ (fun v hv=> ?_),(Srt.app.1 hs').2.1⟩
 ·exact h.k x.1 (List.mem_map_of_mem (List.mem_of_mem_drop hx))
 ·obtain ⟨x,hx,rfl⟩:=List.mem_map.1 hv
  have:=h.v (x.2:Int) (List.mem_map.2 ⟨x,List.mem_of_mem_drop hx,rfl⟩)
  omega
theorem WG {es:List E} (hs:Srt es) (h8:es.length=8) {key:Int} {val:Nat} (hno:¬ Co key es) (h:nx (es.drop 4) 0≤key):putE key val es=es.take 4++putE key val (es.drop 4)∧4≤(putE key val (es.drop 4)).length∧(putE key val (es.drop 4)).length≤5:=by
 obtain ⟨a,b,e,_,_,b4,b5,hu,_⟩:=Nc (v:=val) hs h8 hno
 obtain ⟨rfl,rfl⟩:=hu h
 exact ⟨e,b4,b5⟩
theorem WH {es:List E} (hs:Srt es) (h8:es.length=8) {key:Int} {val:Nat} (hno:¬ Co key es) (h:key<nx (es.drop 4) 0):putE key val es=putE key val (es.take 4)++es.drop 4∧4≤(putE key val (es.take 4)).length∧(putE key val (es.take 4)).length≤5:=by
 obtain ⟨a,b,e,a4,a5,_,_,_,hd⟩:=Nc (v:=val) hs h8 hno
 obtain ⟨rfl,rfl⟩:=hd h
 exact ⟨e,a4,a5⟩
theorem Yr (pp mb n:Nat) (o:TB) (t:TS) (Q:List Nat) (a:Nat) (lf:Bool) (kv vv:Value) (es:List E) (A B:Ae) (hA:∀ h,A h→rdH 1 kv (kL es).length ((kL es).map Iv_) h) (hB:∀ h,B h→rdH 1 vv (vL es).length ((vL es).map Iv_) h) (key:Int) (val:Nat) (hkv:(0≤key∧key<1048576)∧1≤val∧val<1024) (hck:CkN lf (kL es) (vL es)) (hs:Srt es) (h:Nat) (lo hi:Int) (m:Nat) (L:List E) (hBd:Bd t.N h (putE key val es) hi L) (hlf:lf=decide (h=0)) (hrg:BG lo hi (putE key val es)) (hdup:(vals (putE key val es)).Nodup) (hC:t.C a=1) (hN:t.N a=none) (hk:t.k<39) (hm:m≤(putE key val es).length) (hok2:(Nd.mk lf (putE key val es)).Ok) (hfit:Co key es∨es.length<8):Cn prog 122 [Pt_ pp,Iv_ (a:Int),.agg #[.bool lf,kv,vv],Iv_ key,Iv_ (val:Int)] [trA Tb pp mb n o (some (t,a::(vals (putE key val es)++Q))),A,B] (fun v Γ=>∃ t2:TS,(St t t2 Q 0 1∧Tr t2.N h a lo hi m L)∧v= .tuple #[.agg #[Iv_ (a:Int),Iv_ 0,Iv_ 0],Iv_ 0]∧Γ=[trA Tb pp mb n o (some (t2,a::Q)),A,B]):=by
 intro z R w H;replace H:=H.l3;obtain ⟨ka,kc,rfl⟩:=H.says 1 rfl (fun h q=>(hA h q).slc);obtain ⟨va,vc,rfl⟩:=H.says 2 rfl (fun h q=>(hB h q).slc);refine Ad func122 rfl ntmps122 rfl (Za 2 [] H rfl ?_);intro b1 w H;refine Za 0 [] H rfl ?_;intro b2 w H;refine Z2 8 [1,3] H rfl (Aw rfl (call159 _) (PB hA hB hck hs key val hkv hfit) H.f4.f4 ?_);rintro _ w _ ⟨v3,v4,rfl,rfl⟩ H;replace H:=H.l7;have sv3:=H.says 0 rfl (fun h q=>q.slc)
 have sv4:=H.says 1 rfl (fun h q=>q.slc)
 refine Za 3 [] H rfl ?_;intro b5 w H;refine Az rfl rfl (Ag 0 H rfl rfl rfl rfl (vs:=[.bool lf,v3,v4]) rfl (Ab rfl (Ab sv3.one (Ab sv4.one Ar))) (by kernel_rfl) (by simp) (out:=[.bool lf,v3,v4]) rfl) ?_;rintro w H;replace H:=H.l8;refine Z2 18 [3,0,3] H rfl (Aw rfl (call123 _) (Fh pp mb n o t Q a lf _ _ (putE key val es) _ _ (fun h q=>q.rd) (fun h q=>q.rd) h lo hi m L hBd hlf hrg hm hok2 hdup hC hN (by omega)) H.f2.f2.f7 ?_);rintro _ w _ ⟨t2,⟨hSt2,hT2,hC2,hN2⟩,rfl,rfl⟩ H;refine Z4 5 [6] H rfl ?_;intro w H;refine Zl [6,3] H rfl ?_;exact ⟨_,⟨t2,⟨hSt2,hT2⟩,rfl,rfl⟩,H.perm 8 [0,4,5] rfl rfl⟩
set_option maxHeartbeats 2000000 in
theorem Ys (pp mb n:Nat) (o:TB) (t:TS) (Q:List Nat) (a:Nat) (lf:Bool) (kv vv:Value) (es:List E) (A B:Ae) (hA:∀ h,A h→rdH 1 kv (kL es).length ((kL es).map Iv_) h) (hB:∀ h,B h→rdH 1 vv (vL es).length ((vL es).map Iv_) h) (key:Int) (val:Nat) (hkv:(0≤key∧key<1048576)∧1≤val∧val<1024) (hck:CkN lf (kL es) (vL es)) (hs:Srt es) (h:Nat) (lo hi:Int) (m:Nat) (L:List E) (hBd:Bd t.N h (putE key val es) hi L) (hlf:lf=decide (h=0)) (hrg:BG lo hi (putE key val es)) (hdup:(vals (putE key val es)).Nodup) (hC:t.C a=1) (hN:t.N a=none) (hk:t.k<39) (hkr:∀ e∈putE key val es,0≤e.1∧e.1<1048576) (hno:¬ Co key es) (h8:es.length=8):Cn prog 122 [Pt_ pp,Iv_ (a:Int),.agg #[.bool lf,kv,vv],Iv_ key,Iv_ (val:Int)] [trA Tb pp mb n o (some (t,a::(vals (putE key val es)++Q))),A,B] (fun v Γ=>(cnt t.F 0 1024=0∧∃ s:TS×List Nat,v= .tuple #[.agg #[Iv_ 0,Iv_ 0,Iv_ 0],Iv_ 20]∧Γ=[trA Tb pp mb n o (some s),A,B])∨∃ (t2:TS) (kr:Int) (r:Nat) (L1 L2:List E),(St t t2 Q 1 2∧L=L1++L2∧lo<kr∧kr<hi∧Tr t2.N h a lo kr 4 L1∧Tr t2.N h r kr hi 4 L2)∧v= .tuple #[.agg #[Iv_ (a:Int),Iv_ kr,Iv_ (r:Int)],Iv_ 0]∧Γ=[trA Tb pp mb n o (some (t2,a::r::Q)),A,B]):=by
 intro z R w H;replace H:=H.l3;obtain ⟨ka,kc,rfl⟩:=H.says 1 rfl (fun h q=>(hA h q).slc);obtain ⟨va,vc,rfl⟩:=H.says 2 rfl (fun h q=>(hB h q).slc);refine Ad func122 rfl ntmps122 rfl (Za 2 [] H rfl ?_);intro b1 w H;refine Za 0 [] H rfl ?_;intro b2 w H;refine Z2 8 [1,3] H rfl (z_E_ rfl (call159 _) (Yo hA hB hck hs key val hkv hno h8) H.f4.f4 ?_);intro w H;refine Za 3 [] H rfl ?_;intro b3 w H;refine Z4 27 [0,4,4,4,3] H rfl ?_;intro w H;refine Aw rfl (call160 _) (WE hA hB hck h8) H.f2.f2 ?_;rintro _ w _ ⟨v4,v5,v6,v7,rfl,rfl⟩ H;replace H:=H.l10;have sv4:=H.says 0 rfl (fun h q=>q.slc)
 have sv5:=H.says 1 rfl (fun h q=>q.slc)
 have sv6:=H.says 2 rfl (fun h q=>q.slc)
 have sv7:=H.says 3 rfl (fun h q=>q.slc)
 refine Za 4 [] H rfl ?_;intro b8 w H;refine Za 0 [] H rfl ?_;intro b9 w H;refine Az rfl rfl (Ag 1 H rfl rfl rfl rfl (vs:=[.bool lf,v4,v5]) rfl (Ab rfl (Ab sv4.one (Ab sv5.one Ar))) (by kernel_rfl) (by simp) (out:=[.bool lf,v4,v5]) rfl) ?_;rintro w H;replace H:=H.l12;refine Az rfl rfl (Ag 0 H rfl rfl rfl rfl (vs:=[.bool lf,v6,v7]) rfl (Ab rfl (Ab sv6.one (Ab sv7.one Ar))) (by kernel_rfl) (by simp) (out:=[.bool lf,v6,v7]) rfl) ?_;rintro w H;replace H:=H.l12;refine Z0 15 [4] rfl ?_;obtain ⟨ak,cc10,rfl⟩:=sv6;have hatak:=(H.rd 4 rfl (fun h q=>q.rd)).at (j:=0) (u:=Iv_ (nx (es.drop 4) 0)) (by rw[List.getElem?_map,EY (by rw[List.length_drop];omega)];rfl)
 refine Z2 4 [1,0,0] H rfl (Ac rfl (AD rfl (z:=1) (j:=0) (r:=0) (by kernel_rfl) rfl rfl rfl (by simp only[List.length_map,List.length_drop];omega) hatak (by omega)) (Ac rfl (AR rfl rfl (by kernel_rfl) (AB hatak)) (Z0 3 [0] rfl (Af rfl (fun h1=> ?_) (fun h1=> ?_)))))
 ·obtain ⟨hup,hl4,hl5⟩:=WG (val:=val) hs h8 hno h1;refine Z2 4 [0,3] H rfl (Aw rfl (call159 _) (PB (fun h q=>q.rd) (fun h q=>q.rd) (OJ hck hs (by simp;omega)).1 (OJ hck hs (by simp;omega)).2 key val hkv (.inr (by simp;omega))) H.f5.f5 ?_);rintro _ w _ ⟨v11,v12,rfl,rfl⟩ H;replace H:=H.l14;have sv11:=H.says 0 rfl (fun h q=>q.slc)
  have sv12:=H.says 1 rfl (fun h q=>q.slc)
  refine Zc 3 rfl (Az rfl rfl (Ag 4 H rfl rfl rfl rfl (vs:=[.bool lf,v11,v12]) rfl (Ab rfl (Ab sv11.one (Ab sv12.one Ar))) (by kernel_rfl) (by simp) (out:=[.bool lf,v11,v12]) rfl) ?_);rintro w H;replace H:=H.l14;refine Z0 14 [4] rfl ?_;obtain ⟨L1,L2,hL,⟨hB1,hB2⟩,⟨hr1,hr2,hlo,hhi⟩,⟨hk1,hk2⟩,hd1,hd2⟩:=JG (lf:=lf) hs hBd hrg hkr hdup hup (by simp;omega) (by simp;omega) hl4 hl5;replace H:=(H.mono 13 (B:=trA Tb pp mb n o (some (t,vals (putE key val (es.drop 4))++(a::(vals (es.take 4)++Q))))) rfl (fun h q=>q.perm (by rw[hup];exact K5 a _ _ Q))).l14
  refine Z2 3 [4,3] H rfl (Aw rfl (call81 _) (GQ pp mb n o t (a::(vals (es.take 4)++Q)) lf _ _ (putE key val (es.drop 4)) _ _ (fun h q=>q.rd) (fun h q=>q.rd) h (nx (putE key val (es.drop 4)) hi) hi 4 L2 hB2 hlf hr2 hl4 hk2 hd2 (by omega)) H.f1.f1.f13 ?_);rintro _ w _ (⟨hnone,rfl,rfl⟩|⟨t1,r,⟨hSt1,hT1,hq1⟩,rfl,rfl⟩) H'
  ·have H:=H'.l14;refine Z4 24 [3,12] H rfl ?_;intro w H;refine Zl [12,3] H rfl ?_;exact ⟨_,.inl ⟨hnone,_,rfl,rfl⟩,H.perm 14 [0,9,10] rfl rfl⟩
  ·have H:=H'.l14;have hca:=hq1 a (by simp)
   refine Z0 18 [4] rfl ?_;obtain ⟨bk,cc13,rfl⟩:=sv11;have hatbk:=(H.rd 1 rfl (fun h q=>q.rd)).at (j:=0) (u:=Iv_ (nx (putE key val (es.drop 4)) hi)) (by rw[List.getElem?_map,EY hl4];rfl)
   replace H:=(H.mono 0 (B:=trA Tb pp mb n o (some (t1,a::(vals (es.take 4)++(r::Q))))) rfl (fun h q=>q.perm (K6 r a _ Q))).l14
   replace H:=H.f1.f5.f6;refine AI (Sep z (blk b8 [.bool lf,v4,v5] 142::blk b9 [.bool lf,.slice bk ((kL (putE key val (es.drop 4))).length) cc13,v12] 142::grow 3 1 (.slice bk ((kL (putE key val (es.drop 4))).length) cc13) ((kL (putE key val (es.drop 4))).length) ((kL (putE key val (es.drop 4))).map Iv_)::R)) 13 rfl (by kernel_rfl) (Bc H fun w H'=> ?_)
   have H:=H'.l14;refine AM [0,1,2] [1,1,0] [] (by exact (H.pick 14 [0,1,2] rfl)) rfl (by kernel_rfl) rfl (B4 3 rfl (by kernel_rfl) (by kernel_rfl) (by kernel_rfl) rfl rfl rfl (AD rfl (z:=1) (j:=0) (r:=0) (by kernel_rfl) rfl rfl rfl (by simp only[List.length_map];first|omega|(rw[List.length_drop];omega)) hatbk (by omega)) (H.pick 14 [0,1,2] rfl) (B4 4 rfl (by kernel_rfl) (by kernel_rfl) (by kernel_rfl) rfl rfl rfl (AR rfl rfl (by kernel_rfl) (fun _ hx'=>(hx'.rd 2 rfl (fun h q=>q.rd)).at (j:=0) (u:=Iv_ (nx (putE key val (es.drop 4)) hi)) (by rw[List.getElem?_map,EY hl4];rfl))) (H.pick 14 [0,1,2] rfl) ?_));refine AM [5,6,7,8,9] [0,3] [] (by exact (H.pick 14 [0,1,2] rfl)) rfl (by kernel_rfl) rfl (Av [10] (by kernel_rfl) (by simp) (Au (BL rfl rfl rfl rfl rfl rfl (fun w=>call123 _ w) (Fh pp mb n o t1 (r::Q) a lf _ _ (es.take 4) _ _ (fun h q=>q.rd) (fun h q=>q.rd) h lo (nx (putE key val (es.drop 4)) hi) 4 L1 (hSt1.bd (fun v hv=>by simp[hv]) hB1) hlf hr1 (by simp;omega) hk1 hd1 (hca.2.trans hC) (hca.1.trans hN) (by have:=hSt1.k;omega)) H.f8.f8.f5 rfl ?_)));rintro _ w _ ⟨t2,⟨hSt2,hT2,hC2,hN2⟩,rfl,rfl⟩ H;replace H:=H.l14;refine Ap (H.pick 14 [3,4,5] rfl) (Av [11] (by kernel_rfl) (by simp) (Au (A8 rfl rfl rfl (Ag 12 H rfl rfl rfl rfl (vs:=[Iv_ (a:Int),Iv_ (nx (putE key val (es.drop 4)) hi),Iv_ (r:Int)]) rfl (by simp[u8,u32,Value.oneCell']) (by kernel_rfl) (by simp) (out:=[Iv_ (a:Int),Iv_ (nx (putE key val (es.drop 4)) hi),Iv_ (r:Int)]) rfl) ?_)))
   rintro w H;replace H:=H.l14;refine Ap (H.pick 14 [3,4,5] rfl) (AM [12] [] [] (by exact (H.pick 14 [3,4,5] rfl)) rfl (by kernel_rfl) rfl (a_done (by kernel_rfl) (gn (Zc 2 rfl (Zl [12,3] H rfl ?_)))));exact ⟨_,.inr ⟨t2,nx (putE key val (es.drop 4)) hi,r,L1,L2,⟨(Ip hSt1 hT1 hSt2).1,hL,hlo,hhi,hT2,(Ip hSt1 hT1 hSt2).2⟩,rfl,rfl⟩,H.perm 14 [0,9,10] rfl rfl⟩
 ·obtain ⟨hdn,hl4,hl5⟩:=WH (val:=val) hs h8 hno (by omega);refine Z2 4 [1,3] H rfl (Aw rfl (call159 _) (PB (fun h q=>q.rd) (fun h q=>q.rd) (OI hck hs (by simp;omega)).1 (OI hck hs (by simp;omega)).2 key val hkv (.inr (by simp;omega))) H.f3.f3 ?_);rintro _ w _ ⟨v14,v15,rfl,rfl⟩ H;replace H:=H.l14;have sv14:=H.says 0 rfl (fun h q=>q.slc)
  have sv15:=H.says 1 rfl (fun h q=>q.slc)
  refine Zc 3 rfl (Az rfl rfl (Ag 5 H rfl rfl rfl rfl (vs:=[.bool lf,v14,v15]) rfl (Ab rfl (Ab sv14.one (Ab sv15.one Ar))) (by kernel_rfl) (by simp) (out:=[.bool lf,v14,v15]) rfl) ?_);rintro w H;replace H:=H.l14;refine Z0 14 [4] rfl ?_;obtain ⟨L1,L2,hL,⟨hB1,hB2⟩,⟨hr1,hr2,hlo,hhi⟩,⟨hk1,hk2⟩,hd1,hd2⟩:=JG (lf:=lf) hs hBd hrg hkr hdup hdn hl4 hl5 (by simp;omega) (by simp;omega);replace H:=(H.mono 13 (B:=trA Tb pp mb n o (some (t,vals (es.drop 4)++(a::(vals (putE key val (es.take 4))++Q))))) rfl (fun h q=>q.perm (by rw[hdn];exact K5 a _ _ Q))).l14
  refine Z2 3 [4,3] H rfl (Aw rfl (call81 _) (GQ pp mb n o t (a::(vals (putE key val (es.take 4))++Q)) lf _ _ (es.drop 4) _ _ (fun h q=>q.rd) (fun h q=>q.rd) h (nx (es.drop 4) hi) hi 4 L2 hB2 hlf hr2 (by simp;omega) hk2 hd2 (by omega)) H.f7.f7.f13 ?_);rintro _ w _ (⟨hnone,rfl,rfl⟩|⟨t1,r,⟨hSt1,hT1,hq1⟩,rfl,rfl⟩) H'
  ·have H:=H'.l14;refine Z4 24 [3,12] H rfl ?_;intro w H;refine Zl [12,3] H rfl ?_;exact ⟨_,.inl ⟨hnone,_,rfl,rfl⟩,H.perm 14 [0,9,10] rfl rfl⟩
  ·have H:=H'.l14;have hca:=hq1 a (by simp)
   refine Z0 18 [4] rfl ?_;have hatbk:=(H.rd 1 rfl (fun h q=>q.rd)).at (j:=0) (u:=Iv_ (nx (es.drop 4) hi)) (by rw[List.getElem?_map,EY (by simp;omega)];rfl)
   replace H:=(H.mono 0 (B:=trA Tb pp mb n o (some (t1,a::(vals (putE key val (es.take 4))++(r::Q))))) rfl (fun h q=>q.perm (K6 r a _ Q))).l14
   replace H:=H.f1.f7.f8;refine AI (Sep z (blk b8 [.bool lf,v14,v15] 142::blk b9 [.bool lf,.slice ak ((kL (es.drop 4)).length) cc10,v7] 142::grow 3 1 (.slice ak ((kL (es.drop 4)).length) cc10) ((kL (es.drop 4)).length) ((kL (es.drop 4)).map Iv_)::R)) 13 rfl (by kernel_rfl) (Bc H fun w H'=> ?_)
   have H:=H'.l14;refine AM [0,1,2] [1,1,0] [] (by exact (H.pick 14 [0,1,2] rfl)) rfl (by kernel_rfl) rfl (B4 3 rfl (by kernel_rfl) (by kernel_rfl) (by kernel_rfl) rfl rfl rfl (AD rfl (z:=1) (j:=0) (r:=0) (by kernel_rfl) rfl rfl rfl (by simp only[List.length_map];first|omega|(rw[List.length_drop];omega)) hatak (by omega)) (H.pick 14 [0,1,2] rfl) (B4 4 rfl (by kernel_rfl) (by kernel_rfl) (by kernel_rfl) rfl rfl rfl (AR rfl rfl (by kernel_rfl) (fun _ hx'=>(hx'.rd 2 rfl (fun h q=>q.rd)).at (j:=0) (u:=Iv_ (nx (es.drop 4) hi)) (by rw[List.getElem?_map,EY (by simp;omega)];rfl))) (H.pick 14 [0,1,2] rfl) ?_));refine AM [5,6,7,8,9] [0,3] [] (by exact (H.pick 14 [0,1,2] rfl)) rfl (by kernel_rfl) rfl (Av [10] (by kernel_rfl) (by simp) (Au (BL rfl rfl rfl rfl rfl rfl (fun w=>call123 _ w) (Fh pp mb n o t1 (r::Q) a lf _ _ (putE key val (es.take 4)) _ _ (fun h q=>q.rd) (fun h q=>q.rd) h lo (nx (es.drop 4) hi) 4 L1 (hSt1.bd (fun v hv=>by simp[hv]) hB1) hlf hr1 hl4 hk1 hd1 (hca.2.trans hC) (hca.1.trans hN) (by have:=hSt1.k;omega)) H.f6.f6.f5 rfl ?_)));rintro _ w _ ⟨t2,⟨hSt2,hT2,hC2,hN2⟩,rfl,rfl⟩ H;replace H:=H.l14;refine Ap (H.pick 14 [3,4,5] rfl) (Av [11] (by kernel_rfl) (by simp) (Au (A8 rfl rfl rfl (Ag 12 H rfl rfl rfl rfl (vs:=[Iv_ (a:Int),Iv_ (nx (es.drop 4) hi),Iv_ (r:Int)]) rfl (by simp[u8,u32,Value.oneCell']) (by kernel_rfl) (by simp) (out:=[Iv_ (a:Int),Iv_ (nx (es.drop 4) hi),Iv_ (r:Int)]) rfl) ?_)))
   rintro w H;replace H:=H.l14;refine Ap (H.pick 14 [3,4,5] rfl) (AM [12] [] [] (by exact (H.pick 14 [3,4,5] rfl)) rfl (by kernel_rfl) rfl (a_done (by kernel_rfl) (gn (Zc 2 rfl (Zl [12,3] H rfl ?_)))));exact ⟨_,.inr ⟨t2,nx (es.drop 4) hi,r,L1,L2,⟨(Ip hSt1 hT1 hSt2).1,hL,hlo,hhi,hT2,(Ip hSt1 hT1 hSt2).2⟩,rfl,rfl⟩,H.perm 14 [0,9,10] rfl rfl⟩
end
section
open Go.RowKit
variable {Tb:Ae}
theorem Bu (X Y:List E):vals (X++Y)=vals X++vals Y:=by simp[vals]
theorem BN (e:E) (Y:List E):vals (e::Y)=e.2::vals Y:=rfl
theorem WI (key:Int) (val:Nat) (es:List E):putE key val es≠[]:=by
 cases es with
 | nil=>simp[putE]
 | cons e t=>simp only[putE];split;simp;split<;>simp
theorem Gm {es:List E} (hs:Srt es) {key:Int} (val:Nat) (hno:¬ Co key es):(vals (putE key val es)).Perm (val::vals es)∧(putE key val es).length=es.length+1:=by
 rcases key_split hs key with ⟨X,v,Y,rfl,_⟩|⟨_,X,Y,rfl,h1,h2⟩
 ·exact absurd ⟨v,by simp⟩ hno
 ·rw[putE_new h1 h2,Bu,Bu,BN]
  exact ⟨List.perm_middle,by simp;omega⟩
theorem I0 {es:List E} (hs:Srt es) (key:Int) (val:Nat):es.length≤(putE key val es).length∧(putE key val es).length≤es.length+1:=by
 rcases key_split hs key with ⟨X,v,Y,rfl,h1⟩|⟨h0,X,Y,e,h1,h2⟩
 ·rw[Dz _ h1];simp
 ·have:=(Gm hs val h0).2;omega
theorem Nj {es:List E} (hs:Srt es) {lo hi key:Int} (val:Nat) (hr:BG lo hi es) (hk:lo≤key∧key<hi):BG lo hi (putE key val es):=fun x hx=>by
 rcases (putE_mem hs x).1 hx with rfl|⟨h,_⟩
 ·exact hk
 ·exact hr x h
theorem Tr.ne {N:Hm} {h r:Nat} {lo hi:Int} {m:Nat} {L:List E} (t:Tr N h r lo hi m L) (hm:1≤m):L≠[]:=by
 induction h generalizing r lo hi m L with
 | zero=>
  obtain ⟨es,_,h2,_,_,rfl,_⟩:=t
  intro q;rw[q] at h2;simp at h2;omega
 | succ h ih=>
  obtain ⟨es,_,h2,_,_,h5⟩:=t
  cases es with
  | nil=>simp at h2;omega
  | cons e t=>
   obtain ⟨L1,L2,rfl,h6,_⟩:=h5
   intro q
   exact ih h6 (by omega) (List.append_eq_nil_iff.1 q).1
theorem Sq.nodup {N:Hm} {h:Nat} {es:List E} {hi:Int} {L:List E} (q:Sq (fun c a b L=>Tr N h c a b 4 L) es hi L) (hs:Srt es) (hr:∀ e∈es,e.1<hi):(vals es).Nodup:=by
 induction es generalizing L with
 | nil=>simp[vals]
 | cons e t ih=>
  obtain ⟨L1,L2,rfl,h1,h2⟩:=q
  obtain ⟨s1,s2⟩:=Srt.cons.1 hs
  have hr2:∀ x∈t,x.1<hi:=fun x hx=>hr x (by simp[hx])
  rw[BN,List.nodup_cons]
  refine ⟨fun hm=> ?_,ih h2 s2 hr2⟩
  obtain ⟨x,hx,hxe⟩:=List.mem_map.1 hm
  obtain ⟨A,B,rfl⟩:=List.append_of_mem hx
  obtain ⟨_,Lc,_,_,_,h3,_⟩:=Sq.at h2
  rw[hxe] at h3
  obtain ⟨_,rfl⟩:=h1.uniq h3
  have hne:=h1.ne (by omega)
  obtain ⟨y,u,rfl⟩:=List.exists_cons_of_ne_nil hne
  have a1:=h1.srt.2 y (by simp)
  have a2:=h3.srt.2 y (by simp)
  have a3:nx (A++x::B) hi≤x.1:=by
   cases A with
   | nil=>exact Int.le_refl _
   | cons z A=>exact Int.le_of_lt ((Srt.cons.1 s2).1 x (by simp))
  omega
theorem Bd.nodup {N:Hm} {h:Nat} {es:List E} {hi:Int} {L:List E} (q:Bd N (h+1) es hi L) (hs:Srt es) (hr:∀ e∈es,e.1<hi):(vals es).Nodup:=Sq.nodup q hs hr
theorem Yt {N:Hm} {h:Nat} {lo hi:Int} {L X Y:List E} {e:E} {key:Int} (val:Nat) (hs:Srt (X++e::Y)) (hr:BG lo hi (X++e::Y)) (hB:Bd N (h+1) (X++e::Y) hi L) (hX:X=[]∨e.1≤key) (hY:∀ x∈Y,key<x.1∧e.1<x.1) (hk:lo≤key∧key<hi):
  ∃ L0 Lc L2,(Sq (fun c a b L=>Tr N h c a b 4 L) X (min e.1 key) L0∧Tr N h e.2 (min e.1 key) (nx Y hi) 4 Lc∧Sq (fun c a b L=>Tr N h c a b 4 L) Y hi L2)∧L=L0++(Lc++L2)∧putE key val L=L0++(putE key val Lc++L2)∧(lo≤min e.1 key∧min e.1 key≤key∧key<nx Y hi∧nx Y hi≤hi):=by
 obtain ⟨L0,Lc,L2,rfl,h1,h2,h3⟩:=Sq.at hB
 have he:=hr e (by simp)
 have hn:=UH (fun x hx=>(hY x hx).1) hk.2
 have hn2:nx Y hi≤hi:=PA (fun x hx=>(hr x (by simp[hx])).2)
 obtain ⟨s1,s2⟩:=Sq.sides hs (fun x hx=>(hr x hx).2) h1 h3 hX (fun x hx=>(hY x hx).1) hk.2
 refine ⟨L0,Lc,L2,⟨h1.nilK ?_,h2.mono (by omega) (Int.le_refl _) (Nat.le_refl _),h3⟩,rfl,?_,by omega,by omega,hn,hn2⟩
 ·rcases hX with q|q
  ·exact .inl q
  ·exact .inr (by omega)
 ·rw[putE_lt _ s1,OE _ s2]
theorem I1 {lo hi:Int} {X Y:List E} {e:E} {k1:Int} (c:Nat) (hs:Srt (X++e::Y)) (hr:BG lo hi (X++e::Y)) (hX:X=[]∨k1=e.1) (hk:k1≤e.1) (hlo:lo≤k1):Srt (X++(k1,c)::Y)∧BG lo hi (X++(k1,c)::Y):=by
 obtain ⟨s1,s2,s3⟩:=Srt.app.1 hs
 obtain ⟨s4,s5⟩:=Srt.cons.1 s2
 refine ⟨Srt.app.2 ⟨s1,Srt.cons.2 ⟨fun x hx=>by have:=s4 x hx;dsimp only;omega,s5⟩,fun a ha b hb=> ?_⟩,fun x hx=> ?_⟩
 ·rcases List.mem_cons.1 hb with rfl|hb
  ·rcases hX with rfl|rfl
   ·simp at ha
   ·exact s3 a ha e (by simp)
  ·exact s3 a ha b (by simp[hb])
 ·rcases List.mem_append.1 hx with hx|hx
  ·exact hr x (by simp[hx])
  ·rcases List.mem_cons.1 hx with rfl|hx
   ·have:=hr e (by simp);dsimp only;omega
   ·exact hr x (by simp[hx])
theorem TO {lo hi:Int} {X Y:List E} {k1 kr:Int} {c r:Nat} (hs:Srt (X++(k1,c)::Y)) (hk:k1<kr) (hn:kr<nx Y hi) (hr:BG lo hi (X++(k1,c)::Y)) (hhi:nx Y hi≤hi):putE kr r (X++(k1,c)::Y)=X++(k1,c)::(kr,r)::Y∧¬ Co kr (X++(k1,c)::Y)∧lo≤kr∧kr<hi:=by
 obtain ⟨s1,s2,s3⟩:=Srt.app.1 hs
 obtain ⟨s4,s5⟩:=Srt.cons.1 s2
 have h1:∀ x∈X++[(k1,c)],x.1<kr:=fun x hx=>by
  rcases List.mem_append.1 hx with hx|hx
  ·have:=s3 x hx (k1,c) (by simp);dsimp only at this;omega
  ·simp at hx;subst hx;exact hk
 have h2:∀ x∈Y,kr<x.1:=fun x hx=>by
  cases Y with
  | nil=>simp at hx
  | cons y t=>
   simp only[nx] at hn
   rcases List.mem_cons.1 hx with rfl|hx
   ·exact hn
   ·have:=(Srt.cons.1 s5).1 x hx;omega
 have e:X++(k1,c)::Y=(X++[(k1,c)])++Y:=by simp
 refine ⟨by rw[e,putE_new h1 h2];simp,?_,by have:=(hr (k1,c) (by simp)).1;dsimp only at this;omega,by omega⟩
 rintro ⟨v,hv⟩
 rw[e] at hv
 rcases List.mem_append.1 hv with hv|hv
 ·have:=h1 _ hv;dsimp only at this;omega
 ·have:=h2 _ hv;dsimp only at this;omega
theorem Lm {es:List E} (hs:Srt es) {key:Int} {val c:Nat} {Q:List Nat} (hno:¬ Co key es):(c::(vals es++(val::Q))).Perm (c::(vals (putE key val es)++Q)):=
 List.Perm.cons _ (List.perm_middle.trans (List.Perm.append_right Q (Gm hs val hno).1.symm))
theorem Ln {X Y:List E} {key:Int} {val v0 c:Nat} {Q:List Nat} (h:∀ e∈X,e.1<key):(c::(vals (X++(key,v0)::Y)++(val::Q))).Perm (v0::(c::(vals (putE key val (X++(key,v0)::Y))++Q))):=by
 rw[Dz _ h,Bu,Bu,BN,BN]
 have h1:(vals X++v0::vals Y++val::Q).Perm (v0::(vals X++vals Y++val::Q)):=by
  have:(vals X++v0::vals Y).Perm (v0::(vals X++vals Y)):=List.perm_middle
  exact List.Perm.append_right _ this
 have h2:(vals X++vals Y++val::Q).Perm (vals X++val::vals Y++Q):=by
  have a:(vals X++vals Y++val::Q).Perm (val::(vals X++vals Y++Q)):=List.perm_middle
  have b:(vals X++val::vals Y++Q).Perm (val::(vals X++vals Y++Q)):=List.Perm.append_right Q List.perm_middle
  exact a.trans b.symm
 exact ((List.Perm.cons c h1).trans (List.Perm.swap _ _ _)).trans (List.Perm.cons _ (List.Perm.cons _ h2))
theorem WJ {X Y:List E} {e:E} {c val:Nat} {Q:List Nat} :(c::(vals (X++e::Y)++(val::Q))).Perm (e.2::val::(c::(vals X++(vals Y++Q)))):=by
 rw[Bu,BN]
 have h1:(vals X++e.2::vals Y++val::Q).Perm (e.2::val::(vals X++(vals Y++Q))):=by
  have a:(vals X++e.2::vals Y++val::Q).Perm (e.2::(vals X++vals Y++val::Q)):=List.Perm.append_right (val::Q) List.perm_middle
  have b:(vals X++vals Y++val::Q).Perm (val::(vals X++vals Y++Q)):=List.perm_middle
  rw[←List.append_assoc]
  exact a.trans (List.Perm.cons _ b)
 exact (List.Perm.cons c h1).trans ((List.Perm.swap _ _ _).trans (List.Perm.cons _ (List.Perm.swap _ _ _)))
theorem Nk {X Y:List E} {k1:Int} {c c2:Nat} {Q:List Nat} :(c2::(c::(vals X++(vals Y++Q)))).Perm (c::(vals (X++(k1,c2)::Y)++Q)):=by
 rw[Bu,BN]
 refine (List.Perm.swap _ _ _).trans (List.Perm.cons _ ?_)
 have:(vals X++c2::vals Y++Q).Perm (c2::(vals X++vals Y++Q)):=List.Perm.append_right Q List.perm_middle
 rw[←List.append_assoc]
 exact this.symm
theorem Rq {X Y:List E} {k1 kr:Int} {c c2 r:Nat} {Q:List Nat} :(c2::r::(c::(vals X++(vals Y++Q)))).Perm (c::(vals (X++(k1,c2)::(kr,r)::Y)++Q)):=by
 have h1:(r::(c::(vals X++(vals Y++Q)))).Perm (c::(vals (X++(kr,r)::Y)++Q)):=Nk
 refine (List.Perm.cons c2 h1).trans ((List.Perm.swap _ _ _).trans (List.Perm.cons _ ?_))
 rw[Bu,Bu,BN,BN,BN]
 have:(vals X++c2::(r::vals Y)++Q).Perm (c2::(vals X++(r::vals Y)++Q)):=List.Perm.append_right Q List.perm_middle
 exact this.symm
theorem TP {N:Hm} {es:List E} {lo hi:Int} {key:Int} {val:Nat} {b:List UInt8} (hs:Srt es) (hr:BG lo hi es) (hk:lo≤key∧key<hi) (h:∀ e∈es,∃ b,N e.2=some (.dt b)) (hv:N val=some (.dt b)) (hnd:(vals es).Nodup) (hnv:val∉vals es):
  Bd N 0 (putE key val es) hi (putE key val es)∧BG lo hi (putE key val es)∧(vals (putE key val es)).Nodup:=by
 refine ⟨⟨rfl,fun e he=> ?_⟩,Nj hs val hr hk,?_⟩
 ·rcases (putE_mem hs e).1 he with rfl|⟨h1,_⟩
  ·exact ⟨b,hv⟩
  ·exact h e h1
 ·rcases key_split hs key with ⟨X,v,Y,rfl,h1⟩|⟨h0,X,Y,rfl,h1,h2⟩
  ·rw[Dz _ h1,Bu,BN]
   rw[Bu,BN] at hnd hnv
   simp only[List.mem_append,List.mem_cons,not_or] at hnv
   have h3:(val::(vals X++vals Y)).Nodup:=List.nodup_cons.2 ⟨by simp[hnv.1,hnv.2.2],(List.nodup_cons.1 (List.perm_middle.nodup_iff.1 hnd)).2⟩
   exact List.perm_middle.nodup_iff.2 h3
  ·exact (Gm hs val h0).1.nodup_iff.2 (List.nodup_cons.2 ⟨hnv,hnd⟩)
theorem Iq {lo hi:Int} {es:List E} (hr:BG lo hi es) (h0:0≤lo) (h1:hi≤1048576):∀ e∈es,0≤e.1∧e.1<1048576:=fun e he=>by have:=hr e he;omega
theorem PC (pp mb n:Nat) (o:TB) (t:TS) (Q:List Nat) (a:Nat) (lf:Bool) (kv vv:Value) (es:List E) (A B:Ae) (hA:FA A kv es) (hB:FB B vv es) (key:Int) (val:Nat) (hkv:(0≤key∧key<1048576)∧1≤val∧val<1024) (hck:CkN lf (kL es) (vL es)) (hs:Srt es) (h:Nat) (lo hi:Int) (m:Nat) (L:List E) (hBd:Bd t.N h (putE key val es) hi L) (hlf:lf=decide (h=0)) (hrg:BG lo hi (putE key val es)) (hdup:(vals (putE key val es)).Nodup) (hC:t.C a=1) (hN:t.N a=none) (hk:t.k<39)
  (hm:m≤(putE key val es).length) (h0:0≤lo) (h1:hi≤1048576):
  Cn prog 122 [Pt_ pp,Iv_ (a:Int),CZ lf kv vv,Iv_ key,Iv_ (val:Int)] [trA Tb pp mb n o (some (t,a::(vals (putE key val es)++Q))),A,B] (fun v Γ=>(cnt t.F 0 1024=0∧∃ s:TS×List Nat,v= .tuple #[.agg #[Iv_ 0,Iv_ 0,Iv_ 0],Iv_ 20]∧Γ=[trA Tb pp mb n o (some s),A,B])∨(∃ t2:TS,(St t t2 Q 1 2∧Tr t2.N h a lo hi m L)∧v= .tuple #[.agg #[Iv_ (a:Int),Iv_ 0,Iv_ 0],Iv_ 0]∧Γ=[trA Tb pp mb n o (some (t2,a::Q)),A,B])∨
   ∃ (t2:TS) (kr:Int) (r:Nat) (L1 L2:List E),(St t t2 Q 1 2∧L=L1++L2∧lo<kr∧kr<hi∧Tr t2.N h a lo kr 4 L1∧Tr t2.N h r kr hi 4 L2)∧v= .tuple #[.agg #[Iv_ (a:Int),Iv_ kr,Iv_ (r:Int)],Iv_ 0]∧Γ=[trA Tb pp mb n o (some (t2,a::r::Q)),A,B]):=by
 have hkr:=Iq hrg h0 h1
 have h8:es.length≤8:=by have:=hck.l8;simpa [kL] using this
 by_cases hf:Co key es∨es.length<8
 ·have hl:(putE key val es).length≤8:=by
   rcases hf with q|q
   ·rcases key_split hs key with ⟨X,v,Y,rfl,h1⟩|⟨h0,_⟩
    ·rw[Dz _ h1];simpa using h8
    ·exact absurd q h0
   ·have:=(I0 hs key val).2;omega
  refine Cn.mono (Yr pp mb n o t Q a lf kv vv es A B hA hB key val hkv hck hs h lo hi m L hBd hlf hrg hdup hC hN hk hm ⟨IX hs,hl,hkr,fun _=>WI _ _ _⟩ hf) ?_
  rintro v Γ ⟨t2,⟨a1,a2⟩,rfl,rfl⟩
  exact .inr (.inl ⟨t2,⟨a1.sub (fun _ q=>q) (by omega) (by omega),a2⟩,rfl,rfl⟩)
 ·simp only[not_or] at hf
  refine Cn.mono (Ys pp mb n o t Q a lf kv vv es A B hA hB key val hkv hck hs h lo hi m L hBd hlf hrg hdup hC hN hk hkr hf.1 (by omega)) ?_
  rintro v Γ (q|q)
  ·exact .inl q
  ·exact .inr (.inr q)
structure InsPre (n:Nat) (t:TS) (Q:List Nat) (a h:Nat) (lo hi:Int) (m:Nat) (key:Int) (val:Nat) (L:List E):Prop where
 T:Tr t.N h a lo hi m L
 kk:lo≤key∧key<hi
 l0:0≤lo
 h1:hi≤1048576
 dt:∃ b,t.N val=some (.dt b)
 nv:∀ q d,t.N q=some (.nd d)→val∉vals d.es
 hk:t.k+3 * h+3<40
 hb:Q.length+10 * h+12+n≤980
abbrev Ir (Tb:Ae) (pp mb n:Nat) (o:TB) (t:TS) (Q:List Nat) (h:Nat) (lo hi:Int) (m:Nat) (key:Int) (val:Nat) (L:List E) (v:Value) (Γ:List Ae):Prop:=
 (cnt t.F 0 1024≤2 * h+1∧∃ s:TS×List Nat,v= .tuple #[.agg #[.int .i64 0,.int .i64 0,.int .i64 0],.int .i64 20]∧Γ=[trA Tb pp mb n o (some s)])∨
 (∃ (t2:TS) (c:Nat),(St t t2 Q (2 * h+2) (3 * h+3)∧Tr t2.N h c lo hi m (putE key val L))∧v= .tuple #[.agg #[.int .i64 (c:Int),.int .i64 0,.int .i64 0],.int .i64 0]∧Γ=[trA Tb pp mb n o (some (t2,c::Q))])∨
 ∃ (t2:TS) (c:Nat) (kr:Int) (r:Nat) (L1 L2:List E),(St t t2 Q (2 * h+2) (3 * h+3)∧putE key val L=L1++L2∧lo<kr∧kr<hi∧Tr t2.N h c lo kr 4 L1∧Tr t2.N h r kr hi 4 L2)∧v= .tuple #[.agg #[.int .i64 (c:Int),.int .i64 kr,.int .i64 (r:Int)],.int .i64 0]∧Γ=[trA Tb pp mb n o (some (t2,c::r::Q))]
variable {t1 t2:TS} {X Y Q':List E} {e:E} {Q:List Nat} {c c2 r h d1 d2:Nat} {lo hi key kr:Int} {L0 Lc L2 M1 M2:List E}
theorem K7 (S:St t1 t2 (c::(vals X++(vals Y++Q))) d1 d2) (hq0:Sq (fun c a b L=>Tr t1.N h c a b 4 L) X (min e.1 key) L0) (hq2:Sq (fun c a b L=>Tr t1.N h c a b 4 L) Y hi L2):Sq (fun c a b L=>Tr t2.N h c a b 4 L) X (min e.1 key) L0∧Sq (fun c a b L=>Tr t2.N h c a b 4 L) Y hi L2:=
 ⟨Sq.imp hq0 fun x hx _ _ q=>S.fr _ (by simp[List.mem_map_of_mem hx,vals]) _ _ _ _ _ q,Sq.imp hq2 fun x hx _ _ q=>S.fr _ (by simp[List.mem_map_of_mem hx,vals]) _ _ _ _ _ q⟩
theorem WK (S:St t1 t2 (c::(vals X++(vals Y++Q))) d1 d2) (hq0:Sq (fun c a b L=>Tr t1.N h c a b 4 L) X (min e.1 key) L0) (hq2:Sq (fun c a b L=>Tr t1.N h c a b 4 L) Y hi L2) (hT:Tr t2.N h c2 (min e.1 key) (nx Y hi) 4 Lc) (hs:Srt (X++e::Y)) (hr:BG lo hi (X++e::Y)) (hX:X=[]∨e.1≤key) (hlo:lo≤min e.1 key):
  Bd t2.N (h+1) (X++(min e.1 key,c2)::Y) hi (L0++(Lc++L2))∧(Srt (X++(min e.1 key,c2)::Y)∧BG lo hi (X++(min e.1 key,c2)::Y))∧(vals (X++(min e.1 key,c2)::Y)).Nodup:=by
 obtain ⟨a,b⟩:=K7 S hq0 hq2
 have hn:=I1 c2 hs hr (k1:=min e.1 key) (hX.imp id (fun q=>by omega)) (by omega) hlo
 have hB:Bd t2.N (h+1) (X++(min e.1 key,c2)::Y) hi (L0++(Lc++L2)):=Sq.mk a hT b
 exact ⟨hB,hn,hB.nodup hn.1 (fun x hx=>(hn.2 x hx).2)⟩
theorem WL (S:St t1 t2 (c::(vals X++(vals Y++Q))) d1 d2) (hq0:Sq (fun c a b L=>Tr t1.N h c a b 4 L) X (min e.1 key) L0) (hq2:Sq (fun c a b L=>Tr t1.N h c a b 4 L) Y hi L2) (hT:Tr t2.N h c2 (min e.1 key) kr 4 M1) (hT2:Tr t2.N h r kr (nx Y hi) 4 M2) (hs:Srt (X++e::Y)) (hr:BG lo hi (X++e::Y)) (hX:X=[]∨e.1≤key) (hlo:lo≤min e.1 key) (hk1:min e.1 key<kr) (hk2:kr<nx Y hi) (hhi:nx Y hi≤hi):
  (Srt (X++(min e.1 key,c2)::Y))∧putE kr r (X++(min e.1 key,c2)::Y)=X++(min e.1 key,c2)::(kr,r)::Y∧Bd t2.N (h+1) (putE kr r (X++(min e.1 key,c2)::Y)) hi (L0++((M1++M2)++L2))∧BG lo hi (putE kr r (X++(min e.1 key,c2)::Y))∧(vals (putE kr r (X++(min e.1 key,c2)::Y))).Nodup∧lo≤kr∧kr<hi:=by
 obtain ⟨a,b⟩:=K7 S hq0 hq2
 have hn:=I1 c2 hs hr (k1:=min e.1 key) (hX.imp id (fun q=>by omega)) (by omega) hlo
 obtain ⟨hp,_,hl1,hl2⟩:=TO (r:=r) hn.1 hk1 hk2 hn.2 hhi
 have hr2:=Nj hn.1 r hn.2 ⟨hl1,hl2⟩
 have hs2:=IX (k:=kr) (v:=r) hn.1
 have hB:Bd t2.N (h+1) (putE kr r (X++(min e.1 key,c2)::Y)) hi (L0++((M1++M2)++L2)):=by
  rw[hp]
  have:L0++((M1++M2)++L2)=L0++(M1++(M2++L2)):=by simp
  rw[this]
  exact Sq.mk (e:=(min e.1 key,c2)) (B:=(kr,r)::Y) a hT ⟨M2,L2,rfl,hT2,b⟩
 exact ⟨hn.1,hp,hB,hr2,hB.nodup hs2 (fun x hx=>(hr2 x hx).2),hl1,hl2⟩
theorem TQ (hr:BG lo hi (X++e::Y)) (hb:lo≤min e.1 key):∀ x∈X++(min e.1 key,c)::Y,lo≤x.1∧x.1<hi:=fun x hx=>by
 rcases List.mem_append.1 hx with hx|hx
 ·exact hr x (by simp[hx])
 ·rcases List.mem_cons.1 hx with rfl|hx
  ·have:=hr e (by simp);dsimp only;omega
  ·exact hr x (by simp[hx])
end
section
open Go.RowKit
variable {Tb:Ae}
set_option maxHeartbeats 2000000 in
theorem Yu (pp mb n:Nat) (o:TB) (t:TS) (Q:List Nat) (a:Nat) (lo hi:Int) (m:Nat) (key:Int) (val:Nat) (L:List E) (hP:InsPre n t Q a 0 lo hi m key val L):Cn prog 82 [Pt_ pp,Iv_ (a:Int),Iv_ key,Iv_ (val:Int)] [trA Tb pp mb n o (some (t,a::val::Q))] (fun v Γ=>Ir Tb pp mb n o t Q 0 lo hi m key val L v Γ):=by
 intro z R w H;replace H:=H.l1;have K:=H.says 0 rfl (fun h a=>trA.k a)
 have hn:=K.hn
 have hkk:=hP.kk;have h0:=hP.l0;have h1048:=hP.h1;have hnv:=hP.nv;have htk:=hP.hk;have htb:=hP.hb
 obtain ⟨b,hvd⟩:=hP.dt;have hvr:=K.i.rin val (by simp[Cs])
 obtain ⟨es,hN,hm,hrg,hok,hLes,hdt⟩:=hP.T;have hck:CkN true (kL es) (vL es):=K.i.vok (by omega) hn.2 hN
 have hnd:=(K.i.nds a _ hN).2.1
 have hkv:(0≤key∧key<1048576)∧1≤val∧val<1024:=by omega
 obtain rfl:es=L:=hLes.symm;refine Ad func82 rfl ntmps82 rfl (Za 2 [] H rfl ?_);intro b1 w H;refine Zc 7 rfl (Aw rfl (call121 _) (Io pp mb n o t (val::Q) a true es hN (by omega) (by simp only[List.length_cons];omega)) H.f1 ?_);rintro _ w _ (⟨hnone,v2,v3,s,rfl,rfl⟩|⟨t1,c,v2,v3,O,rfl,rfl⟩) H'
 ·have H:=H'.l4;have sv2:=H.says 0 rfl (fun h q=>q.slc)
  have sv3:=H.says 1 rfl (fun h q=>q.slc)
  refine Za 4 [] H rfl ?_;intro b4 w H;refine Zc 1 rfl (Az rfl rfl (Ag 0 H rfl rfl rfl rfl (vs:=[.bool true,v2,v3]) rfl (Ab rfl (Ab sv2.one (Ab sv3.one Ar))) (by kernel_rfl) (by simp) (out:=[.bool true,v2,v3]) rfl) ?_);rintro w H;replace H:=H.l5;refine Z4 20 [3,4] H rfl ?_;intro w H;refine Zl [4,3] H rfl ?_;exact ⟨_,.inl ⟨(by omega),_,rfl,rfl⟩,H.perm 5 [3] rfl rfl⟩
 ·have H:=H'.l4;have sv2:=H.says 0 rfl (fun h q=>q.slc)
  have sv3:=H.says 1 rfl (fun h q=>q.slc)
  refine Za 4 [] H rfl ?_;intro b5 w H;refine Zc 1 rfl (Az rfl rfl (Ag 0 H rfl rfl rfl rfl (vs:=[.bool true,v2,v3]) rfl (Ab rfl (Ab sv2.one (Ab sv3.one Ar))) (by kernel_rfl) (by simp) (out:=[.bool true,v2,v3]) rfl) ?_);rintro w H;replace H:=H.l5;refine Z0 15 [4] rfl ?_;obtain ⟨hl1,hl2,hl3⟩:=TP (N:=t1.N) hok.srt hrg hkk (fun e he=>by obtain ⟨b,hb⟩:=hdt e he;exact ⟨b,O.dv _ (List.mem_map_of_mem he) b hb⟩) (O.st.dt val (by simp) b hvd) hnd (hnv a _ hN);refine Z2 11 [0,0,0,0,3] H rfl (Aw rfl (call73 _) (Ni (es:=es) (fun h q=>q.rd) (fun h q=>q.rd) hok.len hok.srt key) H.f2.f2 ?_);rintro _ w _ (⟨X,v0,Y,⟨hes,hX⟩,rfl,rfl⟩|⟨hno,i0,rfl,rfl⟩) H'
  ·have H:=H'.l5;refine Zc 14 rfl ?_;have hv0:∀ d,t1.N v0≠some (.nd d):=fun d q=>by obtain ⟨b,hb⟩:=hdt (key,v0) (by rw[hes];simp);rw[O.dv v0 (by rw[hes];simp[vals]) b hb] at q;cases q
   obtain ⟨ao2,cc2,rfl⟩:=sv3;have hat:=(H.rd 1 rfl (fun h q=>q.rd)).at (j:=X.length) (u:=Iv_ (v0:Int)) (by rw[hes];simp[vL])
   replace H:=(H.mono 3 (B:=trA Tb pp mb n o (some (t1,v0::(c::(vals (putE key val es)++Q))))) rfl (fun h q=>q.perm (by rw[hes];exact Ln hX))).l5
   refine Z2 5 [2,2,0] H rfl (Ac rfl (AD rfl (z:=1) (j:=X.length) (r:=X.length) (by kernel_rfl) rfl rfl rfl (by rw[hes];simp) hat (by omega)) (Ac rfl (AR rfl rfl (by kernel_rfl) (AB hat)) (Aw rfl (call84 _) (F7 pp mb n o t1 _ v0 hv0) H.f3 ?_)));rintro _ w _ ⟨t2,⟨hS2,hq2,hC2,hN2,hF2⟩,rfl,rfl⟩ H;refine Z2 19 [4,3,3] H rfl (Aw rfl (call122 _) (PC pp mb n o t2 Q c true _ _ es _ _ (fun h q=>q.rd) (fun h q=>q.rd) key val hkv hck hok.srt 0 lo hi m (putE key val es) (hS2.bd (fun v hv=>by simp[hv]) hl1) rfl hl2 hl3 (hS2.op c (by simp) O.N0 O.C1).2 (hS2.op c (by simp) O.N0 O.C1).1 (by have:=O.st.k;have:=hS2.k;omega) (by have:=(I0 (es:=es) hok.srt key val).1;omega) h0 h1048) H ?_);rintro _ w _ (⟨hf3,s3,rfl,rfl⟩|⟨t3,⟨hSt3,hT3⟩,rfl,rfl⟩|⟨t3,kr3,r3,L3,L4,⟨hSt3,hL3,hk3,hk4,hT3,hT4⟩,rfl,rfl⟩) H'
   ·have H:=H'.l5;refine Z4 7 [4] H rfl ?_;intro w H;refine Zl [4,3] H rfl ?_;exact ⟨_,.inl ⟨(by have:=O.st.f;have:=hS2.f;omega),_,rfl,rfl⟩,H.perm 5 [0] rfl rfl⟩
   ·have H:=H'.l5;refine Z4 7 [4] H rfl ?_;intro w H;refine Zl [4,3] H rfl ?_;exact ⟨_,.inr (.inl ⟨_,c,⟨((O.st.sub (fun p hp=>by simp[hp]) (Nat.le_refl _) (Nat.le_refl _)).trans hS2 (R:=Q) (R1:=Q) (fun p hp=>hp) (fun p hp=>by simp[hp]) (e:=1) (f:=1) (by omega) (by omega)).trans hSt3 (fun p hp=>hp) (fun p hp=>hp) (by omega) (by omega),hT3⟩,rfl,rfl⟩),H.perm 5 [0] rfl rfl⟩
   ·have H:=H'.l5;refine Z4 7 [4] H rfl ?_;intro w H;refine Zl [4,3] H rfl ?_;exact ⟨_,.inr (.inr ⟨_,c,_,_,_,_,⟨((O.st.sub (fun p hp=>by simp[hp]) (Nat.le_refl _) (Nat.le_refl _)).trans hS2 (R:=Q) (R1:=Q) (fun p hp=>hp) (fun p hp=>by simp[hp]) (e:=1) (f:=1) (by omega) (by omega)).trans hSt3 (fun p hp=>hp) (fun p hp=>hp) (by omega) (by omega),hL3,hk3,hk4,hT3,hT4⟩,rfl,rfl⟩),H.perm 5 [0] rfl rfl⟩
  ·have H:=H'.l5;refine Zc 16 rfl ?_;replace H:=(H.mono 3 (B:=trA Tb pp mb n o (some (t1,c::(vals (putE key val es)++Q)))) rfl (fun h q=>q.perm (Lm hok.srt hno))).l5
   refine Z2 6 [2,3] H rfl (Aw rfl (call122 _) (PC pp mb n o t1 Q c true _ _ es _ _ (fun h q=>q.rd) (fun h q=>q.rd) key val hkv hck hok.srt 0 lo hi m (putE key val es) hl1 rfl hl2 hl3 O.C1 O.N0 (by have:=O.st.k;omega) (by have:=(I0 (es:=es) hok.srt key val).1;omega) h0 h1048) H.f1.f1.f3 ?_);rintro _ w _ (⟨hf3,s3,rfl,rfl⟩|⟨t3,⟨hSt3,hT3⟩,rfl,rfl⟩|⟨t3,kr3,r3,L3,L4,⟨hSt3,hL3,hk3,hk4,hT3,hT4⟩,rfl,rfl⟩) H'
   ·have H:=H'.l5;refine Z4 7 [4] H rfl ?_;intro w H;refine Zl [4,3] H rfl ?_;exact ⟨_,.inl ⟨(by have:=O.st.f;omega),_,rfl,rfl⟩,H.perm 5 [0] rfl rfl⟩
   ·have H:=H'.l5;refine Z4 7 [4] H rfl ?_;intro w H;refine Zl [4,3] H rfl ?_;exact ⟨_,.inr (.inl ⟨_,c,⟨(O.st.sub (fun p hp=>by simp[hp]) (Nat.le_refl _) (Nat.le_refl _)).trans hSt3 (R:=Q) (R1:=Q) (fun p hp=>hp) (fun p hp=>hp) (by omega) (by omega),hT3⟩,rfl,rfl⟩),H.perm 5 [0] rfl rfl⟩
   ·have H:=H'.l5;refine Z4 7 [4] H rfl ?_;intro w H;refine Zl [4,3] H rfl ?_;exact ⟨_,.inr (.inr ⟨_,c,_,_,_,_,⟨(O.st.sub (fun p hp=>by simp[hp]) (Nat.le_refl _) (Nat.le_refl _)).trans hSt3 (R:=Q) (R1:=Q) (fun p hp=>hp) (fun p hp=>hp) (by omega) (by omega),hL3,hk3,hk4,hT3,hT4⟩,rfl,rfl⟩),H.perm 5 [0] rfl rfl⟩
set_option maxHeartbeats 4000000 in
theorem Yv (pp mb n:Nat) (o:TB) (t:TS) (Q:List Nat) (h:Nat) (ih:∀ (t:TS) (Q:List Nat) (a:Nat) (lo hi:Int) (m:Nat) (key:Int) (val:Nat) (L:List E),InsPre n t Q a h lo hi m key val L→Cn prog 82 [Pt_ pp,Iv_ (a:Int),Iv_ key,Iv_ (val:Int)] [trA Tb pp mb n o (some (t,a::val::Q))] (fun v Γ=>Ir Tb pp mb n o t Q h lo hi m key val L v Γ)) (a:Nat) (lo hi:Int) (m:Nat) (key:Int) (val:Nat) (L:List E) (hP:InsPre n t Q a (h+1) lo hi m key val L):Cn prog 82 [Pt_ pp,Iv_ (a:Int),Iv_ key,Iv_ (val:Int)] [trA Tb pp mb n o (some (t,a::val::Q))] (fun v Γ=>Ir Tb pp mb n o t Q (h+1) lo hi m key val L v Γ):=by
 intro z R w H;replace H:=H.l1;have K:=H.says 0 rfl (fun h a=>trA.k a)
 have hn:=K.hn
 have hkk:=hP.kk;have h0:=hP.l0;have h1048:=hP.h1;have hnv:=hP.nv;have htk:=hP.hk;have htb:=hP.hb
 obtain ⟨b,hvd⟩:=hP.dt;have hvr:=K.i.rin val (by simp[Cs])
 obtain ⟨es,hN,hm,hrg,hok,hBd⟩:=hP.T;refine Ad func82 rfl ntmps82 rfl (Za 2 [] H rfl ?_);intro b1 w H;refine Zc 7 rfl (Aw rfl (call121 _) (Io pp mb n o t (val::Q) a false es hN (by omega) (by simp only[List.length_cons];omega)) H.f1 ?_);rintro _ w _ (⟨hnone,v2,v3,s,rfl,rfl⟩|⟨t1,c,v2,v3,O,rfl,rfl⟩) H'
 ·have H:=H'.l4;have sv2:=H.says 0 rfl (fun h q=>q.slc)
  have sv3:=H.says 1 rfl (fun h q=>q.slc)
  refine Za 4 [] H rfl ?_;intro b4 w H;refine Zc 1 rfl (Az rfl rfl (Ag 0 H rfl rfl rfl rfl (vs:=[.bool false,v2,v3]) rfl (Ab rfl (Ab sv2.one (Ab sv3.one Ar))) (by kernel_rfl) (by simp) (out:=[.bool false,v2,v3]) rfl) ?_);rintro w H;replace H:=H.l5;refine Z4 20 [3,4] H rfl ?_;intro w H;refine Zl [4,3] H rfl ?_;exact ⟨_,.inl ⟨(by omega),_,rfl,rfl⟩,H.perm 5 [3] rfl rfl⟩
 ·have H:=H'.l4;have sv2:=H.says 0 rfl (fun h q=>q.slc)
  have sv3:=H.says 1 rfl (fun h q=>q.slc)
  refine Za 4 [] H rfl ?_;intro b5 w H;refine Zc 1 rfl (Az rfl rfl (Ag 0 H rfl rfl rfl rfl (vs:=[.bool false,v2,v3]) rfl (Ab rfl (Ab sv2.one (Ab sv3.one Ar))) (by kernel_rfl) (by simp) (out:=[.bool false,v2,v3]) rfl) ?_);rintro w H;replace H:=H.l5;refine Z2 27 [4,0,0,0,0,3] H rfl (Aw rfl (call74 _) (Kt (es:=es) (fun h q=>q.rd) (fun h q=>q.rd) hok.len hok.srt (hok.ne rfl) key) H.f2.f2 ?_);rintro _ w _ ⟨X,e,Y,⟨hes,hX,hXe,hY⟩,rfl,rfl⟩ H;refine Zc 4 rfl ?_;obtain ⟨ao2,cc2,rfl⟩:=sv3;have hat:=(H.rd 1 rfl (fun h q=>q.rd)).at (j:=X.length) (u:=Iv_ (e.2:Int)) (by rw[hes];simp[vL])
  replace H:=(H.mono 3 (B:=trA Tb pp mb n o (some (t1,e.2::val::(c::(vals X++(vals Y++Q)))))) rfl (fun h q=>q.perm (by rw[hes];exact WJ))).l5
  have hs1:Srt (X++e::Y):=by rw[←hes];exact hok.srt
  have hr1:BG lo hi (X++e::Y):=by rw[←hes];exact hrg
  obtain ⟨L0,Lc,L2,⟨hq0,hqc,hq2⟩,hLe,hLp,hb1,hb2,hb3,hb4⟩:=Yt val hs1 hr1 (by rw[←hes];exact O.bd hBd) hX hY hkk;have hel:(vals X).length+(vals Y).length+1=es.length:=by rw[hes];simp[vals];omega
  have hes8:es.length≤8:=hok.len
  refine Z2 5 [2,2,0] H rfl (Ac rfl (AD rfl (z:=1) (j:=X.length) (r:=X.length) (by kernel_rfl) rfl rfl rfl (by rw[hes];simp) hat (by omega)) (Ac rfl (AR rfl rfl (by kernel_rfl) (AB hat)) (Zc 2 rfl (Aw rfl (call82 _) (ih t1 (c::(vals X++(vals Y++Q))) e.2 (min e.1 key) (nx Y hi) 4 key val Lc ⟨hqc,⟨hb2,hb3⟩,by omega,by omega,⟨b,O.st.dt val (by simp) b hvd⟩,fun q d hq=>hnv q d (O.sub q d hq),by have:=O.st.k;omega,by simp only[List.length_cons,List.length_append];omega⟩) H.f3 ?_))));rintro _ w _ (⟨hf2,s2,rfl,rfl⟩|⟨t2,c2,⟨hSt2,hT2⟩,rfl,rfl⟩|⟨t2,c2,kr,r,M1,M2,⟨hSt2,hLs,hk1,hk2,hT2,hT3⟩,rfl,rfl⟩) H'
  ·have H:=H'.l5;refine Za 3 [] H rfl ?_;intro b6 w H;refine Z4 21 [0,3,5] H rfl ?_;intro w H;refine Zl [5,3] H rfl ?_;exact ⟨_,.inl ⟨(by have:=O.st.f;omega),_,rfl,rfl⟩,H.perm 6 [1] rfl rfl⟩
  ·have H:=H'.l5;refine Za 3 [] H rfl ?_;intro b7 w H;refine Z4 15 [0,4] H rfl ?_;intro w H;have hXl:X.length<es.length:=by rw[hes];simp
   have hnek:0<(kL es).length:=by simp only[List.length_map];omega
   have hnev:0<(vL es).length:=by simp only[List.length_map];omega
   obtain ⟨gk,cap_gk,rest_gk,rfl,c1gk,c2gk,c3gk,H⟩:=H.ungrow 2 rfl hnek;replace H:=H.l6;obtain ⟨gv_,cap_gv_,rest_gv_,hgq,c1gv_,c2gv_,c3gv_,H'⟩:=H.ungrow 3 rfl hnev;cases hgq;clear H;have H:=H'.l6;refine Z2 6 [2,4,0,0,0,0] H rfl (Ac rfl (Cc rfl (z:=1) (j:=X.length) (r:=X.length) (by kernel_rfl) rfl rfl rfl (by simp only[List.length_map];omega) (by omega)) (Az rfl rfl (Ag 3 H rfl rfl rfl rfl (vs:=[Iv_ (c2:Int)]) rfl (by simp[u8,u32,Value.oneCell']) (by kernel_rfl) (by simp only[List.length_append,List.length_map,List.length_cons,List.length_nil];omega) (out:=(((vL es).set X.length (c2:Int)).map Iv_++rest_gv_)) (Dy (by simp only[List.length_map];omega))) ?_));rintro w H;replace H:=H.l6;refine Zc 3 rfl (BI 11 (by kernel_rfl) (by kernel_rfl) (Bc H fun w H'=> ?_))
   have H:=H'.l6;refine Uo 6 [1,0,1,0] (AK (H.blk 4 rfl) AW) rfl (by kernel_rfl) rfl (Cd rfl rfl rfl (Cc rfl (z:=1) (j:=X.length) (r:=X.length) (by kernel_rfl) rfl rfl rfl (by simp only[List.length_map];omega) (by omega)) (Cd rfl rfl rfl (AZ rfl rfl (by kernel_rfl) (AB (H.cel 2 rfl X.length (show ((kL es).map Iv_++rest_gk)[X.length]? =some (Iv_ e.1) from (by rw[List.getElem?_append_left (by simp only[List.length_map];omega),List.getElem?_map,List.getElem?_map,hes];simp))))) ?_));refine NV 1 [] rfl (by kernel_rfl) (Cd rfl rfl rfl (I7 rfl rfl rfl) (Cd rfl rfl rfl (Cc rfl (z:=1) (j:=X.length) (r:=X.length) (by kernel_rfl) rfl rfl rfl (by simp only[List.length_map];omega) (by omega)) (Cy (gw (Az rfl rfl (Ag 2 H rfl rfl rfl rfl (vs:=[Iv_ (min (e.1:Int) key)]) rfl (by simp[u8,u32,Value.oneCell']) (by kernel_rfl) (by simp only[List.length_append,List.length_map,List.length_cons,List.length_nil];omega) (out:=(((kL es).set X.length (min e.1 key)).map Iv_++rest_gk)) (Dy (by simp only[List.length_map];omega))) ?_)))));rintro w H;replace H:=H.l6;refine Zc 4 rfl ?_;have hlk:(kL es).length=(kL (X++(min e.1 key,c2)::Y)).length:=by rw[hes];simp
   have hlv:(vL es).length=(vL (X++(min e.1 key,c2)::Y)).length:=by rw[hes];simp
   have hks:(kL es).set X.length (min e.1 key)=kL (X++(min e.1 key,c2)::Y):=by rw[hes];simp[kL,List.set_append]
   have hvs:(vL es).set X.length (c2:Int)=vL (X++(min e.1 key,c2)::Y):=by rw[hes];simp[vL,List.set_append]
   replace H:=(H.mono 2 (B:=grow 3 1 (.slice (some ⟨gk,0,none⟩) ((kL es).length) cap_gk) ((kL es).length) ((kL (X++(min e.1 key,c2)::Y)).map Iv_)) rfl (fun h q=>q.grow (by omega) (by omega) (by simp only[List.length_append,List.length_map,List.length_set];simp only[List.length_map] at *;omega) (by rw[Nat.mul_one,List.take_left' (by simp),hks]))).l6
   replace H:=(H.mono 3 (B:=grow 3 1 (.slice (some ⟨gv_,0,none⟩) ((vL es).length) cc2) ((vL es).length) ((vL (X++(min e.1 key,c2)::Y)).map Iv_)) rfl (fun h q=>q.grow (by omega) (by omega) (by simp only[List.length_append,List.length_map,List.length_set];simp only[List.length_map] at *;omega) (by rw[Nat.mul_one,List.take_left' (by simp),hvs]))).l6
   refine Z2 10 [2,0,0,4] H rfl ?_;obtain ⟨hB2,⟨hn1,hn2⟩,hd2⟩:=WK hSt2 hq0 hq2 hT2 hs1 hr1 hX hb1;have hl1:((X++(min e.1 key,c2)::Y):List E).length=es.length:=by rw[hes];simp
   replace H:=(H.mono 1 (B:=trA Tb pp mb n o (some (t2,c::(vals (X++(min e.1 key,c2)::Y)++Q)))) rfl (fun h q=>q.perm Nk)).l6
   refine Z2 6 [4,3] H rfl (Aw rfl (call123 _) (Fh pp mb n o t2 Q c false _ _ (X++(min e.1 key,c2)::Y) _ _ (fun h q=>by rw[←hlk];exact q.rd) (fun h q=>by rw[←hlv];exact q.rd) (h+1) lo hi m (putE key val L) (by rw[hLp];exact hB2) (by simp) hn2 (by omega) ⟨hn1,by dsimp only;omega,Iq hn2 h0 h1048,fun _=>by simp⟩ hd2 (hSt2.op c (by simp) O.N0 O.C1).2 (hSt2.op c (by simp) O.N0 O.C1).1 (by have:=O.st.k;have:=hSt2.k;omega)) H.f3.f3.f3 ?_);rintro _ w _ ⟨t3,⟨hSt3,hT3,hC3,hN3⟩,rfl,rfl⟩ H;refine Z4 5 [5] H rfl ?_;intro w H;refine Zl [5,3] H rfl ?_;exact ⟨_,.inr (.inl ⟨_,c,⟨((O.st.sub (R':=Q) (fun p hp=>by simp[hp]) (Nat.le_refl _) (Nat.le_refl _)).trans hSt2 (R:=Q) (R1:=Q) (fun p hp=>hp) (fun p hp=>by simp[hp]) (Nat.le_refl _) (Nat.le_refl _)).trans hSt3 (fun p hp=>hp) (fun p hp=>hp) (by omega) (by omega),hT3⟩,rfl,rfl⟩),H.perm 6 [0] rfl rfl⟩
  ·have H:=H'.l5;refine Za 3 [] H rfl ?_;intro b8 w H;refine Z4 15 [0,4] H rfl ?_;intro w H;have hXl:X.length<es.length:=by rw[hes];simp
   have hnek:0<(kL es).length:=by simp only[List.length_map];omega
   have hnev:0<(vL es).length:=by simp only[List.length_map];omega
   obtain ⟨gk,cap_gk,rest_gk,rfl,c1gk,c2gk,c3gk,H⟩:=H.ungrow 2 rfl hnek;replace H:=H.l6;obtain ⟨gv_,cap_gv_,rest_gv_,hgq,c1gv_,c2gv_,c3gv_,H'⟩:=H.ungrow 3 rfl hnev;cases hgq;clear H;have H:=H'.l6;refine Z2 6 [2,4,0,0,0,0] H rfl (Ac rfl (Cc rfl (z:=1) (j:=X.length) (r:=X.length) (by kernel_rfl) rfl rfl rfl (by simp only[List.length_map];omega) (by omega)) (Az rfl rfl (Ag 3 H rfl rfl rfl rfl (vs:=[Iv_ (c2:Int)]) rfl (by simp[u8,u32,Value.oneCell']) (by kernel_rfl) (by simp only[List.length_append,List.length_map,List.length_cons,List.length_nil];omega) (out:=(((vL es).set X.length (c2:Int)).map Iv_++rest_gv_)) (Dy (by simp only[List.length_map];omega))) ?_));rintro w H;replace H:=H.l6;refine Zc 3 rfl (BI 11 (by kernel_rfl) (by kernel_rfl) (Bc H fun w H'=> ?_))
   have H:=H'.l6;refine Uo 6 [1,0,1,0] (AK (H.blk 4 rfl) AW) rfl (by kernel_rfl) rfl (Cd rfl rfl rfl (Cc rfl (z:=1) (j:=X.length) (r:=X.length) (by kernel_rfl) rfl rfl rfl (by simp only[List.length_map];omega) (by omega)) (Cd rfl rfl rfl (AZ rfl rfl (by kernel_rfl) (AB (H.cel 2 rfl X.length (show ((kL es).map Iv_++rest_gk)[X.length]? =some (Iv_ e.1) from (by rw[List.getElem?_append_left (by simp only[List.length_map];omega),List.getElem?_map,List.getElem?_map,hes];simp))))) ?_));refine NV 1 [] rfl (by kernel_rfl) (Cd rfl rfl rfl (I7 rfl rfl rfl) (Cd rfl rfl rfl (Cc rfl (z:=1) (j:=X.length) (r:=X.length) (by kernel_rfl) rfl rfl rfl (by simp only[List.length_map];omega) (by omega)) (Cy (gw (Az rfl rfl (Ag 2 H rfl rfl rfl rfl (vs:=[Iv_ (min (e.1:Int) key)]) rfl (by simp[u8,u32,Value.oneCell']) (by kernel_rfl) (by simp only[List.length_append,List.length_map,List.length_cons,List.length_nil];omega) (out:=(((kL es).set X.length (min e.1 key)).map Iv_++rest_gk)) (Dy (by simp only[List.length_map];omega))) ?_)))));rintro w H;replace H:=H.l6;refine Zc 4 rfl ?_;have hlk:(kL es).length=(kL (X++(min e.1 key,c2)::Y)).length:=by rw[hes];simp
   have hlv:(vL es).length=(vL (X++(min e.1 key,c2)::Y)).length:=by rw[hes];simp
   have hks:(kL es).set X.length (min e.1 key)=kL (X++(min e.1 key,c2)::Y):=by rw[hes];simp[kL,List.set_append]
   have hvs:(vL es).set X.length (c2:Int)=vL (X++(min e.1 key,c2)::Y):=by rw[hes];simp[vL,List.set_append]
   have hr0:manyN n+1≤r:=by have K3:=H.says 1 rfl (fun h a=>trA.k a);exact (K3.i.rin r (by simp[Cs])).1
   replace H:=(H.mono 2 (B:=grow 3 1 (.slice (some ⟨gk,0,none⟩) ((kL es).length) cap_gk) ((kL es).length) ((kL (X++(min e.1 key,c2)::Y)).map Iv_)) rfl (fun h q=>q.grow (by omega) (by omega) (by simp only[List.length_append,List.length_map,List.length_set];simp only[List.length_map] at *;omega) (by rw[Nat.mul_one,List.take_left' (by simp),hks]))).l6
   replace H:=(H.mono 3 (B:=grow 3 1 (.slice (some ⟨gv_,0,none⟩) ((vL es).length) cc2) ((vL es).length) ((vL (X++(min e.1 key,c2)::Y)).map Iv_)) rfl (fun h q=>q.grow (by omega) (by omega) (by simp only[List.length_append,List.length_map,List.length_set];simp only[List.length_map] at *;omega) (by rw[Nat.mul_one,List.take_left' (by simp),hvs]))).l6
   refine Z2 6 [2,0,0,0] H rfl (Af rfl (fun h1=> ?_) (fun h1=> ?_))
   ·refine Zc 1 rfl ?_;obtain ⟨hn1,hput,hB2,hr2,hd2,hkr1,hkr2⟩:=WL (r:=r) hSt2 hq0 hq2 hT2 hT3 hs1 hr1 hX hb1 hk1 hk2 hb4;have hpl:(putE kr r (X++(min e.1 key,c2)::Y)).length=es.length+1:=by rw[hput,hes];simp only[List.length_append,List.length_cons];omega
    replace H:=(H.mono 1 (B:=trA Tb pp mb n o (some (t2,c::(vals (putE kr r (X++(min e.1 key,c2)::Y))++Q)))) rfl (fun h q=>q.perm (by rw[hput];exact Rq))).l6
    have K2:=H.says 1 rfl (fun h a=>trA.k a)
    have hr3:=Iq hr2 h0 h1048
    have hkv2:(0≤kr∧kr<1048576)∧1≤r∧r<1024:=by have:=K2.i.rin r (by simp[Cs,hput,vals]);omega
    have hck2:CkN false (kL (X++(min e.1 key,c2)::Y)) (vL (X++(min e.1 key,c2)::Y)):=CkN.of ⟨hn1,by have:((X++(min e.1 key,c2)::Y):List E).length=es.length:=(by rw[hes];simp);dsimp only;omega,fun x hx=>by have:=TQ hr1 hb1 (c:=c2) x hx;omega,fun _=>by simp⟩ (fun v hv=>by have:=K2.i.rin v (by simp only[Cs,hput,Bu,BN] at hv ⊢;simp only[List.mem_cons,List.mem_append] at hv ⊢;rcases hv with h|h|h<;>simp[h]);omega)
    refine Z2 8 [4,3,1,0,0,2,0,0] H rfl (Aw rfl (call122 _) (PC pp mb n o t2 Q c false _ _ (X++(min e.1 key,c2)::Y) _ _ (fun h q=>by rw[←hlk];exact q.rd) (fun h q=>by rw[←hlv];exact q.rd) kr r hkv2 hck2 hn1 (h+1) lo hi m (putE key val L) (by rw[hLp,hLs];exact hB2) (by simp) hr2 hd2 (hSt2.op c (by simp) O.N0 O.C1).2 (hSt2.op c (by simp) O.N0 O.C1).1 (by have:=O.st.k;have:=hSt2.k;omega) (by omega) h0 h1048) H.f3.f3.f3 ?_);rintro _ w _ (⟨hf3,s3,rfl,rfl⟩|⟨t3,⟨hSt3,hT3⟩,rfl,rfl⟩|⟨t3,kr3,r3,L3,L4,⟨hSt3,hL3,hk3,hk4,hT3,hT4⟩,rfl,rfl⟩) H'
    ·have H:=H'.l6;refine Z4 7 [5] H rfl ?_;intro w H;refine Zl [5,3] H rfl ?_;exact ⟨_,.inl ⟨(by have:=O.st.f;have:=hSt2.f;omega),_,rfl,rfl⟩,H.perm 6 [0] rfl rfl⟩
    ·have H:=H'.l6;refine Z4 7 [5] H rfl ?_;intro w H;refine Zl [5,3] H rfl ?_;exact ⟨_,.inr (.inl ⟨_,c,⟨((O.st.sub (R':=Q) (fun p hp=>by simp[hp]) (Nat.le_refl _) (Nat.le_refl _)).trans hSt2 (R:=Q) (R1:=Q) (fun p hp=>hp) (fun p hp=>by simp[hp]) (Nat.le_refl _) (Nat.le_refl _)).trans hSt3 (fun p hp=>hp) (fun p hp=>hp) (by omega) (by omega),hT3⟩,rfl,rfl⟩),H.perm 6 [0] rfl rfl⟩
    ·have H:=H'.l6;refine Z4 7 [5] H rfl ?_;intro w H;refine Zl [5,3] H rfl ?_;exact ⟨_,.inr (.inr ⟨_,c,_,_,_,_,⟨((O.st.sub (R':=Q) (fun p hp=>by simp[hp]) (Nat.le_refl _) (Nat.le_refl _)).trans hSt2 (R:=Q) (R1:=Q) (fun p hp=>hp) (fun p hp=>by simp[hp]) (Nat.le_refl _) (Nat.le_refl _)).trans hSt3 (fun p hp=>hp) (fun p hp=>hp) (by omega) (by omega),hL3,hk3,hk4,hT3,hT4⟩,rfl,rfl⟩),H.perm 6 [0] rfl rfl⟩
   ·(exfalso;omega)
end
section
open Go.RowKit
variable {Tb:Ae}
theorem Nl (pp mb n:Nat) (o:TB):∀ (h:Nat) (t:TS) (Q:List Nat) (a:Nat) (lo hi:Int) (m:Nat) (key:Int) (val:Nat) (L:List E),InsPre n t Q a h lo hi m key val L→Cn prog 82 [Pt_ pp,Iv_ (a:Int),Iv_ key,Iv_ (val:Int)] [trA Tb pp mb n o (some (t,a::val::Q))] (fun v Γ=>Ir Tb pp mb n o t Q h lo hi m key val L v Γ)
 | 0=>fun t Q a lo hi m key val L hP=>Yu pp mb n o t Q a lo hi m key val L hP
 | h+1=>fun t Q a lo hi m key val L hP=>Yv pp mb n o t Q h (Nl pp mb n o h) a lo hi m key val L hP
theorem Tr.lo {N:Hm} {h r:Nat} {lo hi:Int} {m:Nat} {L es:List E} {lf:Bool} (t:Tr N h r lo hi m L) (hN:N r=some (.nd ⟨lf,es⟩)) (hm:1≤m):Tr N h r (nx es hi) hi m L∧lo≤nx es hi∧nx es hi<hi:=by
 obtain ⟨es',h1,h2,h3,h4,h5⟩:=Tr.iff.1 t
 rw[h1] at hN;cases hN
 cases es with
 | nil=>simp at h2;omega
 | cons e u=>
  have he:=h3 e (by simp)
  refine ⟨Tr.iff.2 ⟨_,h1,h2,fun x hx=>⟨?_,(h3 x hx).2⟩,h4,h5⟩,he⟩
  rcases List.mem_cons.1 hx with rfl|hx
  ·exact Int.le_refl _
  ·exact Int.le_of_lt ((Srt.cons.1 h4.srt).1 x hx)
theorem root_two {N:Hm} {h c r:Nat} {kr:Int} {L1 L2:List E} {es:List E} {lf:Bool} (hT:Tr N h c 0 kr 4 L1) (hN:N c=some (.nd ⟨lf,es⟩)) (hT2:Tr N h r kr 1048576 4 L2) (hkr:kr<1048576):
  Bd N (h+1) [(nx es kr,c),(kr,r)] 1048576 (L1++L2)∧BG 0 1048576 [(nx es kr,c),(kr,r)]∧(Nd.mk false [(nx es kr,c),(kr,r)]).Ok∧(vals [(nx es kr,c),(kr,r)]).Nodup:=by
 obtain ⟨h1,h2,h3⟩:=hT.lo hN (by omega)
 have hs:Srt [(nx es kr,c),(kr,r)]:=Srt.cons.2 ⟨fun x hx=>by simp at hx;subst hx;exact h3,Srt.cons.2 ⟨by simp,by simp[Srt]⟩⟩
 have hr:BG 0 1048576 [(nx es kr,c),(kr,r)]:=fun x hx=>by
  simp at hx;rcases hx with rfl|rfl
  ·dsimp only;omega
  ·dsimp only;omega
 have hB:Bd N (h+1) [(nx es kr,c),(kr,r)] 1048576 (L1++L2):=⟨L1,L2,rfl,h1,L2,[],by simp,hT2,rfl⟩
 exact ⟨hB,hr,⟨hs,by simp,fun e he=>hr e he,fun _=>by simp⟩,hB.nodup hs (fun x hx=>(hr x hx).2)⟩
theorem TR {N:Hm} {key:Int} {val:Nat} {b:List UInt8} (hv:N val=some (.dt b)) (hk:0≤key∧key<1048576):Bd N 0 [(key,val)] 1048576 (putE key val [])∧BG 0 1048576 [(key,val)]∧(Nd.mk true [(key,val)]).Ok∧(vals [(key,val)]).Nodup:=by
 have hr:BG 0 1048576 [(key,val)]:=fun x hx=>by simp at hx;subst hx;exact hk
 exact ⟨⟨rfl,fun e he=>by simp at he;subst he;exact ⟨b,hv⟩⟩,hr,⟨by simp[Srt],by simp,fun e he=>hr e he,fun q=>by cases q⟩,by simp[vals]⟩
def Root (N:Hm) (r:Nat) (L:List E):Prop:=(r=0∧L=[])∨(r≠0∧∃ h,Tr N h r 0 1048576 (if h=0 then 1 else 2) L)
def Bv (r:Nat):List Nat:=if r=0 then [] else [r]
def Cu (N:Hm):Nat→Nat→List Nat
 | 0,r=>[r]
 | h+1,r=>match N r with
  | some (.nd d)=>d.es.flatMap fun e=>Cu N h e.2
  | _=>[]
def OK (N:Hm) (r:Nat):List E:=match N r with
 | some (.nd d)=>d.es
 | _=>[]
theorem PD {N:Hm} {h r:Nat} {lo hi:Int} {m:Nat} {L:List E} (t:Tr N h r lo hi m L) (hm:1≤m):(Cu N h r).flatMap (OK N)=L∧(∀ q∈Cu N h r,OK N q≠[]∧∃ d,N q=some (.nd d))∧m * 4 ^ (h - 1)≤(Cu N h r).length * (if h=0 then m else 1):=by
 induction h generalizing r lo hi m L with
 | zero=>
  obtain ⟨es,h1,h2,_,_,rfl,_⟩:=t
  refine ⟨by simp[Cu,OK,h1],fun q hq=> ?_,by simp[Cu]⟩
  simp[Cu] at hq;subst hq
  refine ⟨?_,_,h1⟩
  simp only[OK,h1]
  intro q;rw[q] at h2;simp at h2;omega
 | succ h ih=>
  obtain ⟨es,h1,h2,_,_,h5⟩:=t
  have hl:Cu N (h+1) r=es.flatMap fun e=>Cu N h e.2:=by simp[Cu,h1]
  rw[hl]
  have key:∀ (es:List E) (L:List E),Sq (fun c a b L=>Tr N h c a b 4 L) es hi L→(es.flatMap fun e=>Cu N h e.2).flatMap (OK N)=L∧(∀ q∈es.flatMap fun e=>Cu N h e.2,OK N q≠[]∧∃ d,N q=some (.nd d))∧es.length * 4 ^ h≤(es.flatMap fun e=>Cu N h e.2).length:=by
   intro es
   induction es with
   | nil=>intro L q;have q:L=[]:=q;subst q;simp
   | cons e u ih2=>
    rintro _ ⟨L1,L2,rfl,q1,q2⟩
    obtain ⟨a1,a2,a3⟩:=ih q1 (by omega)
    obtain ⟨b1,b2,b3⟩:=ih2 L2 q2
    have a4:4 ^ h≤(Cu N h e.2).length:=by
     cases h with
     | zero=>simp[Cu]
     | succ h=>simp at a3;rw[Nat.pow_succ,Nat.mul_comm];exact a3
    refine ⟨by simp only[List.flatMap_cons,List.flatMap_append,a1,b1],fun q hq=> ?_,?_⟩
    ·rcases List.mem_append.1 (by simpa using hq:q∈Cu N h e.2++u.flatMap fun e=>Cu N h e.2) with hq|hq
     ·exact a2 q hq
     ·exact b2 q hq
    ·simp only[List.flatMap_cons,List.length_append,List.length_cons]
     rw[Nat.add_mul];omega
  obtain ⟨a1,a2,a3⟩:=key es L h5
  refine ⟨a1,a2,?_⟩
  have:m * 4 ^ h≤es.length * 4 ^ h:=Nat.mul_le_mul_right _ h2
  rw[if_neg (by omega),Nat.mul_one,Nat.add_sub_cancel];omega
theorem JH {f:Nat→List E} :∀ {ps:List Nat},Srt (ps.flatMap f)→(∀ p∈ps,f p≠[])→ps.Nodup
 | [],_,_=>by simp
 | p::ps,hs,hne=>by
  rw[List.flatMap_cons] at hs
  obtain ⟨s1,s2,s3⟩:=Srt.app.1 hs
  rw[List.nodup_cons]
  refine ⟨fun hp=> ?_,JH s2 (fun q hq=>hne q (by simp[hq]))⟩
  obtain ⟨x,u,e⟩:=List.exists_cons_of_ne_nil (hne p (by simp))
  have:=s3 x (by rw[e];simp) x (List.mem_flatMap.2 ⟨p,hp,by rw[e];simp⟩)
  omega
theorem Nm {n:Nat} :∀ {l:List Nat},l.Nodup→(∀ x∈l,x<n)→l.length≤n:=fun {l} h1 h2=>by
 have:=List.Nodup.length_le_of_subset (l₁:=l) (l₂:=List.range n) h1 (fun x hx=>List.mem_range.2 (h2 x hx))
 simpa using this
theorem PE {N:Hm} {h:Nat} {lo hi:Int} {L X Y:List E} {e:E} {key:Int} (hs:Srt (X++e::Y)) (hr:BG lo hi (X++e::Y)) (hB:Bd N (h+1) (X++e::Y) hi L) (hX:X=[]∨e.1≤key) (hY:∀ x∈Y,key<x.1∧e.1<x.1):∃ Lc,Tr N h e.2 e.1 (nx Y hi) 4 Lc∧∀ v,(key,v)∈Lc↔(key,v)∈L:=by
 obtain ⟨L0,Lc,L2,rfl,h1,h2,h3⟩:=Sq.at hB
 obtain ⟨s1,s2,s3⟩:=Srt.app.1 hs
 have a1:=Sq.srt h1 s1 (fun x hx=>s3 x hx e (by simp)) (fun _ _ _ _ q=>Tr.srt q)
 have a3:=Sq.srt h3 (Srt.cons.1 s2).2 (fun x hx=>(hr x (by simp[hx])).2) (fun _ _ _ _ q=>Tr.srt q)
 refine ⟨Lc,h2,fun v=>⟨fun q=>by simp[q],fun q=> ?_⟩⟩
 rcases List.mem_append.1 q with q|q
 ·exfalso
  rcases hX with rfl|hX
  ·simp only[Sq] at h1;subst h1;simp at q
  ·have:=a1.2.1 _ q;dsimp only at this;omega
 ·rcases List.mem_append.1 q with q|q
  ·exact q
  ·exfalso
   cases Y with
   | nil=>simp only[Sq] at h3;subst h3;simp at q
   | cons y t=>
    have:=a3.2.1 _ q
    have:=hY y (by simp)
    simp only[nx] at *;omega
end
section
open Go.RowKit
variable {Tb:Ae}
theorem JI (pp mb n:Nat) (o:TB) (s:TS×List Nat):Cn prog 79 [Pt_ pp] [trA Tb pp mb n o (some s)] (fun v Γ=>v=Iv_ 0∧Γ=[trA Tb pp mb n o (some s)]):=by
 intro z R w H;replace H:=H.l1;refine Ad func79 rfl ntmps79 rfl (Zc 19 rfl (z_E_ rfl (call43 _) (Km pp mb n o _) H ?_));intro w H;replace H:=H.l1;refine Al 6 (v:= .bool true) rfl rfl (Zc 12 rfl (Zr rfl ?_));exact ⟨_,⟨rfl,rfl⟩,H⟩
theorem Yw (pp mb n:Nat) (o:TB) (t:TS) (Q:List Nat) (key:Int) (val:Nat) (b:List UInt8) (hkk:0≤key∧key<1048576) (hvd:t.N val=some (.dt b)) (hk:t.k<40):Cn prog 45 [Pt_ pp,Iv_ 0,Iv_ key,Iv_ (val:Int)] [trA Tb pp mb n o (some (t,val::Q))] (fun v Γ=>(cnt t.F 0 1024≤0∧∃ s:TS×List Nat,v= .tuple #[Iv_ 0,Iv_ 20]∧Γ=[trA Tb pp mb n o (some s)])∨∃ (t2:TS) (r:Nat),(St t t2 Q 1 1∧Tr t2.N 0 r 0 1048576 1 (putE key val []))∧v= .tuple #[Iv_ (r:Int),Iv_ 0]∧Γ=[trA Tb pp mb n o (some (t2,r::Q))]):=by
 intro z R w H;replace H:=H.l1;have K:=H.says 0 rfl (fun h a=>trA.k a)
 have hn:=K.hn
 have hvr:=K.i.rin val (by simp[Cs])
 have hvp:=K.i.pos (p:=val) (by simp[Cs])
 have hvp:1≤t.C val:=hvp
 obtain ⟨hb1,hb2,hb3,hb4⟩:=TR hvd hkk;refine Ad func45 rfl ntmps45 rfl (Zc 10 rfl (z_E_ rfl (call79 _) (JI pp mb n o _) H ?_));intro w H;refine Z0 18 [4,0] rfl (Ak 21 rfl (fun h1=> ?_) (fun h1=> ?_))
 ·(exfalso;omega)
 ·refine Z0 4 [0] rfl (Ak 25 rfl (fun h2=> ?_) (fun h2=> ?_))
  ·(exfalso;omega)
  ·refine Zc 2 rfl (z_E_ rfl (call80 _) (Kl pp mb n o _ val (by omega)) H ?_);intro w H;replace H:=H.l1;refine Al 28 (v:=Iv_ (t.C val:Int)) rfl rfl (Z0 4 [0] rfl (Af rfl (fun h3=> ?_) (fun h3=> ?_)))
   ·(exfalso;omega)
   ·refine Z0 14 [3] rfl (AL rfl (AV H rfl (by kernel_rfl) Bq rfl (by decide) (by decide) (out:=[Iv_ key]) (by kernel_rfl)) ?_);rintro _ w ⟨b1,rfl,H⟩;replace H:=H.l2;refine Zc 1 rfl (AL rfl (AV H rfl (by kernel_rfl) Bq rfl (by decide) (by decide) (out:=[Iv_ (val:Int)]) (by kernel_rfl)) ?_);rintro _ w ⟨b2,rfl,H⟩;replace H:=H.l3;refine Zc 1 rfl (Aw rfl (call81 _) (GQ pp mb n o t Q true _ _ [(key,val)] _ _ (fun h q=>q.rd (by omega) (by omega) (by simp) rfl) (fun h q=>q.rd (by omega) (by omega) (by simp) rfl) 0 0 1048576 1 (putE key val []) hb1 rfl hb2 (by simp) hb3 hb4 hk) H.f1.f2 ?_);rintro _ w _ (⟨hnt2,rfl,rfl⟩|⟨t2,rt2,⟨hSt2,hTt2,hqt2⟩,rfl,rfl⟩) H'
    ·have H:=H'.l3;refine Zc 7 rfl (Zr rfl ?_);exact ⟨_,.inl ⟨by omega,_,rfl,rfl⟩,H.perm 3 [0] rfl rfl⟩
    ·have H:=H'.l3;refine Zc 7 rfl (Zr rfl ?_);exact ⟨_,.inr ⟨t2,rt2,⟨hSt2,hTt2⟩,rfl,rfl⟩,H.perm 3 [0] rfl rfl⟩
set_option maxHeartbeats 1000000 in
theorem Yx (pp mb n:Nat) (o:TB) (t:TS) (Q:List Nat) (h a:Nat) (m:Nat) (key:Int) (val:Nat) (L:List E) (hP:InsPre n t Q a h 0 1048576 m key val L):Cn prog 45 [Pt_ pp,Iv_ (a:Int),Iv_ key,Iv_ (val:Int)] [trA Tb pp mb n o (some (t,a::val::Q))] (fun v Γ=>(cnt t.F 0 1024≤2 * h+2∧∃ s:TS×List Nat,v= .tuple #[Iv_ 0,Iv_ 20]∧Γ=[trA Tb pp mb n o (some s)])∨∃ (t2:TS) (r:Nat),(St t t2 Q (2 * h+3) (3 * h+4)∧(Tr t2.N h r 0 1048576 m (putE key val L)∨Tr t2.N (h+1) r 0 1048576 2 (putE key val L)))∧v= .tuple #[Iv_ (r:Int),Iv_ 0]∧Γ=[trA Tb pp mb n o (some (t2,r::Q))]):=by
 intro z R w H;replace H:=H.l1;have K:=H.says 0 rfl (fun h a=>trA.k a)
 have hn:=K.hn
 have hkk:=hP.kk
 have hvr:=K.i.rin val (by simp[Cs])
 have hvp:=K.i.pos (p:=val) (by simp[Cs])
 have hvp:1≤t.C val:=hvp
 have har:=K.i.rin a (by simp[Cs])
 refine Ad func45 rfl ntmps45 rfl (Zc 10 rfl (z_E_ rfl (call79 _) (JI pp mb n o _) H ?_));intro w H;refine Z0 18 [4,0] rfl (Ak 21 rfl (fun h1=> ?_) (fun h1=> ?_))
 ·(exfalso;omega)
 ·refine Z0 4 [0] rfl (Ak 25 rfl (fun h2=> ?_) (fun h2=> ?_))
  ·(exfalso;omega)
  ·refine Zc 2 rfl (z_E_ rfl (call80 _) (Kl pp mb n o _ val (by omega)) H ?_);intro w H;replace H:=H.l1;refine Al 28 (v:=Iv_ (t.C val:Int)) rfl rfl (Z0 4 [0] rfl (Af rfl (fun h3=> ?_) (fun h3=> ?_)))
   ·(exfalso;omega)
   ·refine Z0 9 [0] rfl (Af rfl (fun h4=> ?_) (fun h4=> ?_))
    ·(exfalso;omega)
    ·refine Zc 8 rfl (Aw rfl (call82 _) (Nl pp mb n o h t Q a 0 1048576 m key val L hP) H ?_);rintro _ w _ (⟨hf2,s2,rfl,rfl⟩|⟨t2,c2,⟨hSt2,hT2⟩,rfl,rfl⟩|⟨t2,c2,kr,r,M1,M2,⟨hSt2,hLs,hk1,hk2,hT2,hT3⟩,rfl,rfl⟩) H'
     ·have H:=H'.l1;refine Za 3 [] H rfl ?_;intro b1 w H;refine Z4 27 [0,3,0,0,0] H rfl ?_;intro w H;refine Zr rfl ?_;exact ⟨_,.inl ⟨by omega,_,rfl,rfl⟩,H.perm 2 [1] rfl rfl⟩
     ·have H:=H'.l1;refine Za 3 [] H rfl ?_;intro b2 w H;refine Z4 27 [0,4,2,0,0,3,0,0,0] H rfl ?_;intro w H;refine Zr rfl ?_;exact ⟨_,.inr ⟨t2,c2,⟨hSt2.sub (fun p hp=>hp) (by omega) (by omega),.inl hT2⟩,rfl,rfl⟩,H.perm 2 [1] rfl rfl⟩
     ·have H:=H'.l1;refine Za 3 [] H rfl ?_;intro b3 w H;refine Z4 6 [0] H rfl ?_;intro w H;have hr0:manyN n+1≤r:=by have K3:=H.says 1 rfl (fun h a=>trA.k a);exact (K3.i.rin r (by simp[Cs])).1
      refine Z2 10 [4,2,0,0,0] H rfl (Af rfl (fun h5=> ?_) (fun h5=> ?_))
      ·(exfalso;omega)
      ·refine Zc 3 rfl ?_;obtain ⟨es,hNc,hmc,hrc,hoc,hBc⟩:=Tr.iff.1 hT2;obtain ⟨hb1,hb2,hb3,hb4⟩:=root_two hT2 hNc hT3 hk2;refine Z2 4 [0,0,0] H rfl (Aw rfl (call72 _) (JE pp mb n o (some (t2,c2::r::Q)) c2 (decide (h=0)) es hNc) H.f1 ?_);rintro _ w _ ⟨v4,v5,rfl,rfl⟩ H;replace H:=H.l4;have sv4:=H.says 0 rfl (fun h q=>q.slc)
       have sv5:=H.says 1 rfl (fun h q=>q.slc)
       refine Za 3 [] H rfl ?_;intro b6 w H;refine Az rfl rfl (Ag 0 H rfl rfl rfl rfl (vs:=[.bool (decide (h=0)),v4,v5]) rfl (Ab rfl (Ab sv4.one (Ab sv5.one Ar))) (by kernel_rfl) (by simp) (out:=[.bool (decide (h=0)),v4,v5]) rfl) ?_;rintro w H;replace H:=H.l5;refine Z0 14 [4] rfl ?_;obtain ⟨ao1,cc1,rfl⟩:=sv4;have hat:=(H.rd 1 rfl (fun h q=>q.rd)).at (j:=0) (u:=Iv_ (nx es kr)) (by rw[List.getElem?_map,EY hmc];rfl)
       replace H:=H.f1.f1.f4;refine AI (Sep z (blk b3 [Iv_ (c2:Int),Iv_ kr,Iv_ (r:Int)] 154::blk b6 [.bool (decide (h=0)),.slice ao1 ((kL es).length) cc1,v5] 142::grow 3 1 (.slice ao1 ((kL es).length) cc1) ((kL es).length) ((kL es).map Iv_)::R)) 19 rfl (by kernel_rfl) (Bc H fun w H'=> ?_)
       have H:=H'.l5;refine AM [0,1,2] [1,1,0] [] (by exact (H.pick 5 [0,1,2] rfl)) rfl (by kernel_rfl) rfl (B4 3 rfl (by kernel_rfl) (by kernel_rfl) (by kernel_rfl) rfl rfl rfl (AD rfl (z:=1) (j:=0) (r:=0) (by kernel_rfl) rfl rfl rfl (by simp only[List.length_map];omega) hat (by omega)) (H.pick 5 [0,1,2] rfl) (B4 4 rfl (by kernel_rfl) (by kernel_rfl) (by kernel_rfl) rfl rfl rfl (AR rfl rfl (by kernel_rfl) (fun _ hx'=>(hx'.rd 2 rfl (fun h q=>q.rd)).at (j:=0) (u:=Iv_ (nx es kr)) (by rw[List.getElem?_map,EY hmc];rfl))) (H.pick 5 [0,1,2] rfl) ?_));refine AM [5,6,8,9,10,11] [1,0,0,0,0,0,2,0,0] [] (by exact (H.pick 5 [0,1,2] rfl)) rfl (by kernel_rfl) rfl (Av [7,12] (by kernel_rfl) (by simp) (Hx ?_ ?_))
       ·refine Ce rfl rfl rfl rfl (AV H rfl (by kernel_rfl) Bq rfl (by decide) (by decide) (out:=[Iv_ (nx es kr),Iv_ kr]) (by kernel_rfl)) ?_;rintro _ w ⟨b7,rfl,H⟩;replace H:=H.l6;refine Ap (H.pick 6 [1,2,3] rfl) (Av [12] (by kernel_rfl) (by simp) (Au (Ce rfl rfl rfl rfl (AV H rfl (by kernel_rfl) Bq rfl (by decide) (by decide) (out:=[Iv_ (c2:Int),Iv_ (r:Int)]) (by kernel_rfl)) ?_)));rintro _ w ⟨b8,rfl,H⟩;replace H:=H.l7;refine Ap (H.pick 7 [2,3,4] rfl) (AM [13] [] [] (by exact (H.pick 7 [2,3,4] rfl)) rfl (by kernel_rfl) rfl (Av [14] (by kernel_rfl) (by simp) (Au (BL rfl rfl rfl rfl rfl rfl (fun w=>call81 _ w) (GQ pp mb n o t2 Q false _ _ [(nx es kr,c2),(kr,r)] _ _ (fun h q=>q.rd (by omega) (by omega) (by simp) rfl) (fun h q=>q.rd (by omega) (by omega) (by simp) rfl) (h+1) 0 1048576 2 (putE key val L) (by rw[hLs];exact hb1) (by simp) hb2 (by simp) hb3 hb4 (by have:=hSt2.k;have:=hP.hk;omega)) H.f1.f6 rfl ?_))));rintro _ w _ (⟨hnt3,rfl,rfl⟩|⟨t3,rt3,⟨hSt3,hTt3,hqt3⟩,rfl,rfl⟩) H'
        ·have H:=H'.l7;refine Ap (H.pick 7 [3,4,5] rfl) (AM [15,16,17,18] [] [] (by exact (H.pick 7 [3,4,5] rfl)) rfl (by kernel_rfl) rfl (a_done (by kernel_rfl) (gn (Zc 2 rfl (Zr rfl ?_)))));exact ⟨_,.inl ⟨by have:=hSt2.f;omega,_,rfl,rfl⟩,H.perm 7 [0] rfl rfl⟩
        ·have H:=H'.l7;refine Ap (H.pick 7 [3,4,5] rfl) (AM [15,16,17,18] [] [] (by exact (H.pick 7 [3,4,5] rfl)) rfl (by kernel_rfl) rfl (a_done (by kernel_rfl) (gn (Zc 2 rfl (Zr rfl ?_)))));exact ⟨_,.inr ⟨t3,rt3,⟨hSt2.trans hSt3 (fun p hp=>hp) (fun p hp=>hp) (by omega) (by omega),.inr hTt3⟩,rfl,rfl⟩,H.perm 7 [0] rfl rfl⟩
       ·refine Ce rfl rfl rfl rfl (AV H rfl (by kernel_rfl) Bq rfl (by decide) (by decide) (out:=[Iv_ (c2:Int),Iv_ (r:Int)]) (by kernel_rfl)) ?_;rintro _ w ⟨b9,rfl,H⟩;replace H:=H.l6;refine Ap (H.pick 6 [1,2,3] rfl) (Av [7] (by kernel_rfl) (by simp) (Au (Ce rfl rfl rfl rfl (AV H rfl (by kernel_rfl) Bq rfl (by decide) (by decide) (out:=[Iv_ (nx es kr),Iv_ kr]) (by kernel_rfl)) ?_)));rintro _ w ⟨b10,rfl,H⟩;replace H:=H.l7;refine Ap (H.pick 7 [2,3,4] rfl) (AM [13] [] [] (by exact (H.pick 7 [2,3,4] rfl)) rfl (by kernel_rfl) rfl (Av [14] (by kernel_rfl) (by simp) (Au (BL rfl rfl rfl rfl rfl rfl (fun w=>call81 _ w) (GQ pp mb n o t2 Q false _ _ [(nx es kr,c2),(kr,r)] _ _ (fun h q=>q.rd (by omega) (by omega) (by simp) rfl) (fun h q=>q.rd (by omega) (by omega) (by simp) rfl) (h+1) 0 1048576 2 (putE key val L) (by rw[hLs];exact hb1) (by simp) hb2 (by simp) hb3 hb4 (by have:=hSt2.k;have:=hP.hk;omega)) H.f1.f1.f6 rfl ?_))));rintro _ w _ (⟨hnt3,rfl,rfl⟩|⟨t3,rt3,⟨hSt3,hTt3,hqt3⟩,rfl,rfl⟩) H'
        ·have H:=H'.l7;refine Ap (H.pick 7 [3,4,5] rfl) (AM [15,16,17,18] [] [] (by exact (H.pick 7 [3,4,5] rfl)) rfl (by kernel_rfl) rfl (a_done (by kernel_rfl) (gn (Zc 2 rfl (Zr rfl ?_)))));exact ⟨_,.inl ⟨by have:=hSt2.f;omega,_,rfl,rfl⟩,H.perm 7 [0] rfl rfl⟩
        ·have H:=H'.l7;refine Ap (H.pick 7 [3,4,5] rfl) (AM [15,16,17,18] [] [] (by exact (H.pick 7 [3,4,5] rfl)) rfl (by kernel_rfl) rfl (a_done (by kernel_rfl) (gn (Zc 2 rfl (Zr rfl ?_)))));exact ⟨_,.inr ⟨t3,rt3,⟨hSt2.trans hSt3 (fun p hp=>hp) (fun p hp=>hp) (by omega) (by omega),.inr hTt3⟩,rfl,rfl⟩,H.perm 7 [0] rfl rfl⟩
end
section
open Go.RowKit
variable {Tb:Ae}
theorem OL (pp mb n:Nat) (o:TB) (T:TT) (key:Int) (L:List E) (h0 r0:Nat) (lo0 hi0:Int) (m0:Nat) (hT0:Tr (C3 o T) h0 r0 lo0 hi0 m0 L):Cn prog 41 [Pt_ pp,Iv_ (r0:Int),Iv_ key] [trA Tb pp mb n o T] (fun v Γ=>((∃ v0:Nat,(key,v0)∈L∧v= .tuple #[Iv_ (v0:Int),Iv_ 0])∨(¬ Co key L∧v= .tuple #[Iv_ 0,Iv_ 0]))∧Γ=[trA Tb pp mb n o T]):=by
 intro z R w H;replace H:=H.l1;have K:=H.says 0 rfl (fun h a=>trA.k a)
 have hn:=K.hn
 refine Ad func41 rfl ntmps41 rfl (Zc 18 rfl ?_);refine AJ (σ:=Nat×Nat×List E) (fun ⟨h,r,L1⟩=>[(1,Iv_ (r:Int)),(0,Pt_ pp),(2,Iv_ key)])
   (fun ⟨h,r,L1⟩ w=>Sep z (trA Tb pp mb n o T::R) w∧((∃ lo hi m,Tr (C3 o T) h r lo hi m L1)∧∀ v,(key,v)∈L1↔(key,v)∈L)) (fun ⟨h,r,L1⟩=>h) ⟨h0,r0,L⟩
   (fun _ hF=>(hF.all rfl)) ⟨H,⟨⟨_,_,_,hT0⟩,fun _=>Iff.rfl⟩⟩ ?_
 clear H;rintro ⟨h,r,L1⟩ w ⟨H',hI⟩;dsimp only at hI H' ⊢
 have H:=H'.l1;obtain ⟨⟨lo,hi,m,hT⟩,hiff⟩:=hI;obtain ⟨es,hN,hm,hrg,hok,hBd⟩:=Tr.iff.1 hT;have hnr:=K.i.nin r _ hN
 refine Z0 7 [0] rfl (Af rfl (fun h1=> ?_) (fun h1=> ?_))
 ·refine Zc 7 rfl (Aw rfl (call72 _) (JE pp mb n o T r (decide (h=0)) es hN) H ?_);rintro _ w _ ⟨v1,v2,rfl,rfl⟩ H;replace H:=H.l3;have sv1:=H.says 0 rfl (fun h q=>q.slc)
  have sv2:=H.says 1 rfl (fun h q=>q.slc)
  refine Za 3 [] H rfl ?_;intro b1 w H;refine Az rfl rfl (Ag 0 H rfl rfl rfl rfl (vs:=[.bool (decide (h=0)),v1,v2]) rfl (Ab rfl (Ab sv1.one (Ab sv2.one Ar))) (by kernel_rfl) (by simp) (out:=[.bool (decide (h=0)),v1,v2]) rfl) ?_;rintro w H;replace H:=H.l4;refine Z2 20 [4,0,0,0] H rfl (EQ rfl (fun h2=> ?_) (fun h2=> ?_))
  ·have hh0:h=0:=of_decide_eq_true h2
   have hLe:L1=es:=by subst hh0;exact hBd.1
   refine Z2 5 [0,3] H rfl (Aw rfl (call73 _) (Ni (es:=es) (fun h q=>q.rd) (fun h q=>q.rd) hok.len hok.srt key) H.f2.f2 ?_);rintro _ w _ (⟨X,v0,Y,⟨hes,hX⟩,rfl,rfl⟩|⟨hno,i0,rfl,rfl⟩) H'
   ·have H:=H'.l4;refine Zc 14 rfl ?_;obtain ⟨ao2,cc2,rfl⟩:=sv2;have hat:=(H.rd 1 rfl (fun h q=>q.rd)).at (j:=X.length) (u:=Iv_ (v0:Int)) (by rw[hes];simp[vL])
    refine Z2 4 [2,2,0] H rfl (Ac rfl (AD rfl (z:=1) (j:=X.length) (r:=X.length) (by kernel_rfl) rfl rfl rfl (by rw[hes];simp) hat (by omega)) (Ac rfl (AR rfl rfl (by kernel_rfl) (AB hat)) (Zc 5 rfl (Zr rfl ?_))));exact ⟨_,⟨.inl ⟨v0,(hiff v0).1 (by rw[hLe,hes];simp),rfl⟩,rfl⟩,H.perm 4 [3] rfl rfl⟩
   ·have H:=H'.l4;refine Zc 22 rfl (Zr rfl ?_);exact ⟨_,⟨.inr ⟨fun ⟨v,hv⟩=>hno ⟨v,by rw[←hLe];exact (hiff v).2 hv⟩,rfl⟩,rfl⟩,H.perm 4 [3] rfl rfl⟩
  ·obtain ⟨h',rfl⟩:∃ h',h=h'+1:=⟨h - 1,by have:=of_decide_eq_false h2;omega⟩;refine Zc 2 rfl ?_;obtain ⟨ao2,cc2,rfl⟩:=sv2;replace H:=H.f2.f1;refine AI (Sep z (blk b1 [.bool (decide ((h'+1)=0)),v1,.slice ao2 ((vL es).length) cc2] 142::grow 3 1 (.slice ao2 ((vL es).length) cc2) ((vL es).length) ((vL es).map Iv_)::R)) 8 rfl (by kernel_rfl) (Bc H fun w H'=> ?_)
   have H:=H'.l4;refine AM [0,1,2,3] [2,0,0,0,3] [] (by exact (H.pick 4 [0,1] rfl)) rfl (by kernel_rfl) rfl (Av [4] (by kernel_rfl) (by simp) (Au (BL rfl rfl rfl rfl rfl rfl (fun w=>call74 _ w) (Kt (es:=es) (fun h q=>q.rd) (fun h q=>q.rd) hok.len hok.srt (hok.ne (by simp)) key) H.f1.f2 rfl ?_)));rintro _ w _ ⟨X,e,Y,⟨hes,hX,hXe,hY⟩,rfl,rfl⟩ H;replace H:=H.l4;obtain ⟨Lc,hTc,hLc⟩:=PE (by rw[←hes];exact hok.srt) (by rw[←hes];exact hrg) (by rw[←hes];exact hBd) hX hY;have hat:=(H.rd 1 rfl (fun h q=>q.rd)).at (j:=X.length) (u:=Iv_ (e.2:Int)) (by rw[hes];simp[vL])
   refine Ap (H.pick 4 [2,1] rfl) (B4 5 rfl (by kernel_rfl) (by kernel_rfl) (by kernel_rfl) rfl rfl rfl (AD rfl (z:=1) (j:=X.length) (r:=X.length) (by kernel_rfl) rfl rfl rfl (by rw[hes];simp) hat (by omega)) (H.pick 4 [2,1] rfl) (B4 6 rfl (by kernel_rfl) (by kernel_rfl) (by kernel_rfl) rfl rfl rfl (AR rfl rfl (by kernel_rfl) (fun _ hx'=>(hx'.rd 1 rfl (fun h q=>q.rd)).at (j:=X.length) (u:=Iv_ (e.2:Int)) (by rw[hes];simp[vL]))) (H.pick 4 [2,1] rfl) (AM [7] [] [] (by exact (H.pick 4 [2,1] rfl)) rfl (by kernel_rfl) rfl (a_done (by kernel_rfl) (gn (Zc 1 rfl ?_))))));replace H:=H.f2.d.f1.d.d;refine gf ?_;intro _ hF;refine ⟨⟨h',e.2,Lc⟩,(hF.all rfl),⟨H,?_⟩,?_⟩
   ·exact ⟨⟨_,_,_,hTc⟩,fun v=>(hLc v).trans (hiff v)⟩
   ·(dsimp only;omega)
 ·(exfalso;omega)
theorem OM (pp:Nat) (key:Int):Cn prog 41 [Pt_ pp,Iv_ 0,Iv_ key] [] (fun v Γ=>v= .tuple #[Iv_ 0,Iv_ 0]∧Γ=[]):=by
 intro z R w H;replace H:=H.l0;refine Ad func41 rfl ntmps41 rfl (Zc 18 rfl (FU 1 (C5 (Z0 10 [4] rfl (gx (Zc 9 rfl (Zr rfl ?_)))))));exact ⟨_,⟨rfl,rfl⟩,H⟩
end
section
open Go.RowKit
variable {Tb:Ae}
theorem Bd.nd {N:Hm} {h:Nat} {es:List E} {hi:Int} {L:List E} (q:Bd N h es hi L) (hs:Srt es) (hr:∀ e∈es,e.1<hi) (hd:(vals L).Nodup):(vals es).Nodup:=by
 cases h with
 | zero=>obtain ⟨rfl,_⟩:=q;exact hd
 | succ h=>exact Bd.nodup q hs hr
theorem De (a:Nat) (X Y:List E):(vals (X++Y)).count a=(vals X).count a+(vals Y).count a:=by simp[vals]
theorem DC (a:Nat) (e:E) (Y:List E):(vals (e::Y)).count a=(vals Y).count a+if e.2 == a then 1 else 0:=by rw[BN,List.count_cons]
theorem Z7 (X Y:List E) (e1 e2:E) (Q:List Nat):(vals (X++e1::e2::Y)++Q).Perm (e1.2::(vals X++(e2.2::(vals Y++Q)))):=
 List.perm_iff_count.2 fun a=>by
  simp only[List.count_append,List.count_cons,De,DC];omega
theorem Z8 (c1 c2:Nat) (A B D:List Nat):(c1::(A++(B++(c2::D)))).Perm (c2::(c1::(A++(B++D)))):=
 List.perm_iff_count.2 fun a=>by simp only[List.count_append,List.count_cons];omega
theorem Z9 (c1 c2:Nat) (es1 es2 x y:List E) (W:List Nat) (h:es1++es2=x++y):(c2::(vals es2++(c1::(vals es1++W)))).Perm (c1::(vals x++(c2::(vals y++W)))):=
 List.perm_iff_count.2 fun a=>by
  have e:=congrArg (fun l=>(vals l).count a) h
  simp only[De] at e
  simp only[List.count_append,List.count_cons];omega
theorem ZR (c1 c2:Nat) (es1 es2:List E) (W:List Nat):(c2::(vals es2++(c1::(vals es1++W)))).Perm (c1::(vals (es1++es2)++(c2::W))):=
 List.perm_iff_count.2 fun a=>by simp only[List.count_append,List.count_cons,De];omega
theorem mp4 (c1 c2:Nat) (A W:List Nat):(c1::(c2::(A++W))).Perm (c2::(A++(c1::W))):=
 List.perm_iff_count.2 fun a=>by simp only[List.count_append,List.count_cons];omega
theorem mp5 (c1:Nat) (k:Int) (X Y:List E) (Q:List Nat):(c1::(vals X++(vals Y++Q))).Perm (vals (X++(k,c1)::Y)++Q):=
 List.perm_iff_count.2 fun a=>by simp only[List.count_append,List.count_cons,De,DC];omega
theorem mp6 (c1 c2:Nat) (k k2:Int) (X Y:List E) (Q:List Nat):(c2::(c1::(vals X++(vals Y++Q)))).Perm (vals (X++(k,c1)::(k2,c2)::Y)++Q):=
 List.perm_iff_count.2 fun a=>by simp only[List.count_append,List.count_cons,De,DC];omega
structure MnPre (n:Nat) (t:TS) (Q:List Nat) (h:Nat) (lo hi:Int) (X Y:List E) (e1 e2:E) (m1 m2:Nat) (L0 La Lb L2:List E):Prop where
 ok:(Nd.mk false (X++e1::e2::Y)).Ok
 r:BG lo hi (X++e1::e2::Y)
 q0:Sq (fun c a b L=>Tr t.N h c a b 4 L) X e1.1 L0
 ta:Tr t.N h e1.2 e1.1 e2.1 m1 La
 tb:Tr t.N h e2.2 e2.1 (nx Y hi) m2 Lb
 q2:Sq (fun c a b L=>Tr t.N h c a b 4 L) Y hi L2
 m3:3≤m1∧3≤m2∧7≤m1+m2
 l0:0≤lo
 h1:hi≤1048576
 d:(vals (La++Lb)).Nodup
 hk:t.k+5<40
 hb:Q.length+30+n≤980
variable {t t1 t2 t3:TS} {Q:List Nat} {h:Nat} {lo hi:Int} {X Y:List E} {e1 e2:E} {L0 La Lb L2 es1 es2:List E}
theorem Rs (ok:Srt (X++e1::e2::Y)) (r:BG lo hi (X++e1::e2::Y)):e1.1<e2.1∧e2.1<nx Y hi∧nx Y hi≤hi∧lo≤e1.1:=by
 obtain ⟨_,s2,_⟩:=Srt.app.1 ok
 obtain ⟨s3,s4⟩:=Srt.cons.1 s2
 have h2:=r e2 (by simp)
 refine ⟨s3 e2 (by simp),?_,PA (fun x hx=>(r x (by simp[hx])).2),(r e1 (by simp)).1⟩
 cases Y with
 | nil=>exact h2.2
 | cons y u=>exact (Srt.cons.1 s4).1 y (by simp)
theorem WM {N:Hm} (b1:Bd N h es1 e2.1 La) (b2:Bd N h es2 (nx Y hi) Lb) (s1:Srt es1) (s2:Srt es2) (r1:BG e1.1 e2.1 es1) (r2:BG e2.1 (nx Y hi) es2) (hne:es2≠[]) (h12:e1.1<e2.1) (h2:e2.1<nx Y hi):
  Bd N h (es1++es2) (nx Y hi) (La++Lb)∧Srt (es1++es2)∧BG e1.1 (nx Y hi) (es1++es2):=by
 refine ⟨Bd.app.2 ⟨La,Lb,rfl,b1.hi ?_,b2⟩,Srt.app.2 ⟨s1,s2,fun a ha b hb=> ?_⟩,fun x hx=> ?_⟩
 ·obtain ⟨y,u,rfl⟩:=List.exists_cons_of_ne_nil hne
  exact (r2 y (by simp)).1
 ·have:=r1 a ha;have:=r2 b hb;omega
 ·rcases List.mem_append.1 hx with hx|hx
  ·have:=r1 x hx;omega
  ·have:=r2 x hx;omega
theorem ON {N:Hm} {c1:Nat} (ok:(Nd.mk false (X++e1::e2::Y)).Ok) (r:BG lo hi (X++e1::e2::Y)) (q0:Sq (fun c a b L=>Tr N h c a b 4 L) X e1.1 L0) (q2:Sq (fun c a b L=>Tr N h c a b 4 L) Y hi L2) (T:Tr N h c1 e1.1 (nx Y hi) 4 (La++Lb)):
  Bd N (h+1) (X++(e1.1,c1)::Y) hi (L0++(La++(Lb++L2)))∧BG lo hi (X++(e1.1,c1)::Y)∧(Nd.mk false (X++(e1.1,c1)::Y)).Ok∧(vals (X++(e1.1,c1)::Y)).Nodup:=by
 have hs:Srt (X++e1::e2::Y):=ok.srt
 obtain ⟨s1,s2,s3⟩:=Srt.app.1 hs
 obtain ⟨s4,s5⟩:=Srt.cons.1 s2
 have hs':Srt (X++(e1.1,c1)::Y):=Srt.app.2 ⟨s1,Srt.cons.2 ⟨fun x hx=>s4 x (by simp[hx]),(Srt.cons.1 s5).2⟩,fun a ha b hb=>by
  rcases List.mem_cons.1 hb with rfl|hb
  ·exact s3 a ha e1 (by simp)
  ·exact s3 a ha b (by simp[hb])⟩
 have hr':BG lo hi (X++(e1.1,c1)::Y):=fun x hx=>by
  rcases List.mem_append.1 hx with hx|hx
  ·exact r x (by simp[hx])
  ·rcases List.mem_cons.1 hx with rfl|hx
   ·exact r e1 (by simp)
   ·exact r x (by simp[hx])
 have hB:Bd N (h+1) (X++(e1.1,c1)::Y) hi (L0++(La++(Lb++L2))):=by
  have e:L0++(La++(Lb++L2))=L0++((La++Lb)++L2):=by simp
  rw[e];exact Sq.mk (e:=(e1.1,c1)) q0 T q2
 have hl:(X++e1::e2::Y).length≤8:=ok.len
 refine ⟨hB,hr',⟨hs',by simp at hl ⊢;omega,fun x hx=> ?_,fun _=>by simp⟩,hB.nodup hs' (fun x hx=>(hr' x hx).2)⟩
 rcases List.mem_append.1 hx with hx|hx
 ·exact ok.key x (by simp[hx])
 ·rcases List.mem_cons.1 hx with rfl|hx
  ·exact ok.key e1 (by simp)
  ·exact ok.key x (by simp[hx])
theorem mn_share {N:Hm} {c1 c2:Nat} {ky:Int} {M1 M2:List E} (ok:(Nd.mk false (X++e1::e2::Y)).Ok) (r:BG lo hi (X++e1::e2::Y)) (q0:Sq (fun c a b L=>Tr N h c a b 4 L) X e1.1 L0) (q2:Sq (fun c a b L=>Tr N h c a b 4 L) Y hi L2) (T1:Tr N h c1 e1.1 ky 4 M1) (T2:Tr N h c2 ky (nx Y hi) 4 M2) (hM:M1++M2=La++Lb) (hk1:e1.1<ky) (hk2:ky<nx Y hi) (h1:hi≤1048576):
  Bd N (h+1) (X++(e1.1,c1)::(ky,c2)::Y) hi (L0++(La++(Lb++L2)))∧BG lo hi (X++(e1.1,c1)::(ky,c2)::Y)∧(Nd.mk false (X++(e1.1,c1)::(ky,c2)::Y)).Ok∧(vals (X++(e1.1,c1)::(ky,c2)::Y)).Nodup:=by
 have hs:Srt (X++e1::e2::Y):=ok.srt
 obtain ⟨s1,s2,s3⟩:=Srt.app.1 hs
 obtain ⟨s4,s5⟩:=Srt.cons.1 s2
 obtain ⟨_,_,hhi,hlo⟩:=Rs hs r
 have hsY:=(Srt.cons.1 s5).2
 have hkY:∀ x∈Y,ky<x.1:=fun x hx=>by
  cases Y with
  | nil=>simp at hx
  | cons y u=>
   simp only[nx] at hk2
   rcases List.mem_cons.1 hx with rfl|hx
   ·exact hk2
   ·have:=(Srt.cons.1 hsY).1 x hx;omega
 have hs':Srt (X++(e1.1,c1)::(ky,c2)::Y):=Srt.app.2 ⟨s1,Srt.cons.2 ⟨fun x hx=>by
   rcases List.mem_cons.1 hx with rfl|hx
   ·exact hk1
   ·exact s4 x (by simp[hx]),Srt.cons.2 ⟨hkY,hsY⟩⟩,fun a ha b hb=>by
  have ha1:=s3 a ha e1 (by simp)
  rcases List.mem_cons.1 hb with rfl|hb
  ·exact ha1
  ·rcases List.mem_cons.1 hb with rfl|hb
   ·dsimp only;omega
   ·exact s3 a ha b (by simp[hb])⟩
 have hall:∀ x∈X++(e1.1,c1)::(ky,c2)::Y,lo≤x.1∧x.1<hi:=fun x hx=>by
  rcases List.mem_append.1 hx with hx|hx
  ·exact r x (by simp[hx])
  ·rcases List.mem_cons.1 hx with rfl|hx
   ·exact r e1 (by simp)
   ·rcases List.mem_cons.1 hx with rfl|hx
    ·dsimp only;omega
    ·exact r x (by simp[hx])
 have hB:Bd N (h+1) (X++(e1.1,c1)::(ky,c2)::Y) hi (L0++(La++(Lb++L2))):=by
  have e:L0++(La++(Lb++L2))=L0++(M1++(M2++L2)):=by
   rw[←List.append_assoc La,←hM];simp
  rw[e];exact Sq.mk (e:=(e1.1,c1)) (B:=(ky,c2)::Y) q0 T1 ⟨M2,L2,rfl,T2,q2⟩
 have hl:(X++e1::e2::Y).length≤8:=ok.len
 have k1:=ok.key e1 (by simp)
 refine ⟨hB,hall,⟨hs',by simp at hl ⊢;omega,fun x hx=> ?_,fun _=>by simp⟩,hB.nodup hs' (fun x hx=>(hall x hx).2)⟩
 rcases List.mem_append.1 hx with hx|hx
 ·exact ok.key x (by simp[hx])
 ·rcases List.mem_cons.1 hx with rfl|hx
  ·exact k1
  ·rcases List.mem_cons.1 hx with rfl|hx
   ·dsimp only
    omega
   ·exact ok.key x (by simp[hx])
section
variable {lf:Bool} {kv1 vv1 kv2 vv2:Value} {es1 es2:List E} {A1 B1 A2 B2:Ae}
theorem WN (hA1:FA A1 kv1 es1) (hB1:FB B1 vv1 es1) (hA2:FA A2 kv2 es2) (hB2:FB B2 vv2 es2) (hck1:CkN lf (kL es1) (vL es1)) (hck2:CkN lf (kL es2) (vL es2)) (hs:Srt (es1++es2)) (h8:8<es1.length+es2.length) (x y:List E) (hx:x=(es1++es2).take (E1 es1 es2)) (hy:y=(es1++es2).drop (E1 es1 es2)):
  Cn prog 165 [CZ lf kv1 vv1,CZ lf kv2 vv2] [A1,B1,A2,B2] (fun v Γ=>∃ v1 v2 v3 v4:Value,v= .tuple #[CZ lf v1 v2,CZ lf v3 v4,Iv_ 0]∧Γ=[gK v1 x,gV v2 x,gK v3 y,gV v4 y,A1,B1,A2,B2]):=by
 subst hx hy;exact WF hA1 hB1 hA2 hB2 hck1 hck2 hs h8
end
theorem I2 (X:List E):(vals X).length=X.length:=by simp[vals]
theorem OO {α:Type} (x:List α) (a b:α) (y:List α):(x++a::b::y).take (x.length+1)++(x++a::b::y).drop (x.length+1+1)=x++a::y:=by
 have e1:x++a::b::y=(x++[a])++(b::y):=by simp
 have e2:x++a::b::y=(x++[a,b])++y:=by simp
 have h1:(x++a::b::y).take (x.length+1)=x++[a]:=by rw[e1];exact List.take_left' (by simp)
 have h2:(x++a::b::y).drop (x.length+1+1)=y:=by rw[e2];exact List.drop_left' (by simp)
 rw[h1,h2];simp
theorem WO {lf:Bool} {kv vv:Value} {X Y:List E} {a b:E} {A B:Ae} (hA:FA A kv (X++a::b::Y)) (hB:FB B vv (X++a::b::Y)) (hck:CkN lf (kL (X++a::b::Y)) (vL (X++a::b::Y))) (hck2:CkN lf (kL (X++a::Y)) (vL (X++a::Y))):
  Cn prog 124 [CZ lf kv vv,Iv_ ((X.length+1:Nat):Int)] [A,B] (fun v Γ=>∃ v1 v2:Value,v= .tuple #[CZ lf v1 v2,Iv_ 0]∧Γ=[gK v1 (X++a::Y),gV v2 (X++a::Y),A,B]):=
 OB lf kv vv _ _ A B hA hB hck (X.length+1) (by simp[kL]) (kL (X++a::Y)) (vL (X++a::Y)) (by simp only[kL,List.map_append,List.map_cons];have:=OO (X.map Prod.fst) a.1 b.1 (Y.map Prod.fst);rw[List.length_map] at this;exact this) (by simp only[vL,List.map_append,List.map_cons];have:=OO (X.map fun e=>(e.2:Int)) (a.2:Int) (b.2:Int) (Y.map fun e=>(e.2:Int));rw[List.length_map] at this;exact this) hck2
theorem Sq.st {t t':TS} {R:List Nat} {a b:Nat} (S:St t t' R a b) {h:Nat} {X:List E} {hi:Int} {L:List E} (hv:∀ v∈vals X,v∈R) (q:Sq (fun c a b L=>Tr t.N h c a b 4 L) X hi L):Sq (fun c a b L=>Tr t'.N h c a b 4 L) X hi L:=
 Sq.imp q fun x hx _ _ q=>S.fr _ (hv _ (List.mem_map_of_mem hx)) _ _ _ _ _ q
theorem St.t4 {t0 t1 t2 t3 t4:TS} {R1 R2 R3 R4 Q:List Nat} {k4:Nat} (a:St t0 t1 R1 1 1) (b:St t1 t2 R2 1 1) (c:St t2 t3 R3 0 1) (d:St t3 t4 R4 0 k4) (hk:k4≤1) (h1:∀ p∈Q,p∈R1) (h2:∀ p∈Q,p∈R2) (h3:∀ p∈Q,p∈R3) (h4:∀ p∈Q,p∈R4):St t0 t4 Q 2 4:=
 ((a.trans b h1 h2 (Nat.le_refl _) (Nat.le_refl _)).trans (c.trans d h3 h4 (Nat.le_refl _) (Nat.le_refl _)) (R:=Q) (R1:=Q) (R2:=Q) (fun _ q=>q) (fun _ q=>q) (by omega) (by omega))
abbrev Yy (Tb:Ae) (pp mb n:Nat) (o:TB) (t:TS) (Q:List Nat) (h:Nat) (lo hi:Int) (N8:Nat) (L:List E) (v:Value) (Γ:List Ae):Prop:=
 (cnt t.F 0 1024≤1∧∃ (v1 v2:Value) (es':List E) (s:TS×List Nat),v= .tuple #[CZ false v1 v2,.int .i64 20]∧Γ=[gK v1 es',gV v2 es',trA Tb pp mb n o (some s)])∨
 ∃ (t2:TS) (es':List E) (v1 v2:Value),(St t t2 Q 2 4∧Bd t2.N (h+1) es' hi L∧BG lo hi es'∧(Nd.mk false es').Ok∧(vals es').Nodup∧N8≤es'.length+1)∧v= .tuple #[CZ false v1 v2,.int .i64 0]∧Γ=[gK v1 es',gV v2 es',trA Tb pp mb n o (some (t2,vals es'++Q))]
theorem Yz {c1 c2:Nat} (ok:(Nd.mk false (X++e1::e2::Y)).Ok):(Nd.mk false (X++(e1.1,c1)::(e2.1,c2)::Y)).Ok:=by
 have hs:Srt (X++e1::e2::Y):=ok.srt
 obtain ⟨s1,s2,s3⟩:=Srt.app.1 hs
 obtain ⟨s4,s5⟩:=Srt.cons.1 s2
 have hl:(X++e1::e2::Y).length≤8:=ok.len
 refine ⟨Srt.app.2 ⟨s1,Srt.cons.2 ⟨fun x hx=> ?_,Srt.cons.2 ⟨(Srt.cons.1 s5).1,(Srt.cons.1 s5).2⟩⟩,fun a ha b hb=> ?_⟩,by simp at hl ⊢;omega,fun x hx=> ?_,fun _=>by simp⟩
 ·rcases List.mem_cons.1 hx with rfl|hx
  ·exact s4 e2 (by simp)
  ·exact s4 x (by simp[hx])
 ·rcases List.mem_cons.1 hb with rfl|hb
  ·exact s3 a ha e1 (by simp)
  ·rcases List.mem_cons.1 hb with rfl|hb
   ·exact s3 a ha e2 (by simp)
   ·exact s3 a ha b (by simp[hb])
 ·have hx:x∈X++(e1.1,c1)::(e2.1,c2)::Y:=hx
  rcases List.mem_append.1 hx with hx|hx
  ·exact ok.key x (by simp[hx])
  ·rcases List.mem_cons.1 hx with rfl|hx
   ·exact ok.key e1 (by simp)
   ·rcases List.mem_cons.1 hx with rfl|hx
    ·exact ok.key e2 (by simp)
    ·exact ok.key x (by simp[hx])
end
section
open Go.RowKit
variable {Tb:Ae}
set_option maxHeartbeats 4000000 in
theorem YA (pp mb n:Nat) (o:TB) (t:TS) (Q:List Nat) (kv vv:Value) (h:Nat) (lo hi:Int) (X Y:List E) (e1 e2:E) (m1 m2:Nat) (L0 La Lb L2:List E) (hP:MnPre n t Q h lo hi X Y e1 e2 m1 m2 L0 La Lb L2):Cn prog 125 [Pt_ pp,.agg #[.bool false,kv,vv],Iv_ (X.length:Int)] [trA Tb pp mb n o (some (t,vals (X++e1::e2::Y)++Q)),grow 3 1 kv ((kL (X++e1::e2::Y)).length) ((kL (X++e1::e2::Y)).map Iv_),grow 3 1 vv ((vL (X++e1::e2::Y)).length) ((vL (X++e1::e2::Y)).map Iv_)] (fun v Γ=>Yy Tb pp mb n o t Q h lo hi (X++e1::e2::Y).length (L0++(La++(Lb++L2))) v Γ):=by
 intro z R w H;replace H:=H.l3;obtain ⟨gk,capk,rest_gk,rfl,ck1,ck2,ck3,H⟩:=H.ungrow 1 rfl (by simp only[List.length_map,List.length_append,List.length_cons];omega);replace H:=H.l3;obtain ⟨gv,capv,rest_gv,rfl,cv1,cv2,cv3,H⟩:=H.ungrow 2 rfl (by simp only[List.length_map,List.length_append,List.length_cons];omega);replace H:=H.l3;have K:=H.says 0 rfl (fun h a=>trA.k a)
 have hn:=K.hn
 obtain ⟨hE1,hE2,hE3,hE4⟩:=Rs hP.ok.srt hP.r;obtain ⟨m31,m32,m33⟩:=hP.m3;have hPk:=hP.hk;have hPb:=hP.hb
 have hl8:(X++e1::e2::Y).length≤8:=hP.ok.len
 have hl9:X.length+Y.length+2≤8:=by simp only[List.length_append,List.length_cons] at hl8;omega
 obtain ⟨es1,hN1,hm1,hr1,ho1,hB1⟩:=Tr.iff.1 hP.ta;have hes18:es1.length≤8:=ho1.len
 replace H:=(H.mono 0 (B:=trA Tb pp mb n o (some (t,e1.2::(vals X++(e2.2::(vals Y++Q)))))) rfl (fun h q=>q.perm (Z7 X Y e1 e2 Q))).l3
 refine Ad func125 rfl ntmps125 rfl (Za 2 [] H rfl ?_);intro b1 w H;refine Za 0 [] H rfl ?_;intro b2 w H;refine Za 5 [] H rfl ?_;intro b3 w H;refine Zc 9 rfl (FU 3 (C5 (Z3 25 [3,2,2,0] [(X.length:Int)] H rfl (by omega) (Ac rfl (Cc rfl (z:=1) (j:=X.length) (r:=X.length) (by kernel_rfl) rfl rfl rfl (by simp only[List.length_map,List.length_append,List.length_cons];omega) (by omega)) (Ac rfl (AZ rfl rfl (by kernel_rfl) (AB (H.cel 5 rfl X.length (show ((vL (X++e1::e2::Y)).map Iv_++rest_gv)[X.length]? =some (Iv_ (e1.2:Int)) from (by rw[List.getElem?_append_left (by simp),List.getElem?_map];simp[vL]))))) ?_)))));refine Aw rfl (call121 _) (Io pp mb n o t (vals X++(e2.2::(vals Y++Q))) e1.2 (decide (h=0)) es1 hN1 (by omega) (by simp only[List.length_cons,List.length_append,I2];omega)) H.f3 ?_;rintro _ w _ (⟨hnone1,v4,v5,s1,rfl,rfl⟩|⟨t1,c1,v4,v5,O1,rfl,rfl⟩) H'
 ·have H:=H'.l8;have sv4:=H.says 0 rfl (fun h q=>q.slc)
  have sv5:=H.says 1 rfl (fun h q=>q.slc)
  refine Za 4 [] H rfl ?_;intro b6 w H;refine Zc 1 rfl (Az rfl rfl (Ag 0 H rfl rfl rfl rfl (vs:=[.bool (decide (h=0)),v4,v5]) rfl (Ab rfl (Ab sv4.one (Ab sv5.one Ar))) (by kernel_rfl) (by simp) (out:=[.bool (decide (h=0)),v4,v5]) rfl) ?_);rintro w H;replace H:=H.l9;refine Z4 20 [3,6,3,5] H rfl ?_;intro w H;refine Zl [5,3] H rfl ?_;replace H:=(H.mono 7 (B:=grow 3 1 (.slice (some ⟨gk,0,none⟩) ((kL (X++e1::e2::Y)).length) capk) ((kL (X++e1::e2::Y)).length) ((kL (X++e1::e2::Y)).map Iv_)) rfl (fun h q=>by exact q.grow (by omega) (by omega) (by have a:=ck3;have b:=ck1;simp only[List.length_append,List.length_map,List.length_cons] at a b ⊢;omega) (by rw[Nat.mul_one,List.take_left' (by simp)]))).l9
  replace H:=(H.mono 8 (B:=grow 3 1 (.slice (some ⟨gv,0,none⟩) ((vL (X++e1::e2::Y)).length) capv) ((vL (X++e1::e2::Y)).length) ((vL (X++e1::e2::Y)).map Iv_)) rfl (fun h q=>by exact q.grow (by omega) (by omega) (by have a:=cv3;have b:=cv1;simp only[List.length_append,List.length_map,List.length_cons] at a b ⊢;omega) (by rw[Nat.mul_one,List.take_left' (by simp)]))).l9
  exact ⟨_,.inl ⟨(by omega),_,_,_,_,rfl,rfl⟩,H.perm 9 [7,8,3] rfl rfl⟩
 ·have H:=H'.l8;have sv4:=H.says 0 rfl (fun h q=>q.slc)
  have sv5:=H.says 1 rfl (fun h q=>q.slc)
  refine Za 4 [] H rfl ?_;intro b7 w H;refine Zc 1 rfl (Az rfl rfl (Ag 0 H rfl rfl rfl rfl (vs:=[.bool (decide (h=0)),v4,v5]) rfl (Ab rfl (Ab sv4.one (Ab sv5.one Ar))) (by kernel_rfl) (by simp) (out:=[.bool (decide (h=0)),v4,v5]) rfl) ?_);rintro w H;replace H:=H.l9;refine Z0 13 [4] rfl ?_;obtain ⟨es2,hN2,hm2,hr2,ho2,hB2⟩:=Tr.iff.1 (O1.st.fr e2.2 (by simp) _ _ _ _ _ hP.tb);have hes28:es2.length≤8:=ho2.len
  replace H:=(H.mono 3 (B:=trA Tb pp mb n o (some (t1,e2.2::(c1::(vals es1++(vals X++(vals Y++Q))))))) rfl (fun h q=>q.perm (Z8 c1 e2.2 (vals es1) (vals X) (vals Y++Q)))).l9
  replace H:=H.f6;refine AI (Sep z (blk b1 [.bool false,.slice (some ⟨gk,0,none⟩) ((kL (X++e1::e2::Y)).length) capk,.slice (some ⟨gv,0,none⟩) ((vL (X++e1::e2::Y)).length) capv] 142::blk b7 [.bool (decide (h=0)),v4,v5] 142::R)) 12 rfl (by kernel_rfl) (Bc H fun w H'=> ?_)
  have H:=H'.l9;refine Iz [0,1,2,3,4,5,6,7] [2,0,0,1,3] [(X.length:Int)] (by exact (H.pick 9 [0,1] rfl)) rfl (by kernel_rfl) (by omega) rfl (B4 8 rfl (by kernel_rfl) (by kernel_rfl) (by kernel_rfl) rfl rfl rfl (Cc rfl (z:=1) (j:=X.length) (r:=X.length) (by kernel_rfl) rfl rfl rfl (by simp only[List.length_map,List.length_append,List.length_cons];omega) (by omega)) (H.pick 9 [0,1] rfl) (Av [9] (by kernel_rfl) (by simp) (Au (A8 rfl rfl rfl (Ag 8 H rfl rfl rfl rfl (vs:=[Iv_ (c1:Int)]) rfl (Ab rfl Ar) (by kernel_rfl) (by simp only[List.length_append,List.length_map,List.length_cons,List.length_nil];omega) (out:=((vL (X++(e1.1,c1)::e2::Y)).map Iv_++rest_gv)) ((Dy (by simp)).trans (by rw[show (vL (X++e1::e2::Y)).set (X.length) (c1:Int)=(vL (X++(e1.1,c1)::e2::Y)) from by simp[vL,List.set_append]]))) ?_))));rintro w H;replace H:=H.l9;refine Ap (H.pick 9 [0,1] rfl) (Iz [10] [2,3,0,0] [] (by exact (H.pick 9 [0,1] rfl)) rfl (by kernel_rfl) (by omega) rfl (Av [11] (by kernel_rfl) (by simp) (Au (A8 rfl rfl rfl (Ag 5 H rfl rfl rfl rfl (vs:=[.bool (decide (h=0)),v4,v5]) rfl (Ab rfl (Ab sv4.one (Ab sv5.one Ar))) (by kernel_rfl) (by simp) (out:=[.bool (decide (h=0)),v4,v5,.bool false,.slice none 0 0,.slice none 0 0]) rfl) ?_))));rintro w H;replace H:=H.l9;refine Ap (H.pick 9 [0,1] rfl) (a_done (by kernel_rfl) (gn (Z1 6 [] [1] rfl (by omega) (gf (C5 (Z3 25 [3,2,0,0] [(X.length:Int)+1] H rfl (by omega) (Ac rfl (Cc rfl (z:=1) (j:=(X.length+1)) (r:=(X.length+1)) (by kernel_rfl) rfl rfl (by omega) (by simp only[List.length_map,List.length_append,List.length_cons];omega) (by omega)) (Ac rfl (AZ rfl rfl (by kernel_rfl) (AB (H.cel 8 rfl (X.length+1) (show ((vL (X++(e1.1,c1)::e2::Y)).map Iv_++rest_gv)[X.length+1]? =some (Iv_ (e2.2:Int)) from (by rw[List.getElem?_append_left (by simp),List.getElem?_map];simp[vL]))))) ?_))))))))
  refine Aw rfl (call121 _) (Io pp mb n o t1 (c1::(vals es1++(vals X++(vals Y++Q)))) e2.2 (decide (h=0)) es2 hN2 (by have:=O1.st.k;omega) (by simp only[List.length_cons,List.length_append,I2];omega)) H.f4 ?_;rintro _ w _ (⟨hnone2,v8,v9,s2,rfl,rfl⟩|⟨t2,c2,v8,v9,O2,rfl,rfl⟩) H'
  ·have H:=H'.l11;have sv8:=H.says 0 rfl (fun h q=>q.slc)
   have sv9:=H.says 1 rfl (fun h q=>q.slc)
   refine Za 4 [] H rfl ?_;intro b10 w H;refine Zc 1 rfl (Az rfl rfl (Ag 0 H rfl rfl rfl rfl (vs:=[.bool (decide (h=0)),v8,v9]) rfl (Ab rfl (Ab sv8.one (Ab sv9.one Ar))) (by kernel_rfl) (by simp) (out:=[.bool (decide (h=0)),v8,v9]) rfl) ?_);rintro w H;replace H:=H.l12;refine Z4 20 [3,4,3,9] H rfl ?_;intro w H;refine Zl [9,3] H rfl ?_;replace H:=(H.mono 10 (B:=grow 3 1 (.slice (some ⟨gk,0,none⟩) ((kL (X++e1::e2::Y)).length) capk) ((kL (X++(e1.1,c1)::e2::Y)).length) ((kL (X++(e1.1,c1)::e2::Y)).map Iv_)) rfl (fun h q=>by rw[show (kL (X++(e1.1,c1)::e2::Y)).length=(kL (X++e1::e2::Y)).length from by simp,show kL (X++(e1.1,c1)::e2::Y)=kL (X++e1::e2::Y) from by simp[kL]];exact q.grow (by omega) (by omega) (by have a:=ck3;have b:=ck1;simp only[List.length_append,List.length_map,List.length_cons] at a b ⊢;omega) (by rw[Nat.mul_one,List.take_left' (by simp)]))).l12
   replace H:=(H.mono 11 (B:=grow 3 1 (.slice (some ⟨gv,0,none⟩) ((vL (X++e1::e2::Y)).length) capv) ((vL (X++(e1.1,c1)::e2::Y)).length) ((vL (X++(e1.1,c1)::e2::Y)).map Iv_)) rfl (fun h q=>by rw[show (vL (X++(e1.1,c1)::e2::Y)).length=(vL (X++e1::e2::Y)).length from by simp];exact q.grow (by omega) (by omega) (by have a:=cv3;have b:=cv1;simp only[List.length_append,List.length_map,List.length_cons] at a b ⊢;omega) (by rw[Nat.mul_one,List.take_left' (by simp)]))).l12
   exact ⟨_,.inl ⟨(by have:=O1.st.f;omega),_,_,_,_,rfl,rfl⟩,H.perm 12 [10,11,3] rfl rfl⟩
  ·have H:=H'.l11;have sv8:=H.says 0 rfl (fun h q=>q.slc)
   have sv9:=H.says 1 rfl (fun h q=>q.slc)
   refine Za 4 [] H rfl ?_;intro b11 w H;refine Zc 1 rfl (Az rfl rfl (Ag 0 H rfl rfl rfl rfl (vs:=[.bool (decide (h=0)),v8,v9]) rfl (Ab rfl (Ab sv8.one (Ab sv9.one Ar))) (by kernel_rfl) (by simp) (out:=[.bool (decide (h=0)),v8,v9]) rfl) ?_);rintro w H;replace H:=H.l12;refine Z0 13 [4] rfl ?_;replace H:=H.f4;refine AI (Sep z (blk b1 [.bool false,.slice (some ⟨gk,0,none⟩) ((kL (X++e1::e2::Y)).length) capk,.slice (some ⟨gv,0,none⟩) ((vL (X++e1::e2::Y)).length) capv] 142::blk b11 [.bool (decide (h=0)),v8,v9] 142::R)) 12 rfl (by kernel_rfl) (Bc H fun w H'=> ?_)
   have H:=H'.l12;refine Iz [0,1,2,3,4,5,6,7] [2,0,0,1,3] [(X.length:Int)+1] (by exact (H.pick 12 [0,1] rfl)) rfl (by kernel_rfl) (by omega) rfl (B4 8 rfl (by kernel_rfl) (by kernel_rfl) (by kernel_rfl) rfl rfl rfl (Cc rfl (z:=1) (j:=(X.length+1)) (r:=(X.length+1)) (by kernel_rfl) rfl rfl (by omega) (by simp only[List.length_map,List.length_append,List.length_cons];omega) (by omega)) (H.pick 12 [0,1] rfl) (Av [9] (by kernel_rfl) (by simp) (Au (A8 rfl rfl rfl (Ag 11 H rfl rfl rfl rfl (vs:=[Iv_ (c2:Int)]) rfl (Ab rfl Ar) (by kernel_rfl) (by simp only[List.length_append,List.length_map,List.length_cons,List.length_nil];omega) (out:=((vL (X++(e1.1,c1)::(e2.1,c2)::Y)).map Iv_++rest_gv)) ((Dy (by simp)).trans (by rw[show (vL (X++(e1.1,c1)::e2::Y)).set (X.length+1) (c2:Int)=(vL (X++(e1.1,c1)::(e2.1,c2)::Y)) from by simp[vL,List.set_append]]))) ?_))));rintro w H;replace H:=H.l12;refine Ap (H.pick 12 [0,1] rfl) (Iz [10] [2,3,1,3] [] (by exact (H.pick 12 [0,1] rfl)) rfl (by kernel_rfl) (by omega) rfl (Av [11] (by kernel_rfl) (by simp) (Au (A8 rfl rfl rfl (Ag 8 H rfl rfl rfl rfl (vs:=[.bool (decide (h=0)),v8,v9]) rfl (Ab rfl (Ab sv8.one (Ab sv9.one Ar))) (by kernel_rfl) (by simp) (out:=[.bool (decide (h=0)),v4,v5,.bool (decide (h=0)),v8,v9]) rfl) ?_))));rintro w H;replace H:=H.l12;refine Ap (H.pick 12 [0,1] rfl) (a_done (by kernel_rfl) (gn (Z1 6 [] [2] rfl (by omega) (gf (C5 (Z0 9 [4] rfl (gx (Zc 3 rfl ?_))))))))
   have K2:=H.says 4 rfl (fun h a=>trA.k a)
   have hB1b:Bd t2.N h es1 e2.1 La:=O2.st.bd (fun v hv=>by simp[hv]) (O1.bd hB1)
   have hB2b:Bd t2.N h es2 (nx Y hi) Lb:=O2.bd hB2
   have hne2:es2≠[]:=fun q=>by rw[q] at hm2;simp at hm2;omega
   obtain ⟨hBB,hsB,hrB⟩:=WM hB1b hB2b ho1.srt ho2.srt hr1 hr2 hne2 hE1 hE2;have hdB:(vals (es1++es2)).Nodup:=hBB.nd hsB (fun x hx=>(hrB x hx).2) hP.d
   have hc1o:=O2.st.op c1 (by simp) O1.N0 O1.C1
   have hq0:Sq (fun c a b L=>Tr t2.N h c a b 4 L) X e1.1 L0:=Sq.imp hP.q0 fun x hx _ _ q=>O2.st.fr _ (by simp[List.mem_map_of_mem hx,vals]) _ _ _ _ _ (O1.st.fr _ (by simp[List.mem_map_of_mem hx,vals]) _ _ _ _ _ q)
   have hq2:Sq (fun c a b L=>Tr t2.N h c a b 4 L) Y hi L2:=Sq.imp hP.q2 fun x hx _ _ q=>O2.st.fr _ (by simp[List.mem_map_of_mem hx,vals]) _ _ _ _ _ (O1.st.fr _ (by simp[List.mem_map_of_mem hx,vals]) _ _ _ _ _ q)
   have hv1:∀ v∈vals es1,1≤v∧v<1024:=fun v hv=>by have:=K2.i.rin v (by simp[Cs,hv]);omega
   have hv2:∀ v∈vals es2,1≤v∧v<1024:=fun v hv=>by have:=K2.i.rin v (by simp[Cs,hv]);omega
   have hck1:=CkN.of ho1 hv1
   have hck2:=CkN.of ho2 hv2
   have hkB:=Iq hrB (by have:=hP.l0;omega) (by have:=hP.h1;omega)
   refine Z3 5 [2,3,0,0,8,3,2,3,1,3,8,3] [] H rfl (by omega) ?_;rcases Nat.lt_or_ge 8 (es1.length+es2.length) with hj|hj
   ·refine z_E_ rfl (call164 _) (joinF_e (fun h q=>q.rd) (fun h q=>q.rd) (fun h q=>q.rd) (fun h q=>q.rd) hck1 hck2 hsB hj) H.f3.f3.f7.f7 ?_;intro w H;refine Za 3 [] H rfl ?_;intro b14 w H;refine Z5 20 [0,4,2,3,0,0,9,3,2,3,1,3,9,3] [] H rfl (by omega) ?_;intro w H;have hfl:5≤E1 es1 es2∧E1 es1 es2≤8∧4≤(es1++es2).length - E1 es1 es2∧(es1++es2).length - E1 es1 es2≤8:=by unfold E1;simp only[List.length_append];omega
    have hsp:=List.take_append_drop (E1 es1 es2) (es1++es2)
    obtain ⟨x_,hx_⟩:∃ x_,x_=(es1++es2).take (E1 es1 es2):=⟨_,rfl⟩;obtain ⟨y_,hy_⟩:∃ y_,y_=(es1++es2).drop (E1 es1 es2):=⟨_,rfl⟩;refine Aw rfl (call165 _) (WN (fun h q=>q.rd) (fun h q=>q.rd) (fun h q=>q.rd) (fun h q=>q.rd) hck1 hck2 hsB hj x_ y_ hx_ hy_) H.f4.f4.f4.f4 ?_;rintro _ w _ ⟨v15,v16,v17,v18,rfl,rfl⟩ H;replace H:=H.l17;have sv15:=H.says 0 rfl (fun h q=>q.slc)
    have sv16:=H.says 1 rfl (fun h q=>q.slc)
    have sv17:=H.says 2 rfl (fun h q=>q.slc)
    have sv18:=H.says 3 rfl (fun h q=>q.slc)
    have hxl:4≤x_.length∧x_.length≤8:=by rw[hx_,List.length_take];simp only[List.length_append] at hfl ⊢;omega
    have hyl:4≤y_.length∧y_.length≤8:=by rw[hy_,List.length_drop];exact hfl.2.2
    rw[←hx_,←hy_] at hsp;rw[←hsp] at hBB hsB hrB hdB hkB;have hxne:x_≠[]:=fun q=>by rw[q] at hxl;simp at hxl
    have hyne:y_≠[]:=fun q=>by rw[q] at hyl;simp at hyl
    obtain ⟨M1,M2,hM,hBx,hBy⟩:=Bd.app.1 hBB;obtain ⟨hrx,hry,hky1,hky2⟩:=Nf hsB hrB hxne hyne;obtain ⟨hsx,hsy,_⟩:=Srt.app.1 hsB;rw[Bu,List.nodup_append] at hdB;obtain ⟨ky,hky⟩:∃ ky,ky=nx y_ (nx Y hi):=⟨_,rfl⟩;rw[←hky] at hBx hrx hry hky1 hky2;have hox:(Nd.mk (decide (h=0)) x_).Ok:=⟨hsx,hxl.2,fun e he=>hkB e (by simp[he]),fun _=>hxne⟩
    have hoy:(Nd.mk (decide (h=0)) y_).Ok:=⟨hsy,hyl.2,fun e he=>hkB e (by simp[he]),fun _=>hyne⟩
    have hpm:(c2::(vals es2++(c1::(vals es1++(vals X++(vals Y++Q)))))).Perm (c1::(vals x_++(c2::(vals y_++(vals X++(vals Y++Q)))))):=Z9 c1 c2 es1 es2 x_ y_ _ hsp.symm
    refine Za 4 [] H rfl ?_;intro b19 w H;refine Za 0 [] H rfl ?_;intro b20 w H;refine Az rfl rfl (Ag 1 H rfl rfl rfl rfl (vs:=[.bool (decide (h=0)),v15,v16]) rfl (Ab rfl (Ab sv15.one (Ab sv16.one Ar))) (by kernel_rfl) (by simp) (out:=[.bool (decide (h=0)),v15,v16]) rfl) ?_;rintro w H;replace H:=H.l19;refine Az rfl rfl (Ag 0 H rfl rfl rfl rfl (vs:=[.bool (decide (h=0)),v17,v18]) rfl (Ab rfl (Ab sv17.one (Ab sv18.one Ar))) (by kernel_rfl) (by simp) (out:=[.bool (decide (h=0)),v17,v18]) rfl) ?_;rintro w H;replace H:=H.l19;refine Z0 15 [4] rfl ?_;replace H:=(H.mono 13 (B:=trA Tb pp mb n o (some (t2,c1::(vals x_++(c2::(vals y_++(vals X++(vals Y++Q)))))))) rfl (fun h q=>q.perm hpm)).l19
    replace H:=(H.pick 19 [11,1,18,0,2,3,4,5,6,7,8,9,10,12,13,14,15,16,17] rfl).l19
    refine AI (Sep z (blk b1 [.bool false,.slice (some ⟨gk,0,none⟩) ((kL (X++e1::e2::Y)).length) capk,.slice (some ⟨gv,0,none⟩) ((vL (X++e1::e2::Y)).length) capv] 142::blk b19 [.bool (decide (h=0)),v15,v16] 142::blk gv ((vL (X++(e1.1,c1)::(e2.1,c2)::Y)).map Iv_++rest_gv) 3::R)) 9 rfl (by kernel_rfl) (Bc H fun w H'=> ?_)
    have H:=H'.l19;refine AM [0,1,2,3] [2,0,0] [] (by exact (H.pick 19 [0,1,2] rfl)) rfl (by kernel_rfl) rfl (B4 4 rfl (by kernel_rfl) (by kernel_rfl) (by kernel_rfl) rfl rfl rfl (Cc rfl (z:=1) (j:=X.length) (r:=X.length) (by kernel_rfl) rfl rfl rfl (by simp only[List.length_map,List.length_append,List.length_cons];omega) (by omega)) (H.pick 19 [0,1,2] rfl) (B4 5 rfl (by kernel_rfl) (by kernel_rfl) (by kernel_rfl) rfl rfl rfl (AZ rfl rfl (by kernel_rfl) (fun _ hx=>hx.cel 2 rfl X.length (show ((vL (X++(e1.1,c1)::(e2.1,c2)::Y)).map Iv_++rest_gv)[X.length]? =some (Iv_ (c1:Int)) from (by rw[List.getElem?_append_left (by simp),List.getElem?_map];simp[vL])))) (H.pick 19 [0,1,2] rfl) ?_));refine AM [6] [1,3] [] (by exact (H.pick 19 [0,1,2] rfl)) rfl (by kernel_rfl) rfl (Av [7] (by kernel_rfl) (by simp) (Au (NU rfl rfl rfl rfl rfl rfl (fun w=>call123 _ w) (Fh pp mb n o t2 (c2::(vals y_++(vals X++(vals Y++Q)))) c1 (decide (h=0)) _ _ x_ _ _ (fun h q=>q.rd) (fun h q=>q.rd) h e1.1 ky 4 M1 hBx rfl hrx hxl.1 hox hdB.1 hc1o.2 hc1o.1 (by have:=O1.st.k;have:=O2.st.k;omega)) H 15 [14,4,5,0,1,2,3,6,7,8,9,10,11,12,13] rfl rfl ?_)));rintro _ w _ ⟨t3,⟨hSt3,hT3,hC3,hN3⟩,rfl,rfl⟩ H;replace H:=H.l19;refine Ap (H.pick 19 [3,4,5] rfl) (AM [8] [] [] (by exact (H.pick 19 [3,4,5] rfl)) rfl (by kernel_rfl) rfl (a_done (by kernel_rfl) (gn (Z0 11 [4] rfl ?_))));obtain ⟨aoy,cc21,rfl⟩:=sv17;have haty:=(H.rd 7 rfl (fun h q=>q.rd)).at (j:=0) (u:=Iv_ ky) (by rw[List.getElem?_map,EY (hi:=nx Y hi) hyl.1,hky];rfl)
    replace H:=(H.pick 19 [3,6,7,0,1,2,4,5,8,9,10,11,12,13,14,15,16,17,18] rfl).l19
    refine AI (Sep z (blk b1 [.bool false,.slice (some ⟨gk,0,none⟩) ((kL (X++e1::e2::Y)).length) capk,.slice (some ⟨gv,0,none⟩) ((vL (X++e1::e2::Y)).length) capv] 142::blk b20 [.bool (decide (h=0)),.slice aoy ((kL y_).length) cc21,v18] 142::grow 3 1 (.slice aoy ((kL y_).length) cc21) ((kL y_).length) ((kL y_).map Iv_)::R)) 10 rfl (by kernel_rfl) (Bc H fun w H'=> ?_)
    have H:=H'.l19;refine Iz [0,1,2,3,4,5] [1,0,0,1,1,0] [(X.length:Int)+1] (by exact (H.pick 19 [0,1,2] rfl)) rfl (by kernel_rfl) (by omega) rfl (B4 6 rfl (by kernel_rfl) (by kernel_rfl) (by kernel_rfl) rfl rfl rfl (AD rfl (z:=1) (j:=0) (r:=0) (by kernel_rfl) rfl rfl rfl (by simp only[List.length_map];omega) haty (by omega)) (H.pick 19 [0,1,2] rfl) (B4 7 rfl (by kernel_rfl) (by kernel_rfl) (by kernel_rfl) rfl rfl rfl (AR rfl rfl (by kernel_rfl) (fun _ hx'=>(hx'.rd 2 rfl (fun h q=>q.rd)).at (j:=0) (u:=Iv_ ky) (by rw[List.getElem?_map,EY (hi:=nx Y hi) hyl.1,hky];rfl))) (H.pick 19 [0,1,2] rfl) ?_));refine B4 8 rfl (by kernel_rfl) (by kernel_rfl) (by kernel_rfl) rfl rfl rfl (Cc rfl (z:=1) (j:=(X.length+1)) (r:=(X.length+1)) (by kernel_rfl) rfl rfl (by omega) (by simp only[List.length_map,List.length_append,List.length_cons];omega) (by omega)) (H.pick 19 [0,1,2] rfl) (Av [9] (by kernel_rfl) (by simp) (Au (A8 rfl rfl rfl (Ag 18 H rfl rfl rfl rfl (vs:=[Iv_ ky]) rfl (Ab rfl Ar) (by kernel_rfl) (by simp only[List.length_append,List.length_map,List.length_cons,List.length_nil];omega) (out:=((kL (X++(e1.1,c1)::(ky,c2)::Y)).map Iv_++rest_gk)) ((Dy (by simp)).trans (by rw[show (kL (X++e1::e2::Y)).set (X.length+1) ky=(kL (X++(e1.1,c1)::(ky,c2)::Y)) from by simp[kL,List.set_append]]))) ?_)));rintro w H;replace H:=H.l19;refine Ap (H.pick 19 [0,1,2] rfl) (a_done (by kernel_rfl) (gn (Zc 2 rfl ?_)))
    replace H:=(H.mono 3 (B:=trA Tb pp mb n o (some (t3,c2::(vals y_++(c1::(vals X++(vals Y++Q))))))) rfl (fun h q=>q.perm (mp4 c1 c2 _ _))).l19
    replace H:=(H.pick 19 [0,1,7,2,3,4,5,6,8,9,10,11,12,13,14,15,16,17,18] rfl).l19
    refine AI (Sep z (blk b1 [.bool false,.slice (some ⟨gk,0,none⟩) ((kL (X++e1::e2::Y)).length) capk,.slice (some ⟨gv,0,none⟩) ((vL (X++e1::e2::Y)).length) capv] 142::blk b20 [.bool (decide (h=0)),.slice aoy ((kL y_).length) cc21,v18] 142::blk gv ((vL (X++(e1.1,c1)::(e2.1,c2)::Y)).map Iv_++rest_gv) 3::R)) 12 rfl (by kernel_rfl) (Bc H fun w H'=> ?_)
    have H:=H'.l19;refine Iz [0,1,2,3,4,5] [0,3,2,0,0] [(X.length:Int)+1] (by exact (H.pick 19 [0,1,2] rfl)) rfl (by kernel_rfl) (by omega) rfl (B4 6 rfl (by kernel_rfl) (by kernel_rfl) (by kernel_rfl) rfl rfl rfl (Cc rfl (z:=1) (j:=(X.length+1)) (r:=(X.length+1)) (by kernel_rfl) rfl rfl (by omega) (by simp only[List.length_map,List.length_append,List.length_cons];omega) (by omega)) (H.pick 19 [0,1,2] rfl) (B4 7 rfl (by kernel_rfl) (by kernel_rfl) (by kernel_rfl) rfl rfl rfl (AZ rfl rfl (by kernel_rfl) (fun _ hx=>hx.cel 2 rfl (X.length+1) (show ((vL (X++(e1.1,c1)::(e2.1,c2)::Y)).map Iv_++rest_gv)[X.length+1]? =some (Iv_ (c2:Int)) from (by rw[List.getElem?_append_left (by simp),List.getElem?_map];simp[vL])))) (H.pick 19 [0,1,2] rfl) ?_));refine AM [8] [1,3] [] (by exact (H.pick 19 [0,1,2] rfl)) rfl (by kernel_rfl) rfl (Av [9] (by kernel_rfl) (by simp) (Au (NU rfl rfl rfl rfl rfl rfl (fun w=>call123 _ w) (Fh pp mb n o t3 (c1::(vals X++(vals Y++Q))) c2 (decide (h=0)) _ _ y_ _ _ (fun h q=>q.rd) (fun h q=>q.rd) h ky (nx Y hi) 4 M2 (hSt3.bd (fun v hv=>by simp[hv]) hBy) rfl hry hyl.1 hoy hdB.2.1 (hSt3.op c2 (by simp) O2.N0 O2.C1).2 (hSt3.op c2 (by simp) O2.N0 O2.C1).1 (by have:=O1.st.k;have:=O2.st.k;have:=hSt3.k;omega)) H 9 [4,3,8,0,1,2,5,6,7] rfl rfl ?_)));rintro _ w _ ⟨t4,⟨hSt4,hT4,hC4,hN4⟩,rfl,rfl⟩ H;replace H:=H.l19;refine Ap (H.pick 19 [3,4,5] rfl) (Av [10] (by kernel_rfl) (by simp) (Au (A8 rfl rfl rfl (Ag 17 H rfl rfl rfl rfl (vs:=[.bool false,.slice (some ⟨gk,0,none⟩) ((kL (X++e1::e2::Y)).length) capk,.slice (some ⟨gv,0,none⟩) ((vL (X++e1::e2::Y)).length) capv]) rfl (by simp[u8,u32,Value.oneCell']) (by kernel_rfl) (by simp) (out:=[.bool false,.slice (some ⟨gk,0,none⟩) ((kL (X++e1::e2::Y)).length) capk,.slice (some ⟨gv,0,none⟩) ((vL (X++e1::e2::Y)).length) capv]) rfl) ?_)))
    rintro w H;replace H:=H.l19;refine Ap (H.pick 19 [3,4,5] rfl) (AM [11] [] [] (by exact (H.pick 19 [3,4,5] rfl)) rfl (by kernel_rfl) rfl (a_done (by kernel_rfl) (gn (Zc 2 rfl (Zl [17,3] H rfl ?_)))));replace H:=(H.mono 18 (B:=grow 3 1 (.slice (some ⟨gk,0,none⟩) ((kL (X++e1::e2::Y)).length) capk) ((kL (X++(e1.1,c1)::(ky,c2)::Y)).length) ((kL (X++(e1.1,c1)::(ky,c2)::Y)).map Iv_)) rfl (fun h q=>by rw[show (kL (X++(e1.1,c1)::(ky,c2)::Y)).length=(kL (X++e1::e2::Y)).length from by simp];exact q.grow (by omega) (by omega) (by have a:=ck3;have b:=ck1;simp only[List.length_append,List.length_map,List.length_cons] at a b ⊢;omega) (by rw[Nat.mul_one,List.take_left' (by simp)]))).l19
    replace H:=(H.mono 5 (B:=grow 3 1 (.slice (some ⟨gv,0,none⟩) ((vL (X++e1::e2::Y)).length) capv) ((vL (X++(e1.1,c1)::(ky,c2)::Y)).length) ((vL (X++(e1.1,c1)::(ky,c2)::Y)).map Iv_)) rfl (fun h q=>by rw[show (vL (X++(e1.1,c1)::(ky,c2)::Y)).length=(vL (X++e1::e2::Y)).length from by simp,show vL (X++(e1.1,c1)::(ky,c2)::Y)=vL (X++(e1.1,c1)::(e2.1,c2)::Y) from by simp[vL]];exact q.grow (by omega) (by omega) (by have a:=cv3;have b:=cv1;simp only[List.length_append,List.length_map,List.length_cons] at a b ⊢;omega) (by rw[Nat.mul_one,List.take_left' (by simp)]))).l19
    replace H:=(H.mono 0 (B:=trA Tb pp mb n o (some (t4,vals (X++(e1.1,c1)::(ky,c2)::Y)++Q))) rfl (fun h q=>q.perm (mp6 c1 c2 e1.1 ky X Y Q))).l19
    have hj4:=mn_share (c1:=c1) (c2:=c2) hP.ok hP.r (Sq.st hSt4 (fun v hv=>by simp[hv]) (Sq.st hSt3 (fun v hv=>by simp[hv]) hq0)) (Sq.st hSt4 (fun v hv=>by simp[hv]) (Sq.st hSt3 (fun v hv=>by simp[hv]) hq2)) (hSt4.fr c1 (by simp) _ _ _ _ _ hT3) hT4 hM.symm hky1 hky2 hP.h1
    exact ⟨_,.inr ⟨t4,_,_,_,⟨St.t4 O1.st O2.st hSt3 hSt4 (by omega) (fun p hp=>by simp[hp]) (fun p hp=>by simp[hp]) (fun p hp=>by simp[hp]) (fun p hp=>by simp[hp]),hj4.1,hj4.2.1,hj4.2.2.1,hj4.2.2.2,by simp⟩,rfl,rfl⟩,H.perm 19 [18,5,0] rfl rfl⟩
   ·refine Aw rfl (call164 _) (Yq (fun h q=>q.rd) (fun h q=>q.rd) (fun h q=>q.rd) (fun h q=>q.rd) hck1 hck2 hsB hj) H.f3.f3.f7.f7 ?_;rintro _ w _ ⟨v12,v13,rfl,rfl⟩ H;replace H:=H.l14;have sv12:=H.says 0 rfl (fun h q=>q.slc)
    have sv13:=H.says 1 rfl (fun h q=>q.slc)
    refine Za 3 [] H rfl ?_;intro b22 w H;refine Az rfl rfl (Ag 0 H rfl rfl rfl rfl (vs:=[.bool (decide (h=0)),v12,v13]) rfl (Ab rfl (Ab sv12.one (Ab sv13.one Ar))) (by kernel_rfl) (by simp) (out:=[.bool (decide (h=0)),v12,v13]) rfl) ?_;rintro w H;replace H:=H.l15;refine Z0 13 [3] rfl ?_;have hoB:(Nd.mk (decide (h=0)) (es1++es2)).Ok:=⟨hsB,by simp;omega,hkB,fun _=>by simp[hne2]⟩
    replace H:=(H.mono 9 (B:=trA Tb pp mb n o (some (t2,c1::(vals (es1++es2)++(c2::(vals X++(vals Y++Q))))))) rfl (fun h q=>q.perm (ZR c1 c2 es1 es2 _))).l15
    replace H:=H.f14.f1.f8;refine AI (Sep z (blk b1 [.bool false,.slice (some ⟨gk,0,none⟩) ((kL (X++e1::e2::Y)).length) capk,.slice (some ⟨gv,0,none⟩) ((vL (X++e1::e2::Y)).length) capv] 142::blk b22 [.bool (decide (h=0)),v12,v13] 142::blk gv ((vL (X++(e1.1,c1)::(e2.1,c2)::Y)).map Iv_++rest_gv) 3::R)) 9 rfl (by kernel_rfl) (Bc H fun w H'=> ?_)
    have H:=H'.l15;refine AM [0,1,2,3] [2,0,0] [] (by exact (H.pick 15 [0,1,2] rfl)) rfl (by kernel_rfl) rfl (B4 4 rfl (by kernel_rfl) (by kernel_rfl) (by kernel_rfl) rfl rfl rfl (Cc rfl (z:=1) (j:=X.length) (r:=X.length) (by kernel_rfl) rfl rfl rfl (by simp only[List.length_map,List.length_append,List.length_cons];omega) (by omega)) (H.pick 15 [0,1,2] rfl) (B4 5 rfl (by kernel_rfl) (by kernel_rfl) (by kernel_rfl) rfl rfl rfl (AZ rfl rfl (by kernel_rfl) (fun _ hx=>hx.cel 2 rfl X.length (show ((vL (X++(e1.1,c1)::(e2.1,c2)::Y)).map Iv_++rest_gv)[X.length]? =some (Iv_ (c1:Int)) from (by rw[List.getElem?_append_left (by simp),List.getElem?_map];simp[vL])))) (H.pick 15 [0,1,2] rfl) ?_));refine AM [6] [1,3] [] (by exact (H.pick 15 [0,1,2] rfl)) rfl (by kernel_rfl) rfl (Av [7] (by kernel_rfl) (by simp) (Au (BL rfl rfl rfl rfl rfl rfl (fun w=>call123 _ w) (Fh pp mb n o t2 (c2::(vals X++(vals Y++Q))) c1 (decide (h=0)) _ _ (es1++es2) _ _ (fun h q=>q.rd) (fun h q=>q.rd) h e1.1 (nx Y hi) 4 (La++Lb) hBB rfl hrB (by simp;omega) hoB hdB hc1o.2 hc1o.1 (by have:=O1.st.k;have:=O2.st.k;omega)) H.f4.f4.f10 rfl ?_)));rintro _ w _ ⟨t3,⟨hSt3,hT3,hC3,hN3⟩,rfl,rfl⟩ H;replace H:=H.l15;refine Ap (H.pick 15 [3,4,5] rfl) (AM [8] [] [] (by exact (H.pick 15 [3,4,5] rfl)) rfl (by kernel_rfl) rfl (a_done (by kernel_rfl) (gn (Z0 12 [4] rfl ?_))));replace H:=(H.mono 0 (B:=trA Tb pp mb n o (some (t3,c2::(c1::(vals X++(vals Y++Q)))))) rfl (fun h q=>q.perm (List.Perm.swap _ _ _))).l15
    refine Z3 6 [2,3,0] [(X.length:Int)+1] H rfl (by omega) (Ac rfl (Cc rfl (z:=1) (j:=(X.length+1)) (r:=(X.length+1)) (by kernel_rfl) rfl rfl (by omega) (by simp only[List.length_map,List.length_append,List.length_cons];omega) (by omega)) (Ac rfl (AZ rfl rfl (by kernel_rfl) (AB (H.cel 5 rfl (X.length+1) (show ((vL (X++(e1.1,c1)::(e2.1,c2)::Y)).map Iv_++rest_gv)[X.length+1]? =some (Iv_ (c2:Int)) from (by rw[List.getElem?_append_left (by simp),List.getElem?_map];simp[vL]))))) ?_));refine Aw rfl (call84 _) (F7 pp mb n o t3 _ c2 (fun d q=>by rw[(hSt3.op c2 (by simp) O2.N0 O2.C1).1] at q;cases q)) H ?_;rintro _ w _ ⟨t4,⟨hS4,hq4,hC4,hN4,hF4⟩,rfl,rfl⟩ H;refine Z0 13 [4] rfl ?_;have K4:=H.says 0 rfl (fun h a=>trA.k a)
    have hvW:∀ v∈vals X++vals Y,1≤v∧v<1024:=fun v hv=>by have:=K4.i.rin v (by simp only[Cs,List.mem_cons,List.mem_append] at hv ⊢;rcases hv with h|h<;>simp[h]);omega
    have hvc1:1≤c1∧c1<1024:=by have:=K4.i.rin c1 (by simp[Cs]);omega
    have hvc2:1≤c2∧c2<1024:=by have:=K2.i.rin c2 (by simp[Cs]);omega
    have hjj:=ON (N:=t4.N) (c1:=c1) hP.ok hP.r (Sq.st hS4 (fun v hv=>by simp[hv]) (Sq.st hSt3 (fun v hv=>by simp[hv]) hq0)) (Sq.st hS4 (fun v hv=>by simp[hv]) (Sq.st hSt3 (fun v hv=>by simp[hv]) hq2)) (hS4.fr c1 (by simp) _ _ _ _ _ hT3)
    have hckB:CkN false (kL (X++(e1.1,c1)::Y)) (vL (X++(e1.1,c1)::Y)):=CkN.of hjj.2.2.1 (fun v hv=>by rw[Bu,BN] at hv;simp only[List.mem_append,List.mem_cons] at hv;rcases hv with q|q|q;exact hvW v (by simp[q]);rw[q];exact hvc1;exact hvW v (by simp[q]))
    have hckA:CkN false (kL (X++(e1.1,c1)::(e2.1,c2)::Y)) (vL (X++(e1.1,c1)::(e2.1,c2)::Y)):=CkN.of (Yz hP.ok) (fun v hv=>by rw[Bu,BN,BN] at hv;simp only[List.mem_append,List.mem_cons] at hv;rcases hv with q|q|q|q;exact hvW v (by simp[q]);rw[q];exact hvc1;rw[q];exact hvc2;exact hvW v (by simp[q]))
    refine Z3 4 [3,3] [((X.length+1:Nat):Int)] H rfl (by omega) (Aw rfl (call124 _) (WO (fun h q=>by rw[show kL (X++(e1.1,c1)::(e2.1,c2)::Y)=kL (X++e1::e2::Y) from by simp[kL]];exact q.rd (by omega) (by omega) (by simp only[List.length_append,List.length_map,List.length_cons];omega) (by rw[List.drop_zero,Nat.mul_one,List.take_left' (by simp)])) (fun h q=>by rw[show (vL (X++(e1.1,c1)::(e2.1,c2)::Y)).length=(vL (X++e1::e2::Y)).length from by simp];exact q.rd (by omega) (by omega) (by simp only[List.length_append,List.length_map,List.length_cons];omega) (by rw[List.drop_zero,Nat.mul_one,List.take_left' (by simp)])) hckA hckB) H.f5.f14 ?_);rintro _ w _ ⟨v23,v24,rfl,rfl⟩ H;replace H:=H.l17;have sv23:=H.says 0 rfl (fun h q=>q.slc)
    have sv24:=H.says 1 rfl (fun h q=>q.slc)
    refine Zc 2 rfl (Az rfl rfl (Ag 16 H rfl rfl rfl rfl (vs:=[.bool false,v23,v24]) rfl (Ab rfl (Ab sv23.one (Ab sv24.one Ar))) (by kernel_rfl) (by simp) (out:=[.bool false,v23,v24]) rfl) ?_);rintro w H;replace H:=H.l17;refine Zc 4 rfl (Zl [16,3] H rfl ?_);replace H:=(H.mono 4 (B:=trA Tb pp mb n o (some (t4,vals (X++(e1.1,c1)::Y)++Q))) rfl (fun h q=>q.perm (mp5 c1 e1.1 X Y Q))).l17
    have hj4:=ON (c1:=c1) hP.ok hP.r (Sq.st hS4 (fun v hv=>by simp[hv]) (Sq.st hSt3 (fun v hv=>by simp[hv]) hq0)) (Sq.st hS4 (fun v hv=>by simp[hv]) (Sq.st hSt3 (fun v hv=>by simp[hv]) hq2)) (hS4.fr c1 (by simp) _ _ _ _ _ hT3)
    exact ⟨_,.inr ⟨t4,_,_,_,⟨St.t4 O1.st O2.st hSt3 hS4 (by omega) (fun p hp=>by simp[hp]) (fun p hp=>by simp[hp]) (fun p hp=>by simp[hp]) (fun p hp=>by simp[hp]),hj4.1,hj4.2.1,hj4.2.2.1,hj4.2.2.2,by simp;omega⟩,rfl,rfl⟩,H.perm 17 [0,1,4] rfl rfl⟩
end
section
open Go.RowKit
variable {Tb:Ae}
structure RmPre (n:Nat) (t:TS) (Q:List Nat) (a h:Nat) (lo hi:Int) (m:Nat) (key:Int) (v0:Nat) (L:List E):Prop where
 T:Tr t.N h a lo hi m L
 kin:(key,v0)∈L
 l0:0≤lo
 h1:hi≤1048576
 d:(vals L).Nodup
 mm:1≤m∧(h≠0→2≤m)
 hk:t.k+6 * h+4<40
 hb:Q.length+10 * h+42+n≤980
abbrev JJ (Tb:Ae) (pp mb n:Nat) (o:TB) (t:TS) (Q:List Nat) (h:Nat) (lo hi:Int) (m:Nat) (key:Int) (L:List E) (v:Value) (Γ:List Ae):Prop:=
 (cnt t.F 0 1024≤3 * h∧∃ s:TS×List Nat,v= .tuple #[.int .i64 0,.int .i64 0,.int .i64 20]∧Γ=[trA Tb pp mb n o (some s)])∨
 ∃ (t2:TS) (c:Nat) (es':List E),(St t t2 Q (3 * h+1) (6 * h+2)∧Tr t2.N h c lo hi es'.length (Bt key L)∧t2.N c=some (.nd ⟨decide (h=0),es'⟩)∧t2.C c=1∧m≤es'.length+1)∧v= .tuple #[.int .i64 (c:Int),.int .i64 (es'.length:Int),.int .i64 0]∧Γ=[trA Tb pp mb n o (some (t2,c::Q))]
theorem JK {key:Int} {L:List E} (h:(vals L).Nodup):(vals (Bt key L)).Nodup:=by
 unfold vals Bt
 exact List.Nodup.sublist (List.Sublist.map _ List.filter_sublist) h
theorem WP {X Y:List E} {key:Int} {v0 c:Nat} {Q:List Nat} :(c::(vals (X++(key,v0)::Y)++Q)).Perm (v0::(c::(vals (X++Y)++Q))):=
 List.perm_iff_count.2 fun a=>by simp only[List.count_append,List.count_cons,De,DC];omega
theorem TU {X Y:List E} {e:E} {c:Nat} {Q:List Nat} :(c::(vals (X++e::Y)++Q)).Perm (e.2::(c::(vals X++(vals Y++Q)))):=
 List.perm_iff_count.2 fun a=>by simp only[List.count_append,List.count_cons,De,DC];omega
theorem Rt {X Y:List E} {k:Int} {c c2:Nat} {Q:List Nat} :(c2::(c::(vals X++(vals Y++Q)))).Perm (vals (X++(k,c2)::Y)++(c::Q)):=
 List.perm_iff_count.2 fun a=>by simp only[List.count_append,List.count_cons,De,DC];omega
theorem K8 {es:List E} {c:Nat} {Q:List Nat} :(vals es++(c::Q)).Perm (c::(vals es++Q)):=List.perm_middle
theorem TV {N:Hm} {X Y:List E} {lo hi:Int} {key:Int} {v0:Nat} (ok:(Nd.mk true (X++(key,v0)::Y)).Ok) (hr:BG lo hi (X++(key,v0)::Y)) (h:∀ e∈X++(key,v0)::Y,∃ b,N e.2=some (.dt b)) (hnd:(vals (X++(key,v0)::Y)).Nodup):
  Bt key (X++(key,v0)::Y)=X++Y∧Bd N 0 (X++Y) hi (X++Y)∧BG lo hi (X++Y)∧(Nd.mk true (X++Y)).Ok∧(vals (X++Y)).Nodup:=by
 have hs:Srt (X++(key,v0)::Y):=ok.srt
 obtain ⟨s1,s2,s3⟩:=Srt.app.1 hs
 have hm:∀ x∈X++Y,x∈X++(key,v0)::Y:=fun x hx=>by
  rcases List.mem_append.1 hx with q|q<;>simp[q]
 have hl:(X++(key,v0)::Y).length≤8:=ok.len
 refine ⟨Kj hs,⟨rfl,fun e he=>h e (hm e he)⟩,fun x hx=>hr x (hm x hx),⟨Srt.app.2 ⟨s1,(Srt.cons.1 s2).2,fun a ha b hb=>s3 a ha b (by simp[hb])⟩,by simp at hl ⊢;omega,fun e he=>ok.key e (hm e he),fun q=>by cases q⟩,?_⟩
 rw[Bu,BN] at hnd
 rw[Bu]
 exact (List.nodup_cons.1 (List.perm_middle.nodup_iff.1 hnd)).2
theorem Zm {N:Hm} {h:Nat} {lo hi:Int} {L X Y:List E} {e:E} {key:Int} {v0:Nat} (hs:Srt (X++e::Y)) (hr:BG lo hi (X++e::Y)) (hB:Bd N (h+1) (X++e::Y) hi L) (hX:X=[]∨e.1≤key) (hY:∀ x∈Y,key<x.1∧e.1<x.1) (hk:(key,v0)∈L):
  ∃ L0 Lc L2,(Sq (fun c a b L=>Tr N h c a b 4 L) X e.1 L0∧Tr N h e.2 e.1 (nx Y hi) 4 Lc∧Sq (fun c a b L=>Tr N h c a b 4 L) Y hi L2)∧L=L0++(Lc++L2)∧Bt key L=L0++(Bt key Lc++L2)∧(key,v0)∈Lc∧lo≤e.1∧nx Y hi≤hi:=by
 obtain ⟨L0,Lc,L2,rfl,h1,h2,h3⟩:=Sq.at hB
 obtain ⟨s1,s2,s3⟩:=Srt.app.1 hs
 have a1:=Sq.srt h1 s1 (fun x hx=>s3 x hx e (by simp)) (fun _ _ _ _ q=>Tr.srt q)
 have a3:=Sq.srt h3 (Srt.cons.1 s2).2 (fun x hx=>(hr x (by simp[hx])).2) (fun _ _ _ _ q=>Tr.srt q)
 have n0:∀ x∈L0,x.1≠key:=fun x hx=>by
  rcases hX with rfl|hX
  ·simp only[Sq] at h1;subst h1;simp at hx
  ·have:=a1.2.1 x hx;omega
 have n2:∀ x∈L2,x.1≠key:=fun x hx=>by
  cases Y with
  | nil=>simp only[Sq] at h3;subst h3;simp at hx
  | cons y t=>
   have:=a3.2.1 x hx
   have:=hY y (by simp)
   simp only[nx] at *;omega
 refine ⟨L0,Lc,L2,⟨h1,h2,h3⟩,rfl,?_,?_,(hr e (by simp)).1,PA (fun x hx=>(hr x (by simp[hx])).2)⟩
 ·rw[IY,IY,FJ n0,FJ n2]
 ·rcases List.mem_append.1 hk with q|q
  ·exact absurd rfl (n0 _ q)
  ·rcases List.mem_append.1 q with q|q
   ·exact q
   ·exact absurd rfl (n2 _ q)
theorem rm_node {lo hi:Int} {X Y:List E} {e:E} (c2:Nat) (ok:(Nd.mk false (X++e::Y)).Ok) (hr:BG lo hi (X++e::Y)):(Nd.mk false (X++(e.1,c2)::Y)).Ok∧BG lo hi (X++(e.1,c2)::Y):=by
 have hs:Srt (X++e::Y):=ok.srt
 have hn:=I1 (k1:=e.1) c2 hs hr (.inr rfl) (Int.le_refl _) (hr e (by simp)).1
 have hl:(X++e::Y).length≤8:=ok.len
 refine ⟨⟨hn.1,by simp at hl ⊢;omega,fun x hx=> ?_,fun _=>by simp⟩,hn.2⟩
 have hx:x∈X++(e.1,c2)::Y:=hx
 rcases List.mem_append.1 hx with hx|hx
 ·exact ok.key x (by simp[hx])
 ·rcases List.mem_cons.1 hx with rfl|hx
  ·exact ok.key e (by simp)
  ·exact ok.key x (by simp[hx])
theorem rm_pick {n:Nat} {t:TS} {Q:List Nat} {h c2:Nat} {lo hi:Int} {X Y:List E} {k:Int} {L0 Lc L2:List E} {m1:Nat} (ok:(Nd.mk false (X++(k,c2)::Y)).Ok) (r:BG lo hi (X++(k,c2)::Y)) (q0:Sq (fun c a b L=>Tr t.N h c a b 4 L) X k L0) (qc:Tr t.N h c2 k (nx Y hi) m1 Lc) (q2:Sq (fun c a b L=>Tr t.N h c a b 4 L) Y hi L2)
  (h3:3≤m1) (h2:2≤(X++(k,c2)::Y).length) (l0:0≤lo) (h1:hi≤1048576) (hd:(vals (L0++(Lc++L2))).Nodup) (hk:t.k+5<40) (hb:Q.length+30+n≤980):
  ∃ U V f1 f2 m2 m3 M0 Ma Mb M2,X++(k,c2)::Y=U++f1::f2::V∧min (X.length:Int) (((X++(k,c2)::Y).length:Int) - 2)=(U.length:Int)∧L0++(Lc++L2)=M0++(Ma++(Mb++M2))∧MnPre n t Q h lo hi U V f1 f2 m2 m3 M0 Ma Mb M2:=by
 cases Y with
 | cons y Y=>
  obtain ⟨Ly,L3,rfl,hy,q3⟩:=q2
  refine ⟨X,Y,(k,c2),y,m1,4,L0,Lc,Ly,L3,rfl,?_,rfl,ok,r,q0,qc,hy,q3,by omega,l0,h1,?_,hk,hb⟩
  ·simp only[List.length_append,List.length_cons];omega
  ·rw[Bu,Bu,Bu,List.nodup_append] at hd
   have h5:=hd.2.1
   rw[←List.append_assoc,List.nodup_append] at h5
   rw[Bu];exact h5.1
 | nil=>
  have e2:L2=[]:=q2
  subst e2
  rcases List.eq_nil_or_concat X with rfl|⟨X',x,rfl⟩
  ·simp at h2
  ·rw[List.concat_eq_append] at *
   obtain ⟨La,Lb,rfl,qa,Lx,L5,rfl,hx,q5⟩:=Sq.app.1 q0
   have e5:L5=[]:=q5
   subst e5
   refine ⟨X',[],x,(k,c2),4,m1,La,Lx,Lc,[],by simp,?_,by simp,?_,?_,qa,hx,qc,rfl,by omega,l0,h1,?_,hk,hb⟩
   ·simp only[List.length_append,List.length_cons,List.length_nil];omega
   ·rw[List.append_assoc] at ok;exact ok
   ·rw[List.append_assoc] at r;exact r
   ·simp only[Bu,List.append_nil,List.append_assoc,List.nodup_append] at hd ⊢
    simp only[vals,List.map_nil,List.nil_append] at hd ⊢
    exact ⟨hd.2.1.1,hd.2.1.2.1,hd.2.1.2.2⟩
end
section
open Go.RowKit
variable {Tb:Ae}
set_option maxHeartbeats 2000000 in
theorem YB (pp mb n:Nat) (o:TB) (t:TS) (Q:List Nat) (a:Nat) (lo hi:Int) (m:Nat) (key:Int) (v0:Nat) (L:List E) (hP:RmPre n t Q a 0 lo hi m key v0 L):Cn prog 83 [Pt_ pp,Iv_ (a:Int),Iv_ key] [trA Tb pp mb n o (some (t,a::Q))] (fun v Γ=>JJ Tb pp mb n o t Q 0 lo hi m key L v Γ):=by
 intro z R w H;replace H:=H.l1;have K:=H.says 0 rfl (fun h a=>trA.k a)
 have hn:=K.hn
 have hkin:=hP.kin;have h0:=hP.l0;have h1048:=hP.h1;have hdL:=hP.d;have htk:=hP.hk;have htb:=hP.hb
 obtain ⟨hmm1,hmm2⟩:=hP.mm;obtain ⟨es,hN,hm,hrg,hok,hLes,hdt⟩:=hP.T;have hck:CkN true (kL es) (vL es):=K.i.vok (by omega) hn.2 hN
 have hnd:=(K.i.nds a _ hN).2.1
 obtain rfl:es=L:=hLes.symm;refine Ad func83 rfl ntmps83 rfl (Zc 11 rfl (Aw rfl (call121 _) (Io pp mb n o t Q a true es hN (by omega) (by omega)) H ?_));rintro _ w _ (⟨hnone,v1,v2,s,rfl,rfl⟩|⟨t1,c,v1,v2,O,rfl,rfl⟩) H'
 ·have H:=H'.l3;have sv1:=H.says 0 rfl (fun h q=>q.slc)
  have sv2:=H.says 1 rfl (fun h q=>q.slc)
  refine Za 4 [] H rfl ?_;intro b3 w H;refine Zc 1 rfl (Az rfl rfl (Ag 0 H rfl rfl rfl rfl (vs:=[.bool true,v1,v2]) rfl (Ab rfl (Ab sv1.one (Ab sv2.one Ar))) (by kernel_rfl) (by simp) (out:=[.bool true,v1,v2]) rfl) ?_);rintro w H;replace H:=H.l4;refine Z0 20 [3] rfl (Zr rfl ?_);exact ⟨_,.inl ⟨by omega,_,rfl,rfl⟩,H.perm 4 [3] rfl rfl⟩
 ·have H:=H'.l3;have sv1:=H.says 0 rfl (fun h q=>q.slc)
  have sv2:=H.says 1 rfl (fun h q=>q.slc)
  refine Za 4 [] H rfl ?_;intro b4 w H;refine Zc 1 rfl (Az rfl rfl (Ag 0 H rfl rfl rfl rfl (vs:=[.bool true,v1,v2]) rfl (Ab rfl (Ab sv1.one (Ab sv2.one Ar))) (by kernel_rfl) (by simp) (out:=[.bool true,v1,v2]) rfl) ?_);rintro w H;replace H:=H.l4;refine Z2 25 [4,0,0,0,0,3] H rfl (Aw rfl (call73 _) (Ni (es:=es) (fun h q=>q.rd) (fun h q=>q.rd) hok.len hok.srt key) H.f2.f2 ?_);rintro _ w _ (⟨X,vd,Y,⟨hes,hX⟩,rfl,rfl⟩|⟨hno,i0,rfl,rfl⟩) H'
  ·have H:=H'.l4;refine Zc 9 rfl ?_;have hv1:∀ d,t1.N vd≠some (.nd d):=fun d q=>by obtain ⟨b,hb⟩:=hdt (key,vd) (by rw[hes];simp);rw[O.dv vd (by rw[hes];simp[vals]) b hb] at q;cases q
   obtain ⟨hdel,hBd2,hr2,ho2,hd2⟩:=TV (N:=t1.N) (by rw[←hes];exact hok) (by rw[←hes];exact hrg) (fun e he=>by obtain ⟨b,hb⟩:=hdt e (by rw[hes];exact he);exact ⟨b,O.dv _ (by rw[hes];exact List.mem_map_of_mem he) b hb⟩) (by rw[←hes];exact hnd);obtain ⟨ao2,cc2,rfl⟩:=sv2;have hat:=(H.rd 1 rfl (fun h q=>q.rd)).at (j:=X.length) (u:=Iv_ (vd:Int)) (by rw[hes];simp[vL])
   replace H:=(H.mono 3 (B:=trA Tb pp mb n o (some (t1,vd::(c::(vals (X++Y)++Q))))) rfl (fun h q=>q.perm (by rw[hes];exact WP))).l4
   refine Z2 5 [2,2,0] H rfl (Ac rfl (AD rfl (z:=1) (j:=X.length) (r:=X.length) (by kernel_rfl) rfl rfl rfl (by rw[hes];simp) hat (by omega)) (Ac rfl (AR rfl rfl (by kernel_rfl) (AB hat)) (Aw rfl (call84 _) (F7 pp mb n o t1 _ vd hv1) H.f3 ?_)));rintro _ w _ ⟨t2,⟨hS2,hq2,hC2,hN2,hF2⟩,rfl,rfl⟩ H;refine Z2 16 [4,3,3] H rfl ?_;have hvr:∀ v∈vals (X++Y),1≤v∧v<1024:=fun v hv=>by have K2:=H.says 0 rfl (fun h a=>trA.k a);have:=K2.i.rin v (by simp[Cs,hv]);omega
   refine Aw rfl (call124 _) (Yp (lf:=true) (X:=X) (e:=(key,vd)) (Y:=Y) (by rw[←hes];exact (fun h q=>q.rd)) (by rw[←hes];exact (fun h q=>q.rd)) (by rw[←hes];exact hck) (CkN.of ho2 hvr)) H.f2.f2 ?_;rintro _ w _ ⟨v5,v6,rfl,rfl⟩ H;replace H:=H.l6;have sv5:=H.says 0 rfl (fun h q=>q.slc)
   have sv6:=H.says 1 rfl (fun h q=>q.slc)
   refine Zc 3 rfl (Az rfl rfl (Ag 5 H rfl rfl rfl rfl (vs:=[.bool true,v5,v6]) rfl (Ab rfl (Ab sv5.one (Ab sv6.one Ar))) (by kernel_rfl) (by simp) (out:=[.bool true,v5,v6]) rfl) ?_);rintro w H;replace H:=H.l6;refine Z0 14 [4] rfl ?_;replace H:=H.f5;refine AI (Sep z (blk b4 [.bool true,v5,v6] 142::R)) 11 rfl (by kernel_rfl) (Bc H fun w H'=> ?_)
   have H:=H'.l6;refine AM [0,1,2] [1,0,0] [] (by exact (H.pick 6 [0] rfl)) rfl (by kernel_rfl) rfl (B4 3 rfl (by kernel_rfl) (by kernel_rfl) (by kernel_rfl) rfl rfl rfl (CL rfl (sz:=1) (by kernel_rfl) rfl sv5) (H.pick 6 [0] rfl) (AM [4,5,6] [0,3] [] (by exact (H.pick 6 [0] rfl)) rfl (by kernel_rfl) rfl (Av [7] (by kernel_rfl) (by simp) (Au (BL rfl rfl rfl rfl rfl rfl (fun w=>call123 _ w) (Fh pp mb n o t2 Q c true _ _ (X++Y) _ _ (fun h q=>q.rd) (fun h q=>q.rd) 0 lo hi (X++Y).length (X++Y) (hS2.bd (fun v hv=>by simp[hv]) hBd2) rfl hr2 (Nat.le_refl _) ho2 hd2 (hS2.op c (by simp) O.N0 O.C1).2 (hS2.op c (by simp) O.N0 O.C1).1 (by have:=O.st.k;have:=hS2.k;omega)) H.f2.f2.f5 rfl ?_)))));rintro _ w _ ⟨t3,⟨hSt3,hT3,hC3,hN3⟩,rfl,rfl⟩ H;replace H:=H.l6;refine Ap (H.pick 6 [3] rfl) (AM [8,9,10] [] [] (by exact (H.pick 6 [3] rfl)) rfl (by kernel_rfl) rfl (a_done (by kernel_rfl) (gn (Zc 2 rfl (Zr rfl ?_)))));exact ⟨_,.inr ⟨t3,c,X++Y,⟨((O.st.sub (R':=Q) (fun p hp=>hp) (Nat.le_refl _) (Nat.le_refl _)).trans hS2 (R:=Q) (R1:=Q) (fun p hp=>hp) (fun p hp=>by simp[hp]) (e:=1) (f:=1) (by omega) (by omega)).trans hSt3 (fun p hp=>hp) (fun p hp=>hp) (by omega) (by omega),by rw[hes,hdel];exact hT3,by rw[hN3];exact Bx _ _ _,by rw[hC3];exact (hS2.op c (by simp) O.N0 O.C1).2,by have:es.length=X.length+Y.length+1:=(by rw[hes];simp;omega);simp only[List.length_append];omega⟩,congrArg (fun q:Int=>Value.tuple #[Iv_ (c:Int),Iv_ q,Iv_ 0]) (by simp),rfl⟩,H.perm 6 [0] rfl rfl⟩
  ·exact absurd ⟨v0,hkin⟩ hno
set_option maxHeartbeats 4000000 in
theorem YC (pp mb n:Nat) (o:TB) (t:TS) (Q:List Nat) (h:Nat) (ih:∀ (t:TS) (Q:List Nat) (a:Nat) (lo hi:Int) (m:Nat) (key:Int) (v0:Nat) (L:List E),RmPre n t Q a h lo hi m key v0 L→Cn prog 83 [Pt_ pp,Iv_ (a:Int),Iv_ key] [trA Tb pp mb n o (some (t,a::Q))] (fun v Γ=>JJ Tb pp mb n o t Q h lo hi m key L v Γ)) (a:Nat) (lo hi:Int) (m:Nat) (key:Int) (v0:Nat) (L:List E) (hP:RmPre n t Q a (h+1) lo hi m key v0 L):Cn prog 83 [Pt_ pp,Iv_ (a:Int),Iv_ key] [trA Tb pp mb n o (some (t,a::Q))] (fun v Γ=>JJ Tb pp mb n o t Q (h+1) lo hi m key L v Γ):=by
 intro z R w H;replace H:=H.l1;have K:=H.says 0 rfl (fun h a=>trA.k a)
 have hn:=K.hn
 have hkin:=hP.kin;have h0:=hP.l0;have h1048:=hP.h1;have hdL:=hP.d;have htk:=hP.hk;have htb:=hP.hb
 obtain ⟨hmm1,hmm2⟩:=hP.mm;obtain ⟨es,hN,hm,hrg,hok,hBd⟩:=hP.T;refine Ad func83 rfl ntmps83 rfl (Zc 11 rfl (Aw rfl (call121 _) (Io pp mb n o t Q a false es hN (by omega) (by omega)) H ?_));rintro _ w _ (⟨hnone,v1,v2,s,rfl,rfl⟩|⟨t1,c,v1,v2,O,rfl,rfl⟩) H'
 ·have H:=H'.l3;have sv1:=H.says 0 rfl (fun h q=>q.slc)
  have sv2:=H.says 1 rfl (fun h q=>q.slc)
  refine Za 4 [] H rfl ?_;intro b3 w H;refine Zc 1 rfl (Az rfl rfl (Ag 0 H rfl rfl rfl rfl (vs:=[.bool false,v1,v2]) rfl (Ab rfl (Ab sv1.one (Ab sv2.one Ar))) (by kernel_rfl) (by simp) (out:=[.bool false,v1,v2]) rfl) ?_);rintro w H;replace H:=H.l4;refine Z0 20 [3] rfl (Zr rfl ?_);exact ⟨_,.inl ⟨by omega,_,rfl,rfl⟩,H.perm 4 [3] rfl rfl⟩
 ·have H:=H'.l3;have sv1:=H.says 0 rfl (fun h q=>q.slc)
  have sv2:=H.says 1 rfl (fun h q=>q.slc)
  refine Za 4 [] H rfl ?_;intro b4 w H;refine Zc 1 rfl (Az rfl rfl (Ag 0 H rfl rfl rfl rfl (vs:=[.bool false,v1,v2]) rfl (Ab rfl (Ab sv1.one (Ab sv2.one Ar))) (by kernel_rfl) (by simp) (out:=[.bool false,v1,v2]) rfl) ?_);rintro w H;replace H:=H.l4;refine Z2 27 [4,0,0,0,0,3] H rfl (Aw rfl (call74 _) (Kt (es:=es) (fun h q=>q.rd) (fun h q=>q.rd) hok.len hok.srt (hok.ne rfl) key) H.f2.f2 ?_);rintro _ w _ ⟨X,e,Y,⟨hes,hX,hXe,hY⟩,rfl,rfl⟩ H;refine Zc 4 rfl ?_;obtain ⟨ao2,cc2,rfl⟩:=sv2;have hat:=(H.rd 1 rfl (fun h q=>q.rd)).at (j:=X.length) (u:=Iv_ (e.2:Int)) (by rw[hes];simp[vL])
  replace H:=(H.mono 3 (B:=trA Tb pp mb n o (some (t1,e.2::(c::(vals X++(vals Y++Q)))))) rfl (fun h q=>q.perm (by rw[hes];exact TU))).l4
  have hs1:Srt (X++e::Y):=by rw[←hes];exact hok.srt
  have hr1:BG lo hi (X++e::Y):=by rw[←hes];exact hrg
  have ho1:(Nd.mk false (X++e::Y)).Ok:=by rw[←hes];exact hok
  obtain ⟨L0,Lc,L2,⟨hq0,hqc,hq2⟩,hLe,hLd,hkc,hb1,hb4⟩:=Zm hs1 hr1 (by rw[←hes];exact O.bd hBd) hX hY hkin;have hel:X.length+Y.length+1=es.length:=by rw[hes];simp;omega
  have hes8:es.length≤8:=hok.len
  have hdc:(vals Lc).Nodup:=by rw[hLe,Bu,Bu,List.nodup_append] at hdL;have h5:=hdL.2.1;rw[List.nodup_append] at h5;exact h5.1
  refine Z2 5 [2,2,0] H rfl (Ac rfl (AD rfl (z:=1) (j:=X.length) (r:=X.length) (by kernel_rfl) rfl rfl rfl (by rw[hes];simp) hat (by omega)) (Ac rfl (AR rfl rfl (by kernel_rfl) (AB hat)) (Zc 1 rfl (Aw rfl (call83 _) (ih t1 (c::(vals X++(vals Y++Q))) e.2 e.1 (nx Y hi) 4 key v0 Lc ⟨hqc,hkc,by omega,by omega,hdc,⟨by omega,fun _=>by omega⟩,by have:=O.st.k;omega,by simp only[List.length_cons,List.length_append,I2];omega⟩) H.f3 ?_))));rintro _ w _ (⟨hf2,s2,rfl,rfl⟩|⟨t2,c2,es',⟨hSt2,hT2,hN2,hC2,hm2⟩,rfl,rfl⟩) H'
  ·have H:=H'.l4;refine Z0 26 [3] rfl (Zr rfl ?_);exact ⟨_,.inl ⟨by have:=O.st.f;omega,_,rfl,rfl⟩,H.perm 4 [0] rfl rfl⟩
  ·have H:=H'.l4;refine Z0 20 [4] rfl ?_;have hXl:X.length<es.length:=by rw[hes];simp
   have hnev:0<(vL es).length:=by simp only[List.length_map];omega
   obtain ⟨gv_,cap_gv_,rest_gv_,hgq,c1gv_,c2gv_,c3gv_,H'⟩:=H.ungrow 2 rfl hnev;cases hgq;clear H;have H:=H'.l4;refine Z2 5 [2,3,0] H rfl (Ac rfl (Cc rfl (z:=1) (j:=X.length) (r:=X.length) (by kernel_rfl) rfl rfl rfl (by simp only[List.length_map];omega) (by omega)) (Az rfl rfl (Ag 2 H rfl rfl rfl rfl (vs:=[Iv_ (c2:Int)]) rfl (by simp[u8,u32,Value.oneCell']) (by kernel_rfl) (by simp only[List.length_append,List.length_map,List.length_cons,List.length_nil];omega) (out:=(((vL es).set X.length (c2:Int)).map Iv_++rest_gv_)) (Dy (by simp only[List.length_map];omega))) ?_));rintro w H;replace H:=H.l4;refine Zc 4 rfl ?_;have hlv:(vL es).length=(vL (X++(e.1,c2)::Y)).length:=by rw[hes];simp
   have hvs:(vL es).set X.length (c2:Int)=vL (X++(e.1,c2)::Y):=by rw[hes];simp[vL,List.set_append]
   have hke:kL es=kL (X++(e.1,c2)::Y):=by rw[hes];simp[kL]
   have hkl:(kL es).length=es.length:=by simp
   obtain ⟨ho2,hr2⟩:=rm_node c2 ho1 hr1;have hs0:Sq (fun c a b L=>Tr t2.N h c a b 4 L) X e.1 L0:=Sq.st hSt2 (fun v hv=>by simp[hv]) hq0
   have hs2:Sq (fun c a b L=>Tr t2.N h c a b 4 L) Y hi L2:=Sq.st hSt2 (fun v hv=>by simp[hv]) hq2
   have hE2:(X++(e.1,c2)::Y).length=es.length:=by simp only[List.length_append,List.length_cons];omega
   have hcO:=hSt2.op c (by simp) O.N0 O.C1
   have hdL2:(vals (L0++(Bt key Lc++L2))).Nodup:=by rw[←hLd];exact JK hdL
   replace H:=(H.mono 2 (B:=grow 3 1 (.slice (some ⟨gv_,0,none⟩) ((vL es).length) cc2) ((vL es).length) ((vL (X++(e.1,c2)::Y)).map Iv_)) rfl (fun h q=>q.grow (by omega) (by omega) (by simp only[List.length_append,List.length_map,List.length_set];simp only[List.length_map] at *;omega) (by rw[Nat.mul_one,List.take_left' (by simp),hvs]))).l4
   replace H:=(H.mono 0 (B:=trA Tb pp mb n o (some (t2,vals (X++(e.1,c2)::Y)++(c::Q)))) rfl (fun h q=>q.perm Rt)).l4
   refine Z0 4 [0] rfl (Ak 87 rfl (fun h1=> ?_) (fun h1=> ?_))
   ·refine Z2 2 [1,3,0] H rfl (Ac rfl (CL rfl (sz:=1) (by kernel_rfl) rfl sv1) (Z0 4 [0] rfl (Af rfl (fun h2=> ?_) (fun h2=> ?_))))
    ·refine Zc 1 rfl ?_;have hm23:3≤es'.length:=by omega
     obtain ⟨U,V,f1,f2,m2,m3,M0,Ma,Mb,M2,hU,hmin,hMM,hMn⟩:=rm_pick (n:=n) (t:=t2) (Q:=c::Q) ho2 hr2 hs0 hT2 hs2 hm23 (by omega) h0 h1048 hdL2 (by have:=O.st.k;have:=hSt2.k;omega) (by simp only[List.length_cons];omega);replace H:=(H.mono 1 (B:=grow 3 1 v1 ((kL (U++f1::f2::V)).length) ((kL (U++f1::f2::V)).map Iv_)) rfl (fun h q=>by rw[←hU,←hke];exact q)).l4
     replace H:=(H.mono 2 (B:=grow 3 1 (.slice (some ⟨gv_,0,none⟩) ((vL es).length) cc2) ((vL (U++f1::f2::V)).length) ((vL (U++f1::f2::V)).map Iv_)) rfl (fun h q=>by rw[←hU,←hlv];exact q)).l4
     replace H:=(H.mono 0 (B:=trA Tb pp mb n o (some (t2,vals (U++f1::f2::V)++(c::Q)))) rfl (fun h q=>by rw[←hU];exact q)).l4
     refine Z2 6 [3,3,1,3,0] H rfl (Ac rfl (CL rfl (sz:=1) (by kernel_rfl) rfl sv1) (Z1 1 [] [(((kL es).length:Nat):Int) - 2] rfl (by omega) (Ac rfl (I7 rfl rfl rfl) (Al 101 (v:=Iv_ (U.length:Int)) rfl (congrArg Iv_ (by rw[←hmin,hE2,hkl])) (Aw rfl (call125 _) (YA pp mb n o t2 (c::Q) _ _ h lo hi U V f1 f2 m2 m3 M0 Ma Mb M2 hMn) H ?_)))));rintro _ w _ (⟨hf3,v5,v6,es3,s3,rfl,rfl⟩|⟨t3,es3,v5,v6,⟨hSt3,hB3,hr3,ho3,hd3,hl3⟩,rfl,rfl⟩) H'
     ·have H:=H'.l4;have sv5:=H.says 0 rfl (fun h q=>q.slc)
      have sv6:=H.says 1 rfl (fun h q=>q.slc)
      refine Zc 3 rfl (Az rfl rfl (Ag 3 H rfl rfl rfl rfl (vs:=[.bool false,v5,v6]) rfl (Ab rfl (Ab sv5.one (Ab sv6.one Ar))) (by kernel_rfl) (by simp) (out:=[.bool false,v5,v6]) rfl) ?_);rintro w H;replace H:=H.l4;refine Z0 19 [3] rfl (Zr rfl ?_);exact ⟨_,.inl ⟨by have:=O.st.f;have:=hSt2.f;omega,_,rfl,rfl⟩,H.perm 4 [2] rfl rfl⟩
     ·have H:=H'.l4;have sv5:=H.says 0 rfl (fun h q=>q.slc)
      have sv6:=H.says 1 rfl (fun h q=>q.slc)
      refine Zc 3 rfl (Az rfl rfl (Ag 3 H rfl rfl rfl rfl (vs:=[.bool false,v5,v6]) rfl (Ab rfl (Ab sv5.one (Ab sv6.one Ar))) (by kernel_rfl) (by simp) (out:=[.bool false,v5,v6]) rfl) ?_);rintro w H;replace H:=H.l4;refine Z0 13 [4] rfl ?_;have hcO3:=hSt3.op c (by simp) hcO.1 hcO.2
      replace H:=(H.mono 2 (B:=trA Tb pp mb n o (some (t3,c::(vals es3++Q)))) rfl (fun h q=>q.perm K8)).l4
      replace H:=H.f3;refine AI (Sep z (blk b4 [.bool false,v5,v6] 142::R)) 11 rfl (by kernel_rfl) (Bc H fun w H'=> ?_)
      have H:=H'.l4;refine AM [0,1,2] [1,0,0] [] (by exact (H.pick 4 [0] rfl)) rfl (by kernel_rfl) rfl (B4 3 rfl (by kernel_rfl) (by kernel_rfl) (by kernel_rfl) rfl rfl rfl (CL rfl (sz:=1) (by kernel_rfl) rfl sv5) (H.pick 4 [0] rfl) (AM [4,5,6] [0,3] [] (by exact (H.pick 4 [0] rfl)) rfl (by kernel_rfl) rfl (Av [7] (by kernel_rfl) (by simp) (Au (BL rfl rfl rfl rfl rfl rfl (fun w=>call123 _ w) (Fh pp mb n o t3 Q c false _ _ es3 _ _ (fun h q=>q.rd) (fun h q=>q.rd) (h+1) lo hi es3.length (Bt key L) (by rw[hLd,hMM];exact hB3) (by simp) hr3 (Nat.le_refl _) ho3 hd3 hcO3.2 hcO3.1 (by have:=O.st.k;have:=hSt2.k;have:=hSt3.k;omega)) H.f2.f2.f3 rfl ?_)))));rintro _ w _ ⟨t4,⟨hSt4,hT4,hC4,hN4⟩,rfl,rfl⟩ H;replace H:=H.l4;refine Ap (H.pick 4 [3] rfl) (AM [8,9,10] [] [] (by exact (H.pick 4 [3] rfl)) rfl (by kernel_rfl) rfl (a_done (by kernel_rfl) (gn (Zc 2 rfl (Zr rfl ?_)))));exact ⟨_,.inr ⟨t4,c,es3,⟨(((O.st.sub (R':=Q) (fun p hp=>hp) (Nat.le_refl _) (Nat.le_refl _)).trans hSt2 (R:=Q) (R1:=Q) (fun p hp=>hp) (fun p hp=>by simp[hp]) (Nat.le_refl _) (Nat.le_refl _)).trans hSt3 (R:=Q) (R1:=Q) (fun p hp=>hp) (fun p hp=>by simp[hp]) (Nat.le_refl _) (Nat.le_refl _)).trans hSt4 (fun p hp=>hp) (fun p hp=>hp) (by omega) (by omega),hT4,by rw[hN4];simp[Bx],by rw[hC4];exact hcO3.2,by rw[←hU,hE2] at hl3;omega⟩,congrArg (fun q:Int=>Value.tuple #[Iv_ (c:Int),Iv_ q,Iv_ 0]) (by simp),rfl⟩,H.perm 4 [0] rfl rfl⟩
    ·(exfalso;have:=hmm2 (by omega);simp only[List.length_map] at *;omega)
   ·refine Zc 11 rfl ?_;have hB3:Bd t2.N (h+1) (X++(e.1,c2)::Y) hi (L0++(Bt key Lc++L2)):=Sq.mk (e:=(e.1,c2)) hs0 (hT2.mono (Int.le_refl _) (Int.le_refl _) (by omega)) hs2
    replace H:=(H.mono 0 (B:=trA Tb pp mb n o (some (t2,c::(vals (X++(e.1,c2)::Y)++Q)))) rfl (fun h q=>q.perm K8)).l4
    replace H:=(H.mono 1 (B:=grow 3 1 v1 ((kL es).length) ((kL (X++(e.1,c2)::Y)).map Iv_)) rfl (fun h q=>by rw[←hke];exact q)).l4
    replace H:=H.f3;refine AI (Sep z (blk b4 [.bool false,v1,.slice (some ⟨gv_,0,none⟩) ((vL es).length) cc2] 142::R)) 11 rfl (by kernel_rfl) (Bc H fun w H'=> ?_)
    have H:=H'.l4;refine AM [0,1,2] [1,0,0] [] (by exact (H.pick 4 [0] rfl)) rfl (by kernel_rfl) rfl (B4 3 rfl (by kernel_rfl) (by kernel_rfl) (by kernel_rfl) rfl rfl rfl (CL rfl (sz:=1) (by kernel_rfl) rfl sv1) (H.pick 4 [0] rfl) (AM [4,5,6] [0,3] [] (by exact (H.pick 4 [0] rfl)) rfl (by kernel_rfl) rfl (Av [7] (by kernel_rfl) (by simp) (Au (BL rfl rfl rfl rfl rfl rfl (fun w=>call123 _ w) (Fh pp mb n o t2 Q c false _ _ (X++(e.1,c2)::Y) _ _ (fun h q=>by rw[←hke];rw[←hke] at q;exact q.rd) (fun h q=>by rw[←hlv];exact q.rd) (h+1) lo hi (X++(e.1,c2)::Y).length (Bt key L) (by rw[hLd];exact hB3) (by simp) hr2 (Nat.le_refl _) ho2 (hB3.nodup ho2.srt (fun x hx=>(hr2 x hx).2)) hcO.2 hcO.1 (by have:=O.st.k;have:=hSt2.k;omega)) H.f3.f3.f3 rfl ?_)))));rintro _ w _ ⟨t4,⟨hSt4,hT4,hC4,hN4⟩,rfl,rfl⟩ H;replace H:=H.l4;refine Ap (H.pick 4 [3] rfl) (AM [8,9,10] [] [] (by exact (H.pick 4 [3] rfl)) rfl (by kernel_rfl) rfl (a_done (by kernel_rfl) (gn (Zc 2 rfl (Zr rfl ?_)))));exact ⟨_,.inr ⟨t4,c,(X++(e.1,c2)::Y),⟨((O.st.sub (R':=Q) (fun p hp=>hp) (Nat.le_refl _) (Nat.le_refl _)).trans hSt2 (R:=Q) (R1:=Q) (fun p hp=>hp) (fun p hp=>by simp[hp]) (Nat.le_refl _) (Nat.le_refl _)).trans hSt4 (fun p hp=>hp) (fun p hp=>hp) (by omega) (by omega),hT4,by rw[hN4];simp[Bx],by rw[hC4];exact hcO.2,by rw[hE2];omega⟩,congrArg (fun q:Int=>Value.tuple #[Iv_ (c:Int),Iv_ q,Iv_ 0]) (by simp only[List.length_map];omega),rfl⟩,H.perm 4 [0] rfl rfl⟩
end
section
open Go.RowKit
variable {Tb:Ae}
theorem Nn (pp mb n:Nat) (o:TB):∀ (h:Nat) (t:TS) (Q:List Nat) (a:Nat) (lo hi:Int) (m:Nat) (key:Int) (v0:Nat) (L:List E),RmPre n t Q a h lo hi m key v0 L→Cn prog 83 [Pt_ pp,Iv_ (a:Int),Iv_ key] [trA Tb pp mb n o (some (t,a::Q))] (fun v Γ=>JJ Tb pp mb n o t Q h lo hi m key L v Γ)
 | 0=>fun t Q a lo hi m key v0 L hP=>YB pp mb n o t Q a lo hi m key v0 L hP
 | h+1=>fun t Q a lo hi m key v0 L hP=>YC pp mb n o t Q h (Nn pp mb n o h) a lo hi m key v0 L hP
abbrev rootM (h:Nat):Nat:=if h=0 then 1 else 2
theorem Tr.data {N:Hm} {h r:Nat} {lo hi:Int} {m:Nat} {L:List E} (t:Tr N h r lo hi m L):∀ e∈L,∃ b,N e.2=some (.dt b):=by
 induction h generalizing r lo hi m L with
 | zero=>obtain ⟨es,_,_,_,_,rfl,h⟩:=t;exact h
 | succ h ih=>
  obtain ⟨es,_,_,_,_,h5⟩:=t
  have key:∀ (es:List E) (L:List E),Sq (fun c a b L=>Tr N h c a b 4 L) es hi L→∀ e∈L,∃ b,N e.2=some (.dt b):=by
   intro es
   induction es with
   | nil=>intro L q;have q:L=[]:=q;subst q;simp
   | cons e u ih2=>
    rintro _ ⟨L1,L2,rfl,h6,h7⟩ x hx
    rcases List.mem_append.1 hx with hx|hx
    ·exact ih h6 x hx
    ·exact ih2 L2 h7 x hx
  exact key es L h5
theorem delR_none {N:Hm} {h c:Nat} {lo hi:Int} {m:Nat} {L es:List E} {lf:Bool} (t:Tr N h c lo hi m L) (hN:N c=some (.nd ⟨lf,es⟩)) (h0:es.length=0):L=[]:=by
 have he:es=[]:=List.length_eq_zero_iff.1 h0
 subst he
 obtain ⟨es',h1,_,_,h4,h5⟩:=Tr.iff.1 t
 rw[h1] at hN;cases hN
 cases h with
 | zero=>exact h5.1
 | succ h=>exact absurd rfl (h4.ne (by simp))
theorem TW {N:Hm} {h c:Nat} {m:Nat} {L es:List E} {lf:Bool} (t:Tr N h c 0 1048576 m L) (hN:N c=some (.nd ⟨lf,es⟩)) (h1:es.length=1) (hh:h≠0):∃ e h',es=[e]∧h=h'+1∧Tr N h' e.2 0 1048576 4 L:=by
 obtain ⟨e,rfl⟩:=List.length_eq_one_iff.1 h1
 obtain ⟨h',rfl⟩:∃ h',h=h'+1:=⟨h - 1,by omega⟩
 obtain ⟨es',h2,_,h3,h4,h5⟩:=t
 rw[h2] at hN;cases hN
 obtain ⟨L1,L2,rfl,h6,h7⟩:=h5
 have h7:L2=[]:=h7
 subst h7
 have:=h3 e (by simp)
 refine ⟨e,h',rfl,rfl,?_⟩
 rw[List.append_nil]
 exact h6.mono this.1 (Int.le_refl _) (Nat.le_refl _)
theorem root_of {N:Hm} {h r:Nat} {m:Nat} {L:List E} (t:Tr N h r 0 1048576 m L) (hm:rootM h≤m) (hr:r≠0):Root N r L:= .inr ⟨hr,h,t.mono (Int.le_refl _) (Int.le_refl _) hm⟩
theorem DU {r:Nat} (h:r≠0):Bv r=[r]:=by simp[Bv,h]
end
section
open Go.RowKit
variable {Tb:Ae}
theorem TX {n:Nat} {o:TB} {T:TT} (K:TrK n o T) {h r:Nat} {lo hi:Int} {m:Nat} {L:List E} (t:Tr (C3 o T) h r lo hi m L) {key:Int} {v0:Nat} (hk:(key,v0)∈L):1≤v0:=by
 have:∃ b,C3 o T v0=some (.dt b):=Tr.data t (key,v0) hk
 obtain ⟨b,hb⟩:=this
 have:=(K.i.nin v0 _ hb).1
 omega
set_option maxHeartbeats 2000000 in
theorem YD (pp mb n:Nat) (o:TB) (t:TS) (Q:List Nat) (h a:Nat) (key:Int) (L:List E) (hT:Tr t.N h a 0 1048576 (rootM h) L) (hd:(vals L).Nodup) (hk:t.k+6 * h+4<40) (hb:Q.length+10 * h+42+n≤980):Cn prog 46 [Pt_ pp,Iv_ (a:Int),Iv_ key] [trA Tb pp mb n o (some (t,a::Q))] (fun v Γ=>(¬ Co key L∧v= .tuple #[Iv_ (a:Int),.bool false,Iv_ 0]∧Γ=[trA Tb pp mb n o (some (t,a::Q))])∨(cnt t.F 0 1024≤3 * h∧∃ s:TS×List Nat,v= .tuple #[Iv_ 0,.bool false,Iv_ 20]∧Γ=[trA Tb pp mb n o (some s)])∨∃ (t2:TS) (r:Nat),(Co key L∧St t t2 Q (3 * h+2) (6 * h+3)∧Root t2.N r (Bt key L))∧v= .tuple #[Iv_ (r:Int),.bool true,Iv_ 0]∧Γ=[trA Tb pp mb n o (some (t2,Bv r++Q))]):=by
 intro z R w H;replace H:=H.l1;have K:=H.says 0 rfl (fun h a=>trA.k a)
 have hn:=K.hn
 refine Ad func46 rfl ntmps46 rfl (Zc 11 rfl (z_E_ rfl (call79 _) (JI pp mb n o _) H ?_));intro w H;refine Z0 17 [4] rfl (Aw rfl (call41 _) (OL pp mb n o (some (t,a::Q)) key L h a _ _ _ hT) H ?_);rintro _ w _ ⟨(⟨v0,hkin,rfl⟩|⟨hno,rfl⟩),rfl⟩ H'
 ·have H:=H'.l1;refine Zc 9 rfl ?_;have hv00:1≤v0:=TX K hT hkin
  refine Z0 9 [4,0] rfl (Af rfl (fun h1=> ?_) (fun h1=> ?_))
  ·(exfalso;omega)
  ·refine Zc 7 rfl (Aw rfl (call83 _) (Nn pp mb n o h t Q a 0 1048576 (rootM h) key v0 L ⟨hT,hkin,by omega,by omega,hd,⟨by unfold rootM;split<;>omega,fun q=>by unfold rootM;rw[if_neg q];omega⟩,hk,hb⟩) H ?_);rintro _ w _ (⟨hf2,s2,rfl,rfl⟩|⟨t2,c,es',⟨hSt2,hT2,hN2,hC2,hm2⟩,rfl,rfl⟩) H'
   ·have H:=H'.l1;refine Z0 26 [3] rfl (Zr rfl ?_);exact ⟨_,.inr (.inl ⟨hf2,_,rfl,rfl⟩),H.perm 1 [0] rfl rfl⟩
   ·have H:=H'.l1;refine Z0 23 [4] rfl (Aw rfl (call72 _) (JE pp mb n o (some (t2,c::Q)) c (decide (h=0)) es' hN2) H ?_);rintro _ w _ ⟨v1,v2,rfl,rfl⟩ H;replace H:=H.l3;have sv1:=H.says 0 rfl (fun h q=>q.slc)
    have sv2:=H.says 1 rfl (fun h q=>q.slc)
    refine Za 3 [] H rfl ?_;intro b3 w H;refine Az rfl rfl (Ag 0 H rfl rfl rfl rfl (vs:=[.bool (decide (h=0)),v1,v2]) rfl (Ab rfl (Ab sv1.one (Ab sv2.one Ar))) (by kernel_rfl) (by simp) (out:=[.bool (decide (h=0)),v1,v2]) rfl) ?_;rintro w H;replace H:=H.l4;refine Z0 20 [4,0] rfl (Af rfl (fun h2=> ?_) (fun h2=> ?_))
    ·refine Zc 1 rfl ?_;have hes0:es'=[]:=List.length_eq_zero_iff.1 (by omega)
     have O2:=Kq (show TInv n (manyN n+1) t2.N t2.C (c::Q) from (H.says 3 rfl (fun h a=>trA.k a)).i) hC2 hN2
     replace H:=(H.mono 3 (B:=trA Tb pp mb n o (some ({ t2 with N:=fup t2.N c none },c::(vals es'++Q)))) rfl (fun h q=>q.opens hC2 hN2)).l4
     refine Zc 3 rfl (Aw rfl (call84 _) (F7 pp mb n o _ _ c (fun d q=>by simp[fup] at q)) H.f3 ?_);rintro _ w _ ⟨t3,⟨hS3,hq3,hC3,hN3,hF3⟩,rfl,rfl⟩ H;refine Zc 6 rfl (Zr rfl ?_);exact ⟨_,.inr (.inr ⟨t3,0,⟨⟨v0,hkin⟩,(hSt2.trans O2.st (R:=Q) (R1:=Q) (fun p hp=>hp) (fun p hp=>hp) (Nat.le_refl _) (Nat.le_refl _)).trans hS3 (fun p hp=>hp) (fun p hp=>by simp[hp]) (by omega) (by omega),.inl ⟨rfl,delR_none hT2 hN2 (by omega)⟩⟩,rfl,by rw[hes0];rfl⟩),H.perm 4 [0] rfl rfl⟩
    ·refine Z2 6 [0,0,0] H rfl (G0 66 rfl (fun h3=> ?_) (fun h3=> ?_))
     ·have hh0:h≠0:=by simpa using h3
      refine Z0 6 [0] rfl (Af rfl (fun h4=> ?_) (fun h4=> ?_))
      ·refine Zc 1 rfl ?_;obtain ⟨e,h',hes1,hhh,hTe⟩:=TW hT2 hN2 (by omega) hh0;have O2:=Kq (show TInv n (manyN n+1) t2.N t2.C (c::Q) from (H.says 3 rfl (fun h a=>trA.k a)).i) hC2 hN2
       replace H:=(H.mono 3 (B:=trA Tb pp mb n o (some ({ t2 with N:=fup t2.N c none },c::(vals es'++Q)))) rfl (fun h q=>q.opens hC2 hN2)).l4
       obtain ⟨ao2,cc2,rfl⟩:=sv2;have hat:=(H.rd 2 rfl (fun h q=>q.rd)).at (j:=0) (u:=Iv_ (e.2:Int)) (by rw[hes1];simp[vL])
       replace H:=(H.mono 3 (B:=trA Tb pp mb n o (some ({ t2 with N:=fup t2.N c none },c::(e.2::Q)))) rfl (fun h q=>by rw[hes1] at q;exact q)).l4
       replace H:=H.f2.f1;refine AI (Sep z (blk b3 [.bool (decide (h=0)),v1,.slice ao2 ((vL es').length) cc2] 142::grow 3 1 (.slice ao2 ((vL es').length) cc2) ((vL es').length) ((vL es').map Iv_)::R)) 10 rfl (by kernel_rfl) (Bc H fun w H'=> ?_)
       have H:=H'.l4;refine AM [0,1] [2,0,0] [] (by exact (H.pick 4 [0,1] rfl)) rfl (by kernel_rfl) rfl (B4 2 rfl (by kernel_rfl) (by kernel_rfl) (by kernel_rfl) rfl rfl rfl (AD rfl (z:=1) (j:=0) (r:=0) (by kernel_rfl) rfl rfl rfl (by simp only[List.length_map];omega) hat (by omega)) (H.pick 4 [0,1] rfl) (B4 3 rfl (by kernel_rfl) (by kernel_rfl) (by kernel_rfl) rfl rfl rfl (AR rfl rfl (by kernel_rfl) (fun _ hx'=>(hx'.rd 1 rfl (fun h q=>q.rd)).at (j:=0) (u:=Iv_ (e.2:Int)) (by rw[hes1];simp[vL]))) (H.pick 4 [0,1] rfl) (AM [4,5] [] [] (by exact (H.pick 4 [0,1] rfl)) rfl (by kernel_rfl) rfl (Av [6] (by kernel_rfl) (by simp) (Au (BL rfl rfl rfl rfl rfl rfl (fun w=>call84 _ w) (F7 pp mb n o _ _ c (fun d q=>by simp[fup] at q)) H.f3 rfl ?_))))));rintro _ w _ ⟨t3,⟨hS3,hq3,hC3,hN3,hF3⟩,rfl,rfl⟩ H;replace H:=H.l4;refine Ap (H.pick 4 [1,2] rfl) (AM [7,8,9] [] [] (by exact (H.pick 4 [1,2] rfl)) rfl (by kernel_rfl) rfl (a_done (by kernel_rfl) (gn (Zc 2 rfl (Zr rfl ?_)))));have hr0:manyN n+1≤e.2:=by have K3:=H.says 0 rfl (fun h a=>trA.k a);exact (K3.i.rin e.2 (by simp[Cs])).1
       exact ⟨_,.inr (.inr ⟨t3,e.2,⟨⟨v0,hkin⟩,(hSt2.trans O2.st (R:=Q) (R1:=Q) (fun p hp=>hp) (fun p hp=>hp) (Nat.le_refl _) (Nat.le_refl _)).trans hS3 (fun p hp=>hp) (fun p hp=>by simp[hp]) (by omega) (by omega),root_of (hS3.fr e.2 (by simp) _ _ _ _ _ (O2.fv e.2 (by rw[hes1];simp[vals]) _ _ _ _ _ hTe)) (by unfold rootM;split<;>omega) (by omega)⟩,rfl,by rw[DU (show e.2≠0 by omega)];rfl⟩),H.perm 4 [0] rfl rfl⟩
      ·refine Zc 12 rfl (Zr rfl ?_);have hr0:manyN n+1≤c:=by have K3:=H.says 3 rfl (fun h a=>trA.k a);exact (K3.i.rin c (by simp[Cs])).1
       exact ⟨_,.inr (.inr ⟨t2,c,⟨⟨v0,hkin⟩,hSt2.sub (fun p hp=>hp) (by omega) (by omega),root_of hT2 (by unfold rootM;split<;>omega) (by omega)⟩,rfl,by rw[DU (show c≠0 by omega)];rfl⟩),H.perm 4 [3] rfl rfl⟩
     ·have hh1:h=0:=by simpa using h3
      refine Zc 19 rfl (Zr rfl ?_);have hr0:manyN n+1≤c:=by have K3:=H.says 3 rfl (fun h a=>trA.k a);exact (K3.i.rin c (by simp[Cs])).1
      exact ⟨_,.inr (.inr ⟨t2,c,⟨⟨v0,hkin⟩,hSt2.sub (fun p hp=>hp) (by omega) (by omega),root_of hT2 (by unfold rootM;split<;>omega) (by omega)⟩,rfl,by rw[DU (show c≠0 by omega)];rfl⟩),H.perm 4 [3] rfl rfl⟩
 ·have H:=H'.l1;refine Z0 29 [4,3] rfl (Zr rfl ?_);exact ⟨_,.inl ⟨hno,rfl,rfl⟩,H.perm 1 [0] rfl rfl⟩
theorem YE (pp mb n:Nat) (o:TB) (s:TS×List Nat) (key:Int):Cn prog 46 [Pt_ pp,Iv_ 0,Iv_ key] [trA Tb pp mb n o (some s)] (fun v Γ=>v= .tuple #[Iv_ 0,.bool false,Iv_ 0]∧Γ=[trA Tb pp mb n o (some s)]):=by
 intro z R w H;replace H:=H.l1;refine Ad func46 rfl ntmps46 rfl (Zc 11 rfl (z_E_ rfl (call79 _) (JI pp mb n o _) H ?_));intro w H;refine Z0 17 [4] rfl (z_E_ rfl (call41 _) (OM _ _) H ?_);intro w H;refine Z0 29 [4,3] rfl (Zr rfl ?_);exact ⟨_,⟨rfl,rfl⟩,H⟩
end
section
open Go.RowKit
variable {Tb:Ae}
def pkI (c:Int) (N:Nat):Nat:=((if c<0 then -(c+1) else c).tmod N).toNat
theorem YF (c:Int) {N:Nat} (h:0<N):pkI c N<N:=by
 unfold pkI
 have h1:(0:Int)≤if c<0 then -(c+1) else c:=by split<;>omega
 have h2:=Int.tmod_lt_of_pos (if c<0 then -(c+1) else c) (by omega:(0:Int)<(N:Int))
 have h3:=Int.tmod_nonneg (N:Int) h1
 omega
theorem Ru {n:Nat} (h:16≤n∧n≤1024):(B9 (n:Int) 1030 128 2).Ok ((1200:Nat):Int):=
 Sup.ok_mk (by show 0≤(2:Int)∧(2:Int)≤1099511627776;omega) (by show 0≤(1:Int)∧(1:Int)≤1099511627776;omega) (by show 16≤(n:Int)∧(n:Int)≤1024;omega) (by show 2+(n:Int)≤1030∧(1030:Int)≤1099511627776;omega) (by show 64≤(128:Int)∧(128:Int)≤1099511627776;omega) (by show 0≤(0:Int)∧(0:Int)<128;omega) (by show 0≤(1:Int)∧(1:Int)≤1099511627776;omega) (by show (1030:Int)≤((1200:Nat):Int) - 128∧(128:Int)≤((1200:Nat):Int);omega)
theorem K9 {n:Nat} {bs:List UInt8} (hbs:bs.length=256) {M:Nat→Pg} (hM:M=Db (fun _=>noPg) (some (gF n (bs.take 240) (manyN n),1+manyN n))):M 0=⟨1,bs.take 240⟩∧∀ i,i<manyN n→M (1+i)=CY (C1 (manyN n+1)) n i:=by
 subst hM
 refine ⟨rfl,fun i hi=> ?_⟩
 simp only[Db,gF]
 rw[if_neg (by omega),if_pos (by omega),show 1+i - 1=i by omega];rfl
def JL (n:Nat):TB:=⟨fun _=>none,C1 (manyN n+1),[]⟩
theorem Ld (p:Nat):∀ n,EX (fun _=>none) p n=0
 | 0=>rfl
 | n+1=>by simp only[EX,Ld p n];rfl
theorem WQ (n:Nat) (M:Nat→Pg):Rel n M (JL n).N (JL n).C (JL n).R:=
 ⟨fun p c h=>(by cases h),⟨fun p h1 h2=>(by show C1 (manyN n+1) p=_;unfold C1;rw[if_neg (by omega)];simp[JL,Ld]),fun p h=>(by cases h),fun q c h=>(by cases h),fun q d h=>(by cases h),fun q d h=>(by cases h)⟩⟩
end
section
open Go.RowKit
def cutZ (z:Nat) (ao:Option Addr) (c p:Nat):Option Addr:=if c=p then ao else ao.map (·.add (p * z))
theorem rdH.cutZ {z:Nat} {ao:Option Addr} {n c p m:Nat} {xs:List Value} {h:Hp} (r:rdH z (.slice ao n c) n xs h) (hz:0<z) (h1:p+m≤n) (h2:n≤c):rdH z (.slice (YtjegbnfpodadcaaGreatDoor.cutZ z ao c p) m (c - p)) m ((xs.drop (p * z)).take (m * z)) h:=by
 obtain ⟨ao',c',e,q1,q2,q3,q4⟩:=r
 cases e
 have hmz:p * z+m * z≤n * z:=by rw[←Nat.add_mul];exact Nat.mul_le_mul_right _ h1
 refine ⟨_,_,rfl,by omega,by omega,by simp;omega,fun j u hj=> ?_⟩
 have hjm:j<m * z:=by
  have:=(List.getElem?_eq_some_iff.1 hj).1
  simp at this;omega
 obtain ⟨b,o,rfl,hc⟩:=q4 (p * z+j) u (by
  rw[List.getElem?_take,if_pos hjm,List.getElem?_drop] at hj
  exact hj)
 have hm0:0<m:=Nat.pos_of_ne_zero fun e=>by subst e;omega
 refine ⟨b,o+p * z,?_,by rw[Nat.add_assoc];exact hc⟩
 unfold YtjegbnfpodadcaaGreatDoor.cutZ
 rw[if_neg (by omega)]
 simp only[Option.map_some]
 unfold Addr.add;split
 ·rename_i h0;simp[h0]
 ·rfl
theorem rdH.slcapZ {z:Nat} {ao:Option Addr} {n c:Nat} {xs:List Value} {h:Hp} (r:rdH z (.slice ao n c) n xs h):n≤c∧c≤9223372036854775807∧xs.length=n * z:=by
 obtain ⟨ao',c',e,q1,q2,q3,q4⟩:=r
 cases e;exact ⟨q1,q2,q3⟩
section
variable {P:Program} {C:World→Prop} {o:Oper} {n:Nat} {ds:List Deferred} {L:List (Nat×Value)} {x y:Operand}
theorem Hh {z:Nat} {t:TypeId} {lo hi:Option Operand} {ao:Option Addr} {l c p q l' c':Nat} (ho:o.op= .slice t x lo hi none) (ht:CK P t=some z)
  (hx:ev L x=some (.slice ao l c)) (hlo:(lo=none∧p=0)∨∃ y k i,lo=some y∧ev L y=some (.int k i)∧i=(p:Int)) (hhi:(hi=none∧q=l)∨∃ y k i,hi=some y∧ev L y=some (.int k i)∧i=(q:Int)) (hpq:p≤q) (hqc:q≤c)
  (h2:q - p=l') (h3:c - p=c'):Ao P C n ds L o (.slice (cutZ z ao c p) l' c'):=by
 subst h2 h3
 exact HR ho ht hx hlo hhi hpq hqc
end
def getE (k:Int):List E→Nat
 | []=>0
 | e::t=>if e.1=k then e.2 else getE k t
theorem TY {L:List E} (hs:Srt L) (key:Int) (val:Nat):putE key val (Bt key L)=putE key val L:=by
 rcases key_split hs key with ⟨X,v,Y,rfl,h1⟩|⟨h0,X,Y,rfl,h1,h2⟩
 ·rw[Kj hs,Dz _ h1]
  have h3:∀ e∈Y,key<e.1:=fun e he=>(Srt.cons.1 (Srt.app.1 hs).2.1).1 e he
  exact putE_new h1 h3
 ·rw[FJ (fun e he=>by
   rcases List.mem_append.1 he with q|q
   ·have:=h1 e q;omega
   ·have:=h2 e q;omega)]
theorem YG {L:List E} (hs:Srt L) (key:Int) (val:Nat) {i:Nat} (h1:∀ (j:Nat) (e:E),j<i→(Bt key L)[j]? =some e→e.1<key) (h2:∀ e,(Bt key L)[i]? =some e→key≤e.1):
  putE key val L=(Bt key L).take i++(key,val)::(Bt key L).drop i:=by
 have hs':Srt (Bt key L):=List.Pairwise.sublist List.filter_sublist hs
 have hk:∀ e∈Bt key L,e.1≠key:=fun e he=>by simpa [Bt] using (List.mem_filter.1 he).2
 rw[←TY hs]
 refine (congrArg (putE key val) (List.take_append_drop i _).symm).trans (putE_new (fun e he=> ?_) (fun e he=> ?_))
 ·obtain ⟨j,hj⟩:=List.getElem?_of_mem he
  rw[List.getElem?_take] at hj
  split at hj
  ·exact h1 j e (by assumption) hj
  ·cases hj
 ·have h3:=hk e (List.mem_of_mem_drop he)
  have h4:Srt ((Bt key L).drop i):=List.Pairwise.sublist (List.drop_sublist _ _) hs'
  cases hd:(Bt key L).drop i with
  | nil=>rw[hd] at he;cases he
  | cons x t=>
   rw[hd] at he h4
   have h5:key≤x.1:=h2 x (by
    have:((Bt key L).drop i)[0]? =some x:=by rw[hd];rfl
    rwa[List.getElem?_drop,Nat.add_zero] at this)
   rcases List.mem_cons.1 he with rfl|q
   ·omega
   ·have:=(Srt.cons.1 h4).1 e q;omega
end
section
open Go.RowKit
variable {Tb:Ae}
variable {z w:World} {Γ:List Ae} {pp mb n:Nat} {o:TB} {t t':TS} {R:List Nat} {T:TT}
structure LwI (n:Nat) (o:TB) (a:Nat) (L:List E) (Q:List Nat):Prop where
 n:n≤639
 q:Q.length≤100
 root:Root o.N a L
 nd:(vals L).Nodup
 r:o.R=Bv a++Q
theorem Tr.many {N:Hm} {h r:Nat} {lo hi:Int} {m:Nat} {L:List E} (t:Tr N h r lo hi m L):m * 4 ^ h≤L.length:=by
 induction h generalizing r lo hi m L with
 | zero=>obtain ⟨es,h1,h2,_,_,rfl,_⟩:=t;simpa using h2
 | succ h ih=>
  obtain ⟨es,h1,h2,_,_,h5⟩:=t
  have ep:4 ^ (h+1)=4 * 4 ^ h:=by rw[Nat.pow_succ,Nat.mul_comm]
  have key:∀ (es:List E) (L:List E),Sq (fun c a b L=>Tr N h c a b 4 L) es hi L→es.length * 4 ^ (h+1)≤L.length:=by
   intro es
   induction es with
   | nil=>intro L q;simp
   | cons e u ih2=>
    rintro _ ⟨L1,L2,rfl,q1,q2⟩
    have a:=ih q1
    have b:=ih2 L2 q2
    rw[List.length_cons,List.length_append,Nat.add_mul,Nat.one_mul,ep]
    rw[ep] at b
    omega
  exact Nat.le_trans (Nat.mul_le_mul_right _ h2) (key es L h5)
theorem Tr.low3 {f:Nat} {N:Hm} {C:Nat→Nat} (I:TInv n f N C R) {h r:Nat} {lo hi:Int} {m:Nat} {L:List E} (t:Tr N h r lo hi m L) (hm:(if h=0 then 1 else 2)≤m) (hd:(vals L).Nodup) (hn:n≤639):h≤3:=by
 rcases Nat.lt_or_ge h 4 with q|q
 ·omega
 ·exfalso
  rw[if_neg (by omega)] at hm
  obtain ⟨a1,a2,a3⟩:=PD t (by omega)
  have hs:=t.srt.1
  rw[←a1] at hs
  have hdl:=JH hs (fun p hp=>(a2 p hp).1)
  have hdt:=t.data
  have hnd:(Cu N h r++vals L).Nodup:=by
   rw[List.nodup_append]
   refine ⟨hdl,hd,fun x hx y hy e=> ?_⟩
   obtain ⟨d,hd⟩:=(a2 x hx).2
   obtain ⟨e',he,rfl⟩:=List.mem_map.1 hy
   obtain ⟨b,hb⟩:=hdt e' he
   rw[e,hb] at hd;cases hd
  have hl:=Nm hnd (fun p hp=>by
   rcases List.mem_append.1 hp with hp|hp
   ·obtain ⟨d,hd⟩:=(a2 p hp).2;exact (I.nin p _ hd).2.1
   ·obtain ⟨e',he,rfl⟩:=List.mem_map.1 hp
    obtain ⟨b,hb⟩:=hdt e' he
    exact (I.nin _ _ hb).2.1)
  have a4:=t.many
  have p1:4 ^ 4≤4 ^ h:=Nat.pow_le_pow_right (by omega) q
  have p2:4 ^ 3≤4 ^ (h - 1):=Nat.pow_le_pow_right (by omega) (by omega)
  have h2:2 * 4 ^ h≤m * 4 ^ h:=Nat.mul_le_mul_right _ hm
  have h3:2 * 4 ^ (h - 1)≤m * 4 ^ (h - 1):=Nat.mul_le_mul_right _ hm
  rw[if_neg (by omega),Nat.mul_one] at a3
  simp only[List.length_append,vals,List.length_map] at hl
  omega
theorem Root.low3 {N:Hm} {C:Nat→Nat} {f a:Nat} {L:List E} (I:TInv n f N C R) (h:Root N a L) (ha:a≠0) (hd:(vals L).Nodup) (hn:n≤639):∃ h,Tr N h a 0 1048576 (rootM h) L∧h≤3:=by
 rcases h with ⟨e,_⟩|⟨_,h,hT⟩
 ·exact absurd e ha
 ·exact ⟨h,hT,hT.low3 I (Nat.le_refl _) hd hn⟩
theorem Root.srt {N:Hm} {a:Nat} {L:List E} (h:Root N a L):Srt L∧BG 0 1048576 L:=by
 rcases h with ⟨_,rfl⟩|⟨_,h,hT⟩
 ·exact ⟨by simp[Srt],by simp[BG]⟩
 ·exact hT.srt
theorem Root.data {N:Hm} {a:Nat} {L:List E} (h:Root N a L):∀ e∈L,∃ b,N e.2=some (.dt b):=by
 rcases h with ⟨_,rfl⟩|⟨_,h,hT⟩
 ·simp
 ·exact hT.data
def Kp (N N':Hm) (Q:List Nat):Prop:=∀ c∈Q,∀ L,Root N c L→Root N' c L
theorem Kp.of {N N':Hm} {Q:List Nat} (h:∀ c∈Q,∀ h lo hi m L,Tr N h c lo hi m L→Tr N' h c lo hi m L):Kp N N' Q:=fun c hc L q=>by
 rcases q with q|⟨h0,h1,hT⟩
 ·exact .inl q
 ·exact .inr ⟨h0,h1,h c hc _ _ _ _ _ hT⟩
theorem Np {F G:Nat→Bool} (h:∀ q,F q=true→G q=true) (a:Nat):∀ n,cnt F a n≤cnt G a n
 | 0=>Nat.le_refl _
 | n+1=>by
  have:=Np h a n
  have h2:(F (a+n)).toNat≤(G (a+n)).toNat:=by
   cases e:F (a+n) with
   | false=>simp
   | true=>rw[h _ e];simp
  simp only[cnt];omega
theorem TrK.free {n:Nat} {o:TB} {t:TS} {R:List Nat} (K:TrK n o (some (t,R))):cnt t.F 0 1024≤cnt (AS n t.C) 0 1024:=
 Np (fun q hq=>by
  obtain ⟨h1,h2,_⟩:=K.fr q hq
  simp only[AS];exact decide_eq_true ⟨h1,h2⟩) 0 1024
theorem UI (pp mb n:Nat) (o:TB) (t:TS) (Q:List Nat) (a:Nat) (key:Int) (val:Nat) (b:List UInt8) (L:List E) (hR:Root t.N a L) (hn:n≤639) (hd:(vals L).Nodup) (hkk:0≤key∧key<1048576) (hvd:t.N val=some (.dt b)) (hnv:∀ q d,t.N q=some (.nd d)→val∉vals d.es) (hk:t.k≤20) (hb:Q.length≤100):
  Cn prog 45 [Pt_ pp,Iv_ (a:Int),Iv_ key,Iv_ (val:Int)] [trA Tb pp mb n o (some (t,val::(Bv a++Q)))] (fun v Γ=>(cnt t.F 0 1024≤10∧∃ s:TS×List Nat,v= .tuple #[Iv_ 0,Iv_ 20]∧Γ=[trA Tb pp mb n o (some s)])∨
   ∃ (t2:TS) (r:Nat),(St t t2 Q 11 16∧Root t2.N r (putE key val L)∧cnt t2.F 0 1024≤cnt (AS n t2.C) 0 1024)∧v= .tuple #[Iv_ (r:Int),Iv_ 0]∧Γ=[trA Tb pp mb n o (some (t2,Bv r++Q))]):=by
 intro z R' w H
 have K:=H.says 0 rfl (fun h a=>trA.k a)
 by_cases ha:a=0
 ·subst ha
  have hL:L=[]:=by rcases hR with ⟨_,e⟩|⟨e,_⟩;exact e;exact absurd rfl e
  subst hL
  refine Ret.mono (Cn.at (Yw pp mb n o t Q key val b hkk hvd (by omega)) H 1 [0] rfl rfl) ?_
  rintro v w' ⟨Γ',(⟨h0,s,rfl,rfl⟩|⟨t2,r,⟨h1,h2⟩,rfl,rfl⟩),H'⟩
  ·exact ⟨_,.inl ⟨by omega,s,rfl,rfl⟩,H'⟩
  ·have K2:=H'.says 0 rfl (fun h a=>trA.k a)
   have hr:r≠0:=by have:=(K2.i.rin r (by simp[Cs])).1;omega
   exact ⟨_,.inr ⟨t2,r,⟨h1.sub (fun p hp=>hp) (by omega) (by omega),.inr ⟨hr,0,h2⟩,K2.free⟩,rfl,by rw[DU hr];rfl⟩,H'⟩
 ·obtain ⟨h,hT,hh⟩:=hR.low3 K.i ha hd hn
  have H2:=H.mono 0 (B:=trA Tb pp mb n o (some (t,a::val::Q))) rfl (fun h q=>q.perm (by rw[DU ha];exact List.Perm.swap _ _ _))
  have hk3:t.k+3 * h+3<40:=by omega
  refine Ret.mono (Cn.at (Yx pp mb n o t Q h a (rootM h) key val L ⟨hT,hkk,by omega,by omega,⟨b,hvd⟩,hnv,hk3,by omega⟩) H2 1 [0] rfl rfl) ?_
  rintro v w' ⟨Γ',(⟨h0,s,rfl,rfl⟩|⟨t2,r,⟨h1,h2⟩,rfl,rfl⟩),H'⟩
  ·exact ⟨_,.inl ⟨by omega,s,rfl,rfl⟩,H'⟩
  ·have K2:=H'.says 0 rfl (fun h a=>trA.k a)
   have hr:r≠0:=by have:=(K2.i.rin r (by simp[Cs])).1;omega
   refine ⟨_,.inr ⟨t2,r,⟨h1.sub (fun p hp=>hp) (by omega) (by omega),?_,K2.free⟩,rfl,by rw[DU hr];rfl⟩,H'⟩
   rcases h2 with h2|h2
   ·exact root_of h2 (Nat.le_refl _) hr
   ·exact root_of h2 (by unfold rootM;rw[if_neg (by omega)];omega) hr
theorem Zn (pp mb n:Nat) (o:TB) (t:TS) (Q:List Nat) (a:Nat) (key:Int) (L:List E) (hR:Root t.N a L) (hd:(vals L).Nodup) (hn:n≤639) (hk:t.k≤10) (hb:Q.length≤100):
  Cn prog 46 [Pt_ pp,Iv_ (a:Int),Iv_ key] [trA Tb pp mb n o (some (t,Bv a++Q))] (fun v Γ=>(¬ Co key L∧v= .tuple #[Iv_ (a:Int),.bool false,Iv_ 0]∧Γ=[trA Tb pp mb n o (some (t,Bv a++Q))])∨(cnt t.F 0 1024≤12∧∃ s:TS×List Nat,v= .tuple #[Iv_ 0,.bool false,Iv_ 20]∧Γ=[trA Tb pp mb n o (some s)])∨
   ∃ (t2:TS) (r:Nat),(Co key L∧St t t2 Q 12 27∧Root t2.N r (Bt key L)∧cnt t2.F 0 1024≤cnt (AS n t2.C) 0 1024)∧v= .tuple #[Iv_ (r:Int),.bool true,Iv_ 0]∧Γ=[trA Tb pp mb n o (some (t2,Bv r++Q))]):=by
 intro z R' w H
 have K:=H.says 0 rfl (fun h a=>trA.k a)
 by_cases ha:a=0
 ·subst ha
  have hL:L=[]:=by rcases hR with ⟨_,e⟩|⟨e,_⟩;exact e;exact absurd rfl e
  subst hL
  refine Ret.mono (Cn.at (YE pp mb n o _ key) H 1 [0] rfl rfl) ?_
  rintro v w' ⟨Γ',⟨rfl,rfl⟩,H'⟩
  exact ⟨_,.inl ⟨fun ⟨v,hv⟩=>(by cases hv),rfl,rfl⟩,H'⟩
 ·obtain ⟨h,hT,hh⟩:=hR.low3 K.i ha hd hn
  have e:Bv a++Q=a::Q:=by rw[DU ha];rfl
  rw[e] at H
  rw[e]
  refine Ret.mono (Cn.at (YD pp mb n o t Q h a key L hT hd (by omega) (by omega)) H 1 [0] rfl rfl) ?_
  rintro v w' ⟨Γ',(⟨h0,rfl,rfl⟩|⟨h0,s,rfl,rfl⟩|⟨t2,r,⟨h0,h1,h2⟩,rfl,rfl⟩),H'⟩
  ·exact ⟨_,.inl ⟨h0,rfl,rfl⟩,H'⟩
  ·exact ⟨_,.inr (.inl ⟨by omega,s,rfl,rfl⟩),H'⟩
  ·exact ⟨_,.inr (.inr ⟨t2,r,⟨h0,h1.sub (fun p hp=>hp) (by omega) (by omega),h2,(H'.says 0 rfl (fun h a=>trA.k a)).free⟩,rfl,rfl⟩),H'⟩
theorem Fc {L:List E} {key:Int} (h:∀ e∈L,1≤e.2):(getE key L≠0↔Co key L)∧(∀ v,(key,v)∈L→Srt L→getE key L=v):=by
 induction L with
 | nil=>exact ⟨⟨fun q=>absurd rfl q,fun ⟨v,q⟩=>by cases q⟩,fun v q=>by cases q⟩
 | cons e t ih=>
  have ih:=ih (fun x hx=>h x (by simp[hx]))
  have he:=h e (by simp)
  simp only[getE]
  split
  ·rename_i hk
   refine ⟨⟨fun _=>⟨e.2,?_⟩,fun _=>by omega⟩,fun v hv hs=> ?_⟩
   ·rw[←hk];simp
   ·rcases List.mem_cons.1 hv with q|q
    ·rw[←q]
    ·have:=(Srt.cons.1 hs).1 _ q;dsimp only at this;omega
  ·rename_i hk
   refine ⟨ih.1.trans ⟨fun ⟨v,q⟩=>⟨v,by simp[q]⟩,fun ⟨v,q⟩=> ?_⟩,fun v hv hs=> ?_⟩
   ·rcases List.mem_cons.1 q with q|q
    ·subst q;exact absurd rfl hk
    ·exact ⟨v,q⟩
   ·rcases List.mem_cons.1 hv with q|q
    ·subst q;exact absurd rfl hk
    ·exact ih.2 v q (Srt.cons.1 hs).2
theorem JM {L:List E} (hs:Srt L) {key:Int} {val:Nat} (hd:(vals L).Nodup) (hv:val∉vals L):(vals (putE key val L)).Nodup:=by
 rcases key_split hs key with ⟨X,v,Y,rfl,h1⟩|⟨h0,_⟩
 ·rw[Dz _ h1]
  rw[Bu,BN] at hd hv ⊢
  simp only[List.mem_append,List.mem_cons,not_or] at hv
  rw[List.nodup_append,List.nodup_cons] at hd ⊢
  obtain ⟨a,⟨b,c⟩,d⟩:=hd
  refine ⟨a,⟨hv.2.2,c⟩,fun x hx y hy=> ?_⟩
  rcases List.mem_cons.1 hy with rfl|hy
  ·exact fun e=>hv.1 (by rw[←e];exact hx)
  ·exact d x hx y (by simp[hy])
 ·rw[(Gm hs val h0).1.nodup_iff,List.nodup_cons];exact ⟨hv,hd⟩
theorem Ez {n f:Nat} {N:Hm} {C:Nat→Nat} (I:TInv n f N C R) (hf:1≤f) {L:List E} (hd:∀ e∈L,∃ b,N e.2=some (.dt b)):∀ e∈L,1≤e.2∧e.2<n:=fun e he=>by
 obtain ⟨b,hb⟩:=hd e he
 have:=I.nin _ _ hb;omega
theorem OP {n f:Nat} {N:Hm} {C:Nat→Nat} (I:TInv n f N C R) (hf:1≤f) {L:List E} (hd:∀ e∈L,∃ b,N e.2=some (.dt b)) (hn:(vals L).Nodup):L.length≤n:=by
 have:=Nm hn (fun p hp=>by
  obtain ⟨e,he,rfl⟩:=List.mem_map.1 hp
  exact (Ez I hf hd e he).2)
 simpa [vals] using this
theorem LwI.done {a r:Nat} {L L2:List E} {Q:List Nat} {o2:TB} (h:LwI n o a L Q) (hr:Root o2.N r L2) (hd:(vals L2).Nodup) (hR:o2.R=Bv r++Q):LwI n o2 r L2 Q:=⟨h.n,h.q,hr,hd,hR⟩
end
section
open Go.RowKit
variable {Tb:Ae}
end
section
open Go.RowKit
variable {Tb:Ae}
end
section
open Go.RowKit
variable {Tb:Ae}
end
section
open Go.RowKit
variable {Tb:Ae}
variable {z w:World} {Γ:List Ae} {pp mb n f:Nat} {o:TB} {T:TT} {N:Hm} {C:Nat→Nat} {R:List Nat}
theorem Rv (pp mb n:Nat) (o:TB) (T:TT) (a:Nat) (key:Int) (L:List E) (hR:Root (C3 o T) a L):Cn prog 41 [Pt_ pp,Iv_ (a:Int),Iv_ key] [trA Tb pp mb n o T] (fun v Γ=>v= .tuple #[Iv_ (getE key L:Int),Iv_ 0]∧Γ=[trA Tb pp mb n o T]):=by
 intro z R' w H
 have K:=H.says 0 rfl (fun h a=>trA.k a)
 have hp:∀ e∈L,1≤e.2:=fun e he=>(Ez K.i (by omega) hR.data e he).1
 have hg:=Fc (key:=key) hp
 have hno:¬ Co key L→getE key L=0:=fun q=>Classical.byContradiction fun r=>q (hg.1.1 r)
 by_cases ha:a=0
 ·subst ha
  have hL:L=[]:=by rcases hR with ⟨_,e⟩|⟨e,_⟩;exact e;exact absurd rfl e
  subst hL
  refine Ret.mono (Cn.at (OM pp key) H 0 [] rfl rfl) ?_
  rintro v w' ⟨Γ',⟨rfl,rfl⟩,H'⟩
  exact ⟨_,⟨rfl,rfl⟩,H'⟩
 ·rcases hR with ⟨e,_⟩|⟨_,h,t⟩
  ·exact absurd e ha
  refine Ret.mono (Cn.at (OL pp mb n o T key L h a _ _ _ t) H 1 [0] rfl rfl) ?_
  rintro v w' ⟨Γ',⟨(⟨v0,hv,rfl⟩|⟨hv,rfl⟩),rfl⟩,H'⟩
  ·exact ⟨_,⟨by rw[hg.2 v0 hv t.srt.1],rfl⟩,H'⟩
  ·exact ⟨_,⟨by rw[hno hv];rfl,rfl⟩,H'⟩
theorem Sep.trTab (H:Sep z (trA Tb pp mb n o none::Γ) w):Gp Tb∧Sep z (Tb::Γ) w:=by
 obtain ⟨M0,_,H⟩:=H.tr0
 obtain ⟨X,hX,H⟩:=H.po
 refine ⟨hX.tab.2▸hX.tab.1,?_⟩
 have h:=H.pick 7 [6] rfl
 rw[←hX.tab.2];exact h
end
section
open Go.RowKit
variable {Tb:Ae}
theorem Zo {n:Nat} (hn:n≤639):LwI n (JL n) 0 [] []:=⟨hn,by simp,.inl ⟨rfl,rfl⟩,by simp[vals],rfl⟩
end
section
open Go.RowKit
variable {Tb:Ae}
abbrev Bk:=Int×List UInt8
def Rw:Option Pc→List UInt8
 | some (.dt b)=>b
 | _=>[]
def Bz (N:Hm) (L:List E):List Bk:=L.map fun e=>(e.1,(Rw (N e.2)).take 64)
def JN:List UInt8:=List.replicate 64 0
def Di (k:Int):List Bk→List UInt8
 | []=>JN
 | b::t=>if b.1=k then b.2 else Di k t
def Gs (k:Int) (V:List Bk):Prop:=∃ b∈V,b.1=k
instance (k:Int) (V:List Bk):Decidable (Gs k V):=inferInstanceAs (Decidable (∃ b∈V,b.1=k))
def Ba (k:Int) (V:List Bk):List Bk:=V.filter fun b=>decide (b.1≠k)
def B0 (V:List Bk):List Value:=V.flatMap fun b=>[.int .i64 b.1,Ci b.2]
theorem Ku (A B:List Bk):B0 (A++B)=B0 A++B0 B:=by simp[B0]
theorem EK:∀ {V:List Bk} {j:Nat} {e:Bk},V[j]? =some e→(B0 V)[j * 2]? =some (Iv_ e.1)∧(B0 V)[j * 2+1]? =some (Ci e.2)
 | x::L,0,e,h=>by simp at h;subst h;exact ⟨rfl,rfl⟩
 | x::L,j+1,e,h=>by
  have:=EK (V:=L) (j:=j) (by simpa using h)
  have e1:B0 (x::L)=Iv_ x.1::Ci x.2::B0 L:=rfl
  rw[e1,show (j+1) * 2=j * 2+1+1 by omega]
  simp only[List.getElem?_cons_succ]
  exact this
theorem Nq:∀ (L:List Bk) (p:Nat),(B0 L).drop (p * 2)=B0 (L.drop p)
 | L,0=>by simp
 | [],p+1=>by simp[B0]
 | x::L,p+1=>by
  have e1:B0 (x::L)=Iv_ x.1::Ci x.2::B0 L:=rfl
  rw[e1,show (p+1) * 2=p * 2+1+1 by omega,List.drop_succ_cons,List.drop_succ_cons,List.drop_succ_cons];exact Nq L p
theorem Nr:∀ (L:List Bk) (p:Nat),(B0 L).take (p * 2)=B0 (L.take p)
 | L,0=>by simp[B0]
 | [],p+1=>by simp[B0]
 | x::L,p+1=>by
  have e1:B0 (x::L)=Iv_ x.1::Ci x.2::B0 L:=rfl
  rw[e1,show (p+1) * 2=p * 2+1+1 by omega,List.take_succ_cons,List.take_succ_cons,List.take_succ_cons,Nr L p];rfl
theorem Is (L:List Bk):∀ c∈B0 L,c.oneCell'=true:=fun c hc=>by
 simp only[B0,List.mem_flatMap] at hc
 obtain ⟨e,_,he⟩:=hc
 simp at he;rcases he with rfl|rfl<;>rfl
theorem rdH.cutB {ao:Option Addr} {n c p m:Nat} {L:List Bk} {h:Hp} (r:rdH 2 (.slice ao n c) n (B0 L) h) (h1:p+m≤n) (h2:n≤c):rdH 2 (.slice (YtjegbnfpodadcaaGreatDoor.cutZ 2 ao c p) m (c - p)) m (B0 ((L.drop p).take m)) h:=by
 have:=r.cutZ (by omega) h1 h2
 rw[Nq,Nr] at this;exact this
theorem Le {L:List Bk} {i:Nat} {e:Bk} {k:Int} (h:L[i]? =some e):Di k (L.drop i)=if e.1=k then e.2 else Di k (L.drop (i+1)):=by
 obtain ⟨hi,rfl⟩:=List.getElem?_eq_some_iff.1 h
 rw[List.drop_eq_getElem_cons hi];rfl
theorem Lf {L:List Bk} {i:Nat} {e:Bk} {k:Int} (h:L[i]? =some e):Gs k (L.drop i)↔e.1=k∨Gs k (L.drop (i+1)):=by
 obtain ⟨hi,rfl⟩:=List.getElem?_eq_some_iff.1 h
 rw[List.drop_eq_getElem_cons hi];simp only[Gs,List.mem_cons,exists_eq_or_imp]
theorem Lg {L:List Bk} {i:Nat} {e:Bk} (k:Int) (h:L[i]? =some e):Ba k (L.take (i+1))=if e.1=k then Ba k (L.take i) else Ba k (L.take i)++[e]:=by
 have h1:L.take (i+1)=L.take i++[e]:=by rw[List.take_add_one,h];rfl
 rw[h1];unfold Ba;rw[List.filter_append]
 split
 ·rename_i h2;simp[h2]
 ·rename_i h2;simp[h2]
theorem OQ (k:Int) (V:List Bk):(Ba k V).length≤V.length:=List.length_filter_le _ _
def PF (k:Int) (d:List UInt8) (V V2:List Bk):Prop:=∃ i,(∀ (j:Nat) (e:Bk),j<i→(Ba k V)[j]? =some e→e.1<k)∧(∀ e,(Ba k V)[i]? =some e→k≤e.1)∧V2=(Ba k V).take i++(k,d)::(Ba k V).drop i
/-! ### trees and blocks -/
variable {N N2:Hm} {L:List E} {k:Int}
@[simp] theorem DV:(Bz N L).length=L.length:=by simp[Bz]
theorem volB_del:Ba k (Bz N L)=Bz N (Bt k L):=by
 simp only[Ba,Bz,Bt,List.filter_map];rfl
theorem Lh (h:∀ e∈L,N2 e.2=N e.2):Bz N2 L=Bz N L:=List.map_congr_left fun e he=>by rw[h e he]
theorem Ns (hp:∀ e∈L,1≤e.2):Gs k (Bz N L)↔getE k L≠0:=by
 rw[(Fc hp).1]
 constructor
 ·rintro ⟨b,hb,rfl⟩
  obtain ⟨e,he,rfl⟩:=List.mem_map.1 hb
  exact ⟨e.2,he⟩
 ·rintro ⟨v,hv⟩
  exact ⟨_,List.mem_map.2 ⟨_,hv,rfl⟩,rfl⟩
theorem I3:∀ {L:List E},(∀ e∈L,1≤e.2)→Di k (Bz N L)=if getE k L=0 then JN else (Rw (N (getE k L))).take 64
 | [],_=>rfl
 | e::t,hp=>by
  have ih:=I3 (L:=t) (fun x hx=>hp x (by simp[hx]))
  have he:=hp e (by simp)
  simp only[Bz,List.map_cons,Di,getE] at ih ⊢
  split
  ·rw[if_neg (by omega)]
  ·exact ih
def Dt (N N2:Hm):Prop:=∀ v b b2,N v=some (.dt b)→N2 v=some (.dt b2)→N2 v=N v
theorem Dt.refl (N:Hm):Dt N N:=fun _ _ _ _ _=>rfl
theorem Li {n:Nat} {o:TB} (K:TrK n o none) {v:Nat} {c:Pc} (h:o.N v=some c):AS n o.C v=false:=by
 have h1:1≤o.C v:=(K.i.nin v c h).2.2
 simp only[AS];exact decide_eq_false (by omega)
theorem St.dtd {n:Nat} {o:TB} (K:TrK n o none) {t2:TS} {R:List Nat} {df dk:Nat} (x:St ⟨o.N,o.C,AS n o.C,0⟩ t2 R df dk):Dt o.N t2.N:=fun v b b2 h h2=>by
 have h3:o.N v=some (.dt b2):=x.ev v b2 (Li K h) h2
 rw[h2,h3]
theorem Rx {n a:Nat} {o:TB} (K:TrK n o none) {x:List UInt8} {t2 t3:TS} {R:List Nat} {df dk:Nat} (ha:o.N a=none) (h2:t2.N=fup o.N a (some (.dt x))) (hF:∀ q,t2.F q=true→AS n o.C q=true) (y:St t2 t3 R df dk):Dt o.N t3.N:=fun v b b2 h h3=>by
 have hf:t2.F v=false:=by
  cases e:t2.F v with
  | false=>rfl
  | true=>have:=hF v e;rw[Li K h] at this;cases this
 have h4:=y.ev v b2 hf h3
 rw[h2,A4 _ _ (fun e=>by rw[e,ha] at h;cases h)] at h4
 rw[h3,h4]
theorem OR (k:Int) (v:Nat):∀ L:List E,(k,v)∈putE k v L
 | []=>by simp[putE]
 | e::t=>by
  simp only[putE]
  split
  ·exact List.mem_cons_of_mem _ (OR k v t)
  ·split<;>simp
theorem delE_put (v:Nat) {e:E} :∀ {L:List E},e∈Bt k L→e∈putE k v L
 | x::t,h=>by
  obtain ⟨h1,h2⟩:=List.mem_filter.1 h
  have h2:e.1≠k:=by simpa using h2
  simp only[putE]
  rcases List.mem_cons.1 h1 with rfl|h1
  ·split
   ·simp
   ·simp
  ·split
   ·exact List.mem_cons_of_mem _ (delE_put v (List.mem_filter.2 ⟨h1,by simpa using h2⟩))
   ·split
    ·exact List.mem_cons_of_mem _ h1
    ·exact List.mem_cons_of_mem _ (List.mem_cons_of_mem _ h1)
theorem WR {n a r:Nat} {o:TB} (K:TrK n o none) {x:List UInt8} {t2 t3:TS} {R:List Nat} {df dk:Nat} {V2:List Bk} {ra:Nat} (ha:o.N a=none) (h2:t2.N=fup o.N a (some (.dt x))) (hFa:t2.F a=false) (hF:∀ q,t2.F q=true→AS n o.C q=true) (y:St t2 t3 R df dk) (hR:Root o.N ra L) (hR3:Root t3.N r (putE k a L)) (hp:PF k (x.take 64) (Bz o.N L) V2):V2=Bz t3.N (putE k a L):=by
 have hs:=hR.srt.1
 have hka:(k,a)∈putE k a L:=OR k a L
 obtain ⟨b,hb⟩:=hR3.data _ hka
 have hb:t3.N a=some (.dt b):=hb
 have hb2:=y.ev a b hFa hb
 rw[h2,Bx] at hb2
 cases hb2
 -- an old value whose key is not k is there still;one whose key is k is not asked for
 have hdel:∀ e∈Bt k L,t3.N e.2=o.N e.2:=fun e he=>by
  have hm:e∈putE k a L:=delE_put a he
  obtain ⟨b1,hb1⟩:=hR.data e ((List.mem_filter.1 he).1)
  obtain ⟨b3,hb3⟩:=hR3.data e hm
  exact Rx K ha h2 hF y _ _ _ hb1 hb3
 obtain ⟨i,h1,h2',rfl⟩:=hp
 rw[volB_del] at h1 h2'
 have e1:∀ (j:Nat) (e:E),j<i→(Bt k L)[j]? =some e→e.1<k:=fun j e hj he=>h1 j (e.1,(Rw (o.N e.2)).take 64) hj (by simp[Bz,he])
 have e2:∀ e:E,(Bt k L)[i]? =some e→k≤e.1:=fun e he=>h2' (e.1,(Rw (o.N e.2)).take 64) (by simp[Bz,he])
 rw[YG hs k a e1 e2,volB_del,←Lh (N2:=t3.N) (N:=o.N) (L:=Bt k L) hdel]
 simp[Bz,hb,Rw,List.map_take,List.map_drop]
/-! ### what reads as blocks -/
def InB (A:Ae) (u:Value) (V:List Bk):Prop:=∀ h,A h→rdH 2 u V.length (B0 V) h
def both (G A:Ae):Ae:=fun h=>seps [G,A] h
theorem Nt (h:Hp) (own:Nat→Nat) (i:Nat):Ck (h.part own i) h:=fun k o e=>(DI e).2
theorem InB.grow {A:Ae} {u:Value} {V:List Bk} :InB (both (grow 123 2 u V.length (B0 V)) A) u V:=fun h ⟨own,q⟩=>(q 0 _ rfl).rd.le (Nt h own 0)
theorem InB.old {G A:Ae} {u:Value} {V:List Bk} (x:InB A u V):InB (both G A) u V:=fun h ⟨own,q⟩=>(x _ (q 1 _ rfl)).le (Nt h own 1)
def Ink (A A2:Ae):Prop:=∀ u V,InB A u V→InB A2 u V
theorem Ink.refl (A:Ae):Ink A A:=fun _ _ q=>q
theorem Ink.both (G A:Ae):Ink A (both G A):=fun _ _ q=>q.old
theorem Nu (pp mb n:Nat) (o:TB) (t:TS) (R:List Nat) (x:List UInt8) (hx:x.length=240) (b:Nat) (hk:t.k<40):
  Cn prog 44 [Pt_ pp,.agg #[Iv_ 5,.slice (some ⟨b,0,none⟩) 240 240]] [trA Tb pp mb n o (some (t,R)),blk b (x.map u8) 5] (fun v Γ=>(cnt t.F 0 1024=0∧v= .tuple #[Iv_ 0,Iv_ 20]∧Γ=[trA Tb pp mb n o (some (t,R)),blk b (x.map u8) 5])∨
   ∃ (a:Nat) (t2:TS),((t.N a=none∧t2.N=fup t.N a (some (.dt x))∧t2.F a=false∧∀ q,t2.F q=true→t.F q=true)∧(∀ q d,t2.N q=some (.nd d)→a∉vals d.es)∧(∀ h c lo hi m L,Tr t.N h c lo hi m L→Tr t2.N h c lo hi m L)∧t2.k≤t.k+1∧cnt t.F 0 1024=cnt t2.F 0 1024+1)∧v= .tuple #[Iv_ (a:Int),Iv_ 0]∧Γ=[trA Tb pp mb n o (some (t2,a::R)),blk b (x.map u8) 5]):=by
 intro z R' w H
 have K:=H.says 0 rfl (fun h a=>trA.k a)
 have I:TInv n (manyN n+1) t.N t.C R:=K.i
 refine Ret.mono (Cn.at (Ng pp mb n o t R R ⟨5,x⟩ ⟨⟨by show (1:Int)≤5;omega,by show (5:Int)≤5;omega⟩,hx⟩ _ _ (fun h q=>q.rd (by omega) (by omega) (by simp[hx]) (by simp only[Nat.mul_one,List.drop_zero];exact List.take_of_length_le (by rw[List.length_map,hx];omega))) hk (some (.dt x)) (fun q hq=>by cases hq;rfl) (fun a h1 h2 h3=>(I.freshD h3 ⟨h1,h2⟩).2.1)) H 2 [0,1] rfl rfl) ?_
 rintro v w' ⟨Γ',(⟨h0,rfl,rfl⟩|⟨a,F,k,⟨h1,h2,h3,h4,h5,h6,h7⟩,rfl,rfl⟩),H'⟩
 ·exact ⟨_,.inl ⟨h0,rfl,rfl⟩,H'⟩
 ·obtain ⟨f1,f2,f3⟩:=I.freshD (b:=x) h2 ⟨h1.1,h1.2⟩
  refine ⟨_,.inr ⟨a,⟨_,_,F,k⟩,⟨⟨f1,rfl,h5,h4⟩,fun q d hq=> ?_,fun h c lo hi m L q=>q.fup f3 (fun e=> ?_),h6,h7⟩,rfl,rfl⟩,H'⟩
  ·have hq:fup t.N a (some (.dt x)) q=some (.nd d):=hq
   by_cases e:q=a
   ·subst e;rw[Bx] at hq;cases hq
   ·rw[A4 _ _ e] at hq;exact f3 q d hq
  ·subst e;obtain ⟨d,hd⟩:=q.node;rw[f1] at hd;cases hd
end
section
open Go.RowKit
variable {Tb:Ae}
def mB (lg:Int):Nat:=if lg=0 then 64 else pkI lg 200
theorem PG (lg:Int):mB lg<200:=by
 unfold mB
 split
 ·omega
 ·exact YF _ (by omega)
theorem YH {bs:List UInt8} {i:Nat} {x:UInt8} (h:i<bs.length):(bs.map u8).take i++[u8 x]++(bs.map u8).drop (i+[u8 x].length)=(bs.set i x).map u8:=by
 rw[List.set_eq_take_append_cons_drop,if_pos h];simp
theorem WS (c:Int) (N:Nat) (hc: -9223372036854775808≤c∧c≤9223372036854775807) (hN:0<N∧N≤1099511627776):Cn prog 8 [Iv_ c,Iv_ (N:Int)] [] (fun v Γ=>v=Iv_ (pkI c N:Int)∧Γ=[]):=by
 intro z R w H;replace H:=H.l0;refine Ad func8 rfl ntmps8 rfl (Z0 12 [0] rfl (Af rfl (fun h1=> ?_) (fun h1=> ?_)))
 ·refine Z1 3 [] [c+1] rfl (by omega) (Ac rfl (NP rfl rfl (r:= -(c+1)) (by omega) (by omega)) (Zc 7 rfl (Ac rfl (Lp rfl rfl rfl (by omega)) ?_)));have hm1:=Int.tmod_lt_of_pos (-(c+1)) (by omega:(0:Int)<(N:Int))
  have hm2:=Int.tmod_nonneg (N:Int) (show 0≤ -(c+1) by omega)
  refine Zc 4 rfl (Zr rfl ?_);have hv:(-(c+1)).tmod (N:Int)=(pkI c N:Int):=by unfold pkI;rw[if_pos (by omega)];omega
  exact ⟨_,⟨congrArg Iv_ hv,rfl⟩,H⟩
 ·refine Zc 6 rfl (Ac rfl (Lp rfl rfl rfl (by omega)) ?_);have hm1:=Int.tmod_lt_of_pos c (by omega:(0:Int)<(N:Int))
  have hm2:=Int.tmod_nonneg (N:Int) (show 0≤c by omega)
  refine Zc 4 rfl (Zr rfl ?_);have hv:c.tmod (N:Int)=(pkI c N:Int):=by unfold pkI;rw[if_neg (by omega)];omega
  exact ⟨_,⟨congrArg Iv_ hv,rfl⟩,H⟩
set_option maxHeartbeats 2000000 in
theorem TZ (n:Nat) (hn:16≤n∧n≤1024) (Tb:Ae) (hT:Gp Tb):Cn prog 7 [Iv_ (n:Int)] [Tb] (fun v Γ=>∃ pp:Nat,v=Pt_ pp∧Γ=[trA Tb pp 6 n (JL n) none]):=by
 intro z R w H;replace H:=H.l1;refine Ad func7 rfl ntmps7 rfl (Zc 7 rfl (Aw rfl (call20 _) (QU 1200) H ?_));rintro _ w _ (⟨hn_,rfl,rfl⟩|⟨_,pd,rfl,rfl⟩) H'
 ·exact absurd (by omega) hn_
 ·have H:=H'.l2;refine Z0 19 [4] rfl (Aw rfl (call21 _) (KV _ 1200 n _ _ hn (Ru (by omega))) H ?_);rintro _ w _ ⟨D2,G2,bs,hbs,hO,hcl,hge,hdn,hpg,hM,rfl,rfl⟩ H;refine Z0 10 [4] rfl (Aw rfl (call22 _) (M4 _ _ _ _ _ _ hO hcl hge (by omega)) H ?_);rintro _ w _ ⟨ps,D3,got,hgd3,fi3,hn3,rfl,rfl⟩ H;replace H:=H.l2;have hM2:pgMap (ov got) G2.B=G2.M:=by rw[hgd3];rfl
  obtain ⟨hc0,hcp⟩:=K9 (n:=n) hbs (hM2.trans hM);refine Z0 24 [4] rfl (Aw rfl (call23 _) (OA _ _ _ _ 6 n (C1 (manyN n+1)) fi3 hn hpg (bs.take 240) hc0 hcp (fun k=>JD _ k) (fun p hp=>by unfold C1;rw[if_pos (by omega)])) H ?_);rintro _ w _ ⟨pp,pc,bn,m,pa,rfl,rfl⟩ H;refine Z0 24 [4] rfl (Zr rfl ?_);have H8:=(H.pick 7 [1,0,2,3,4,5,6] rfl).toPo (X:=⟨ps,pd,pc,bn,m,pa,D3,(M3 G2.x (pgMap (ov got) G2.B)),CV,[],0,BB,Tb⟩) (mb:=6) (n:=n) (M0:=pgMap (ov got) G2.B) (C0:=C1 (manyN n+1)) (t:=none) ⟨hn,fi3,hpg,⟨hT,rfl⟩,fun p _=>rfl,hcp,fun k=>JD _ k,fun p hp=>(by unfold C1;rw[if_pos (by omega)]),fun _=>⟨rfl,rfl⟩,fun _ e=>(by cases e)⟩ rfl
  exact ⟨_,⟨pp,rfl,rfl⟩,Sep.toTr0 (o:=JL n) H8 (WQ n _)⟩
theorem Iu (bn fl lg:Int) (dr:Bool) (hfl: -9223372036854775808≤fl∧fl≤9223372036854775807) (hlg: -9223372036854775808≤lg∧lg≤9223372036854775807):Cn prog 19 [.agg #[Iv_ bn,.bool dr,Iv_ fl,Iv_ lg]] [] (fun v Γ=>∃ (b:Nat) (bs:List UInt8),bs.length=mB lg∧v= .slice (some ⟨b,0,none⟩) (mB lg) (mB lg)∧Γ=[blk b (bs.map u8) 5]):=by
 intro z R w H;replace H:=H.l0;refine Ad func19 rfl ntmps19 rfl (Za 2 [] H rfl ?_);intro b1 w H;refine Zc 8 rfl (Lt (fun a w=>∃ (m:Nat),Fr 29 [] [(3,Iv_ (m:Int)),(0,.agg #[Iv_ bn,.bool dr,Iv_ fl,Iv_ lg]),(1,Pt_ b1),(2,.slice none 0 0)] a∧Sep z (blk b1 [Iv_ bn,.bool dr,Iv_ fl,Iv_ lg] 36::R) w∧(m=mB lg)) ?_ ?_)
 ·refine Z2 7 [3,0,0,0] H rfl (Af rfl (fun h1=> ?_) (fun h1=> ?_))
  ·refine Z2 3 [3,0,0] H rfl (z_E_ rfl (call8 _) (WS _ 200 hlg (by omega)) H ?_);intro w H;refine Zc 2 rfl ?_;exact gf fun _ hF=>⟨(pkI lg 200),(hF.all rfl),H,(by unfold mB;rw[if_neg (by omega)])⟩
  ·refine Zc 1 rfl ?_;exact gf fun _ hF=>⟨64,(hF.co rfl (by go_num) (hF.all rfl)),H,(by unfold mB;rw[if_pos (by omega)])⟩
 rintro a w ⟨m,hF,H,hI⟩;revert a;have hm:=hI;clear hI
 have hml:=PG lg
 refine Zc 3 rfl (AL rfl (DA (k:=m) H rfl (by kernel_rfl) Cf rfl rfl rfl (by omega)) ?_);rintro _ w ⟨b2,rfl,H⟩;replace H:=H.l2;refine Zc 10 rfl ?_;refine AJ (σ:=Nat×List UInt8) (fun ⟨i,bs⟩=>[(5,Iv_ (i:Int)),(1,Pt_ b1),(2,.slice none 0 0),(3,Iv_ (m:Int)),(4,.slice (some ⟨b2,0,none⟩) m m)])
   (fun ⟨i,bs⟩ w=>Sep z (blk b2 (bs.map u8) 5::blk b1 [Iv_ bn,.bool dr,Iv_ fl,Iv_ lg] 36::R) w∧(i≤m∧bs.length=m)) (fun ⟨i,bs⟩=>m - i) ⟨0,List.replicate m 0⟩
   (fun _ hF=>(hF.co rfl (by go_num) (hF.all rfl))) ⟨(by simpa [u8] using H),⟨Nat.zero_le _,by simp⟩⟩ ?_
 clear H;rintro ⟨i,bs⟩ w ⟨H',hI⟩;dsimp only at hI H' ⊢
 have H:=H'.l2;obtain ⟨hi,hbl⟩:=hI;refine Z0 8 [0] rfl (Af rfl (fun h2=> ?_) (fun h2=> ?_))
 ·refine Z2 10 [2,1,0] H rfl (Ac rfl (Lp rfl rfl rfl (by omega)) (Ac rfl (Xk rfl rfl rfl) (Ac rfl (OY rfl (by kernel_rfl) rfl) (Z1 1 [1,i,i] [] rfl (by omega) (Az rfl rfl (Ag 0 H rfl rfl rfl rfl (vs:=[u8 (FO (IntKind.i64.wrap (fl+(i:Int).tmod 3)))]) rfl (Ab rfl Ar) (by kernel_rfl) (by simp only[List.length_map,List.length_cons,List.length_nil];omega) (out:=(bs.set i (FO (IntKind.i64.wrap (fl+(i:Int).tmod 3)))).map u8) (YH (by omega))) ?_)))));rintro w H;replace H:=H.l2;refine Z1 8 [] [(i:Int)+1] rfl (by omega) (gf ?_);intro _ hF;refine ⟨⟨i+1,bs.set i (FO (IntKind.i64.wrap (fl+(i:Int).tmod 3)))⟩,(hF.co rfl (by go_num) (hF.all rfl)),⟨H,?_⟩,?_⟩
  ·exact ⟨by show i+1≤m;omega,by show (bs.set i _).length=m;rw[List.length_set];exact hbl⟩
  ·(dsimp only;omega)
 ·refine Zc 2 rfl (gx (Zc 9 rfl (Zr rfl ?_)));exact ⟨_,⟨b2,bs,by omega,by rw[hm],rfl⟩,H.pick 2 [0] rfl⟩
theorem YI (id sz q k:Int) (u:Value) (V:List Bk) (A:Ae) (hA:InB A u V):Cn prog 28 [.agg #[Iv_ id,Iv_ sz,Iv_ q,u],Iv_ k] [A] (fun v Γ=>v=Ci (Di k V)∧Γ=[A]):=by
 intro z R w H;replace H:=H.l1;obtain ⟨ao,oc,rfl⟩:=H.says 0 rfl (fun h q=>(hA h q).slc);have hvl:=H.says 0 rfl (fun h q=>(hA h q).slcapZ)
 refine Ad func28 rfl ntmps28 rfl (Za 2 [] H rfl ?_);intro b1 w H;refine Zc 10 rfl ?_;refine AJ (σ:=Nat) (fun i=>[(5,Iv_ (i:Int)),(1,Iv_ k),(2,Pt_ b1)])
   (fun i w=>Sep z (blk b1 [Iv_ id,Iv_ sz,Iv_ q,.slice ao V.length oc] 31::A::R) w∧(i≤V.length∧Di k V=Di k (V.drop i))) (fun i=>V.length - i) 0
   (fun _ hF=>(hF.co rfl (by go_num) (hF.all rfl))) ⟨H,⟨Nat.zero_le _,rfl⟩⟩ ?_
 clear H;rintro i w ⟨H',hI⟩;have H:=H'.l2;obtain ⟨hi,hg⟩:=hI;refine Z2 10 [3,0,0,0] H rfl (Af rfl (fun h1=> ?_) (fun h1=> ?_))
 ·refine Zc 5 rfl ?_;obtain ⟨e,he⟩:∃ e,V[i]? =some e:=⟨_,List.getElem?_eq_getElem (by omega)⟩;have hat0:=(H.rd 1 rfl (fun h q=>hA h q)).at (EK he).1
  have hat1:=(H.rd 1 rfl (fun h q=>hA h q)).at (EK he).2
  refine Z2 4 [3,0,0] H rfl (Ac rfl (AD rfl (z:=2) (j:=i) (r:=i * 2) (by kernel_rfl) rfl rfl rfl (by omega) hat0 (by omega)) (Ac rfl (FM rfl (k:=0) (r:=i * 2) (by kernel_rfl) rfl hat0 rfl) (Ac rfl (AR rfl rfl (by kernel_rfl) (AB hat0)) (Z0 4 [0] rfl (Af rfl (fun h2=> ?_) (fun h2=> ?_))))))
  ·refine Z2 5 [3,0,0] H rfl (Ac rfl (AD rfl (z:=2) (j:=i) (r:=i * 2) (by kernel_rfl) rfl rfl rfl (by omega) hat0 (by omega)) (Ac rfl (FM rfl (k:=1) (r:=i * 2+1) (by kernel_rfl) rfl hat0 rfl) (Ac rfl (AR rfl rfl (by kernel_rfl) (AB hat1)) (Zc 4 rfl (Zr rfl ?_)))));have hv:Di k V=e.2:=by rw[hg,Le he,if_pos (by omega)]
   exact ⟨_,⟨by rw[hv],rfl⟩,H.pick 2 [1] rfl⟩
  ·refine Z1 8 [] [(i:Int)+1] rfl (by omega) (gf ?_);intro _ hF;refine ⟨(i+1),(hF.co rfl (by go_num) (hF.all rfl)),⟨H,?_⟩,?_⟩
   ·exact ⟨by omega,by rw[hg,Le he,if_neg (by omega)]⟩
   ·omega
 ·refine Zc 2 rfl (gx (Zc 4 rfl (AL rfl (DA (k:=64) H rfl (by kernel_rfl) Cf rfl rfl rfl (by omega)) ?_)));rintro _ w ⟨b2,rfl,H⟩;replace H:=H.l3;refine Ac rfl (CN (l:=JN) rfl (by kernel_rfl) (by kernel_rfl) rfl (AB (H.rd 0 rfl (fun h q=>q.rd (by omega) (by omega) (by simp) (by rfl))))) (Zc 4 rfl (Zr rfl ?_));have hv:Di k V=JN:=by rw[hg,List.drop_of_length_le (by omega)];rfl
  exact ⟨_,⟨by rw[hv],rfl⟩,H.pick 3 [2] rfl⟩
theorem Ry (id sz q k:Int) (u:Value) (V:List Bk) (A:Ae) (hA:InB A u V):Cn prog 24 [.agg #[Iv_ id,Iv_ sz,Iv_ q,u],Iv_ k] [A] (fun v Γ=>v= .bool (decide (Gs k V))∧Γ=[A]):=by
 intro z R w H;replace H:=H.l1;obtain ⟨ao,oc,rfl⟩:=H.says 0 rfl (fun h q=>(hA h q).slc);have hvl:=H.says 0 rfl (fun h q=>(hA h q).slcapZ)
 refine Ad func24 rfl ntmps24 rfl (Za 2 [] H rfl ?_);intro b1 w H;refine Zc 10 rfl ?_;refine AJ (σ:=Nat) (fun i=>[(5,Iv_ (i:Int)),(1,Iv_ k),(2,Pt_ b1)])
   (fun i w=>Sep z (blk b1 [Iv_ id,Iv_ sz,Iv_ q,.slice ao V.length oc] 31::A::R) w∧(i≤V.length∧(Gs k V↔Gs k (V.drop i)))) (fun i=>V.length - i) 0
   (fun _ hF=>(hF.co rfl (by go_num) (hF.all rfl))) ⟨H,⟨Nat.zero_le _,Iff.rfl⟩⟩ ?_
 clear H;rintro i w ⟨H',hI⟩;have H:=H'.l2;obtain ⟨hi,hg⟩:=hI;refine Z2 10 [3,0,0,0] H rfl (Af rfl (fun h1=> ?_) (fun h1=> ?_))
 ·refine Zc 5 rfl ?_;obtain ⟨e,he⟩:∃ e,V[i]? =some e:=⟨_,List.getElem?_eq_getElem (by omega)⟩;have hat0:=(H.rd 1 rfl (fun h q=>hA h q)).at (EK he).1
  have hat1:=(H.rd 1 rfl (fun h q=>hA h q)).at (EK he).2
  refine Z2 4 [3,0,0] H rfl (Ac rfl (AD rfl (z:=2) (j:=i) (r:=i * 2) (by kernel_rfl) rfl rfl rfl (by omega) hat0 (by omega)) (Ac rfl (FM rfl (k:=0) (r:=i * 2) (by kernel_rfl) rfl hat0 rfl) (Ac rfl (AR rfl rfl (by kernel_rfl) (AB hat0)) (Z0 4 [0] rfl (Af rfl (fun h2=> ?_) (fun h2=> ?_))))))
  ·refine Zc 6 rfl (Zr rfl ?_);have hv:decide (Gs k V)=true:=decide_eq_true (hg.2 (by rw[Lf he];exact .inl (by omega)))
   exact ⟨_,⟨by rw[hv],rfl⟩,H.pick 2 [1] rfl⟩
  ·refine Z1 8 [] [(i:Int)+1] rfl (by omega) (gf ?_);intro _ hF;refine ⟨(i+1),(hF.co rfl (by go_num) (hF.all rfl)),⟨H,?_⟩,?_⟩
   ·exact ⟨by omega,hg.trans ((Lf he).trans ⟨fun q=>q.resolve_left (by omega),.inr⟩)⟩
   ·omega
 ·refine Zc 2 rfl (gx (Zc 8 rfl (Zr rfl ?_)));have hv:decide (Gs k V)=false:=decide_eq_false (fun q=>by have:=hg.1 q;rw[List.drop_of_length_le (by omega)] at this;obtain ⟨_,h,_⟩:=this;cases h)
  exact ⟨_,⟨by rw[hv],rfl⟩,H.pick 2 [1] rfl⟩
theorem Kw (id sz q k:Int) (u:Value) (V:List Bk) (A:Ae) (hA:InB A u V) (hV:V.length≤1048576):Cn prog 26 [.agg #[Iv_ id,Iv_ sz,Iv_ q,u],Iv_ k] [A] (fun v Γ=>∃ u2:Value,v= .agg #[Iv_ id,Iv_ sz,Iv_ q,u2]∧Γ=[grow 123 2 u2 (Ba k V).length (B0 (Ba k V)),A]):=by
 intro z R w H;replace H:=H.l1;obtain ⟨ao,oc,rfl⟩:=H.says 0 rfl (fun h q=>(hA h q).slc);have hvl:=H.says 0 rfl (fun h q=>(hA h q).slcapZ)
 refine Ad func26 rfl ntmps26 rfl (Za 2 [] H rfl ?_);intro b1 w H;refine Za 0 [] H rfl ?_;intro b2 w H;refine Zc 9 rfl ?_;replace H:=(H.nilg 123 2).l4
 refine Zc 5 rfl ?_;refine AJ (σ:=Nat×Value) (fun ⟨i,u2⟩=>[(6,Iv_ (i:Int)),(5,u2),(1,Iv_ k),(2,Pt_ b1),(4,Pt_ b2)])
   (fun ⟨i,u2⟩ w=>Sep z (grow 123 2 u2 ((Ba k (V.take i)).length) (B0 (Ba k (V.take i)))::blk b2 [Iv_ 0,Iv_ 0,Iv_ 0,.slice none 0 0] 31::blk b1 [Iv_ id,Iv_ sz,Iv_ q,.slice ao V.length oc] 31::A::R) w∧(i≤V.length)) (fun ⟨i,u2⟩=>V.length - i) ⟨0,.slice none 0 0⟩
   (fun _ hF=>(hF.co rfl (by go_num) (hF.co rfl (by go_num) (hF.all rfl)))) ⟨H,Nat.zero_le _⟩ ?_
 clear H;rintro ⟨i,u2⟩ w ⟨H',hI⟩;dsimp only at hI H' ⊢
 have H:=H'.l4;have su2:=H.says 0 rfl (fun h q=>q.slc)
 have hi:=hI;clear hI
 refine Z2 10 [3,2,0,0] H rfl (Af rfl (fun h1=> ?_) (fun h1=> ?_))
 ·refine Zc 5 rfl ?_;obtain ⟨e,he⟩:∃ e,V[i]? =some e:=⟨_,List.getElem?_eq_getElem (by omega)⟩;have hat0:=(H.rd 3 rfl (fun h q=>hA h q)).at (EK he).1
  have hat1:=(H.rd 3 rfl (fun h q=>hA h q)).at (EK he).2
  have hdl:(Ba k (V.take i)).length≤i:=Nat.le_trans (OQ _ _) (by rw[List.length_take];omega)
  refine Z2 4 [3,2,0] H rfl (Ac rfl (AD rfl (z:=2) (j:=i) (r:=i * 2) (by kernel_rfl) rfl rfl rfl (by omega) hat0 (by omega)) (Ac rfl (FM rfl (k:=0) (r:=i * 2) (by kernel_rfl) rfl hat0 rfl) (Ac rfl (AR rfl rfl (by kernel_rfl) (AB hat0)) (Z0 4 [0] rfl (Af rfl (fun h2=> ?_) (fun h2=> ?_))))))
  ·refine Z2 5 [3,2,0] H rfl (Ac rfl (AD rfl (z:=2) (j:=i) (r:=i * 2) (by kernel_rfl) rfl rfl rfl (by omega) hat0 (by omega)) (Ac rfl (DW rfl rfl (vs:=[Iv_ e.1,Ci e.2]) (by kernel_rfl) (by simp) (AB (fun k u hk=>by rcases k with _|_|k<;>simp at hk<;>subst hk<;>assumption))) (AL rfl (AV H rfl (by kernel_rfl) A0 rfl (by decide) (by decide) (out:=[Iv_ e.1,Ci e.2]) (by kernel_rfl)) ?_)));rintro _ w ⟨b3,rfl,H⟩;replace H:=H.l5;refine AL rfl (Bb 1 H rfl rfl (by kernel_rfl) A0 rfl rfl (H.rd 0 rfl (fun h q=>q.rd (by omega) (by omega) (by simp) rfl)) (by simp[Ci,Value.oneCell']) (by omega)) ?_;rintro v4 w H';have H':Sep z (blk b3 [Iv_ e.1,Ci e.2] 123::grow 123 2 v4 ((Ba k (V.take i)).length+1) (B0 (Ba k (V.take i))++[Iv_ e.1,Ci e.2])::blk b2 [Iv_ 0,Iv_ 0,Iv_ 0,.slice none 0 0] 31::blk b1 [Iv_ id,Iv_ sz,Iv_ q,.slice ao V.length oc] 31::A::R) w:=H'
   have ev4:(B0 (Ba k (V.take i))++[Iv_ e.1,Ci e.2]:List Value)=B0 (Ba k (V.take i)++[e]):=by rw[Ku];rfl
   rw[ev4] at H';have H:=H'.l5;have sv4:=H.says 1 rfl (fun h q=>q.slc)
   refine Z1 9 [] [(i:Int)+1] rfl (by omega) ?_;replace H:=H.d;refine gf ?_;intro _ hF;refine ⟨⟨i+1,v4⟩,(hF.co rfl (by go_num) (hF.all rfl)),⟨(by rw[Lg k he,if_neg (by omega),List.length_append];exact H),?_⟩,?_⟩
   ·show i+1≤V.length;omega
   ·(dsimp only;omega)
  ·refine Z1 8 [] [(i:Int)+1] rfl (by omega) (gf ?_);intro _ hF;refine ⟨⟨i+1,u2⟩,(hF.co rfl (by go_num) (hF.all rfl)),⟨(by rw[Lg k he,if_pos (by omega)];exact H),?_⟩,?_⟩
   ·show i+1≤V.length;omega
   ·(dsimp only;omega)
 ·refine Zc 2 rfl (gx (Z0 6 [3] rfl (Az rfl rfl (RQ 2 H rfl rfl rfl rfl su2.cells su2.one (by kernel_rfl)) ?_)));rintro w H;replace H:=H.l4;refine Z2 5 [2,4] H rfl (Az rfl rfl (Ag 1 H rfl rfl rfl rfl (vs:=[Iv_ id,Iv_ sz,Iv_ q,u2]) rfl (Ab rfl (Ab rfl (Ab rfl (Ab su2.one Ar)))) (by kernel_rfl) (by simp) (out:=[Iv_ id,Iv_ sz,Iv_ q,u2]) rfl) ?_);rintro w H;replace H:=H.l4;refine Zc 3 rfl (Zl [1,4] H rfl ?_);rw[show i=V.length by omega,List.take_length] at H;exact ⟨_,⟨u2,rfl,rfl⟩,H.pick 4 [0,3] rfl⟩
theorem Rz (id sz q k:Int) (u:Value) (V:List Bk) (A:Ae) (hA:InB A u V) (d:List UInt8) (hV:V.length≤1048576):Cn prog 27 [.agg #[Iv_ id,Iv_ sz,Iv_ q,u],Iv_ k,Ci d] [A] (fun v Γ=>∃ (u2:Value) (V2:List Bk),PF k d V V2∧v= .agg #[Iv_ id,Iv_ sz,Iv_ q,u2]∧Γ=[grow 123 2 u2 V2.length (B0 V2),A]):=by
 intro z R w H;replace H:=H.l1;obtain ⟨ao,oc,rfl⟩:=H.says 0 rfl (fun h q=>(hA h q).slc);have hvl:=H.says 0 rfl (fun h q=>(hA h q).slcapZ)
 have hdl:=OQ k V
 refine Ad func27 rfl ntmps27 rfl (Za 2 [] H rfl ?_);intro b1 w H;refine Za 0 [] H rfl ?_;intro b2 w H;refine Z2 6 [1,4] H rfl (Aw rfl (call26 _) (Kw _ _ _ _ _ _ _ hA hV) H.f2 ?_);rintro _ w _ ⟨u2,rfl,rfl⟩ H;replace H:=H.l4;have su2:=H.says 0 rfl (fun h q=>q.rd.slc)
 obtain ⟨am,mc,rfl⟩:=su2;have hvl2:=H.says 0 rfl (fun h q=>q.rd.slcapZ)
 refine Z4 10 [3] H rfl ?_;intro w H;refine AJ (σ:=Nat) (fun i=>[(7,Iv_ (i:Int)),(1,Iv_ k),(2,Ci d),(3,Pt_ b1),(6,Pt_ b2)])
   (fun i w=>Sep z (grow 123 2 (.slice am ((Ba k V).length) mc) ((Ba k V).length) (B0 (Ba k V))::A::blk b2 [Iv_ 0,Iv_ 0,Iv_ 0,.slice none 0 0] 31::blk b1 [Iv_ id,Iv_ sz,Iv_ q,.slice am ((Ba k V).length) mc] 31::R) w∧(i≤(Ba k V).length∧∀ (j:Nat) (e:Bk),j<i→(Ba k V)[j]? =some e→e.1<k)) (fun i=>(Ba k V).length - i) 0
   (fun _ hF=>(hF.co rfl (by go_num) (hF.all rfl))) ⟨H,⟨Nat.zero_le _,fun j e h=>by omega⟩⟩ ?_
 clear H;rintro i w ⟨H',hI⟩;have H:=H'.l4;obtain ⟨hi,hall⟩:=hI;refine Z2 9 [3,3,0,0] H rfl (Ak 17 rfl (fun h1=> ?_) (fun h1=> ?_))
 ·refine Z2 3 [3,3,0] H rfl ?_;obtain ⟨e,he⟩:∃ e,(Ba k V)[i]? =some e:=⟨_,List.getElem?_eq_getElem (by omega)⟩;have hat0:=(H.rd 0 rfl (fun h q=>q.rd)).at (EK he).1
  refine Ac rfl (AD rfl (z:=2) (j:=i) (r:=i * 2) (by kernel_rfl) rfl rfl rfl (by omega) hat0 (by omega)) (Ac rfl (FM rfl (k:=0) (r:=i * 2) (by kernel_rfl) rfl hat0 rfl) (Ac rfl (AR rfl rfl (by kernel_rfl) (AB hat0)) (Z0 5 [0] rfl (Af rfl (fun h2=> ?_) (fun h2=> ?_)))))
  ·refine Z1 9 [] [(i:Int)+1] rfl (by omega) (gf ?_);intro _ hF;refine ⟨(i+1),(hF.co rfl (by go_num) (hF.all rfl)),⟨H,?_⟩,?_⟩
   ·refine ⟨by omega,fun j e9 hj he9=> ?_⟩;rcases Nat.lt_or_ge j i with q|q
    ·exact hall j e9 q he9
    ·obtain rfl:j=i:=by omega
     rw[he] at he9;cases he9;omega
   ·omega
  ·refine Zc 2 rfl (gx (Z2 13 [3,3,0] H rfl (Ac rfl (Hh (z:=2) (p:=0) (q:=i) (l':=i) (c':=mc) rfl (by kernel_rfl) rfl (.inl ⟨rfl,rfl⟩) (.inr ⟨_,_,_,rfl,rfl,rfl⟩) (by omega) (by omega) rfl rfl) ?_)));replace H:=(H.nilg 123 2).l5
   refine AL rfl (Bb 0 H rfl rfl (by kernel_rfl) A0 rfl rfl (H.rd 1 rfl (fun h q=>q.rd.cutB (by omega) (by omega))) (Is _) (by omega)) ?_;rintro v3 w H;replace H:=H.l5;have sv3:=H.says 0 rfl (fun h q=>q.slc)
   refine Zc 8 rfl (Ac rfl (AF rfl rfl (out:=[Iv_ k,Ci d]) (by kernel_rfl)) (AL rfl (AV H rfl (by kernel_rfl) A0 rfl (by decide) (by decide) (out:=[Iv_ k,Ci d]) (by kernel_rfl)) ?_));rintro _ w ⟨b4,rfl,H⟩;replace H:=H.l6;refine AL rfl (Bb 1 H rfl rfl (by kernel_rfl) A0 rfl rfl (H.rd 0 rfl (fun h q=>q.rd (by omega) (by omega) (by simp) rfl)) (by simp[Ci,Value.oneCell']) (by omega)) ?_;rintro v5 w H;replace H:=H.l6;have sv5:=H.says 1 rfl (fun h q=>q.slc)
   refine Z2 9 [3,5,0] H rfl (Ac rfl (Hh (z:=2) (p:=i) (q:=(Ba k V).length) (l':=((Ba k V).length) - i) (c':=mc - i) rfl (by kernel_rfl) rfl (.inr ⟨_,_,_,rfl,rfl,rfl⟩) (.inl ⟨rfl,rfl⟩) (by omega) (by omega) rfl rfl) (AL rfl (Bb 1 H rfl rfl (by kernel_rfl) A0 rfl rfl (H.rd 2 rfl (fun h q=>q.rd.cutB (by omega) (by omega))) (Is _) (by omega)) ?_));rintro v6 w H;replace H:=H.l6;have sv6:=H.says 1 rfl (fun h q=>q.slc)
   refine Z0 7 [3] rfl (Az rfl rfl (RQ 5 H rfl rfl rfl rfl sv6.cells sv6.one (by kernel_rfl)) ?_);rintro w H;replace H:=H.l6;refine Z2 5 [5,4] H rfl (Az rfl rfl (Ag 4 H rfl rfl rfl rfl (vs:=[Iv_ id,Iv_ sz,Iv_ q,v6]) rfl (Ab rfl (Ab rfl (Ab rfl (Ab sv6.one Ar)))) (by kernel_rfl) (by simp) (out:=[Iv_ id,Iv_ sz,Iv_ q,v6]) rfl) ?_);rintro w H;replace H:=H.l6;refine Zc 3 rfl (Zl [4,4] H rfl ?_);have hall2:∀ e9,(Ba k V)[i]? =some e9→k≤e9.1:=fun e9 he9=>by first|(have:=(List.getElem?_eq_some_iff.1 he9).1;omega)|(rw[he] at he9;cases he9;omega)
   rw[show (0+i+1+((Ba k V).length - i):Nat)=((Ba k V).take i++(k,d)::(Ba k V).drop i).length from by simp only[List.length_append,List.length_take,List.length_cons,List.length_drop];omega,show ([]++B0 (((Ba k V).drop 0).take i)++List.take (1 * 2) (List.drop 0 [Iv_ k,Ci d])++B0 (((Ba k V).drop i).take ((Ba k V).length - i)):List Value)=B0 ((Ba k V).take i++(k,d)::(Ba k V).drop i) from by rw[Ku,List.drop_zero,List.take_of_length_le (l:=(Ba k V).drop i) (by rw[List.length_drop];omega)];simp[B0]] at H;exact ⟨_,⟨_,_,⟨i,hall,hall2,rfl⟩,rfl,rfl⟩,H.pick 6 [1,3] rfl⟩
 ·refine Zc 14 rfl (gx (Z2 13 [3,3,0] H rfl (Ac rfl (Hh (z:=2) (p:=0) (q:=i) (l':=i) (c':=mc) rfl (by kernel_rfl) rfl (.inl ⟨rfl,rfl⟩) (.inr ⟨_,_,_,rfl,rfl,rfl⟩) (by omega) (by omega) rfl rfl) ?_)));replace H:=(H.nilg 123 2).l5
  refine AL rfl (Bb 0 H rfl rfl (by kernel_rfl) A0 rfl rfl (H.rd 1 rfl (fun h q=>q.rd.cutB (by omega) (by omega))) (Is _) (by omega)) ?_;rintro v7 w H;replace H:=H.l5;have sv7:=H.says 0 rfl (fun h q=>q.slc)
  refine Zc 8 rfl (Ac rfl (AF rfl rfl (out:=[Iv_ k,Ci d]) (by kernel_rfl)) (AL rfl (AV H rfl (by kernel_rfl) A0 rfl (by decide) (by decide) (out:=[Iv_ k,Ci d]) (by kernel_rfl)) ?_));rintro _ w ⟨b8,rfl,H⟩;replace H:=H.l6;refine AL rfl (Bb 1 H rfl rfl (by kernel_rfl) A0 rfl rfl (H.rd 0 rfl (fun h q=>q.rd (by omega) (by omega) (by simp) rfl)) (by simp[Ci,Value.oneCell']) (by omega)) ?_;rintro v9 w H;replace H:=H.l6;have sv9:=H.says 1 rfl (fun h q=>q.slc)
  refine Z2 9 [3,5,0] H rfl (Ac rfl (Hh (z:=2) (p:=i) (q:=(Ba k V).length) (l':=((Ba k V).length) - i) (c':=mc - i) rfl (by kernel_rfl) rfl (.inr ⟨_,_,_,rfl,rfl,rfl⟩) (.inl ⟨rfl,rfl⟩) (by omega) (by omega) rfl rfl) (AL rfl (Bb 1 H rfl rfl (by kernel_rfl) A0 rfl rfl (H.rd 2 rfl (fun h q=>q.rd.cutB (by omega) (by omega))) (Is _) (by omega)) ?_));rintro v10 w H;replace H:=H.l6;have sv10:=H.says 1 rfl (fun h q=>q.slc)
  refine Z0 7 [3] rfl (Az rfl rfl (RQ 5 H rfl rfl rfl rfl sv10.cells sv10.one (by kernel_rfl)) ?_);rintro w H;replace H:=H.l6;refine Z2 5 [5,4] H rfl (Az rfl rfl (Ag 4 H rfl rfl rfl rfl (vs:=[Iv_ id,Iv_ sz,Iv_ q,v10]) rfl (Ab rfl (Ab rfl (Ab rfl (Ab sv10.one Ar)))) (by kernel_rfl) (by simp) (out:=[Iv_ id,Iv_ sz,Iv_ q,v10]) rfl) ?_);rintro w H;replace H:=H.l6;refine Zc 3 rfl (Zl [4,4] H rfl ?_);have hall2:∀ e9,(Ba k V)[i]? =some e9→k≤e9.1:=fun e9 he9=>by first|(have:=(List.getElem?_eq_some_iff.1 he9).1;omega)|(rw[he] at he9;cases he9;omega)
  rw[show (0+i+1+((Ba k V).length - i):Nat)=((Ba k V).take i++(k,d)::(Ba k V).drop i).length from by simp only[List.length_append,List.length_take,List.length_cons,List.length_drop];omega,show ([]++B0 (((Ba k V).drop 0).take i)++List.take (1 * 2) (List.drop 0 [Iv_ k,Ci d])++B0 (((Ba k V).drop i).take ((Ba k V).length - i)):List Value)=B0 ((Ba k V).take i++(k,d)::(Ba k V).drop i) from by rw[Ku,List.drop_zero,List.take_of_length_le (l:=(Ba k V).drop i) (by rw[List.length_drop];omega)];simp[B0]] at H;exact ⟨_,⟨_,_,⟨i,hall,hall2,rfl⟩,rfl,rfl⟩,H.pick 6 [1,3] rfl⟩
end
open Go.RowKit
def BH (id st sz q r mp:Int):Prop:=(1≤id∧id≤1073741824)∧(st=1∨st=2)∧(1≤sz∧sz≤1048576)∧(0≤q∧q≤1048576)∧(0≤r∧r≤1023)∧0≤mp∧mp≤1024
instance (id st sz q r mp:Int):Decidable (BH id st sz q r mp):=by unfold BH;exact inferInstance
def A9 (id st sz q r mp blk:Int):Int:=if BH id st sz q r mp then (if 0≤blk∧blk≤sz - 1 then 0 else 34) else 1
theorem CT (k l m:Int):Cn prog 71 [Iv_ k,Iv_ l,Iv_ m] [] (fun v Γ=>v= .bool (decide (l≤k∧k≤m))∧Γ=[]):=by
 intro z R w H;replace H:=H.l0;refine Ad func71 rfl ntmps71 rfl (Z0 11 [0] rfl (Ak 10 rfl (fun h1=> ?_) (fun h1=> ?_)))
 ·refine Z0 8 [0] rfl (Zr rfl ?_);exact ⟨_,⟨congrArg Value.bool (by first|(rw[Bool.eq_iff_iff];simp<;>omega)|(simp<;>omega)),rfl⟩,H⟩
 ·refine Zc 8 rfl (Zr rfl ?_);exact ⟨_,⟨congrArg Value.bool (by first|(rw[Bool.eq_iff_iff];simp<;>omega)|(simp<;>omega)),rfl⟩,H⟩
theorem tmay_c (pp:Nat) (id st sz q r mp kk:Int):Cn prog 40 [Pt_ pp,.agg #[Iv_ id,Iv_ st,Iv_ sz,Iv_ q,Iv_ r,Iv_ mp],Iv_ kk] [] (fun v Γ=>v=Iv_ (A9 id st sz q r mp kk)∧Γ=[]):=by
 intro z R w H;replace H:=H.l0;refine Ad func40 rfl ntmps40 rfl (Za 2 [] H rfl ?_);intro b1 w H;refine Z2 12 [0,0,0] H rfl (z_E_ rfl (call71 _) (CT _ _ _) H ?_);intro w H;replace H:=H.l1;refine Ac rfl (Ax rfl rfl) (Zc 2 rfl (Ak 16 rfl (fun h1=> ?_) (fun h1=> ?_)))
 ·refine Zc 19 rfl (Zr rfl ?_);have hv:A9 id st sz q r mp kk=1:=by unfold A9;rw[if_neg (by unfold BH;omega)]
  exact ⟨_,⟨by rw[hv],rfl⟩,H.perm 1 [] rfl rfl⟩
 ·refine Z2 4 [1,0,0,0] H rfl (Ak 20 rfl (fun h2=> ?_) (fun h2=> ?_))
  ·refine Z2 8 [1,0,0,0] H rfl (Af rfl (fun h3=> ?_) (fun h3=> ?_))
   ·refine Zc 6 rfl (Zr rfl ?_);have hv:A9 id st sz q r mp kk=1:=by unfold A9;rw[if_neg (by unfold BH;omega)]
    exact ⟨_,⟨by rw[hv],rfl⟩,H.perm 1 [] rfl rfl⟩
   ·refine Z2 4 [2,0,0] H rfl (z_E_ rfl (call71 _) (CT _ _ _) H ?_);intro w H;replace H:=H.l1;refine Ac rfl (Ax rfl rfl) (Zc 1 rfl (Ak 31 rfl (fun h4=> ?_) (fun h4=> ?_)))
    ·refine Zc 15 rfl (Zr rfl ?_);have hv:A9 id st sz q r mp kk=1:=by unfold A9;rw[if_neg (by unfold BH;omega)]
     exact ⟨_,⟨by rw[hv],rfl⟩,H.perm 1 [] rfl rfl⟩
    ·refine Z2 2 [3,0,0] H rfl (z_E_ rfl (call71 _) (CT _ _ _) H ?_);intro w H;replace H:=H.l1;refine Ac rfl (Ax rfl rfl) (Zc 4 rfl (Af rfl (fun h5=> ?_) (fun h5=> ?_)))
     ·refine Zc 6 rfl (Zr rfl ?_);have hv:A9 id st sz q r mp kk=1:=by unfold A9;rw[if_neg (by unfold BH;omega)]
      exact ⟨_,⟨by rw[hv],rfl⟩,H.perm 1 [] rfl rfl⟩
     ·refine Z2 4 [4,0,0] H rfl (z_E_ rfl (call71 _) (CT _ _ _) H ?_);intro w H;replace H:=H.l1;refine Ac rfl (Ax rfl rfl) (Zc 1 rfl (Ak 42 rfl (fun h6=> ?_) (fun h6=> ?_)))
      ·refine Zc 15 rfl (Zr rfl ?_);have hv:A9 id st sz q r mp kk=1:=by unfold A9;rw[if_neg (by unfold BH;omega)]
       exact ⟨_,⟨by rw[hv],rfl⟩,H.perm 1 [] rfl rfl⟩
      ·refine Z2 2 [5,0,0] H rfl (z_E_ rfl (call71 _) (CT _ _ _) H ?_);intro w H;replace H:=H.l1;refine Ac rfl (Ax rfl rfl) (Zc 4 rfl (Af rfl (fun h7=> ?_) (fun h7=> ?_)))
       ·refine Zc 6 rfl (Zr rfl ?_);have hv:A9 id st sz q r mp kk=1:=by unfold A9;rw[if_neg (by unfold BH;omega)]
        exact ⟨_,⟨by rw[hv],rfl⟩,H.perm 1 [] rfl rfl⟩
       ·refine Z3 6 [2,0,0] [sz - 1] H rfl (by omega) (z_E_ rfl (call71 _) (CT _ _ _) H ?_);intro w H;replace H:=H.l1;refine Ac rfl (Ax rfl rfl) (Zc 3 rfl (Af rfl (fun h8=> ?_) (fun h8=> ?_)))
        ·refine Zc 6 rfl (Zr rfl ?_);have hv:A9 id st sz q r mp kk=34:=by unfold A9;rw[if_pos (by unfold BH;omega),if_neg (by omega)]
         exact ⟨_,⟨by rw[hv],rfl⟩,H.perm 1 [] rfl rfl⟩
        ·refine Zc 9 rfl (Zr rfl ?_);have hv:A9 id st sz q r mp kk=0:=by unfold A9;rw[if_pos (by unfold BH;omega),if_pos (by omega)]
         exact ⟨_,⟨by rw[hv],rfl⟩,H.perm 1 [] rfl rfl⟩
  ·refine Z2 13 [2,0,0] H rfl (z_E_ rfl (call71 _) (CT _ _ _) H ?_);intro w H;replace H:=H.l1;refine Ac rfl (Ax rfl rfl) (Zc 1 rfl (Ak 31 rfl (fun h9=> ?_) (fun h9=> ?_)))
   ·refine Zc 15 rfl (Zr rfl ?_);have hv:A9 id st sz q r mp kk=1:=by unfold A9;rw[if_neg (by unfold BH;omega)]
    exact ⟨_,⟨by rw[hv],rfl⟩,H.perm 1 [] rfl rfl⟩
   ·refine Z2 2 [3,0,0] H rfl (z_E_ rfl (call71 _) (CT _ _ _) H ?_);intro w H;replace H:=H.l1;refine Ac rfl (Ax rfl rfl) (Zc 4 rfl (Af rfl (fun h10=> ?_) (fun h10=> ?_)))
    ·refine Zc 6 rfl (Zr rfl ?_);have hv:A9 id st sz q r mp kk=1:=by unfold A9;rw[if_neg (by unfold BH;omega)]
     exact ⟨_,⟨by rw[hv],rfl⟩,H.perm 1 [] rfl rfl⟩
    ·refine Z2 4 [4,0,0] H rfl (z_E_ rfl (call71 _) (CT _ _ _) H ?_);intro w H;replace H:=H.l1;refine Ac rfl (Ax rfl rfl) (Zc 1 rfl (Ak 42 rfl (fun h11=> ?_) (fun h11=> ?_)))
     ·refine Zc 15 rfl (Zr rfl ?_);have hv:A9 id st sz q r mp kk=1:=by unfold A9;rw[if_neg (by unfold BH;omega)]
      exact ⟨_,⟨by rw[hv],rfl⟩,H.perm 1 [] rfl rfl⟩
     ·refine Z2 2 [5,0,0] H rfl (z_E_ rfl (call71 _) (CT _ _ _) H ?_);intro w H;replace H:=H.l1;refine Ac rfl (Ax rfl rfl) (Zc 4 rfl (Af rfl (fun h12=> ?_) (fun h12=> ?_)))
      ·refine Zc 6 rfl (Zr rfl ?_);have hv:A9 id st sz q r mp kk=1:=by unfold A9;rw[if_neg (by unfold BH;omega)]
       exact ⟨_,⟨by rw[hv],rfl⟩,H.perm 1 [] rfl rfl⟩
      ·refine Z3 6 [2,0,0] [sz - 1] H rfl (by omega) (z_E_ rfl (call71 _) (CT _ _ _) H ?_);intro w H;replace H:=H.l1;refine Ac rfl (Ax rfl rfl) (Zc 3 rfl (Af rfl (fun h13=> ?_) (fun h13=> ?_)))
       ·refine Zc 6 rfl (Zr rfl ?_);have hv:A9 id st sz q r mp kk=34:=by unfold A9;rw[if_pos (by unfold BH;omega),if_neg (by omega)]
        exact ⟨_,⟨by rw[hv],rfl⟩,H.perm 1 [] rfl rfl⟩
       ·refine Zc 9 rfl (Zr rfl ?_);have hv:A9 id st sz q r mp kk=0:=by unfold A9;rw[if_pos (by unfold BH;omega),if_pos (by omega)]
        exact ⟨_,⟨by rw[hv],rfl⟩,H.perm 1 [] rfl rfl⟩
theorem Kx (id st sz q r mp kk:Int):Cn prog 40 [.pointer none,.agg #[Iv_ id,Iv_ st,Iv_ sz,Iv_ q,Iv_ r,Iv_ mp],Iv_ kk] [] (fun v Γ=>v=Iv_ 1∧Γ=[]):=by
 intro z R w H;replace H:=H.l0;refine Ad func40 rfl ntmps40 rfl (Za 2 [] H rfl ?_);intro b1 w H;refine Zc 35 rfl (Zr rfl ?_);exact ⟨_,⟨rfl,rfl⟩,H.perm 1 [] rfl rfl⟩
section
open Go.RowKit
variable {Tb:Ae}
theorem Nv (pp:Nat) (id st sz q r mp blk:Int) (hv:BH id st sz q r mp):Cn prog 40 [Pt_ pp,.agg #[Iv_ id,Iv_ st,Iv_ sz,Iv_ q,Iv_ r,Iv_ mp],Iv_ blk] [] (fun v Γ=>((0≤blk∧blk<sz)∧v=Iv_ 0∧Γ=[])∨(¬ (0≤blk∧blk<sz)∧v=Iv_ 34∧Γ=[])):=by
 intro z R w H
 refine Ret.mono (tmay_c pp id st sz q r mp blk z R w H) ?_
 rintro v w' ⟨Γ',⟨rfl,rfl⟩,H'⟩
 unfold A9
 rw[if_pos hv]
 by_cases hb:0≤blk∧blk<sz
 ·exact ⟨_,.inl ⟨hb,by rw[if_pos (by omega)],rfl⟩,H'⟩
 ·exact ⟨_,.inr ⟨hb,by rw[if_neg (by omega)],rfl⟩,H'⟩
set_option maxHeartbeats 2000000 in
theorem WT (pp mb n:Nat) (o:TB) (T:TT) (id st sz q mp kk:Int) (ra:Nat) (L:List E) (hR:Root (C3 o T) ra L) (hv:BH id st sz q (ra:Int) mp):Cn prog 15 [Pt_ pp,.agg #[Iv_ id,Iv_ st,Iv_ sz,Iv_ q,Iv_ (ra:Int),Iv_ mp],Iv_ kk] [trA Tb pp mb n o T] (fun v Γ=>((0≤kk∧kk<sz)∧∃ b:Nat,(Di kk (Bz (C3 o T) L)).length=64∧v= .tuple #[.slice (some ⟨b,0,none⟩) 64 64,Iv_ 0]∧Γ=[blk b ((Di kk (Bz (C3 o T) L)).map u8) 5,trA Tb pp mb n o T])∨(¬ (0≤kk∧kk<sz)∧v= .tuple #[.slice none 0 0,Iv_ 34]∧Γ=[trA Tb pp mb n o T])):=by
 intro z R w H;replace H:=H.l1;have K:=H.says 0 rfl (fun h a=>trA.k a)
 have hn:=K.hn
 have hvp:∀ e∈L,1≤e.2:=fun e he=>(Ez K.i (by omega) (show ∀ e∈L,∃ b,C3 o T e.2=some (.dt b) from hR.data) e he).1
 refine Ad func15 rfl ntmps15 rfl (Za 2 [] H rfl ?_);intro b1 w H;refine Z2 10 [0,6] H rfl (Aw rfl (call40 _) (Nv _ _ _ _ _ _ _ _ hv) H ?_);rintro _ w _ (⟨hb,rfl,rfl⟩|⟨hb,rfl,rfl⟩) H'
 ·have H:=H'.l2;refine Z2 18 [4,4,0,0] H rfl (z_E_ rfl (call41 _) (Rv pp mb n o T ra kk L hR) H.f1 ?_);intro w H;refine Z0 19 [4] rfl (AL rfl (DA (k:=64) H rfl (by kernel_rfl) Cf rfl rfl rfl (by omega)) ?_);rintro _ w ⟨b2,rfl,H⟩;replace H:=H.l3;refine Z0 10 [0] rfl (Af rfl (fun h1=> ?_) (fun h1=> ?_))
  ·refine Zc 8 rfl (Zr rfl ?_);have hgB:Di kk (Bz (C3 o T) L)=JN:=by rw[I3 (fun e he=>hvp e he),if_pos (by omega)]
   exact ⟨_,.inl ⟨hb,b2,by rw[hgB];rfl,rfl,rfl⟩,H.pick 3 [0,1] rfl |>.mono 0 rfl (fun h q=>by rw[hgB];exact q)⟩
  ·refine Zc 3 rfl ?_;obtain ⟨vv,hvv⟩:=(Fc hvp).1.1 (show getE kk L≠0 by omega);have hgv:=(Fc hvp).2 vv hvv hR.srt.1
   obtain ⟨bb,hbb⟩:=hR.data _ hvv;have hbb:C3 o T (getE kk L)=some (.dt bb):=by rw[hgv];exact hbb
   have hnin:=K.i.nin _ _ hbb
   obtain ⟨M0,uu,⟨_,_,_,hm⟩,H',back⟩:=(H.pick 3 [1,0,2] rfl).trP;obtain ⟨X,hX,H'⟩:=H'.po;have hqq:(⟨5,bb⟩:Pg)=Db X.G.M (Rj X.g uu) (getE kk L):=by have h1:=(hm _ _ hbb).1;rcases uu with _|T';exact h1.symm.trans (hX.m0 _ (.inr (by omega)));exact h1.symm.trans ((hX.tx T' rfl).m _ (.inr (by omega)))
   have hbl:bb.length=240:=(hm _ _ hbb).2.2
   have hgB:Di kk (Bz (C3 o T) L)=bb.take 64:=by rw[I3 (fun e he=>hvp e he),if_neg (by omega),hbb];rfl
   clear H;have H:=H'.l9;refine Z2 7 [0,0,0,0] H rfl (Aw rfl (call42 _) (JC X.ps X.pd X.D X.G (Rj X.g uu) (getE kk L) (by rw[hX.pg];omega) hX.fine.clean.f1 ⟨5,bb⟩ hqq) H.f1 ?_);rintro _ w _ (⟨hno,rfl,rfl⟩|⟨hyes,rv,rfl,rfl⟩) H'
   ·(exfalso;have h0:noPg.kind=(⟨5,bb⟩:Pg).kind:=(by rw[hno]);cases h0)
   ·have H:=H'.l10;obtain ⟨gb,cap,rest,rfl,c1,c2,c3,H⟩:=H.ungrow 0 rfl (by omega);replace H:=H.l10;refine Za 3 [] H rfl ?_;intro b3 w H;refine Z4 30 [0,4,0,0,0,4,1,0,0] H rfl ?_;intro w H;refine AL rfl (Fi 9 H rfl rfl (by kernel_rfl) rfl rfl (m:=240) (news:=(bb.map u8)) (.inl (H.rd 1 rfl (fun h q=>q.rd (by omega) (by omega) (by rw[List.length_append,List.length_map,hbl];omega) (by rw[List.drop_zero,Nat.mul_one,List.take_left' (by rw[List.length_map,hbl])])))) (by simp[u8,Value.oneCell']) (by simp) (k:=64) (by decide) (out:=((Di kk (Bz (C3 o T) L)).map u8)) (by rw[hgB];simp[hbl,List.map_take,List.take_of_length_le])) ?_;rintro _ w ⟨rfl,H⟩;replace H:=H.l11;refine Zc 10 rfl (Zr rfl ?_);have H8:=back _ _ ((H.pick 11 [3,2,4,5,6,7,8,9] rfl).toPo (X:=X) hX rfl)
    exact ⟨_,.inl ⟨hb,b2,by rw[hgB];simp[hbl],rfl,rfl⟩,H8.pick 2 [1,0] rfl⟩
 ·have H:=H'.l2;refine Z0 18 [3] rfl (Zr rfl ?_);exact ⟨_,.inr ⟨hb,rfl,rfl⟩,H.pick 2 [1] rfl⟩
end
section
open Go.RowKit
variable {Tb:Ae}
theorem trA.k0 {n pp mb:Nat} {o:TB} {T:TT} {h:Hp} (a:trA Tb pp mb n o T h):TrK n o none:=by
 have key:∀ (M0:Nat→Pg) (u:Option PoT),Rel n M0 o.N o.C o.R→poA Tb pp mb n M0 o.C u h→TrK n o none:=fun M0 u hr a=>by
  have hn:=a.hn
  refine ⟨hn,hr.i,a.c0.2,fun p hp=> ?_⟩
  have hp':AS n o.C p=true:=hp
  simp[AS] at hp'
  refine ⟨hp'.1,hp'.2,?_⟩
  rcases Nat.lt_or_ge (manyN n) p with h|h
  ·exact h
  ·have:=a.c0.2 p h;omega
 cases T with
 | none=>obtain ⟨M0,hr,a⟩:=a;exact key M0 _ hr a
 | some s=>obtain ⟨M0,M,⟨hr,_⟩,a⟩:=a;exact key M0 _ hr a
structure WrF (n:Nat) (o:TB) (t3:TS) (ra r:Nat) (Q:List Nat) (kk:Int) (val:Nat) (bs:List UInt8) (L:List E):Prop where
 root:Root t3.N r (putE kk val L)
 nd:(vals (putE kk val L)).Nodup
 kp:Kp o.N t3.N Q
 dt:Dt o.N t3.N
 vol:∀ V2,PF kk bs (Bz o.N L) V2→V2=Bz t3.N (putE kk val L)
 k:t3.k≤17
 f:cnt (AS n o.C) 0 1024≤cnt t3.F 0 1024+12
 g:cnt t3.F 0 1024≤cnt (AS n t3.C) 0 1024
theorem WrF.of {n:Nat} {o:TB} {t2 t3:TS} {ra r:Nat} {Q:List Nat} {kk:Int} {val:Nat} {bs:List UInt8} {L:List E} (K:TrK n o none) (hm:bs.length=64) (h0:o.N val=none) (h2:t2.N=fup o.N val (some (.dt (bs++List.replicate 176 0)))) (hFa:t2.F val=false) (hFF:∀ q,t2.F q=true→AS n o.C q=true) (hkT:∀ h c lo hi m L,Tr o.N h c lo hi m L→Tr t2.N h c lo hi m L) (y:St t2 t3 Q 11 16) (hR:Root o.N ra L) (hR3:Root t3.N r (putE kk val L)) (hnd:(vals (putE kk val L)).Nodup) (hk2:t2.k≤0+1) (hf2:cnt (AS n o.C) 0 1024=cnt t2.F 0 1024+1) (hfr:cnt t3.F 0 1024≤cnt (AS n t3.C) 0 1024):WrF n o t3 ra r Q kk val bs L:=by
 have hk:=y.k
 have hf:=y.f
 refine ⟨hR3,hnd,Kp.of fun c hc h lo hi m L x=>y.fr c hc h lo hi m L (hkT h c lo hi m L x),Rx K h0 h2 hFF y,fun V2 hp=> ?_,by omega,by omega,hfr⟩
 exact WR K h0 h2 hFa hFF y hR hR3 (by rw[List.take_left' hm];exact hp)
set_option maxHeartbeats 4000000 in
theorem T0 (pp mb n:Nat) (o:TB) (id st sz q mp kk:Int) (ra:Nat) (L:List E) (Q:List Nat) (D:Ae) (dv:Value) (bs:List UInt8) (hI:LwI n o ra L Q) (hv:BH id st sz q (ra:Int) mp) (hD:∀ h,D h→rdH 1 dv bs.length (bs.map u8) h):Cn prog 16 [Pt_ pp,.agg #[Iv_ id,Iv_ st,Iv_ sz,Iv_ q,Iv_ (ra:Int),Iv_ mp],Iv_ kk,dv] [trA Tb pp mb n o (some ((⟨o.N,o.C,AS n o.C,0⟩:TS),Bv ra++Q)),D] (fun v Γ=>(¬ (0≤kk∧kk<sz)∧v= .tuple #[.agg #[Iv_ 0,Iv_ 0,Iv_ 0,Iv_ 0,Iv_ 0,Iv_ 0],Iv_ 34]∧Γ=[trA Tb pp mb n o (some (⟨o.N,o.C,AS n o.C,0⟩,Bv ra++Q)),D])∨((0≤kk∧kk<sz)∧bs.length≠64∧v= .tuple #[.agg #[Iv_ 0,Iv_ 0,Iv_ 0,Iv_ 0,Iv_ 0,Iv_ 0],Iv_ 1]∧Γ=[trA Tb pp mb n o (some (⟨o.N,o.C,AS n o.C,0⟩,Bv ra++Q)),D])∨(((0≤kk∧kk<sz)∧bs.length=64)∧(getE kk L=0∧q≤mp)∧v= .tuple #[.agg #[Iv_ 0,Iv_ 0,Iv_ 0,Iv_ 0,Iv_ 0,Iv_ 0],Iv_ 30]∧Γ=[trA Tb pp mb n o (some (⟨o.N,o.C,AS n o.C,0⟩,Bv ra++Q)),D])∨(((0≤kk∧kk<sz)∧bs.length=64∧¬ (getE kk L=0∧q≤mp))∧cnt (AS n o.C) 0 1024≤11∧∃ s3,v= .tuple #[.agg #[Iv_ 0,Iv_ 0,Iv_ 0,Iv_ 0,Iv_ 0,Iv_ 0],Iv_ 20]∧Γ=[trA Tb pp mb n o (some s3),D])∨(((0≤kk∧kk<sz)∧bs.length=64∧¬ (getE kk L=0∧q≤mp))∧∃ (t3:TS) (r val:Nat),WrF n o t3 ra r Q kk val bs L∧v= .tuple #[.agg #[Iv_ id,Iv_ st,Iv_ sz,Iv_ q,Iv_ (r:Int),Iv_ (if getE kk L=0 then mp+1 else mp)],Iv_ 0]∧Γ=[trA Tb pp mb n o (some (t3,Bv r++Q)),D])):=by
 intro z R w H;replace H:=H.l2;obtain ⟨dob,dc,rfl⟩:=H.says 1 rfl (fun h q=>(hD h q).slc);have hdl:=H.says 1 rfl (fun h q=>(hD h q).slcap)
 have K0:=H.says 0 rfl (fun h a=>trA.k0 a)
 have K:=H.says 0 rfl (fun h a=>trA.k a)
 have hn:=K.hn
 have hvp:∀ e∈L,1≤e.2:=fun e he=>(Ez K.i (by omega) (show ∀ e∈L,∃ b,C3 o (some ((⟨o.N,o.C,AS n o.C,0⟩:TS),Bv ra++Q)) e.2=some (.dt b) from hI.root.data) e he).1
 refine Ad func16 rfl ntmps16 rfl (Za 2 [] H rfl ?_);intro b1 w H;refine Za 0 [] H rfl ?_;intro b2 w H;refine Z2 9 [1,6] H rfl (Aw rfl (call40 _) (Nv _ _ _ _ _ _ _ _ hv) H ?_);rintro _ w _ (⟨hb,rfl,rfl⟩|⟨hb,rfl,rfl⟩) H'
 ·have H:=H'.l4;refine Z0 17 [4] rfl (z_E_ rfl (call43 _) (Km pp mb n o _) H.f2 ?_);intro w H;replace H:=H.l4;refine Al 25 (v:= .bool true) rfl rfl (Z0 13 [0] rfl (Af rfl (fun h1=> ?_) (fun h1=> ?_)))
  ·refine Zc 2 rfl (Ac rfl (AF rfl rfl (out:=[Iv_ 0,Iv_ 0,Iv_ 0,Iv_ 0,Iv_ 0,Iv_ 0]) (by kernel_rfl)) (Z4 5 [1] H rfl ?_));intro w H;refine Zl [1,6] H rfl ?_;exact ⟨_,.inr (.inl ⟨hb,by omega,rfl,rfl⟩),H.pick 4 [0,3] rfl⟩
  ·refine Z2 9 [4,2,0] H rfl (z_E_ rfl (call41 _) (Rv pp mb n o (some ((⟨o.N,o.C,AS n o.C,0⟩:TS),Bv ra++Q)) ra kk L hI.root) H ?_);intro w H;refine Z0 23 [4,0] rfl (Ak 47 rfl (fun h2=> ?_) (fun h2=> ?_))
   ·refine Z2 8 [5,2,0,3,2,0,0] H rfl (Af rfl (fun h3=> ?_) (fun h3=> ?_))
    ·refine Zc 2 rfl (Ac rfl (AF rfl rfl (out:=[Iv_ 0,Iv_ 0,Iv_ 0,Iv_ 0,Iv_ 0,Iv_ 0]) (by kernel_rfl)) (Z4 5 [1] H rfl ?_));intro w H;refine Zl [1,6] H rfl ?_;exact ⟨_,.inr (.inr (.inl ⟨⟨hb,by omega⟩,⟨by omega,by omega⟩,rfl,rfl⟩)),H.pick 4 [0,3] rfl⟩
    ·refine Zc 3 rfl ?_;have hm64:bs.length=64:=by omega
     refine Zc 1 rfl (AL rfl (DA (k:=240) H rfl (by kernel_rfl) Cf rfl rfl rfl (by omega)) ?_);rintro _ w ⟨b3,rfl,H⟩;replace H:=H.l5;refine Zc 7 rfl (AL rfl (Fi 0 H rfl rfl (by kernel_rfl) rfl rfl (m:=bs.length) (news:=(bs.map u8)) (.inl (H.rd 4 rfl (fun h q=>hD h q))) (by simp[u8,Value.oneCell']) (by rw[List.length_replicate];omega) (k:=64) (by omega) (out:=((bs++List.replicate 176 0).map u8)) (by rw[List.take_of_length_le (l:=bs.map u8) (by rw[List.length_map];omega)];simp[u8])) ?_);rintro _ w ⟨rfl,H⟩;replace H:=H.l5;refine Zc 7 rfl (Aw rfl (call44 _) (Nu pp mb n o (⟨o.N,o.C,AS n o.C,0⟩:TS) (Bv ra++Q) (bs++List.replicate 176 0) (by simp[hm64]) b3 (by show 0<40;omega)) H.f1 ?_);rintro _ w _ (⟨h00,rfl,rfl⟩|⟨val,t2,⟨⟨hv0,hvd,hFa,hFF⟩,hnv,hkT,hk2,hf2⟩,rfl,rfl⟩) H'
     ·have H:=H'.l5;have hf0:cnt (AS n o.C) 0 1024=0:=h00
      have hf3:cnt (AS n o.C) 0 1024≤11:=by omega
      refine Z0 17 [3] rfl (Ac rfl (AF rfl rfl (out:=[Iv_ 0,Iv_ 0,Iv_ 0,Iv_ 0,Iv_ 0,Iv_ 0]) (by kernel_rfl)) (Z4 6 [2] H rfl ?_));intro w H;refine Zl [2,6] H rfl ?_;exact ⟨_,.inr (.inr (.inr (.inl ⟨⟨hb,by omega,by omega⟩,by omega,_,rfl,rfl⟩))),H.pick 5 [0,4] rfl⟩
     ·have H:=H'.l5;have hf3:cnt (AS n o.C) 0 1024=cnt t2.F 0 1024+1:=hf2
      have hk3:t2.k≤0+1:=hk2
      refine Z2 25 [4,4,3,0] H rfl ?_;have hR2:Root t2.N ra L:=Kp.of (Q:=[ra]) (fun c _ h=>hkT h c) ra (by simp) L hI.root
      have hv3:sz≤1048576:=by have:=hv;unfold BH at this;omega
      have hvd2:t2.N val=some (.dt (bs++List.replicate 176 0)):=by rw[hvd,Bx]
      refine Aw rfl (call45 _) (UI pp mb n o t2 Q ra kk val _ L hR2 hI.n hI.nd (by omega) hvd2 hnv (by omega) hI.q) H ?_;rintro _ w _ (⟨hf4,s3,rfl,rfl⟩|⟨t3,r,⟨hSt3,hR3,hfr⟩,rfl,rfl⟩) H'
      ·have H:=H'.l5;have hf3b:cnt (AS n o.C) 0 1024≤11:=by omega
       refine Z4 17 [4,3,3] H rfl ?_;intro w H;refine Ac rfl (AF rfl rfl (out:=[Iv_ 0,Iv_ 0,Iv_ 0,Iv_ 0,Iv_ 0,Iv_ 0]) (by kernel_rfl)) (Z4 6 [2] H rfl ?_);intro w H;refine Zl [2,6] H rfl ?_;exact ⟨_,.inr (.inr (.inr (.inl ⟨⟨hb,by omega,by omega⟩,by omega,_,rfl,rfl⟩))),H.pick 5 [0,4] rfl⟩
      ·have H:=H'.l5;have hSk:=hSt3.k
       have hSf:=hSt3.f
       have hnd3:(vals (putE kk val L)).Nodup:=JM hI.root.srt.1 hI.nd (fun q=>by obtain ⟨e,he,rfl⟩:=List.mem_map.1 q;obtain ⟨b,hb⟩:=hI.root.data e he;rw[show o.N e.2=none from hv0] at hb;cases hb)
       refine Z4 24 [4,3,4,0] H rfl ?_;intro w H;refine Af rfl (fun h4=> ?_) (fun h4=> ?_)
       ·have hv2:=hv
        unfold BH at hv2
        refine Z5 16 [5,3,0,5,3,3,6,2] [mp+1] H rfl (by omega) ?_;intro w H;refine Zl [2,6] H rfl ?_;exact ⟨_,.inr (.inr (.inr (.inr ⟨⟨hb,by omega,by omega⟩,t3,r,val,WrF.of K0 hm64 hv0 hvd hFa hFF hkT hSt3 hI.root hR3 hnd3 hk2 hf2 hfr,by rw[if_pos (by omega)],rfl⟩))),H.pick 5 [0,4] rfl⟩
       ·exact absurd h2 h4
   ·refine Zc 12 rfl ?_;have hm64:bs.length=64:=by omega
    refine Zc 1 rfl (AL rfl (DA (k:=240) H rfl (by kernel_rfl) Cf rfl rfl rfl (by omega)) ?_);rintro _ w ⟨b4,rfl,H⟩;replace H:=H.l5;refine Zc 7 rfl (AL rfl (Fi 0 H rfl rfl (by kernel_rfl) rfl rfl (m:=bs.length) (news:=(bs.map u8)) (.inl (H.rd 4 rfl (fun h q=>hD h q))) (by simp[u8,Value.oneCell']) (by rw[List.length_replicate];omega) (k:=64) (by omega) (out:=((bs++List.replicate 176 0).map u8)) (by rw[List.take_of_length_le (l:=bs.map u8) (by rw[List.length_map];omega)];simp[u8])) ?_);rintro _ w ⟨rfl,H⟩;replace H:=H.l5;refine Zc 7 rfl (Aw rfl (call44 _) (Nu pp mb n o (⟨o.N,o.C,AS n o.C,0⟩:TS) (Bv ra++Q) (bs++List.replicate 176 0) (by simp[hm64]) b4 (by show 0<40;omega)) H.f1 ?_);rintro _ w _ (⟨h00,rfl,rfl⟩|⟨val,t2,⟨⟨hv0,hvd,hFa,hFF⟩,hnv,hkT,hk2,hf2⟩,rfl,rfl⟩) H'
    ·have H:=H'.l5;have hf0:cnt (AS n o.C) 0 1024=0:=h00
     have hf3:cnt (AS n o.C) 0 1024≤11:=by omega
     refine Z0 17 [3] rfl (Ac rfl (AF rfl rfl (out:=[Iv_ 0,Iv_ 0,Iv_ 0,Iv_ 0,Iv_ 0,Iv_ 0]) (by kernel_rfl)) (Z4 6 [2] H rfl ?_));intro w H;refine Zl [2,6] H rfl ?_;exact ⟨_,.inr (.inr (.inr (.inl ⟨⟨hb,by omega,by omega⟩,by omega,_,rfl,rfl⟩))),H.pick 5 [0,4] rfl⟩
    ·have H:=H'.l5;have hf3:cnt (AS n o.C) 0 1024=cnt t2.F 0 1024+1:=hf2
     have hk3:t2.k≤0+1:=hk2
     refine Z2 25 [4,4,3,0] H rfl ?_;have hR2:Root t2.N ra L:=Kp.of (Q:=[ra]) (fun c _ h=>hkT h c) ra (by simp) L hI.root
     have hv3:sz≤1048576:=by have:=hv;unfold BH at this;omega
     have hvd2:t2.N val=some (.dt (bs++List.replicate 176 0)):=by rw[hvd,Bx]
     refine Aw rfl (call45 _) (UI pp mb n o t2 Q ra kk val _ L hR2 hI.n hI.nd (by omega) hvd2 hnv (by omega) hI.q) H ?_;rintro _ w _ (⟨hf4,s3,rfl,rfl⟩|⟨t3,r,⟨hSt3,hR3,hfr⟩,rfl,rfl⟩) H'
     ·have H:=H'.l5;have hf3b:cnt (AS n o.C) 0 1024≤11:=by omega
      refine Z4 17 [4,3,3] H rfl ?_;intro w H;refine Ac rfl (AF rfl rfl (out:=[Iv_ 0,Iv_ 0,Iv_ 0,Iv_ 0,Iv_ 0,Iv_ 0]) (by kernel_rfl)) (Z4 6 [2] H rfl ?_);intro w H;refine Zl [2,6] H rfl ?_;exact ⟨_,.inr (.inr (.inr (.inl ⟨⟨hb,by omega,by omega⟩,by omega,_,rfl,rfl⟩))),H.pick 5 [0,4] rfl⟩
     ·have H:=H'.l5;have hSk:=hSt3.k
      have hSf:=hSt3.f
      have hnd3:(vals (putE kk val L)).Nodup:=JM hI.root.srt.1 hI.nd (fun q=>by obtain ⟨e,he,rfl⟩:=List.mem_map.1 q;obtain ⟨b,hb⟩:=hI.root.data e he;rw[show o.N e.2=none from hv0] at hb;cases hb)
      refine Z4 24 [4,3,4,0] H rfl ?_;intro w H;refine Af rfl (fun h5=> ?_) (fun h5=> ?_)
      ·exact absurd h5 h2
      ·refine Z4 10 [3,6,2] H rfl ?_;intro w H;refine Zl [2,6] H rfl ?_;exact ⟨_,.inr (.inr (.inr (.inr ⟨⟨hb,by omega,by omega⟩,t3,r,val,WrF.of K0 hm64 hv0 hvd hFa hFF hkT hSt3 hI.root hR3 hnd3 hk2 hf2 hfr,by rw[if_neg (by omega)],rfl⟩))),H.pick 5 [0,4] rfl⟩
 ·have H:=H'.l4;refine Z0 12 [3] rfl (Ac rfl (AF rfl rfl (out:=[Iv_ 0,Iv_ 0,Iv_ 0,Iv_ 0,Iv_ 0,Iv_ 0]) (by kernel_rfl)) (Z4 6 [0] H rfl ?_));intro w H;refine Zl [0,6] H rfl ?_;exact ⟨_,.inl ⟨hb,rfl,rfl⟩,H.pick 4 [2,3] rfl⟩
end
section
open Go.RowKit
variable {Tb:Ae}
structure UnF (n:Nat) (o:TB) (t3:TS) (r:Nat) (Q:List Nat) (kk:Int) (L:List E):Prop where
 root:Root t3.N r (Bt kk L)
 nd:(vals (Bt kk L)).Nodup
 kp:Kp o.N t3.N Q
 dt:Dt o.N t3.N
 k:t3.k≤0+27
 f:cnt (AS n o.C) 0 1024≤cnt t3.F 0 1024+12
 g:cnt t3.F 0 1024≤cnt (AS n t3.C) 0 1024
set_option maxHeartbeats 4000000 in
theorem tunmap_c (pp mb n:Nat) (o:TB) (id st sz q mp kk:Int) (ra:Nat) (L:List E) (Q:List Nat) (hI:LwI n o ra L Q) (hv:BH id st sz q (ra:Int) mp):Cn prog 17 [Pt_ pp,.agg #[Iv_ id,Iv_ st,Iv_ sz,Iv_ q,Iv_ (ra:Int),Iv_ mp],Iv_ kk] [trA Tb pp mb n o (some ((⟨o.N,o.C,AS n o.C,0⟩:TS),Bv ra++Q))] (fun v Γ=>(¬ (0≤kk∧kk<sz)∧v= .tuple #[.agg #[Iv_ 0,Iv_ 0,Iv_ 0,Iv_ 0,Iv_ 0,Iv_ 0],Iv_ 34]∧Γ=[trA Tb pp mb n o (some (⟨o.N,o.C,AS n o.C,0⟩,Bv ra++Q))])∨(((0≤kk∧kk<sz)∧¬ Co kk L)∧v= .tuple #[.agg #[Iv_ id,Iv_ st,Iv_ sz,Iv_ q,Iv_ (ra:Int),Iv_ mp],Iv_ 0]∧Γ=[trA Tb pp mb n o (some (⟨o.N,o.C,AS n o.C,0⟩,Bv ra++Q))])∨(((0≤kk∧kk<sz)∧cnt (AS n o.C) 0 1024≤12)∧∃ s3,v= .tuple #[.agg #[Iv_ 0,Iv_ 0,Iv_ 0,Iv_ 0,Iv_ 0,Iv_ 0],Iv_ 20]∧Γ=[trA Tb pp mb n o (some s3)])∨(((0≤kk∧kk<sz)∧Co kk L)∧∃ (t3:TS) (r:Nat),UnF n o t3 r Q kk L∧v= .tuple #[.agg #[Iv_ id,Iv_ st,Iv_ sz,Iv_ q,Iv_ (r:Int),Iv_ (mp - 1)],Iv_ 0]∧Γ=[trA Tb pp mb n o (some (t3,Bv r++Q))])):=by
 intro z R w H;replace H:=H.l1;have K0:=H.says 0 rfl (fun h a=>trA.k0 a)
 refine Ad func17 rfl ntmps17 rfl (Za 2 [] H rfl ?_);intro b1 w H;refine Za 0 [] H rfl ?_;intro b2 w H;refine Z2 9 [1,6] H rfl (Aw rfl (call40 _) (Nv _ _ _ _ _ _ _ _ hv) H ?_);rintro _ w _ (⟨hb,rfl,rfl⟩|⟨hb,rfl,rfl⟩) H'
 ·have H:=H'.l3;refine Z0 16 [4] rfl (z_E_ rfl (call43 _) (Km pp mb n o _) H.f2 ?_);intro w H;replace H:=H.l3;refine Al 21 (v:= .bool true) rfl rfl (Z2 12 [4,2,0] H rfl (Aw rfl (call46 _) (Zn pp mb n o (⟨o.N,o.C,AS n o.C,0⟩:TS) Q ra kk L hI.root hI.nd hI.n (by show 0≤10;omega) hI.q) H ?_));rintro _ w _ (⟨hno,rfl,rfl⟩|⟨hf2,s3,rfl,rfl⟩|⟨t3,r,⟨hke,hSt,hR3,hfr⟩,rfl,rfl⟩) H'
  ·have H:=H'.l3;refine Z4 43 [4,4,2,2,6,1] H rfl ?_;intro w H;refine Zl [1,6] H rfl ?_;exact ⟨_,.inr (.inl ⟨⟨hb,hno⟩,rfl,rfl⟩),H.pick 3 [0] rfl⟩
  ·have H:=H'.l3;have hf3:cnt (AS n o.C) 0 1024≤12:=hf2
   refine Z0 19 [3] rfl (Ac rfl (AF rfl rfl (out:=[Iv_ 0,Iv_ 0,Iv_ 0,Iv_ 0,Iv_ 0,Iv_ 0]) (by kernel_rfl)) (Z4 6 [1] H rfl ?_));intro w H;refine Zl [1,6] H rfl ?_;exact ⟨_,.inr (.inr (.inl ⟨⟨hb,hf3⟩,_,rfl,rfl⟩)),H.pick 3 [0] rfl⟩
  ·have H:=H'.l3;refine Z4 33 [4,4,2] H rfl ?_;intro w H;have hv2:=hv
   unfold BH at hv2
   refine Z5 16 [5,2,0,5,2,2,6,1] [mp - 1] H rfl (by omega) ?_;intro w H;refine Zl [1,6] H rfl ?_;exact ⟨_,.inr (.inr (.inr ⟨⟨hb,hke⟩,t3,r,⟨hR3,JK hI.nd,Kp.of fun c hc h lo hi m L x=>hSt.fr c hc h lo hi m L x,hSt.dtd K0,hSt.k,hSt.f,hfr⟩,rfl,rfl⟩)),H.pick 3 [0] rfl⟩
 ·have H:=H'.l3;refine Z0 12 [3] rfl (Ac rfl (AF rfl rfl (out:=[Iv_ 0,Iv_ 0,Iv_ 0,Iv_ 0,Iv_ 0,Iv_ 0]) (by kernel_rfl)) (Z4 6 [0] H rfl ?_));intro w H;refine Zl [0,6] H rfl ?_;exact ⟨_,.inl ⟨hb,rfl,rfl⟩,H.pick 3 [2] rfl⟩
end
section
open Go.RowKit
variable {Tb:Ae}
section
variable {P:Program} {C:World→Prop} {o:Oper} {n:Nat} {ds:List Deferred} {L:List (Nat×Value)} {x y:Operand} {xt yt:TypeId}
theorem Cb {cs:Array Value} (ho:o.op= .binOp .eql xt x y yt) (ht:KX P xt cs=true) (hs:P.stoodInHeld xt=false) (hg:P.eqGuardType P.depth xt=false) (hx:ev L x=some (.agg cs)) (hy:ev L y=some (.agg cs)):Ao P C n ds L o (.bool true):=fun a hF w _=>by
 unfold KX at ht
 split at ht
 ·rename_i fs h
  have hgen:∀ d,(Op.equalIn (d+1+1) xt (.agg cs) (.agg cs)).run P w= .ok true w:=fun d=>by
   rw[Op.equalIn]
   simp only[Sem.run_bind,run_underlying h,Result.andThen_ok]
   have hh:(program).run P w= .ok P w:=by simp[program,Sem.run]
   simp only[hh,Result.andThen_ok,hs,Bool.false_eq_true,if_false]
   rw[Sem.run_bind,←Array.forIn_toList,Kg]
   ·rfl
   ·intro f hf
    have hf2:=(List.all_eq_true.1 ht) f hf
    simp only[Bool.and_eq_true] at hf2
    obtain ⟨⟨h1,h2⟩,h3⟩:=hf2
    split
    ·split at h3
     ·rename_i k v hc
      split at h2
      ·rename_i k2 hu
       have hp:(part f.type cs f.offset).run P w= .ok (.int k v) w:=by
        simp only[part,Sem.run_bind,E4 h1,Result.andThen_ok,if_false,Bool.false_eq_true,hc,Sem.run_pure]
       have he:(Op.equalIn (d+1) f.type (.int k v) (.int k v)).run P w= .ok true w:=by
        rw[Op.equalIn]
        simp[Sem.run_bind,run_underlying hu,go_sem]
       simp only[Sem.run_bind,hp,he,Result.andThen_ok]
       simp[go_sem]
      ·cases h2
     ·cases h3
    ·simp[go_sem]
  have main:(Op.equal xt (.agg cs) (.agg cs)).run P w= .ok true w:=hgen 9998
  have hguard:(eqGuard .eql xt x y (.agg cs) (.agg cs)).run P w= .ok () w:=by
   simp[eqGuard,Sem.run_bind,program,Sem.run,hg]
  simp only[execOp,ho,hF.ev hx,hF.ev hy]
  simp only[binOp,Sem.run_bind,hguard,main,Result.andThen_ok,Sem.run_pure]
 ·cases ht
end
theorem NK {L:List E} (hs:Srt L) (hp:∀ e∈L,1≤e.2) (k:Int) (v:Nat):((putE k v L).length:Int)=if getE k L=0 then (L.length:Int)+1 else L.length:=by
 rcases key_split hs k with ⟨X,v0,Y,rfl,h1⟩|⟨h0,X,Y,rfl,h1,h2⟩
 ·rw[if_neg ((Fc hp).1.2 ⟨v0,by simp⟩),Dz _ h1];simp
 ·rw[if_pos (Classical.byContradiction fun q=>h0 ((Fc hp).1.1 q)),putE_new h1 h2];simp<;>omega
theorem NL {L:List E} (hs:Srt L) {k:Int} (h:Co k L):(L.length:Int) - 1=((Bt k L).length:Int):=by
 rcases key_split hs k with ⟨X,v0,Y,rfl,h1⟩|⟨h0,_⟩
 ·rw[Kj hs];simp<;>omega
 ·exact absurd h h0
theorem UnF.vol {n:Nat} {o:TB} {t3:TS} {ra r:Nat} {Q:List Nat} {kk:Int} {L:List E} (h:UnF n o t3 r Q kk L) (hR:Root o.N ra L):Bz t3.N (Bt kk L)=Ba kk (Bz o.N L):=by
 rw[volB_del]
 refine Lh fun e he=> ?_
 obtain ⟨b,hb⟩:=hR.data e (List.mem_filter.1 he).1
 obtain ⟨b2,hb2⟩:=h.root.data e he
 exact h.dt _ _ _ hb hb2
structure DoF (n:Nat) (o o2:TB) (a2:Nat) (L2:List E) (Q:List Nat) (mb m2:Nat) (A A2:Ae) (u2:Value):Prop where
 I:LwI n o2 a2 L2 Q
 kp:Kp o.N o2.N Q
 dt:Dt o.N o2.N
 m0:mb≤m2
 m:m2≤mb+2
 ik:Ink A A2
 A:InB A2 u2 (Bz o2.N L2)
theorem InB.grow2 {A:Ae} {u:Value} {V V2:List Bk} (h:V=V2):InB (both (YtjegbnfpodadcaaGreatDoor.grow 123 2 u V.length (B0 V)) A) u V2:=by subst h;exact InB.grow
def Zz (n:Nat) (o:TB) (L L2:List E) (sz q kk lg:Int):Prop:=12≤cnt (AS n o.C) 0 1024→(0≤kk∧kk<sz)→mB lg=64→(getE kk L≠0∨(L.length:Int)<q)→∃ val,L2=putE kk val L
theorem RA (pp mb n:Nat) (o:TB) (id sz q kk:Int) (ra:Nat) (L:List E) (Q:List Nat) (D:Ae) (dv:Value) (bs:List UInt8) (hI:LwI n o ra L Q) (hv:BH id 1 sz q (ra:Int) (L.length:Int)) (hD:∀ h,D h→rdH 1 dv bs.length (bs.map u8) h):Cn prog 16 [Pt_ pp,.agg #[Iv_ id,Iv_ 1,Iv_ sz,Iv_ q,Iv_ (ra:Int),Iv_ (L.length:Int)],Iv_ kk,dv] [trA Tb pp mb n o (some (⟨o.N,o.C,AS n o.C,0⟩,Bv ra++Q)),D] (fun v Γ=>(¬ (0≤kk∧kk<sz)∧v= .tuple #[.agg #[Iv_ 0,Iv_ 0,Iv_ 0,Iv_ 0,Iv_ 0,Iv_ 0],Iv_ 34]∧Γ=[trA Tb pp mb n o (some (⟨o.N,o.C,AS n o.C,0⟩,Bv ra++Q)),D])∨((0≤kk∧kk<sz)∧bs.length≠64∧v= .tuple #[.agg #[Iv_ 0,Iv_ 0,Iv_ 0,Iv_ 0,Iv_ 0,Iv_ 0],Iv_ 1]∧Γ=[trA Tb pp mb n o (some (⟨o.N,o.C,AS n o.C,0⟩,Bv ra++Q)),D])∨(((0≤kk∧kk<sz)∧bs.length=64)∧(getE kk L=0∧q≤(L.length:Int))∧v= .tuple #[.agg #[Iv_ 0,Iv_ 0,Iv_ 0,Iv_ 0,Iv_ 0,Iv_ 0],Iv_ 30]∧Γ=[trA Tb pp mb n o (some (⟨o.N,o.C,AS n o.C,0⟩,Bv ra++Q)),D])∨(((0≤kk∧kk<sz)∧bs.length=64∧¬ (getE kk L=0∧q≤(L.length:Int)))∧cnt (AS n o.C) 0 1024≤11∧∃ s3,v= .tuple #[.agg #[Iv_ 0,Iv_ 0,Iv_ 0,Iv_ 0,Iv_ 0,Iv_ 0],Iv_ 20]∧Γ=[trA Tb pp mb n o (some s3),D])∨(((0≤kk∧kk<sz)∧bs.length=64∧¬ (getE kk L=0∧q≤(L.length:Int)))∧∃ (t3:TS) (r val:Nat),WrF n o t3 ra r Q kk val bs L∧v= .tuple #[.agg #[Iv_ id,Iv_ 1,Iv_ sz,Iv_ q,Iv_ (r:Int),Iv_ ((putE kk val L).length:Int)],Iv_ 0]∧Γ=[trA Tb pp mb n o (some (t3,Bv r++Q)),D])):=by
 intro z R w H
 have K:=H.says 0 rfl (fun h a=>trA.k0 a)
 have hvp:=Ez K.i (by omega) (show ∀ e∈L,∃ b,C3 o none e.2=some (.dt b) from hI.root.data)
 refine Ret.mono (T0 pp mb n o id 1 sz q (L.length:Int) kk ra L Q D dv bs hI hv hD z R w H) ?_
 rintro v w' ⟨Γ',(h|h|h|h|⟨h1,t3,r,val,hW,rfl,rfl⟩),H'⟩
 ·exact ⟨_,.inl h,H'⟩
 ·exact ⟨_,.inr (.inl h),H'⟩
 ·exact ⟨_,.inr (.inr (.inl h)),H'⟩
 ·exact ⟨_,.inr (.inr (.inr (.inl h))),H'⟩
 ·exact ⟨_,.inr (.inr (.inr (.inr ⟨h1,t3,r,val,hW,by rw[NK hI.root.srt.1 (fun e he=>(hvp e he).1)],rfl⟩))),H'⟩
theorem RB (pp mb n:Nat) (o:TB) (id sz q kk:Int) (ra:Nat) (L:List E) (Q:List Nat) (hI:LwI n o ra L Q) (hv:BH id 1 sz q (ra:Int) (L.length:Int)):Cn prog 17 [Pt_ pp,.agg #[Iv_ id,Iv_ 1,Iv_ sz,Iv_ q,Iv_ (ra:Int),Iv_ (L.length:Int)],Iv_ kk] [trA Tb pp mb n o (some (⟨o.N,o.C,AS n o.C,0⟩,Bv ra++Q))] (fun v Γ=>(¬ (0≤kk∧kk<sz)∧v= .tuple #[.agg #[Iv_ 0,Iv_ 0,Iv_ 0,Iv_ 0,Iv_ 0,Iv_ 0],Iv_ 34]∧Γ=[trA Tb pp mb n o (some (⟨o.N,o.C,AS n o.C,0⟩,Bv ra++Q))])∨(((0≤kk∧kk<sz)∧¬ Co kk L)∧v= .tuple #[.agg #[Iv_ id,Iv_ 1,Iv_ sz,Iv_ q,Iv_ (ra:Int),Iv_ (L.length:Int)],Iv_ 0]∧Γ=[trA Tb pp mb n o (some (⟨o.N,o.C,AS n o.C,0⟩,Bv ra++Q))])∨(((0≤kk∧kk<sz)∧cnt (AS n o.C) 0 1024≤12)∧∃ s3,v= .tuple #[.agg #[Iv_ 0,Iv_ 0,Iv_ 0,Iv_ 0,Iv_ 0,Iv_ 0],Iv_ 20]∧Γ=[trA Tb pp mb n o (some s3)])∨(((0≤kk∧kk<sz)∧Co kk L)∧∃ (t3:TS) (r:Nat),UnF n o t3 r Q kk L∧v= .tuple #[.agg #[Iv_ id,Iv_ 1,Iv_ sz,Iv_ q,Iv_ (r:Int),Iv_ ((Bt kk L).length:Int)],Iv_ 0]∧Γ=[trA Tb pp mb n o (some (t3,Bv r++Q))])):=by
 intro z R w H
 refine Ret.mono (tunmap_c pp mb n o id 1 sz q (L.length:Int) kk ra L Q hI hv z R w H) ?_
 rintro v w' ⟨Γ',(h|h|h|⟨h1,t3,r,hU,rfl,rfl⟩),H'⟩
 ·exact ⟨_,.inl h,H'⟩
 ·exact ⟨_,.inr (.inl h),H'⟩
 ·exact ⟨_,.inr (.inr (.inl h)),H'⟩
 ·exact ⟨_,.inr (.inr (.inr ⟨h1,t3,r,hU,by rw[NL hI.root.srt.1 h1.2],rfl⟩)),H'⟩
set_option maxHeartbeats 4000000 in
theorem WU (pb pp mb n:Nat) (o:TB) (ra:Nat) (L:List E) (Q:List Nat) (A:Ae) (u:Value) (id sz q wi:Int) (kk fl lg:Int) (hI:LwI n o ra L Q) (hA:InB A u (Bz o.N L)) (hv:BH id 1 sz q (ra:Int) (L.length:Int)) (hmb:mb≤1000000000) (hkk: -9223372036854775808≤kk∧kk≤9223372036854775807) (hfl: -9223372036854775808≤fl∧fl≤9223372036854775807) (hlg: -9223372036854775808≤lg∧lg≤9223372036854775807):Cn prog 9 [Pt_ pb,.agg #[Iv_ kk,.bool true,Iv_ fl,Iv_ lg]] [blk pb [Pt_ pp,Iv_ id,Iv_ 1,Iv_ sz,Iv_ q,Iv_ (ra:Int),Iv_ (L.length:Int),Iv_ wi,Iv_ sz,Iv_ q,u] 33,A,trA Tb pp mb n o none] (fun v Γ=>∃ (a2:Nat) (L2:List E) (o2:TB) (m2:Nat) (u2:Value) (A2:Ae),(DoF n o o2 a2 L2 Q mb m2 A A2 u2)∧v= .bool true∧Γ=[blk pb [Pt_ pp,Iv_ id,Iv_ 1,Iv_ sz,Iv_ q,Iv_ (a2:Int),Iv_ (L2.length:Int),Iv_ wi,Iv_ sz,Iv_ q,u2] 33,A2,trA Tb pp m2 n o2 none]):=by
 intro z R w H;replace H:=H.l3;have hml:=PG lg
 have K:=H.says 2 rfl (fun h a=>trA.k a)
 have hn:=K.hn
 have hmn:manyN n≤6:=by unfold manyN;have:=hI.n;omega
 have hvp:=Ez K.i (by omega) (show ∀ e∈L,∃ b,C3 o none e.2=some (.dt b) from hI.root.data)
 have hll:=OP K.i (by omega) (show ∀ e∈L,∃ b,C3 o none e.2=some (.dt b) from hI.root.data) hI.nd
 have hVl:(Bz o.N L).length=L.length:=DV
 have su:=H.says 1 rfl (fun h q=>(hA h q).slc)
 rw[DV] at su;have hln:=hI.n
 have hhas:=Ns (N:=o.N) (k:=kk) (fun e he=>(hvp e he).1)
 refine Ad func9 rfl ntmps9 rfl (Za 2 [] H rfl ?_);intro b1 w H;refine Z2 9 [0,1,0] H rfl (z_E_ rfl (call18 _) (CC _ _ _ _ none) H.f3 ?_);intro w H;replace H:=H.l4;refine Al 15 (v:=Iv_ (cnt (AS n o.C) 0 1024:Int)) rfl rfl (Z2 10 [0,2,0] H rfl (z_E_ rfl (call12 _) (OF _ _ _ _) H ?_));intro w H;replace H:=H.l4;replace H:=(H.mono 0 (B:=trA Tb pp mb n o (some ((⟨o.N,o.C,AS n o.C,0⟩:TS),Bv ra++Q))) rfl (fun h q=>by rw[hI.r] at q;exact q)).l4
 refine Za 8 [4] H rfl ?_;intro b2 w H;refine Z2 15 [2,4] H rfl (Aw rfl (call19 _) (Iu _ _ _ _ hfl hlg) H ?_);rintro _ w _ ⟨db,bs,hbs,rfl,rfl⟩ H;refine Zc 4 rfl (BI 6 (by kernel_rfl) (by kernel_rfl) (Bc H fun w H'=> ?_))
 have H:=H'.l6;refine Qj 6 [7,4,4,0,3,0] [] H rfl (by kernel_rfl) (Cy (gw (z_E_ rfl (call24 _) (Ry _ _ _ _ _ _ _ hA) H.f5 ?_)));intro w H;refine Z2 11 [1,4,0] H rfl ?_;replace H:=H.f4.f5;refine AI (Sep z (blk pb [Pt_ pp,Iv_ id,Iv_ 1,Iv_ sz,Iv_ q,Iv_ (ra:Int),Iv_ (L.length:Int),Iv_ wi,Iv_ sz,Iv_ q,u] 33::blk b1 [Iv_ kk,.bool true,Iv_ fl,Iv_ lg] 36::R)) 16 rfl (by kernel_rfl) (Bc H fun w H'=> ?_)
 have H:=H'.l6;refine AM [0,1,2,3,4,5,6,7,8,9] [0,0,0,1,0,6,0,1,0] [] (by exact (H.pick 6 [0,1] rfl)) rfl (by kernel_rfl) rfl (Av [10] (by kernel_rfl) (by simp) (Au (BL rfl rfl rfl rfl rfl rfl (fun w=>call17 _ w) (RB _ _ _ _ _ _ _ _ _ _ _ hI hv) H.f5 rfl ?_)));rintro _ w _ (⟨hb,rfl,rfl⟩|⟨⟨hb,hno⟩,rfl,rfl⟩|⟨⟨hb,hf3⟩,s3,rfl,rfl⟩|⟨⟨hb,hke⟩,t3,r,hU,rfl,rfl⟩) H'
 ·have H:=H'.l6;refine Ap (H.pick 6 [1,2] rfl) (AM [11,12,13] [] [] (by exact (H.pick 6 [1,2] rfl)) rfl (by kernel_rfl) rfl (Av [14] (by kernel_rfl) (by simp) (Au (A8 rfl rfl rfl (Ag 5 H rfl rfl rfl rfl (vs:=[Iv_ 0,Iv_ 0,Iv_ 0,Iv_ 0,Iv_ 0,Iv_ 0]) rfl (by simp[u8,u32,Value.oneCell']) (by kernel_rfl) (by simp) (out:=[Iv_ 0,Iv_ 0,Iv_ 0,Iv_ 0,Iv_ 0,Iv_ 0]) rfl) ?_))));rintro w H;replace H:=H.l6;refine Ap (H.pick 6 [1,2] rfl) (AM [15] [] [] (by exact (H.pick 6 [1,2] rfl)) rfl (by kernel_rfl) rfl (a_done (by kernel_rfl) (gn (Zc 3 rfl (AG (Sep z _) (by kernel_rfl) (by kernel_rfl) H.drew (BF 4 [0,0] (fun _ hx=>(AK (hx.blk 2 rfl) AW)) rfl (by kernel_rfl) rfl (Bj 84 rfl (fun h1=> ?_) (fun h1=> ?_))))))))
  ·refine Br 9 [] rfl (by kernel_rfl) (AU (fun w H'=> ?_));have H:=H'.l6;refine gn (Z2 49 [4,4,3,0,1,0] H rfl (z_E_ rfl (call25 _) (Cw _ _ _ _ _) H ?_));intro w H;refine Z2 5 [5,6] H rfl (Ac rfl (AF rfl rfl (out:=[Iv_ 0,Iv_ 0,Iv_ 0,Iv_ 0,Iv_ 0,Iv_ 0]) (by kernel_rfl)) (Ac rfl (Cb (cs:= #[Iv_ 0,Iv_ 0,Iv_ 0,Iv_ 0,Iv_ 0,Iv_ 0]) rfl (by kernel_rfl) (by kernel_rfl) (by kernel_rfl) rfl rfl) (Z2 5 [0,1,0] H rfl (z_E_ rfl (call18 _) (CC _ _ _ _ none) H ?_))));intro w H;replace H:=H.l6;refine Al 134 (v:=Iv_ (cnt (AS n o.C) 0 1024:Int)) rfl rfl (Z0 2 [0] rfl (Al 136 (v:= .bool true) rfl (congrArg Value.bool (by simp)) (Zc 5 rfl (Zr rfl ?_))));exact ⟨_,⟨ra,L,o,mb,u,A,⟨hI,fun c hc L h=>h,Dt.refl _,by omega,by omega,Ink.refl A,hA⟩,rfl,rfl⟩,H.pick 6 [1,3,0] rfl⟩
  ·refine BF 9 [0,0,7,8,1] (fun _ hx=>(AK (hx.blk 2 rfl) (AK (hx.blk 1 rfl) AW))) rfl (by kernel_rfl) rfl (AU (fun w H'=> ?_));have H:=H'.l6;refine gn (Zc 1 rfl (Af rfl (fun h2=> ?_) (fun h2=> ?_)))
   ·refine Z2 47 [4,4,3,0,1,0] H rfl (z_E_ rfl (call25 _) (Cw _ _ _ _ _) H ?_);intro w H;refine Z2 5 [5,6] H rfl (Ac rfl (AF rfl rfl (out:=[Iv_ 0,Iv_ 0,Iv_ 0,Iv_ 0,Iv_ 0,Iv_ 0]) (by kernel_rfl)) (Ac rfl (Cb (cs:= #[Iv_ 0,Iv_ 0,Iv_ 0,Iv_ 0,Iv_ 0,Iv_ 0]) rfl (by kernel_rfl) (by kernel_rfl) (by kernel_rfl) rfl rfl) (Z2 5 [0,1,0] H rfl (z_E_ rfl (call18 _) (CC _ _ _ _ none) H ?_))));intro w H;replace H:=H.l6;refine Al 134 (v:=Iv_ (cnt (AS n o.C) 0 1024:Int)) rfl rfl (Z0 2 [0] rfl (Al 136 (v:= .bool true) rfl (congrArg Value.bool (by simp)) (Zc 5 rfl (Zr rfl ?_))));exact ⟨_,⟨ra,L,o,mb,u,A,⟨hI,fun c hc L h=>h,Dt.refl _,by omega,by omega,Ink.refl A,hA⟩,rfl,rfl⟩,H.pick 6 [1,3,0] rfl⟩
   ·(exfalso;omega)
 ·have H:=H'.l6;have hdl:Bt kk L=L:=FJ (fun e he q=>hno ⟨e.2,by rw[←q];exact he⟩)
  refine Ap (H.pick 6 [1,2] rfl) (AM [11,12,13] [] [] (by exact (H.pick 6 [1,2] rfl)) rfl (by kernel_rfl) rfl (Av [14] (by kernel_rfl) (by simp) (Au (A8 rfl rfl rfl (Ag 5 H rfl rfl rfl rfl (vs:=[Iv_ id,Iv_ 1,Iv_ sz,Iv_ q,Iv_ (ra:Int),Iv_ (L.length:Int)]) rfl (by simp[u8,u32,Value.oneCell']) (by kernel_rfl) (by simp) (out:=[Iv_ id,Iv_ 1,Iv_ sz,Iv_ q,Iv_ (ra:Int),Iv_ (L.length:Int)]) rfl) ?_))));rintro w H;replace H:=H.l6;refine Ap (H.pick 6 [1,2] rfl) (AM [15] [] [] (by exact (H.pick 6 [1,2] rfl)) rfl (by kernel_rfl) rfl (a_done (by kernel_rfl) (gn (Zc 3 rfl (AG (Sep z _) (by kernel_rfl) (by kernel_rfl) H.drew (BF 4 [0,0] (fun _ hx=>(AK (hx.blk 2 rfl) AW)) rfl (by kernel_rfl) rfl (Bj 84 rfl (fun h3=> ?_) (fun h3=> ?_))))))))
  ·(exfalso;omega)
  ·refine BF 9 [0,0,7,8,1] (fun _ hx=>(AK (hx.blk 2 rfl) (AK (hx.blk 1 rfl) AW))) rfl (by kernel_rfl) rfl (AU (fun w H'=> ?_));have H:=H'.l6;refine gn (Zc 1 rfl (Af rfl (fun h4=> ?_) (fun h4=> ?_)))
   ·(exfalso;omega)
   ·refine Z2 48 [4,4,4,0,1,0] H rfl (z_E_ rfl (call14 _) (Hf _ _ _ _ _ _ (by show 0+manyN n≤40;omega) hmb) H ?_);intro w H;refine Z4 23 [4,5,6,1,1,1,2,0] H rfl ?_;intro w H;replace H:=H.f2.f2;refine DJ (Sep z (blk pb [Pt_ pp,Iv_ id,Iv_ 1,Iv_ sz,Iv_ q,Iv_ (ra:Int),Iv_ (L.length:Int),Iv_ wi,Iv_ sz,Iv_ q,u] 33::blk b1 [Iv_ kk,.bool true,Iv_ fl,Iv_ lg] 36::R)) 11 rfl (by kernel_rfl) (Bc H fun w H'=> ?_)
    have H:=H'.l6;refine DE [0,1,2,3] [7] (by kernel_rfl) (fun _ _=>AW) (by exact (H.pick 6 [0,1] rfl)) rfl (by kernel_rfl) rfl rfl (Dv 4 (by kernel_rfl) rfl rfl (by kernel_rfl) (by kernel_rfl) (by kernel_rfl) rfl rfl rfl (BE rfl rfl (vs:=[Iv_ wi,Iv_ sz,Iv_ q,u]) (by kernel_rfl) (fun _ hx=>(hx.blk 0 rfl).part 7 4 _ rfl)) (H.pick 6 [0,1] rfl) (DE [5,6] [0,0] (by kernel_rfl) (fun _ hx=>(AK (hx.blk 1 rfl) AW)) (by exact (H.pick 6 [0,1] rfl)) rfl (by kernel_rfl) rfl rfl (Cz [7] (by kernel_rfl) (by simp) (Au (BL rfl rfl rfl rfl rfl rfl (fun w=>call26 _ w) (Kw _ _ _ _ _ _ _ hA (by omega)) H.f3 rfl ?_)))));rintro _ w _ ⟨u2,rfl,rfl⟩ H;replace H:=H.l7;have su2:=H.says 0 rfl (fun h q=>q.rd.slc)
    refine Bn (fun _=>(H.pick 7 [2,3] rfl)) (DE [8,9] [7] (by kernel_rfl) (fun _ _=>AW) (by exact (H.pick 7 [2,3] rfl)) rfl (by kernel_rfl) rfl rfl (Cz [10] (by kernel_rfl) (by simp) (Au (A8 rfl rfl rfl (Ag 2 H rfl rfl rfl rfl (vs:=[Iv_ wi,Iv_ sz,Iv_ q,u2]) rfl (Ab rfl (Ab rfl (Ab rfl (Ab su2.one Ar)))) (by kernel_rfl) (by simp) (out:=[Pt_ pp,Iv_ id,Iv_ 1,Iv_ sz,Iv_ q,Iv_ (ra:Int),Iv_ (L.length:Int),Iv_ wi,Iv_ sz,Iv_ q,u2]) rfl) ?_))));rintro w H;replace H:=H.l7;refine Bn (fun h=>absurd rfl h) (DK (by kernel_rfl) (gn (Zc 2 rfl (AG (Sep z _) (by kernel_rfl) (by kernel_rfl) H.drew (BF 10 [1,6,0,7,10,0] (fun _ hx=>(AK (hx.blk 2 rfl) AW)) rfl (by kernel_rfl) rfl (A6 rfl rfl rfl (CL rfl (sz:=2) (by kernel_rfl) rfl su2) (Br 1 [] rfl (by kernel_rfl) (Al 183 (v:= .bool true) rfl (congrArg Value.bool (decide_eq_true (by rw[volB_del,DV,hdl]))) (Br 1 [] rfl (by kernel_rfl) (AU (fun w H'=> ?_)))))))))));have H:=H'.l7;refine gn (Zc 2 rfl (Zr rfl ?_));exact ⟨_,⟨ra,L,⟨o.N,o.C,Bv ra++Q⟩,mb+2,u2,(both (grow 123 2 u2 ((Ba kk (Bz o.N L)).length) (B0 (Ba kk (Bz o.N L)))) A),⟨hI.done hI.root hI.nd rfl,fun c hc L h=>h,Dt.refl _,by omega,by omega,Ink.both _ A,InB.grow2 (by show Ba kk (Bz o.N L)=Bz o.N L;rw[volB_del,hdl])⟩,rfl,rfl⟩,((H.pick 7 [0,1,2,4] rfl).made 2 (A:=(both (grow 123 2 u2 ((Ba kk (Bz o.N L)).length) (B0 (Ba kk (Bz o.N L)))) A)) (fun h q=>q)).pick 3 [1,0,2] rfl⟩
 ·have H:=H'.l6;refine Ap (H.pick 6 [1,2] rfl) (AM [11,12,13] [] [] (by exact (H.pick 6 [1,2] rfl)) rfl (by kernel_rfl) rfl (Av [14] (by kernel_rfl) (by simp) (Au (A8 rfl rfl rfl (Ag 5 H rfl rfl rfl rfl (vs:=[Iv_ 0,Iv_ 0,Iv_ 0,Iv_ 0,Iv_ 0,Iv_ 0]) rfl (by simp[u8,u32,Value.oneCell']) (by kernel_rfl) (by simp) (out:=[Iv_ 0,Iv_ 0,Iv_ 0,Iv_ 0,Iv_ 0,Iv_ 0]) rfl) ?_))));rintro w H;replace H:=H.l6;refine Ap (H.pick 6 [1,2] rfl) (AM [15] [] [] (by exact (H.pick 6 [1,2] rfl)) rfl (by kernel_rfl) rfl (a_done (by kernel_rfl) (gn (Zc 3 rfl (AG (Sep z _) (by kernel_rfl) (by kernel_rfl) H.drew (BF 4 [0,0] (fun _ hx=>(AK (hx.blk 2 rfl) AW)) rfl (by kernel_rfl) rfl (Bj 84 rfl (fun h5=> ?_) (fun h5=> ?_))))))))
  ·(exfalso;omega)
  ·refine BF 9 [0,0,7,8,1] (fun _ hx=>(AK (hx.blk 2 rfl) (AK (hx.blk 1 rfl) AW))) rfl (by kernel_rfl) rfl (AU (fun w H'=> ?_));have H:=H'.l6;refine gn (Zc 1 rfl (Af rfl (fun h6=> ?_) (fun h6=> ?_)))
   ·(exfalso;omega)
   ·refine Z0 17 [3,3,0] rfl (Af rfl (fun h7=> ?_) (fun h7=> ?_))
    ·refine Z2 6 [0,1,0] H rfl (z_E_ rfl (call25 _) (Cw _ _ _ _ _) H ?_);intro w H;refine Z2 8 [0,1,0] H rfl (z_E_ rfl (call18 _) (CC _ _ _ _ none) H ?_);intro w H;replace H:=H.l6;refine Al 113 (v:=Iv_ (cnt (AS n o.C) 0 1024:Int)) rfl rfl (Z0 2 [0] rfl (Al 115 (v:= .bool true) rfl (congrArg Value.bool (by simp)) (Zc 4 rfl (Zr rfl ?_))));exact ⟨_,⟨ra,L,o,mb,u,A,⟨hI,fun c hc L h=>h,Dt.refl _,by omega,by omega,Ink.refl A,hA⟩,rfl,rfl⟩,H.pick 6 [1,3,0] rfl⟩
    ·(exfalso;omega)
 ·have H:=H'.l6;have hUk:=hU.k
  refine Ap (H.pick 6 [1,2] rfl) (AM [11,12,13] [] [] (by exact (H.pick 6 [1,2] rfl)) rfl (by kernel_rfl) rfl (Av [14] (by kernel_rfl) (by simp) (Au (A8 rfl rfl rfl (Ag 5 H rfl rfl rfl rfl (vs:=[Iv_ id,Iv_ 1,Iv_ sz,Iv_ q,Iv_ (r:Int),Iv_ ((Bt kk L).length:Int)]) rfl (by simp[u8,u32,Value.oneCell']) (by kernel_rfl) (by simp) (out:=[Iv_ id,Iv_ 1,Iv_ sz,Iv_ q,Iv_ (r:Int),Iv_ ((Bt kk L).length:Int)]) rfl) ?_))));rintro w H;replace H:=H.l6;refine Ap (H.pick 6 [1,2] rfl) (AM [15] [] [] (by exact (H.pick 6 [1,2] rfl)) rfl (by kernel_rfl) rfl (a_done (by kernel_rfl) (gn (Zc 3 rfl (AG (Sep z _) (by kernel_rfl) (by kernel_rfl) H.drew (BF 4 [0,0] (fun _ hx=>(AK (hx.blk 2 rfl) AW)) rfl (by kernel_rfl) rfl (Bj 84 rfl (fun h8=> ?_) (fun h8=> ?_))))))))
  ·(exfalso;omega)
  ·refine BF 9 [0,0,7,8,1] (fun _ hx=>(AK (hx.blk 2 rfl) (AK (hx.blk 1 rfl) AW))) rfl (by kernel_rfl) rfl (AU (fun w H'=> ?_));have H:=H'.l6;refine gn (Zc 1 rfl (Af rfl (fun h9=> ?_) (fun h9=> ?_)))
   ·(exfalso;omega)
   ·refine Z2 48 [4,4,4,0,1,0] H rfl (z_E_ rfl (call14 _) (Hf _ _ _ _ _ _ (by omega) hmb) H ?_);intro w H;refine Z4 23 [4,5,6,1,1,1,2,0] H rfl ?_;intro w H;replace H:=H.f2.f2;refine DJ (Sep z (blk pb [Pt_ pp,Iv_ id,Iv_ 1,Iv_ sz,Iv_ q,Iv_ (r:Int),Iv_ ((Bt kk L).length:Int),Iv_ wi,Iv_ sz,Iv_ q,u] 33::blk b1 [Iv_ kk,.bool true,Iv_ fl,Iv_ lg] 36::R)) 11 rfl (by kernel_rfl) (Bc H fun w H'=> ?_)
    have H:=H'.l6;refine DE [0,1,2,3] [7] (by kernel_rfl) (fun _ _=>AW) (by exact (H.pick 6 [0,1] rfl)) rfl (by kernel_rfl) rfl rfl (Dv 4 (by kernel_rfl) rfl rfl (by kernel_rfl) (by kernel_rfl) (by kernel_rfl) rfl rfl rfl (BE rfl rfl (vs:=[Iv_ wi,Iv_ sz,Iv_ q,u]) (by kernel_rfl) (fun _ hx=>(hx.blk 0 rfl).part 7 4 _ rfl)) (H.pick 6 [0,1] rfl) (DE [5,6] [0,0] (by kernel_rfl) (fun _ hx=>(AK (hx.blk 1 rfl) AW)) (by exact (H.pick 6 [0,1] rfl)) rfl (by kernel_rfl) rfl rfl (Cz [7] (by kernel_rfl) (by simp) (Au (BL rfl rfl rfl rfl rfl rfl (fun w=>call26 _ w) (Kw _ _ _ _ _ _ _ hA (by omega)) H.f3 rfl ?_)))));rintro _ w _ ⟨u2,rfl,rfl⟩ H;replace H:=H.l7;have su2:=H.says 0 rfl (fun h q=>q.rd.slc)
    refine Bn (fun _=>(H.pick 7 [2,3] rfl)) (DE [8,9] [7] (by kernel_rfl) (fun _ _=>AW) (by exact (H.pick 7 [2,3] rfl)) rfl (by kernel_rfl) rfl rfl (Cz [10] (by kernel_rfl) (by simp) (Au (A8 rfl rfl rfl (Ag 2 H rfl rfl rfl rfl (vs:=[Iv_ wi,Iv_ sz,Iv_ q,u2]) rfl (Ab rfl (Ab rfl (Ab rfl (Ab su2.one Ar)))) (by kernel_rfl) (by simp) (out:=[Pt_ pp,Iv_ id,Iv_ 1,Iv_ sz,Iv_ q,Iv_ (r:Int),Iv_ ((Bt kk L).length:Int),Iv_ wi,Iv_ sz,Iv_ q,u2]) rfl) ?_))));rintro w H;replace H:=H.l7;refine Bn (fun h=>absurd rfl h) (DK (by kernel_rfl) (gn (Zc 2 rfl (AG (Sep z _) (by kernel_rfl) (by kernel_rfl) H.drew (BF 10 [1,6,0,7,10,0] (fun _ hx=>(AK (hx.blk 2 rfl) AW)) rfl (by kernel_rfl) rfl (A6 rfl rfl rfl (CL rfl (sz:=2) (by kernel_rfl) rfl su2) (Br 1 [] rfl (by kernel_rfl) (Al 183 (v:= .bool true) rfl (congrArg Value.bool (decide_eq_true (by rw[volB_del,DV]))) (Br 1 [] rfl (by kernel_rfl) (AU (fun w H'=> ?_)))))))))));have H:=H'.l7;refine gn (Zc 2 rfl (Zr rfl ?_));exact ⟨_,⟨r,Bt kk L,⟨t3.N,t3.C,Bv r++Q⟩,mb+2,u2,(both (grow 123 2 u2 ((Ba kk (Bz o.N L)).length) (B0 (Ba kk (Bz o.N L)))) A),⟨hI.done hU.root hU.nd rfl,hU.kp,hU.dt,by omega,by omega,Ink.both _ A,InB.grow2 (hU.vol hI.root).symm⟩,rfl,rfl⟩,((H.pick 7 [0,1,2,4] rfl).made 2 (A:=(both (grow 123 2 u2 ((Ba kk (Bz o.N L)).length) (B0 (Ba kk (Bz o.N L)))) A)) (fun h q=>q)).pick 3 [1,0,2] rfl⟩
set_option maxHeartbeats 4000000 in
theorem WV (pb pp mb n:Nat) (o:TB) (ra:Nat) (L:List E) (Q:List Nat) (A:Ae) (u:Value) (id sz q wi:Int) (kk fl lg:Int) (hI:LwI n o ra L Q) (hA:InB A u (Bz o.N L)) (hv:BH id 1 sz q (ra:Int) (L.length:Int)) (hmb:mb≤1000000000) (hkk: -9223372036854775808≤kk∧kk≤9223372036854775807) (hfl: -9223372036854775808≤fl∧fl≤9223372036854775807) (hlg: -9223372036854775808≤lg∧lg≤9223372036854775807):Cn prog 9 [Pt_ pb,.agg #[Iv_ kk,.bool false,Iv_ fl,Iv_ lg]] [blk pb [Pt_ pp,Iv_ id,Iv_ 1,Iv_ sz,Iv_ q,Iv_ (ra:Int),Iv_ (L.length:Int),Iv_ wi,Iv_ sz,Iv_ q,u] 33,A,trA Tb pp mb n o none] (fun v Γ=>∃ (a2:Nat) (L2:List E) (o2:TB) (m2:Nat) (u2:Value) (A2:Ae),(DoF n o o2 a2 L2 Q mb m2 A A2 u2∧(Zz n o L L2 sz q kk lg))∧v= .bool true∧Γ=[blk pb [Pt_ pp,Iv_ id,Iv_ 1,Iv_ sz,Iv_ q,Iv_ (a2:Int),Iv_ (L2.length:Int),Iv_ wi,Iv_ sz,Iv_ q,u2] 33,A2,trA Tb pp m2 n o2 none]):=by
 intro z R w H;replace H:=H.l3;have hml:=PG lg
 have K:=H.says 2 rfl (fun h a=>trA.k a)
 have hn:=K.hn
 have hmn:manyN n≤6:=by unfold manyN;have:=hI.n;omega
 have hvp:=Ez K.i (by omega) (show ∀ e∈L,∃ b,C3 o none e.2=some (.dt b) from hI.root.data)
 have hll:=OP K.i (by omega) (show ∀ e∈L,∃ b,C3 o none e.2=some (.dt b) from hI.root.data) hI.nd
 have hVl:(Bz o.N L).length=L.length:=DV
 have su:=H.says 1 rfl (fun h q=>(hA h q).slc)
 rw[DV] at su;have hln:=hI.n
 have hhas:=Ns (N:=o.N) (k:=kk) (fun e he=>(hvp e he).1)
 refine Ad func9 rfl ntmps9 rfl (Za 2 [] H rfl ?_);intro b1 w H;refine Z2 9 [0,1,0] H rfl (z_E_ rfl (call18 _) (CC _ _ _ _ none) H.f3 ?_);intro w H;replace H:=H.l4;refine Al 15 (v:=Iv_ (cnt (AS n o.C) 0 1024:Int)) rfl rfl (Z2 10 [0,2,0] H rfl (z_E_ rfl (call12 _) (OF _ _ _ _) H ?_));intro w H;replace H:=H.l4;replace H:=(H.mono 0 (B:=trA Tb pp mb n o (some ((⟨o.N,o.C,AS n o.C,0⟩:TS),Bv ra++Q))) rfl (fun h q=>by rw[hI.r] at q;exact q)).l4
 refine Za 8 [4] H rfl ?_;intro b2 w H;refine Z2 15 [2,4] H rfl (Aw rfl (call19 _) (Iu _ _ _ _ hfl hlg) H ?_);rintro _ w _ ⟨db,bs,hbs,rfl,rfl⟩ H;refine Zc 4 rfl (BI 6 (by kernel_rfl) (by kernel_rfl) (Bc H fun w H'=> ?_))
 have H:=H'.l6;refine Qj 6 [7,4,4,0,3,0] [] H rfl (by kernel_rfl) (Cy (gw (z_E_ rfl (call24 _) (Ry _ _ _ _ _ _ _ hA) H.f5 ?_)));intro w H;refine Z2 12 [1,4,0] H rfl ?_;replace H:=H.f4.f5;refine AI (Sep z (blk pb [Pt_ pp,Iv_ id,Iv_ 1,Iv_ sz,Iv_ q,Iv_ (ra:Int),Iv_ (L.length:Int),Iv_ wi,Iv_ sz,Iv_ q,u] 33::blk b1 [Iv_ kk,.bool false,Iv_ fl,Iv_ lg] 36::R)) 17 rfl (by kernel_rfl) (Bc H fun w H'=> ?_)
 have H:=H'.l6;refine AM [0,1,2,3,4,5,6,7,8,9,10] [0,0,0,1,0,6,0,1,0] [] (by exact (H.pick 6 [0,1] rfl)) rfl (by kernel_rfl) rfl (Av [11] (by kernel_rfl) (by simp) (Au (BL rfl rfl rfl rfl rfl rfl (fun w=>call16 _ w) (RA _ _ _ _ _ _ _ _ _ _ _ _ _ bs hI hv (fun h a=>by rw[hbs];exact a.rd (Nat.le_refl _) (by omega) (by rw[List.length_map];omega) (by rw[List.drop_zero,Nat.mul_one];exact List.take_of_length_le (by rw[List.length_map];omega)))) H.f3.f5 rfl ?_)));rintro _ w _ (⟨hb,rfl,rfl⟩|⟨hb,hm,rfl,rfl⟩|⟨⟨hb,hm⟩,hq,rfl,rfl⟩|⟨⟨hb,hm,hq⟩,hf3,s3,rfl,rfl⟩|⟨⟨hb,hm,hq⟩,t3,r,val,hW,rfl,rfl⟩) H'
 ·have H:=H'.l6;refine Ap (H.pick 6 [2,3] rfl) (AM [12,13,14] [] [] (by exact (H.pick 6 [2,3] rfl)) rfl (by kernel_rfl) rfl (Av [15] (by kernel_rfl) (by simp) (Au (A8 rfl rfl rfl (Ag 5 H rfl rfl rfl rfl (vs:=[Iv_ 0,Iv_ 0,Iv_ 0,Iv_ 0,Iv_ 0,Iv_ 0]) rfl (by simp[u8,u32,Value.oneCell']) (by kernel_rfl) (by simp) (out:=[Iv_ 0,Iv_ 0,Iv_ 0,Iv_ 0,Iv_ 0,Iv_ 0]) rfl) ?_))));rintro w H;replace H:=H.l6;refine Ap (H.pick 6 [2,3] rfl) (AM [16] [] [] (by exact (H.pick 6 [2,3] rfl)) rfl (by kernel_rfl) rfl (a_done (by kernel_rfl) (gn (Z0 8 [0] rfl (Af rfl (fun h1=> ?_) (fun h1=> ?_))))))
  ·refine Zc 6 rfl (AG (Sep z _) (by kernel_rfl) (by kernel_rfl) H.drew (BF 4 [0,0] (fun _ hx=>(AK (hx.blk 3 rfl) AW)) rfl (by kernel_rfl) rfl (Bj 84 rfl (fun h2=> ?_) (fun h2=> ?_))))
   ·refine Br 9 [] rfl (by kernel_rfl) (AU (fun w H'=> ?_));have H:=H'.l6;refine gn (Z2 49 [4,4,3,0,2,0] H rfl (z_E_ rfl (call25 _) (Cw _ _ _ _ _) H ?_));intro w H;refine Z2 5 [5,6] H rfl (Ac rfl (AF rfl rfl (out:=[Iv_ 0,Iv_ 0,Iv_ 0,Iv_ 0,Iv_ 0,Iv_ 0]) (by kernel_rfl)) (Ac rfl (Cb (cs:= #[Iv_ 0,Iv_ 0,Iv_ 0,Iv_ 0,Iv_ 0,Iv_ 0]) rfl (by kernel_rfl) (by kernel_rfl) (by kernel_rfl) rfl rfl) (Z2 5 [0,2,0] H rfl (z_E_ rfl (call18 _) (CC _ _ _ _ none) H ?_))));intro w H;replace H:=H.l6;refine Al 134 (v:=Iv_ (cnt (AS n o.C) 0 1024:Int)) rfl rfl (Z0 2 [0] rfl (Al 136 (v:= .bool true) rfl (congrArg Value.bool (by simp)) (Zc 5 rfl (Zr rfl ?_))));exact ⟨_,⟨ra,L,o,mb,u,A,⟨⟨hI,fun c hc L h=>h,Dt.refl _,by omega,by omega,Ink.refl A,hA⟩,fun h1 h2 h3 h4=>(by exfalso;omega)⟩,rfl,rfl⟩,H.pick 6 [2,4,0] rfl⟩
   ·refine BF 9 [0,0,7,8,1] (fun _ hx=>(AK (hx.blk 3 rfl) (AK (hx.blk 2 rfl) AW))) rfl (by kernel_rfl) rfl (AU (fun w H'=> ?_));have H:=H'.l6;refine gn (Zc 1 rfl (Af rfl (fun h3=> ?_) (fun h3=> ?_)))
    ·refine Z2 47 [4,4,3,0,2,0] H rfl (z_E_ rfl (call25 _) (Cw _ _ _ _ _) H ?_);intro w H;refine Z2 5 [5,6] H rfl (Ac rfl (AF rfl rfl (out:=[Iv_ 0,Iv_ 0,Iv_ 0,Iv_ 0,Iv_ 0,Iv_ 0]) (by kernel_rfl)) (Ac rfl (Cb (cs:= #[Iv_ 0,Iv_ 0,Iv_ 0,Iv_ 0,Iv_ 0,Iv_ 0]) rfl (by kernel_rfl) (by kernel_rfl) (by kernel_rfl) rfl rfl) (Z2 5 [0,2,0] H rfl (z_E_ rfl (call18 _) (CC _ _ _ _ none) H ?_))));intro w H;replace H:=H.l6;refine Al 134 (v:=Iv_ (cnt (AS n o.C) 0 1024:Int)) rfl rfl (Z0 2 [0] rfl (Al 136 (v:= .bool true) rfl (congrArg Value.bool (by simp)) (Zc 5 rfl (Zr rfl ?_))));exact ⟨_,⟨ra,L,o,mb,u,A,⟨⟨hI,fun c hc L h=>h,Dt.refl _,by omega,by omega,Ink.refl A,hA⟩,fun h1 h2 h3 h4=>(by exfalso;omega)⟩,rfl,rfl⟩,H.pick 6 [2,4,0] rfl⟩
    ·(exfalso;omega)
  ·refine Zc 1 rfl (AG (Sep z _) (by kernel_rfl) (by kernel_rfl) H.drew (Br 1 [] rfl (by kernel_rfl) (A6 rfl rfl rfl (Ax rfl rfl) (Br 1 [] rfl (by kernel_rfl) (Bj 67 rfl (fun h4=> ?_) (fun h4=> ?_))))))
   ·have hgk:getE kk L=0:=Classical.byContradiction fun q=>h4 (hhas.2 q)
    refine BF 5 [7,10,0] (fun _ hx=>(AK (hx.blk 2 rfl) AW)) rfl (by kernel_rfl) rfl (A6 rfl rfl rfl (CL rfl (sz:=2) (by kernel_rfl) rfl su) (BF 7 [7,9,0] (fun _ hx=>(AK (hx.blk 2 rfl) AW)) rfl (by kernel_rfl) rfl (AU (fun w H'=> ?_))));have H:=H'.l6;refine gn (Zc 1 rfl (Af rfl (fun h5=> ?_) (fun h5=> ?_)))
    ·refine Zc 6 rfl (AG (Sep z _) (by kernel_rfl) (by kernel_rfl) H.drew (BF 4 [0,0] (fun _ hx=>(AK (hx.blk 3 rfl) AW)) rfl (by kernel_rfl) rfl (Bj 84 rfl (fun h6=> ?_) (fun h6=> ?_))))
     ·refine Br 9 [] rfl (by kernel_rfl) (AU (fun w H'=> ?_));have H:=H'.l6;refine gn (Z2 49 [4,4,3,0,2,0] H rfl (z_E_ rfl (call25 _) (Cw _ _ _ _ _) H ?_));intro w H;refine Z2 5 [5,6] H rfl (Ac rfl (AF rfl rfl (out:=[Iv_ 0,Iv_ 0,Iv_ 0,Iv_ 0,Iv_ 0,Iv_ 0]) (by kernel_rfl)) (Ac rfl (Cb (cs:= #[Iv_ 0,Iv_ 0,Iv_ 0,Iv_ 0,Iv_ 0,Iv_ 0]) rfl (by kernel_rfl) (by kernel_rfl) (by kernel_rfl) rfl rfl) (Z2 5 [0,2,0] H rfl (z_E_ rfl (call18 _) (CC _ _ _ _ none) H ?_))));intro w H;replace H:=H.l6;refine Al 134 (v:=Iv_ (cnt (AS n o.C) 0 1024:Int)) rfl rfl (Z0 2 [0] rfl (Al 136 (v:= .bool true) rfl (congrArg Value.bool (by simp)) (Zc 5 rfl (Zr rfl ?_))));exact ⟨_,⟨ra,L,o,mb,u,A,⟨⟨hI,fun c hc L h=>h,Dt.refl _,by omega,by omega,Ink.refl A,hA⟩,fun h1 h2 h3 h4=>(by exfalso;omega)⟩,rfl,rfl⟩,H.pick 6 [2,4,0] rfl⟩
     ·refine BF 9 [0,0,7,8,1] (fun _ hx=>(AK (hx.blk 3 rfl) (AK (hx.blk 2 rfl) AW))) rfl (by kernel_rfl) rfl (AU (fun w H'=> ?_));have H:=H'.l6;refine gn (Zc 1 rfl (Af rfl (fun h7=> ?_) (fun h7=> ?_)))
      ·refine Z2 47 [4,4,3,0,2,0] H rfl (z_E_ rfl (call25 _) (Cw _ _ _ _ _) H ?_);intro w H;refine Z2 5 [5,6] H rfl (Ac rfl (AF rfl rfl (out:=[Iv_ 0,Iv_ 0,Iv_ 0,Iv_ 0,Iv_ 0,Iv_ 0]) (by kernel_rfl)) (Ac rfl (Cb (cs:= #[Iv_ 0,Iv_ 0,Iv_ 0,Iv_ 0,Iv_ 0,Iv_ 0]) rfl (by kernel_rfl) (by kernel_rfl) (by kernel_rfl) rfl rfl) (Z2 5 [0,2,0] H rfl (z_E_ rfl (call18 _) (CC _ _ _ _ none) H ?_))));intro w H;replace H:=H.l6;refine Al 134 (v:=Iv_ (cnt (AS n o.C) 0 1024:Int)) rfl rfl (Z0 2 [0] rfl (Al 136 (v:= .bool true) rfl (congrArg Value.bool (by simp)) (Zc 5 rfl (Zr rfl ?_))));exact ⟨_,⟨ra,L,o,mb,u,A,⟨⟨hI,fun c hc L h=>h,Dt.refl _,by omega,by omega,Ink.refl A,hA⟩,fun h1 h2 h3 h4=>(by exfalso;omega)⟩,rfl,rfl⟩,H.pick 6 [2,4,0] rfl⟩
      ·(exfalso;omega)
    ·refine Zc 4 rfl (AG (Sep z _) (by kernel_rfl) (by kernel_rfl) H.drew (BF 4 [0,0] (fun _ hx=>(AK (hx.blk 3 rfl) AW)) rfl (by kernel_rfl) rfl (Bj 84 rfl (fun h8=> ?_) (fun h8=> ?_))))
     ·refine Br 9 [] rfl (by kernel_rfl) (AU (fun w H'=> ?_));have H:=H'.l6;refine gn (Z2 49 [4,4,3,0,2,0] H rfl (z_E_ rfl (call25 _) (Cw _ _ _ _ _) H ?_));intro w H;refine Z2 5 [5,6] H rfl (Ac rfl (AF rfl rfl (out:=[Iv_ 0,Iv_ 0,Iv_ 0,Iv_ 0,Iv_ 0,Iv_ 0]) (by kernel_rfl)) (Ac rfl (Cb (cs:= #[Iv_ 0,Iv_ 0,Iv_ 0,Iv_ 0,Iv_ 0,Iv_ 0]) rfl (by kernel_rfl) (by kernel_rfl) (by kernel_rfl) rfl rfl) (Z2 5 [0,2,0] H rfl (z_E_ rfl (call18 _) (CC _ _ _ _ none) H ?_))));intro w H;replace H:=H.l6;refine Al 134 (v:=Iv_ (cnt (AS n o.C) 0 1024:Int)) rfl rfl (Z0 2 [0] rfl (Al 136 (v:= .bool true) rfl (congrArg Value.bool (by simp)) (Zc 5 rfl (Zr rfl ?_))));exact ⟨_,⟨ra,L,o,mb,u,A,⟨⟨hI,fun c hc L h=>h,Dt.refl _,by omega,by omega,Ink.refl A,hA⟩,fun h1 h2 h3 h4=>(by exfalso;omega)⟩,rfl,rfl⟩,H.pick 6 [2,4,0] rfl⟩
     ·refine BF 9 [0,0,7,8,1] (fun _ hx=>(AK (hx.blk 3 rfl) (AK (hx.blk 2 rfl) AW))) rfl (by kernel_rfl) rfl (AU (fun w H'=> ?_));have H:=H'.l6;refine gn (Zc 1 rfl (Af rfl (fun h9=> ?_) (fun h9=> ?_)))
      ·refine Z2 47 [4,4,3,0,2,0] H rfl (z_E_ rfl (call25 _) (Cw _ _ _ _ _) H ?_);intro w H;refine Z2 5 [5,6] H rfl (Ac rfl (AF rfl rfl (out:=[Iv_ 0,Iv_ 0,Iv_ 0,Iv_ 0,Iv_ 0,Iv_ 0]) (by kernel_rfl)) (Ac rfl (Cb (cs:= #[Iv_ 0,Iv_ 0,Iv_ 0,Iv_ 0,Iv_ 0,Iv_ 0]) rfl (by kernel_rfl) (by kernel_rfl) (by kernel_rfl) rfl rfl) (Z2 5 [0,2,0] H rfl (z_E_ rfl (call18 _) (CC _ _ _ _ none) H ?_))));intro w H;replace H:=H.l6;refine Al 134 (v:=Iv_ (cnt (AS n o.C) 0 1024:Int)) rfl rfl (Z0 2 [0] rfl (Al 136 (v:= .bool true) rfl (congrArg Value.bool (by simp)) (Zc 5 rfl (Zr rfl ?_))));exact ⟨_,⟨ra,L,o,mb,u,A,⟨⟨hI,fun c hc L h=>h,Dt.refl _,by omega,by omega,Ink.refl A,hA⟩,fun h1 h2 h3 h4=>(by exfalso;omega)⟩,rfl,rfl⟩,H.pick 6 [2,4,0] rfl⟩
      ·(exfalso;omega)
   ·have hgk:=hhas.1 (Classical.byContradiction h4)
    refine Br 13 [] rfl (by kernel_rfl) (AU (fun w H'=> ?_));have H:=H'.l6;refine gn (Zc 6 rfl (AG (Sep z _) (by kernel_rfl) (by kernel_rfl) H.drew (BF 4 [0,0] (fun _ hx=>(AK (hx.blk 3 rfl) AW)) rfl (by kernel_rfl) rfl (Bj 84 rfl (fun h10=> ?_) (fun h10=> ?_)))))
    ·refine Br 9 [] rfl (by kernel_rfl) (AU (fun w H'=> ?_));have H:=H'.l6;refine gn (Z2 49 [4,4,3,0,2,0] H rfl (z_E_ rfl (call25 _) (Cw _ _ _ _ _) H ?_));intro w H;refine Z2 5 [5,6] H rfl (Ac rfl (AF rfl rfl (out:=[Iv_ 0,Iv_ 0,Iv_ 0,Iv_ 0,Iv_ 0,Iv_ 0]) (by kernel_rfl)) (Ac rfl (Cb (cs:= #[Iv_ 0,Iv_ 0,Iv_ 0,Iv_ 0,Iv_ 0,Iv_ 0]) rfl (by kernel_rfl) (by kernel_rfl) (by kernel_rfl) rfl rfl) (Z2 5 [0,2,0] H rfl (z_E_ rfl (call18 _) (CC _ _ _ _ none) H ?_))));intro w H;replace H:=H.l6;refine Al 134 (v:=Iv_ (cnt (AS n o.C) 0 1024:Int)) rfl rfl (Z0 2 [0] rfl (Al 136 (v:= .bool true) rfl (congrArg Value.bool (by simp)) (Zc 5 rfl (Zr rfl ?_))));exact ⟨_,⟨ra,L,o,mb,u,A,⟨⟨hI,fun c hc L h=>h,Dt.refl _,by omega,by omega,Ink.refl A,hA⟩,fun h1 h2 h3 h4=>(by exfalso;omega)⟩,rfl,rfl⟩,H.pick 6 [2,4,0] rfl⟩
    ·refine BF 9 [0,0,7,8,1] (fun _ hx=>(AK (hx.blk 3 rfl) (AK (hx.blk 2 rfl) AW))) rfl (by kernel_rfl) rfl (AU (fun w H'=> ?_));have H:=H'.l6;refine gn (Zc 1 rfl (Af rfl (fun h11=> ?_) (fun h11=> ?_)))
     ·refine Z2 47 [4,4,3,0,2,0] H rfl (z_E_ rfl (call25 _) (Cw _ _ _ _ _) H ?_);intro w H;refine Z2 5 [5,6] H rfl (Ac rfl (AF rfl rfl (out:=[Iv_ 0,Iv_ 0,Iv_ 0,Iv_ 0,Iv_ 0,Iv_ 0]) (by kernel_rfl)) (Ac rfl (Cb (cs:= #[Iv_ 0,Iv_ 0,Iv_ 0,Iv_ 0,Iv_ 0,Iv_ 0]) rfl (by kernel_rfl) (by kernel_rfl) (by kernel_rfl) rfl rfl) (Z2 5 [0,2,0] H rfl (z_E_ rfl (call18 _) (CC _ _ _ _ none) H ?_))));intro w H;replace H:=H.l6;refine Al 134 (v:=Iv_ (cnt (AS n o.C) 0 1024:Int)) rfl rfl (Z0 2 [0] rfl (Al 136 (v:= .bool true) rfl (congrArg Value.bool (by simp)) (Zc 5 rfl (Zr rfl ?_))));exact ⟨_,⟨ra,L,o,mb,u,A,⟨⟨hI,fun c hc L h=>h,Dt.refl _,by omega,by omega,Ink.refl A,hA⟩,fun h1 h2 h3 h4=>(by exfalso;omega)⟩,rfl,rfl⟩,H.pick 6 [2,4,0] rfl⟩
     ·(exfalso;omega)
 ·have H:=H'.l6;refine Ap (H.pick 6 [2,3] rfl) (AM [12,13,14] [] [] (by exact (H.pick 6 [2,3] rfl)) rfl (by kernel_rfl) rfl (Av [15] (by kernel_rfl) (by simp) (Au (A8 rfl rfl rfl (Ag 5 H rfl rfl rfl rfl (vs:=[Iv_ 0,Iv_ 0,Iv_ 0,Iv_ 0,Iv_ 0,Iv_ 0]) rfl (by simp[u8,u32,Value.oneCell']) (by kernel_rfl) (by simp) (out:=[Iv_ 0,Iv_ 0,Iv_ 0,Iv_ 0,Iv_ 0,Iv_ 0]) rfl) ?_))));rintro w H;replace H:=H.l6;refine Ap (H.pick 6 [2,3] rfl) (AM [16] [] [] (by exact (H.pick 6 [2,3] rfl)) rfl (by kernel_rfl) rfl (a_done (by kernel_rfl) (gn (Z0 8 [0] rfl (Af rfl (fun h12=> ?_) (fun h12=> ?_))))))
  ·refine Zc 6 rfl (AG (Sep z _) (by kernel_rfl) (by kernel_rfl) H.drew (BF 4 [0,0] (fun _ hx=>(AK (hx.blk 3 rfl) AW)) rfl (by kernel_rfl) rfl (Bj 84 rfl (fun h13=> ?_) (fun h13=> ?_))))
   ·(exfalso;omega)
   ·refine BF 9 [0,0,7,8,1] (fun _ hx=>(AK (hx.blk 3 rfl) (AK (hx.blk 2 rfl) AW))) rfl (by kernel_rfl) rfl (AU (fun w H'=> ?_));have H:=H'.l6;refine gn (Zc 1 rfl (Af rfl (fun h14=> ?_) (fun h14=> ?_)))
    ·(exfalso;omega)
    ·refine Z2 45 [4,4,3,0,2,0] H rfl (z_E_ rfl (call25 _) (Cw _ _ _ _ _) H ?_);intro w H;refine Z2 5 [5,6] H rfl (Ac rfl (AF rfl rfl (out:=[Iv_ 0,Iv_ 0,Iv_ 0,Iv_ 0,Iv_ 0,Iv_ 0]) (by kernel_rfl)) (Ac rfl (Cb (cs:= #[Iv_ 0,Iv_ 0,Iv_ 0,Iv_ 0,Iv_ 0,Iv_ 0]) rfl (by kernel_rfl) (by kernel_rfl) (by kernel_rfl) rfl rfl) (Z2 5 [0,2,0] H rfl (z_E_ rfl (call18 _) (CC _ _ _ _ none) H ?_))));intro w H;replace H:=H.l6;refine Al 134 (v:=Iv_ (cnt (AS n o.C) 0 1024:Int)) rfl rfl (Z0 2 [0] rfl (Al 136 (v:= .bool true) rfl (congrArg Value.bool (by simp)) (Zc 5 rfl (Zr rfl ?_))));exact ⟨_,⟨ra,L,o,mb,u,A,⟨⟨hI,fun c hc L h=>h,Dt.refl _,by omega,by omega,Ink.refl A,hA⟩,fun h1 h2 h3 h4=>(by exfalso;omega)⟩,rfl,rfl⟩,H.pick 6 [2,4,0] rfl⟩
  ·(exfalso;omega)
 ·have H:=H'.l6;refine Ap (H.pick 6 [2,3] rfl) (AM [12,13,14] [] [] (by exact (H.pick 6 [2,3] rfl)) rfl (by kernel_rfl) rfl (Av [15] (by kernel_rfl) (by simp) (Au (A8 rfl rfl rfl (Ag 5 H rfl rfl rfl rfl (vs:=[Iv_ 0,Iv_ 0,Iv_ 0,Iv_ 0,Iv_ 0,Iv_ 0]) rfl (by simp[u8,u32,Value.oneCell']) (by kernel_rfl) (by simp) (out:=[Iv_ 0,Iv_ 0,Iv_ 0,Iv_ 0,Iv_ 0,Iv_ 0]) rfl) ?_))));rintro w H;replace H:=H.l6;refine Ap (H.pick 6 [2,3] rfl) (AM [16] [] [] (by exact (H.pick 6 [2,3] rfl)) rfl (by kernel_rfl) rfl (a_done (by kernel_rfl) (gn (Z0 8 [0] rfl (Af rfl (fun h15=> ?_) (fun h15=> ?_))))))
  ·(exfalso;omega)
  ·refine Zc 1 rfl (AG (Sep z _) (by kernel_rfl) (by kernel_rfl) H.drew (Br 1 [] rfl (by kernel_rfl) (A6 rfl rfl rfl (Ax rfl rfl) (Br 1 [] rfl (by kernel_rfl) (Bj 67 rfl (fun h16=> ?_) (fun h16=> ?_))))))
   ·have hgk:getE kk L=0:=Classical.byContradiction fun q=>h16 (hhas.2 q)
    refine BF 5 [7,10,0] (fun _ hx=>(AK (hx.blk 2 rfl) AW)) rfl (by kernel_rfl) rfl (A6 rfl rfl rfl (CL rfl (sz:=2) (by kernel_rfl) rfl su) (BF 7 [7,9,0] (fun _ hx=>(AK (hx.blk 2 rfl) AW)) rfl (by kernel_rfl) rfl (AU (fun w H'=> ?_))));have H:=H'.l6;refine gn (Zc 1 rfl (Af rfl (fun h17=> ?_) (fun h17=> ?_)))
    ·refine Zc 6 rfl (AG (Sep z _) (by kernel_rfl) (by kernel_rfl) H.drew (BF 4 [0,0] (fun _ hx=>(AK (hx.blk 3 rfl) AW)) rfl (by kernel_rfl) rfl (Bj 84 rfl (fun h18=> ?_) (fun h18=> ?_))))
     ·(exfalso;omega)
     ·refine BF 9 [0,0,7,8,1] (fun _ hx=>(AK (hx.blk 3 rfl) (AK (hx.blk 2 rfl) AW))) rfl (by kernel_rfl) rfl (AU (fun w H'=> ?_));have H:=H'.l6;refine gn (Zc 1 rfl (Af rfl (fun h19=> ?_) (fun h19=> ?_)))
      ·(exfalso;omega)
      ·refine Z2 45 [4,4,3,0,2,0] H rfl (z_E_ rfl (call25 _) (Cw _ _ _ _ _) H ?_);intro w H;refine Z2 5 [5,6] H rfl (Ac rfl (AF rfl rfl (out:=[Iv_ 0,Iv_ 0,Iv_ 0,Iv_ 0,Iv_ 0,Iv_ 0]) (by kernel_rfl)) (Ac rfl (Cb (cs:= #[Iv_ 0,Iv_ 0,Iv_ 0,Iv_ 0,Iv_ 0,Iv_ 0]) rfl (by kernel_rfl) (by kernel_rfl) (by kernel_rfl) rfl rfl) (Z2 5 [0,2,0] H rfl (z_E_ rfl (call18 _) (CC _ _ _ _ none) H ?_))));intro w H;replace H:=H.l6;refine Al 134 (v:=Iv_ (cnt (AS n o.C) 0 1024:Int)) rfl rfl (Z0 2 [0] rfl (Al 136 (v:= .bool true) rfl (congrArg Value.bool (by simp)) (Zc 5 rfl (Zr rfl ?_))));exact ⟨_,⟨ra,L,o,mb,u,A,⟨⟨hI,fun c hc L h=>h,Dt.refl _,by omega,by omega,Ink.refl A,hA⟩,fun h1 h2 h3 h4=>(by exfalso;omega)⟩,rfl,rfl⟩,H.pick 6 [2,4,0] rfl⟩
    ·(exfalso;omega)
   ·(exfalso;have hgk:=hhas.1 (Classical.byContradiction h16);omega)
 ·have H:=H'.l6;refine Ap (H.pick 6 [2,3] rfl) (AM [12,13,14] [] [] (by exact (H.pick 6 [2,3] rfl)) rfl (by kernel_rfl) rfl (Av [15] (by kernel_rfl) (by simp) (Au (A8 rfl rfl rfl (Ag 5 H rfl rfl rfl rfl (vs:=[Iv_ 0,Iv_ 0,Iv_ 0,Iv_ 0,Iv_ 0,Iv_ 0]) rfl (by simp[u8,u32,Value.oneCell']) (by kernel_rfl) (by simp) (out:=[Iv_ 0,Iv_ 0,Iv_ 0,Iv_ 0,Iv_ 0,Iv_ 0]) rfl) ?_))));rintro w H;replace H:=H.l6;refine Ap (H.pick 6 [2,3] rfl) (AM [16] [] [] (by exact (H.pick 6 [2,3] rfl)) rfl (by kernel_rfl) rfl (a_done (by kernel_rfl) (gn (Z0 8 [0] rfl (Af rfl (fun h20=> ?_) (fun h20=> ?_))))))
  ·(exfalso;omega)
  ·refine Zc 1 rfl (AG (Sep z _) (by kernel_rfl) (by kernel_rfl) H.drew (Br 1 [] rfl (by kernel_rfl) (A6 rfl rfl rfl (Ax rfl rfl) (Br 1 [] rfl (by kernel_rfl) (Bj 67 rfl (fun h21=> ?_) (fun h21=> ?_))))))
   ·have hgk:getE kk L=0:=Classical.byContradiction fun q=>h21 (hhas.2 q)
    refine BF 5 [7,10,0] (fun _ hx=>(AK (hx.blk 2 rfl) AW)) rfl (by kernel_rfl) rfl (A6 rfl rfl rfl (CL rfl (sz:=2) (by kernel_rfl) rfl su) (BF 7 [7,9,0] (fun _ hx=>(AK (hx.blk 2 rfl) AW)) rfl (by kernel_rfl) rfl (AU (fun w H'=> ?_))));have H:=H'.l6;refine gn (Zc 1 rfl (Af rfl (fun h22=> ?_) (fun h22=> ?_)))
    ·(exfalso;omega)
    ·refine Zc 4 rfl (AG (Sep z _) (by kernel_rfl) (by kernel_rfl) H.drew (BF 4 [0,0] (fun _ hx=>(AK (hx.blk 3 rfl) AW)) rfl (by kernel_rfl) rfl (Bj 84 rfl (fun h23=> ?_) (fun h23=> ?_))))
     ·(exfalso;omega)
     ·refine BF 9 [0,0,7,8,1] (fun _ hx=>(AK (hx.blk 3 rfl) (AK (hx.blk 2 rfl) AW))) rfl (by kernel_rfl) rfl (AU (fun w H'=> ?_));have H:=H'.l6;refine gn (Zc 1 rfl (Af rfl (fun h24=> ?_) (fun h24=> ?_)))
      ·(exfalso;omega)
      ·refine Z0 17 [3,3,0] rfl (Af rfl (fun h25=> ?_) (fun h25=> ?_))
       ·refine Z2 6 [0,2,0] H rfl (z_E_ rfl (call25 _) (Cw _ _ _ _ _) H ?_);intro w H;refine Z2 8 [0,2,0] H rfl (z_E_ rfl (call18 _) (CC _ _ _ _ none) H ?_);intro w H;replace H:=H.l6;refine Al 113 (v:=Iv_ (cnt (AS n o.C) 0 1024:Int)) rfl rfl (Z0 2 [0] rfl (Al 115 (v:= .bool true) rfl (congrArg Value.bool (by simp)) (Zc 4 rfl (Zr rfl ?_))));exact ⟨_,⟨ra,L,o,mb,u,A,⟨⟨hI,fun c hc L h=>h,Dt.refl _,by omega,by omega,Ink.refl A,hA⟩,fun h1 h2 h3 h4=>(by exfalso;omega)⟩,rfl,rfl⟩,H.pick 6 [2,4,0] rfl⟩
       ·(exfalso;omega)
   ·have hgk:=hhas.1 (Classical.byContradiction h21)
    refine Br 13 [] rfl (by kernel_rfl) (AU (fun w H'=> ?_));have H:=H'.l6;refine gn (Zc 6 rfl (AG (Sep z _) (by kernel_rfl) (by kernel_rfl) H.drew (BF 4 [0,0] (fun _ hx=>(AK (hx.blk 3 rfl) AW)) rfl (by kernel_rfl) rfl (Bj 84 rfl (fun h26=> ?_) (fun h26=> ?_)))))
    ·(exfalso;omega)
    ·refine BF 9 [0,0,7,8,1] (fun _ hx=>(AK (hx.blk 3 rfl) (AK (hx.blk 2 rfl) AW))) rfl (by kernel_rfl) rfl (AU (fun w H'=> ?_));have H:=H'.l6;refine gn (Zc 1 rfl (Af rfl (fun h27=> ?_) (fun h27=> ?_)))
     ·(exfalso;omega)
     ·refine Z0 17 [3,3,0] rfl (Af rfl (fun h28=> ?_) (fun h28=> ?_))
      ·refine Z2 6 [0,2,0] H rfl (z_E_ rfl (call25 _) (Cw _ _ _ _ _) H ?_);intro w H;refine Z2 8 [0,2,0] H rfl (z_E_ rfl (call18 _) (CC _ _ _ _ none) H ?_);intro w H;replace H:=H.l6;refine Al 113 (v:=Iv_ (cnt (AS n o.C) 0 1024:Int)) rfl rfl (Z0 2 [0] rfl (Al 115 (v:= .bool true) rfl (congrArg Value.bool (by simp)) (Zc 4 rfl (Zr rfl ?_))));exact ⟨_,⟨ra,L,o,mb,u,A,⟨⟨hI,fun c hc L h=>h,Dt.refl _,by omega,by omega,Ink.refl A,hA⟩,fun h1 h2 h3 h4=>(by exfalso;omega)⟩,rfl,rfl⟩,H.pick 6 [2,4,0] rfl⟩
      ·(exfalso;omega)
 ·have H:=H'.l6;have hWk:=hW.k
  refine Ap (H.pick 6 [2,3] rfl) (AM [12,13,14] [] [] (by exact (H.pick 6 [2,3] rfl)) rfl (by kernel_rfl) rfl (Av [15] (by kernel_rfl) (by simp) (Au (A8 rfl rfl rfl (Ag 5 H rfl rfl rfl rfl (vs:=[Iv_ id,Iv_ 1,Iv_ sz,Iv_ q,Iv_ (r:Int),Iv_ ((putE kk val L).length:Int)]) rfl (by simp[u8,u32,Value.oneCell']) (by kernel_rfl) (by simp) (out:=[Iv_ id,Iv_ 1,Iv_ sz,Iv_ q,Iv_ (r:Int),Iv_ ((putE kk val L).length:Int)]) rfl) ?_))));rintro w H;replace H:=H.l6;refine Ap (H.pick 6 [2,3] rfl) (AM [16] [] [] (by exact (H.pick 6 [2,3] rfl)) rfl (by kernel_rfl) rfl (a_done (by kernel_rfl) (gn (Z0 8 [0] rfl (Af rfl (fun h29=> ?_) (fun h29=> ?_))))))
  ·(exfalso;omega)
  ·refine Zc 1 rfl (AG (Sep z _) (by kernel_rfl) (by kernel_rfl) H.drew (Br 1 [] rfl (by kernel_rfl) (A6 rfl rfl rfl (Ax rfl rfl) (Br 1 [] rfl (by kernel_rfl) (Bj 67 rfl (fun h30=> ?_) (fun h30=> ?_))))))
   ·have hgk:getE kk L=0:=Classical.byContradiction fun q=>h30 (hhas.2 q)
    refine BF 5 [7,10,0] (fun _ hx=>(AK (hx.blk 2 rfl) AW)) rfl (by kernel_rfl) rfl (A6 rfl rfl rfl (CL rfl (sz:=2) (by kernel_rfl) rfl su) (BF 7 [7,9,0] (fun _ hx=>(AK (hx.blk 2 rfl) AW)) rfl (by kernel_rfl) rfl (AU (fun w H'=> ?_))));have H:=H'.l6;refine gn (Zc 1 rfl (Af rfl (fun h31=> ?_) (fun h31=> ?_)))
    ·(exfalso;omega)
    ·refine Zc 4 rfl (AG (Sep z _) (by kernel_rfl) (by kernel_rfl) H.drew (BF 4 [0,0] (fun _ hx=>(AK (hx.blk 3 rfl) AW)) rfl (by kernel_rfl) rfl (Bj 84 rfl (fun h32=> ?_) (fun h32=> ?_))))
     ·(exfalso;omega)
     ·refine BF 9 [0,0,7,8,1] (fun _ hx=>(AK (hx.blk 3 rfl) (AK (hx.blk 2 rfl) AW))) rfl (by kernel_rfl) rfl (AU (fun w H'=> ?_));have H:=H'.l6;refine gn (Zc 1 rfl (Af rfl (fun h33=> ?_) (fun h33=> ?_)))
      ·(exfalso;omega)
      ·refine Z2 48 [4,4,4,0,2,0] H rfl (z_E_ rfl (call14 _) (Hf _ _ _ _ _ _ (by omega) hmb) H ?_);intro w H;refine Z4 23 [4,5,6,1,2,1,3,0] H rfl ?_;intro w H;replace H:=H.f1.f3.f3;refine DJ (Sep z (blk pb [Pt_ pp,Iv_ id,Iv_ 1,Iv_ sz,Iv_ q,Iv_ (r:Int),Iv_ ((putE kk val L).length:Int),Iv_ wi,Iv_ sz,Iv_ q,u] 33::blk b1 [Iv_ kk,.bool false,Iv_ fl,Iv_ lg] 36::blk db (bs.map u8) 5::R)) 13 rfl (by kernel_rfl) (Bc H fun w H'=> ?_)
       have H:=H'.l6;refine DE [0,1,2,3] [7] (by kernel_rfl) (fun _ _=>AW) (by exact (H.pick 6 [0,1,2] rfl)) rfl (by kernel_rfl) rfl rfl (Dv 4 (by kernel_rfl) rfl rfl (by kernel_rfl) (by kernel_rfl) (by kernel_rfl) rfl rfl rfl (BE rfl rfl (vs:=[Iv_ wi,Iv_ sz,Iv_ q,u]) (by kernel_rfl) (fun _ hx=>(hx.blk 0 rfl).part 7 4 _ rfl)) (H.pick 6 [0,1,2] rfl) (DE [5,6,7] [0,0] (by kernel_rfl) (fun _ hx=>(AK (hx.blk 1 rfl) AW)) (by exact (H.pick 6 [0,1,2] rfl)) rfl (by kernel_rfl) rfl rfl (Dv 8 (by kernel_rfl) rfl rfl (by kernel_rfl) (by kernel_rfl) (by kernel_rfl) rfl rfl rfl (CN (l:=bs) rfl (by kernel_rfl) (by kernel_rfl) rfl (fun _ hx'=>hx'.rd 2 rfl (fun h q=>by have q2:=q.rd (l:=mB lg) (c:=mB lg) (sz:=1) (off:=0) (xs:=bs.map u8) (Nat.le_refl _) (by omega) (by rw[List.length_map];omega) (by rw[List.drop_zero,Nat.mul_one];exact List.take_of_length_le (by rw[List.length_map];omega));rw[←hbs] at q2 ⊢;exact q2))) (H.pick 6 [0,1,2] rfl) (Cz [9] (by kernel_rfl) (by simp) (Au (BL rfl rfl rfl rfl rfl rfl (fun w=>call27 _ w) (Rz _ _ _ _ _ _ _ hA bs (by omega)) H.f4 rfl ?_))))));rintro _ w _ ⟨u2,V2,hP,rfl,rfl⟩ H;replace H:=H.l7;have su2:=H.says 0 rfl (fun h q=>q.rd.slc)
       refine Bn (fun _=>(H.pick 7 [2,3,4] rfl)) (DE [10,11] [7] (by kernel_rfl) (fun _ _=>AW) (by exact (H.pick 7 [2,3,4] rfl)) rfl (by kernel_rfl) rfl rfl (Cz [12] (by kernel_rfl) (by simp) (Au (A8 rfl rfl rfl (Ag 2 H rfl rfl rfl rfl (vs:=[Iv_ wi,Iv_ sz,Iv_ q,u2]) rfl (Ab rfl (Ab rfl (Ab rfl (Ab su2.one Ar)))) (by kernel_rfl) (by simp) (out:=[Pt_ pp,Iv_ id,Iv_ 1,Iv_ sz,Iv_ q,Iv_ (r:Int),Iv_ ((putE kk val L).length:Int),Iv_ wi,Iv_ sz,Iv_ q,u2]) rfl) ?_))));rintro w H;replace H:=H.l7;refine Bn (fun h=>absurd rfl h) (DK (by kernel_rfl) (gn (Zc 2 rfl (AG (Sep z _) (by kernel_rfl) (by kernel_rfl) H.drew (BF 10 [1,6,0,7,10,0] (fun _ hx=>(AK (hx.blk 2 rfl) AW)) rfl (by kernel_rfl) rfl (A6 rfl rfl rfl (CL rfl (sz:=2) (by kernel_rfl) rfl su2) (Br 1 [] rfl (by kernel_rfl) (Al 183 (v:= .bool true) rfl (congrArg Value.bool (decide_eq_true (by have hV2:=hW.vol V2 hP;rw[hV2,DV]))) (Br 1 [] rfl (by kernel_rfl) (AU (fun w H'=> ?_)))))))))));have H:=H'.l7;refine gn (Zc 2 rfl (Zr rfl ?_));have hV2:=hW.vol V2 hP
       exact ⟨_,⟨r,putE kk val L,⟨t3.N,t3.C,Bv r++Q⟩,mb+2,u2,(both (grow 123 2 u2 V2.length (B0 V2)) A),⟨⟨hI.done hW.root hW.nd rfl,hW.kp,hW.dt,by omega,by omega,Ink.both _ A,InB.grow2 hV2⟩,fun _ _ _ _=>⟨val,rfl⟩⟩,rfl,rfl⟩,((H.pick 7 [0,1,2,5] rfl).made 2 (A:=(both (grow 123 2 u2 V2.length (B0 V2)) A)) (fun h q=>q)).pick 3 [1,0,2] rfl⟩
   ·have hgk:=hhas.1 (Classical.byContradiction h30)
    refine Br 13 [] rfl (by kernel_rfl) (AU (fun w H'=> ?_));have H:=H'.l6;refine gn (Zc 6 rfl (AG (Sep z _) (by kernel_rfl) (by kernel_rfl) H.drew (BF 4 [0,0] (fun _ hx=>(AK (hx.blk 3 rfl) AW)) rfl (by kernel_rfl) rfl (Bj 84 rfl (fun h34=> ?_) (fun h34=> ?_)))))
    ·(exfalso;omega)
    ·refine BF 9 [0,0,7,8,1] (fun _ hx=>(AK (hx.blk 3 rfl) (AK (hx.blk 2 rfl) AW))) rfl (by kernel_rfl) rfl (AU (fun w H'=> ?_));have H:=H'.l6;refine gn (Zc 1 rfl (Af rfl (fun h35=> ?_) (fun h35=> ?_)))
     ·(exfalso;omega)
     ·refine Z2 48 [4,4,4,0,2,0] H rfl (z_E_ rfl (call14 _) (Hf _ _ _ _ _ _ (by omega) hmb) H ?_);intro w H;refine Z4 23 [4,5,6,1,2,1,3,0] H rfl ?_;intro w H;replace H:=H.f1.f3.f3;refine DJ (Sep z (blk pb [Pt_ pp,Iv_ id,Iv_ 1,Iv_ sz,Iv_ q,Iv_ (r:Int),Iv_ ((putE kk val L).length:Int),Iv_ wi,Iv_ sz,Iv_ q,u] 33::blk b1 [Iv_ kk,.bool false,Iv_ fl,Iv_ lg] 36::blk db (bs.map u8) 5::R)) 13 rfl (by kernel_rfl) (Bc H fun w H'=> ?_)
      have H:=H'.l6;refine DE [0,1,2,3] [7] (by kernel_rfl) (fun _ _=>AW) (by exact (H.pick 6 [0,1,2] rfl)) rfl (by kernel_rfl) rfl rfl (Dv 4 (by kernel_rfl) rfl rfl (by kernel_rfl) (by kernel_rfl) (by kernel_rfl) rfl rfl rfl (BE rfl rfl (vs:=[Iv_ wi,Iv_ sz,Iv_ q,u]) (by kernel_rfl) (fun _ hx=>(hx.blk 0 rfl).part 7 4 _ rfl)) (H.pick 6 [0,1,2] rfl) (DE [5,6,7] [0,0] (by kernel_rfl) (fun _ hx=>(AK (hx.blk 1 rfl) AW)) (by exact (H.pick 6 [0,1,2] rfl)) rfl (by kernel_rfl) rfl rfl (Dv 8 (by kernel_rfl) rfl rfl (by kernel_rfl) (by kernel_rfl) (by kernel_rfl) rfl rfl rfl (CN (l:=bs) rfl (by kernel_rfl) (by kernel_rfl) rfl (fun _ hx'=>hx'.rd 2 rfl (fun h q=>by have q2:=q.rd (l:=mB lg) (c:=mB lg) (sz:=1) (off:=0) (xs:=bs.map u8) (Nat.le_refl _) (by omega) (by rw[List.length_map];omega) (by rw[List.drop_zero,Nat.mul_one];exact List.take_of_length_le (by rw[List.length_map];omega));rw[←hbs] at q2 ⊢;exact q2))) (H.pick 6 [0,1,2] rfl) (Cz [9] (by kernel_rfl) (by simp) (Au (BL rfl rfl rfl rfl rfl rfl (fun w=>call27 _ w) (Rz _ _ _ _ _ _ _ hA bs (by omega)) H.f4 rfl ?_))))));rintro _ w _ ⟨u2,V2,hP,rfl,rfl⟩ H;replace H:=H.l7;have su2:=H.says 0 rfl (fun h q=>q.rd.slc)
      refine Bn (fun _=>(H.pick 7 [2,3,4] rfl)) (DE [10,11] [7] (by kernel_rfl) (fun _ _=>AW) (by exact (H.pick 7 [2,3,4] rfl)) rfl (by kernel_rfl) rfl rfl (Cz [12] (by kernel_rfl) (by simp) (Au (A8 rfl rfl rfl (Ag 2 H rfl rfl rfl rfl (vs:=[Iv_ wi,Iv_ sz,Iv_ q,u2]) rfl (Ab rfl (Ab rfl (Ab rfl (Ab su2.one Ar)))) (by kernel_rfl) (by simp) (out:=[Pt_ pp,Iv_ id,Iv_ 1,Iv_ sz,Iv_ q,Iv_ (r:Int),Iv_ ((putE kk val L).length:Int),Iv_ wi,Iv_ sz,Iv_ q,u2]) rfl) ?_))));rintro w H;replace H:=H.l7;refine Bn (fun h=>absurd rfl h) (DK (by kernel_rfl) (gn (Zc 2 rfl (AG (Sep z _) (by kernel_rfl) (by kernel_rfl) H.drew (BF 10 [1,6,0,7,10,0] (fun _ hx=>(AK (hx.blk 2 rfl) AW)) rfl (by kernel_rfl) rfl (A6 rfl rfl rfl (CL rfl (sz:=2) (by kernel_rfl) rfl su2) (Br 1 [] rfl (by kernel_rfl) (Al 183 (v:= .bool true) rfl (congrArg Value.bool (decide_eq_true (by have hV2:=hW.vol V2 hP;rw[hV2,DV]))) (Br 1 [] rfl (by kernel_rfl) (AU (fun w H'=> ?_)))))))))));have H:=H'.l7;refine gn (Zc 2 rfl (Zr rfl ?_));have hV2:=hW.vol V2 hP
      exact ⟨_,⟨r,putE kk val L,⟨t3.N,t3.C,Bv r++Q⟩,mb+2,u2,(both (grow 123 2 u2 V2.length (B0 V2)) A),⟨⟨hI.done hW.root hW.nd rfl,hW.kp,hW.dt,by omega,by omega,Ink.both _ A,InB.grow2 hV2⟩,fun _ _ _ _=>⟨val,rfl⟩⟩,rfl,rfl⟩,((H.pick 7 [0,1,2,5] rfl).made 2 (A:=(both (grow 123 2 u2 V2.length (B0 V2)) A)) (fun h q=>q)).pick 3 [1,0,2] rfl⟩
end
section
open Go.RowKit
variable {Tb:Ae}
theorem YJ (pb pp mb n:Nat) (o:TB) (ra:Nat) (L:List E) (Q:List Nat) (A:Ae) (u:Value) (id sz q wi:Int) (kk fl lg:Int) (dr:Bool) (hI:LwI n o ra L Q) (hA:InB A u (Bz o.N L)) (hv:BH id 1 sz q (ra:Int) (L.length:Int)) (hmb:mb≤1000000000) (hkk: -9223372036854775808≤kk∧kk≤9223372036854775807) (hfl: -9223372036854775808≤fl∧fl≤9223372036854775807) (hlg: -9223372036854775808≤lg∧lg≤9223372036854775807):Cn prog 9 [Pt_ pb,.agg #[Iv_ kk,.bool dr,Iv_ fl,Iv_ lg]] [blk pb [Pt_ pp,Iv_ id,Iv_ 1,Iv_ sz,Iv_ q,Iv_ (ra:Int),Iv_ (L.length:Int),Iv_ wi,Iv_ sz,Iv_ q,u] 33,A,trA Tb pp mb n o none] (fun v Γ=>∃ (a2:Nat) (L2:List E) (o2:TB) (m2:Nat) (u2:Value) (A2:Ae),(DoF n o o2 a2 L2 Q mb m2 A A2 u2∧(dr=false→Zz n o L L2 sz q kk lg))∧v= .bool true∧Γ=[blk pb [Pt_ pp,Iv_ id,Iv_ 1,Iv_ sz,Iv_ q,Iv_ (a2:Int),Iv_ (L2.length:Int),Iv_ wi,Iv_ sz,Iv_ q,u2] 33,A2,trA Tb pp m2 n o2 none]):=by
 intro z R w H
 cases dr with
 | true=>
  refine Ret.mono (WU pb pp mb n o ra L Q A u id sz q wi kk fl lg hI hA hv hmb hkk hfl hlg z R w H) ?_
  rintro v w' ⟨Γ',⟨a2,L2,o2,m2,u2,A2,hD,rfl,rfl⟩,H'⟩
  exact ⟨_,⟨a2,L2,o2,m2,u2,A2,⟨hD,fun q=>by cases q⟩,rfl,rfl⟩,H'⟩
 | false=>
  refine Ret.mono (WV pb pp mb n o ra L Q A u id sz q wi kk fl lg hI hA hv hmb hkk hfl hlg z R w H) ?_
  rintro v w' ⟨Γ',⟨a2,L2,o2,m2,u2,A2,⟨hD,hd⟩,rfl,rfl⟩,H'⟩
  exact ⟨_,⟨a2,L2,o2,m2,u2,A2,⟨hD,fun _=>hd⟩,rfl,rfl⟩,H'⟩
set_option maxHeartbeats 4000000 in
theorem WW (pb pp mb n:Nat) (o:TB) (ra:Nat) (L:List E) (A:Ae) (u:Value) (id sz q wi:Int) (hR:Root o.N ra L) (hA:InB A u (Bz o.N L)) (hv:BH id 1 sz q (ra:Int) (L.length:Int)):Cn prog 10 [Pt_ pb] [blk pb [Pt_ pp,Iv_ id,Iv_ 1,Iv_ sz,Iv_ q,Iv_ (ra:Int),Iv_ (L.length:Int),Iv_ wi,Iv_ sz,Iv_ q,u] 33,A,trA Tb pp mb n o none] (fun v Γ=>v= .bool true∧Γ=[blk pb [Pt_ pp,Iv_ id,Iv_ 1,Iv_ sz,Iv_ q,Iv_ (ra:Int),Iv_ (L.length:Int),Iv_ wi,Iv_ sz,Iv_ q,u] 33,A,trA Tb pp mb n o none]):=by
 intro z R w H;replace H:=H.l3;refine Ad func10 rfl ntmps10 rfl (Zc 12 rfl ?_);refine AJ (σ:=Nat) (fun j=>[(3,Iv_ ((j:Int) - 1)),(0,Pt_ pb)])
   (fun j w=>Sep z (blk pb [Pt_ pp,Iv_ id,Iv_ 1,Iv_ sz,Iv_ q,Iv_ (ra:Int),Iv_ (L.length:Int),Iv_ wi,Iv_ sz,Iv_ q,u] 33::A::trA Tb pp mb n o none::R) w∧(j≤82)) (fun j=>82 - j) 0
   (fun _ hF=>(hF.co rfl (congrArg Iv_ (by omega)) (hF.all rfl))) ⟨H,Nat.zero_le _⟩ ?_
 clear H;rintro j w ⟨H',hI⟩;have H:=H'.l3;have hj:j≤82:=hI
 refine Z2 11 [7,8,0,0,0] H rfl (Ak 13 rfl (fun h1=> ?_) (fun h1=> ?_))
 ·refine Z0 5 [0] rfl (Af rfl (fun h2=> ?_) (fun h2=> ?_))
  ·refine Zc 5 rfl (AI (Sep z (blk pb [Pt_ pp,Iv_ id,Iv_ 1,Iv_ sz,Iv_ q,Iv_ (ra:Int),Iv_ (L.length:Int),Iv_ wi,Iv_ sz,Iv_ q,u] 33::R)) 15 rfl (by kernel_rfl) (Bc H fun w H'=> ?_))
   have H:=H'.l3;refine AM [0,1,2,3,4,5,6,7,8] [0,0,0,1,0,6] [] (by exact (H.pick 3 [0] rfl)) rfl (by kernel_rfl) rfl (Av [9] (by kernel_rfl) (by simp) (Au (BL rfl rfl rfl rfl rfl rfl (fun w=>call15 _ w) (WT _ _ _ _ none _ _ _ _ _ _ _ _ hR hv) H.f2 rfl ?_)));rintro _ w _ (⟨hb,rb,hg64,rfl,rfl⟩|⟨hb,rfl,rfl⟩) H'
   ·have H:=H'.l4;have hg64:(Di ((j:Int) - 1) (Bz o.N L)).length=64:=hg64
    refine Ap (H.pick 4 [2] rfl) (AM [10,11,12,13,14] [] [] (by exact (H.pick 4 [2] rfl)) rfl (by kernel_rfl) rfl (a_done (by kernel_rfl) (gn (Z0 7 [0] rfl (Ak 34 rfl (fun h3=> ?_) (fun h3=> ?_))))))
    ·(exfalso;omega)
    ·refine Z2 10 [7,8,2,0,0] H rfl (Af rfl (fun h4=> ?_) (fun h4=> ?_))
     ·(exfalso;omega)
     ·refine Zc 3 rfl ?_;replace H:=H.f2;refine AI (Sep z (blk pb [Pt_ pp,Iv_ id,Iv_ 1,Iv_ sz,Iv_ q,Iv_ (ra:Int),Iv_ (L.length:Int),Iv_ wi,Iv_ sz,Iv_ q,u] 33::blk rb ((Di ((j:Int) - 1) (Bz o.N L)).map u8) 5::R)) 13 rfl (by kernel_rfl) (Bc H fun w H'=> ?_)
      have H:=H'.l4;refine AM [0,1,2,3] [4] [] (by exact (H.pick 4 [0,1] rfl)) rfl (by kernel_rfl) rfl (B4 4 rfl (by kernel_rfl) (by kernel_rfl) (by kernel_rfl) rfl rfl rfl (CN (l:=Di ((j:Int) - 1) (Bz o.N L)) rfl (by kernel_rfl) (by kernel_rfl) rfl (fun _ hx'=>hx'.rd 1 rfl (fun h q=>by have q2:=q.rd (l:=64) (c:=64) (sz:=1) (off:=0) (xs:=(Di ((j:Int) - 1) (Bz o.N L)).map u8) (Nat.le_refl _) (by omega) (by rw[List.length_map];omega) (by rw[List.drop_zero,Nat.mul_one];exact List.take_of_length_le (by rw[List.length_map];omega));rw[hg64];exact q2))) (H.pick 4 [0,1] rfl) (AM [5,6,7,8,9] [7,0,4] [] (by exact (H.pick 4 [0,1] rfl)) rfl (by kernel_rfl) rfl (Av [10] (by kernel_rfl) (by simp) (Au (BL rfl rfl rfl rfl rfl rfl (fun w=>call28 _ w) (YI _ _ _ _ _ _ _ hA) H.f3 rfl ?_)))));rintro _ w _ ⟨rfl,rfl⟩ H;replace H:=H.l4;refine Ap (H.pick 4 [1,2] rfl) (B4 11 rfl (by kernel_rfl) (by kernel_rfl) (by kernel_rfl) rfl rfl rfl (P3 (l:=Di ((j:Int) - 1) (Bz o.N L)) (m:=Di ((j:Int) - 1) (Bz o.N L)) rfl (by kernel_rfl) rfl rfl) (H.pick 4 [1,2] rfl) (AM [12] [] [] (by exact (H.pick 4 [1,2] rfl)) rfl (by kernel_rfl) rfl (a_done (by kernel_rfl) (gn (Zc 1 rfl (Af rfl (fun h5=> ?_) (fun h5=> ?_)))))))
      ·exact absurd rfl h5
      ·refine Z1 8 [] [((j:Int) - 1)+1] rfl (by omega) ?_;replace H:=H.f2.d.f2.f1.f2;refine gf ?_;intro _ hF;refine ⟨(j+1),(hF.co rfl (congrArg Iv_ (by omega)) (hF.all rfl)),⟨H,?_⟩,?_⟩
       ·omega
       ·omega
   ·have H:=H'.l3;refine Ap (H.pick 3 [1] rfl) (AM [10,11,12,13,14] [] [] (by exact (H.pick 3 [1] rfl)) rfl (by kernel_rfl) rfl (a_done (by kernel_rfl) (gn (Z0 7 [0] rfl (Ak 34 rfl (fun h6=> ?_) (fun h6=> ?_))))))
    ·refine Z1 35 [4,4] [((j:Int) - 1)+1] rfl (by omega) ?_;replace H:=H.f2.f2;refine gf ?_;intro _ hF;refine ⟨(j+1),(hF.co rfl (congrArg Iv_ (by omega)) (hF.all rfl)),⟨H,?_⟩,?_⟩
     ·omega
     ·omega
    ·refine Z2 10 [7,8,1,0,0] H rfl (Af rfl (fun h7=> ?_) (fun h7=> ?_))
     ·refine Z1 24 [4,4] [((j:Int) - 1)+1] rfl (by omega) ?_;replace H:=H.f2.f2;refine gf ?_;intro _ hF;refine ⟨(j+1),(hF.co rfl (congrArg Iv_ (by omega)) (hF.all rfl)),⟨H,?_⟩,?_⟩
      ·omega
      ·omega
     ·(exfalso;omega)
  ·refine Zc 2 rfl (gx (Zc 8 rfl (Zr rfl ?_)));exact ⟨_,⟨rfl,rfl⟩,H.pick 3 [0,1,2] rfl⟩
 ·refine Zc 8 rfl (gx (Zc 8 rfl (Zr rfl ?_)));exact ⟨_,⟨rfl,rfl⟩,H.pick 3 [0,1,2] rfl⟩
end
section
open Go.RowKit
variable {Tb:Ae}
theorem HO (pp mb n:Nat) (M0:Nat→Pg) (C0:Nat→Nat) (id st sz q r mp kk:Int) (dv:Value):Cn prog 16 [Pt_ pp,.agg #[Iv_ id,Iv_ st,Iv_ sz,Iv_ q,Iv_ r,Iv_ mp],Iv_ kk,dv] [poA Tb pp mb n M0 C0 none] (fun v Γ=>v= .tuple #[.agg #[Iv_ 0,Iv_ 0,Iv_ 0,Iv_ 0,Iv_ 0,Iv_ 0],Iv_ (if A9 id st sz q r mp kk=0 then 18 else A9 id st sz q r mp kk)]∧Γ=[poA Tb pp mb n M0 C0 none]):=by
 intro z R w H;replace H:=H.l1;refine Ad func16 rfl ntmps16 rfl (Za 2 [] H rfl ?_);intro b1 w H;refine Za 0 [] H rfl ?_;intro b2 w H;refine Z2 9 [1,6] H rfl (z_E_ rfl (call40 _) (tmay_c _ _ _ _ _ _ _ _) H ?_);intro w H;refine Z0 9 [0] rfl (Af rfl (fun h1=> ?_) (fun h1=> ?_))
 ·refine Zc 2 rfl (Ac rfl (AF rfl rfl (out:=[Iv_ 0,Iv_ 0,Iv_ 0,Iv_ 0,Iv_ 0,Iv_ 0]) (by kernel_rfl)) (Z4 6 [0] H rfl ?_));intro w H;refine Zl [0,6] H rfl ?_;have hv:(if A9 id st sz q r mp kk=0 then 18 else A9 id st sz q r mp kk)=A9 id st sz q r mp kk:=if_neg (by omega)
  exact ⟨_,⟨by rw[hv],rfl⟩,H.pick 3 [2] rfl⟩
 ·refine Zc 7 rfl (z_E_ rfl (call43 _) (Kh _ _ _ _ _ none) H.f2 ?_);intro w H;replace H:=H.l3;refine Al 25 (v:= .bool false) rfl rfl (Zc 7 rfl (Ac rfl (AF rfl rfl (out:=[Iv_ 0,Iv_ 0,Iv_ 0,Iv_ 0,Iv_ 0,Iv_ 0]) (by kernel_rfl)) (Z4 5 [1] H rfl ?_)));intro w H;refine Zl [1,6] H rfl ?_;have hv:(if A9 id st sz q r mp kk=0 then 18 else A9 id st sz q r mp kk)=18:=if_pos (by omega)
  exact ⟨_,⟨by rw[hv],rfl⟩,H.pick 3 [0] rfl⟩
theorem Lj (pp mb n:Nat) (M0:Nat→Pg) (C0:Nat→Nat) (id st sz q r mp kk:Int):Cn prog 17 [Pt_ pp,.agg #[Iv_ id,Iv_ st,Iv_ sz,Iv_ q,Iv_ r,Iv_ mp],Iv_ kk] [poA Tb pp mb n M0 C0 none] (fun v Γ=>v= .tuple #[.agg #[Iv_ 0,Iv_ 0,Iv_ 0,Iv_ 0,Iv_ 0,Iv_ 0],Iv_ (if A9 id st sz q r mp kk=0 then 18 else A9 id st sz q r mp kk)]∧Γ=[poA Tb pp mb n M0 C0 none]):=by
 intro z R w H;replace H:=H.l1;refine Ad func17 rfl ntmps17 rfl (Za 2 [] H rfl ?_);intro b1 w H;refine Za 0 [] H rfl ?_;intro b2 w H;refine Z2 9 [1,6] H rfl (z_E_ rfl (call40 _) (tmay_c _ _ _ _ _ _ _ _) H ?_);intro w H;refine Z0 9 [0] rfl (Af rfl (fun h1=> ?_) (fun h1=> ?_))
 ·refine Zc 2 rfl (Ac rfl (AF rfl rfl (out:=[Iv_ 0,Iv_ 0,Iv_ 0,Iv_ 0,Iv_ 0,Iv_ 0]) (by kernel_rfl)) (Z4 6 [0] H rfl ?_));intro w H;refine Zl [0,6] H rfl ?_;have hv:(if A9 id st sz q r mp kk=0 then 18 else A9 id st sz q r mp kk)=A9 id st sz q r mp kk:=if_neg (by omega)
  exact ⟨_,⟨by rw[hv],rfl⟩,H.pick 3 [2] rfl⟩
 ·refine Zc 6 rfl (z_E_ rfl (call43 _) (Kh _ _ _ _ _ none) H.f2 ?_);intro w H;replace H:=H.l3;refine Al 21 (v:= .bool false) rfl rfl (Zc 6 rfl (Ac rfl (AF rfl rfl (out:=[Iv_ 0,Iv_ 0,Iv_ 0,Iv_ 0,Iv_ 0,Iv_ 0]) (by kernel_rfl)) (Z4 5 [1] H rfl ?_)));intro w H;refine Zl [1,6] H rfl ?_;have hv:(if A9 id st sz q r mp kk=0 then 18 else A9 id st sz q r mp kk)=18:=if_pos (by omega)
  exact ⟨_,⟨by rw[hv],rfl⟩,H.pick 3 [0] rfl⟩
end
end Go.Proofs.YtjegbnfpodadcaaGreatDoor
